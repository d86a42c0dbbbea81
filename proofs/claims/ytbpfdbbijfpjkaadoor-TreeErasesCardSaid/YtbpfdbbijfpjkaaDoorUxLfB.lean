/- A part of the proof: see the row's text. -/
import Derived.Test.YtbpfdbbijfpjkaaDoorUxLfA
set_option linter.unusedVariables false
set_option linter.unusedSimpArgs false
namespace Go.Sx.Tryd
open Go Go.Sx Go.Proofs
set_option maxRecDepth 100000
def FinG (N : Int) (j : Nat) (st : St) (o : R0) : Prop := ∃ fuel, pieces (R := R0) E (tabI (lib18 N)) fi18 cut18 0 .ok fuel j st = .ok o
theorem okGS_eq (N : Int) (L : List Nd) (r a : Int) (b : Bool) : okGS N L r a b = (okLR L r && (L.all fineN && (inI a L.length && (decide (a < N) && decide ((formBS b L a).length < 2 ^ 60))))) := rfl
theorem okG_eq (N : Int) (L : List Nd) (r a : Int) (b : Bool) : okG N ((L, r, ()), a, b, ()) = okGS N L r a b := rfl
theorem okGS_of {N : Int} {L : List Nd} {r k : Int} {b : Bool} (hok : okLR L r = true) (hfine : L.all fineN = true) (h0 : 0 ≤ k) (h1 : k < (L.length : Int)) (hN : k < N) (hb : (formB b L k.toNat).length < 2 ^ 60) : okG N ((L, r, ()), k, b, ()) = true := by
  have h8 : inI k L.length = true := inI_of h0 h1
  have h9 : decide (k < N) = true := decide_eq_true hN
  have h10 : decide ((formBS b L k).length < 2 ^ 60) = true := decide_eq_true hb
  rw [okG_eq, okGS_eq, hok, hfine, h8, h9, h10]
  rfl
theorem finG_b {L : List Nd} {r : Int} {N : Int} {b : Bool} (g : Good L r) (hok : okLR L r = true) (hfine : L.all fineN = true) {i : Nat} (hi : i < L.length) (hL : L.length ≤ 1000) (hN : (i : Int) ≤ N) (hK : (nKids (getN L i)).length ≤ 1000) : ∀ (ks pre : List Int) (s : List UInt8), nKids (getN L i) = pre ++ ks →
    s.length + (kidsB b L ks).length + 1 < 2 ^ 60 → FinG N 1 (mk18b L r b s (nKids (getN L i)) (nKids (getN L i)).length pre.length) (outS (s ++ kidsB b L ks ++ [41]))
  | [], pre, s, hp, hb => by
    refine ⟨1, (loop18 (pieces (R := R0) E (tabI (lib18 N)) fi18 cut18 0 .ok 0) N L r b s (nKids (getN L i)) (nKids (getN L i)).length pre.length).trans ?_⟩
    have h1 : ¬ ((pre.length : Int) < (nKids (getN L i)).length) := by rw [hp, List.append_nil]; omega
    have h2 : s.length + ([41] : List UInt8).length < 2 ^ 62 := by simp only [kidsB, List.flatMap_nil, List.length_nil] at hb; simp only [List.length_singleton]; omega
    simp only [h1, decide_false, cond_false, kidsB, List.flatMap_nil, List.append_nil]
    exact bif_lt h2
  | k :: ks, pre, s, hp, hb => by
    have hlen : pre.length + 1 + ks.length = (nKids (getN L i)).length := by rw [hp]; simp; omega
    obtain ⟨k0, k1, k2⟩ := g.kid hi (k := k) (by rw [hp]; simp)
    have h5 : (((pre ++ [k]).length : Nat) : Int) = (pre.length : Int) + 1 := by simp
    rw [kidsB_cons, List.length_append, List.length_append, List.length_singleton] at hb
    obtain ⟨fuel, ih⟩ := finG_b (b := b) g hok hfine hi hL hN hK ks (pre ++ [k]) (s ++ ([32] ++ formB b L k.toNat)) (by simp [hp]) (by simp only [List.length_append, List.length_singleton]; omega)
    refine ⟨fuel + 1, (loop18 (pieces (R := R0) E (tabI (lib18 N)) fi18 cut18 0 .ok fuel) N L r b s (nKids (getN L i)) (nKids (getN L i)).length pre.length).trans ?_⟩
    have h1 : (pre.length : Int) < (nKids (getN L i)).length := by omega
    have h3 : inI (pre.length : Int) (nKids (getN L i)).length = true := by rw [hp]; exact inI_appI _ _ _
    have h4 : getI (nKids (getN L i)) pre.length = k := by rw [hp]; exact getI_app _ _ _
    have h6 : IntKind.wrap .i64 ((pre.length : Int) + 1) = (pre.length : Int) + 1 := wrap64 (by omega) (by omega)
    have h7 : okG N ((L, r, ()), k, b, ()) = true := okGS_of hok hfine k0 (by omega) (by omega) (by omega)
    have e : formBS b L k = formB b L k.toNat := rfl
    have h8 : ([32] : List UInt8).length + (formB b L k.toNat).length < 2 ^ 62 := by simp only [List.length_singleton]; omega
    have h9 : s.length + (([32] : List UInt8) ++ formB b L k.toNat).length < 2 ^ 62 := by simp only [List.length_append, List.length_singleton]; omega
    simp only [h1, h3, h4, h6, h7, e, Int.toNat_natCast, decide_true, cond_true]
    refine Eq.trans (bif_lt h8) ?_
    refine Eq.trans (bif_lt h9) ?_
    rw [h5] at ih
    rw [kidsB_cons]
    have e : s ++ ([32] ++ formB b L k.toNat ++ kidsB b L ks) ++ [41] = s ++ ([32] ++ formB b L k.toNat) ++ kidsB b L ks ++ [41] := by simp only [List.append_assoc]
    rw [e]
    exact ih

theorem piece18a' (J : Jump R0) (N : Int) (L : List Nd) (r : Int) (b : Bool) (x : Nd) (hb : (lhS x).length < 2 ^ 60) (ht : (nText x).length ≤ 1000) (hn : (nName x).length ≤ 1000) (hm : (nMarks x).length ≤ 1000) (hf : fineN x = true)
    (hr : tydS (nKind x) = true → rightS (nBase x) (nName x) (nDims x) (nMarks x) = true) :
    resume E (tabI (lib18 N)) (cutsOf 0 cut18 0) J [true, true, true, false] fi18.code 1 (mk18a L r b x) (finK E 0 fi18.results .ok) = J 1 (mk18b L r b (lhS x) (nKids x) (nKids x).length 0) := by
  refine (piece18a J N L r b x).trans ?_
  have h2 : Nat.ble (nText x).length 1099511627776 = true := Nat.ble_eq_true_of_le (by omega)
  have h3 : smallX ((nBase x, nName x, nDims x, nMarks x, ()), ()) = true := by
    simp only [smallX, Bool.and_eq_true, decide_eq_true_eq]
    exact ⟨hn, hm⟩
  have h4 := hf
  simp only [fineN, Bool.and_eq_true] at h4
  obtain ⟨h4, h5⟩ := h4
  have hz : Int.ofNat 0 = 0 := rfl
  unfold lhS at hb ⊢
  cases e1 : txtS (nKind x) <;> cases e2 : tydS (nKind x) <;> cases e3 : (nKind x == 19) <;> cases e4 : (nKind x == 21)
  all_goals
    have h6 : tydS (nKind x) = true → goodX ((nBase x, nName x, nDims x, nMarks x, ()), ()) = true := hr
    rw [e2] at h6
    simp only [Bool.false_eq_true, false_imp_iff, true_imp_iff] at h6
    simp only [e1, e2, e3, e4, h2, h3, h4, h5, h6, decide_true, Bool.and_self, cond_true, cond_false, Bool.or_true, Bool.or_false, Bool.true_or] at hb ⊢
    repeat refine Eq.trans (bif_lt (by simp only [List.length_append, List.length_cons, List.length_nil] at hb ⊢; omega)) ?_
    simp only [mk18b, List.append_assoc, List.append_nil, List.nil_append]
end Go.Sx.Tryd
namespace Go.Sx.Tryd
open Go Go.Sx Go.Proofs
set_option maxRecDepth 100000
theorem mk18a_bare (L : List Nd) (r : Int) (b : Bool) (x : Nd) (m : List UInt8) (h : (bif tydS (nKind x) then blanks.take (nMarks x).length else nMarks x) = m) :
    mk18a L r b (bareN x) = { tmps := [(2, .bool b), (3, .ref 0 0), (7, .ref 1 0)], blks := [(0, .cells 24 (trC L r)), (1, .cells 46 [.int .i64 (nKind x), .int .i64 (nAt x), .int .i64 (nTo x), .sl (.int .i64) (nKids x), .str (nText x), .int .i64 (nBase x), .str (nName x), .int .i64 (nDims x), .str m, .int .i64 (nN x), .int .i64 (nW1 x), .int .i64 (nW2 x), .sl (.int .i64) (nEnds x)])], next := 2 } := by
  subst h
  rfl
/-- from the node on -/
theorem finG_a {L : List Nd} {r : Int} {N : Int} {b : Bool} (g : Good L r) (hok : okLR L r = true) (hfine : L.all fineN = true) {i : Nat} (hi : i < L.length) (hL : L.length ≤ 1000) (hN : (i : Int) ≤ N) (hK : (nKids (getN L i)).length ≤ 1000)
    {y : Nd} (hk : nKids y = nKids (getN L i)) (hf : fineN y = true) (ht : (nText y).length ≤ 1000) (hn : (nName y).length ≤ 1000) (hm : (nMarks y).length ≤ 1000) (hr : tydS (nKind y) = true → rightS (nBase y) (nName y) (nDims y) (nMarks y) = true)
    (hb : (lhS y ++ kidsB b L (nKids (getN L i)) ++ [41]).length < 2 ^ 60) : FinG N 0 (mk18a L r b y) (outS (lhS y ++ kidsB b L (nKids (getN L i)) ++ [41])) := by
  simp only [List.length_append, List.length_singleton] at hb
  obtain ⟨fuel, h⟩ := finG_b (b := b) g hok hfine hi hL hN hK (nKids (getN L i)) [] (lhS y) rfl (by omega)
  refine ⟨fuel + 1, (piece18a' (pieces (R := R0) E (tabI (lib18 N)) fi18 cut18 0 .ok fuel) N L r b y (by omega) ht hn hm hf hr).trans ?_⟩
  rw [hk]
  exact h
theorem wraps_cases {k : Int} (h : wraps k = true) : k = 40 ∨ k = 41 ∨ k = 45 := by
  simp only [wraps, Bool.or_eq_true, beq_iff_eq] at h
  exact h
theorem wraps_not {k : Int} (h : wraps k = false) : (k == 40) = false ∧ (k == 41) = false ∧ (k == 45) = false := by
  simp only [wraps, Bool.or_eq_false_iff] at h
  exact h
theorem form18_fin {L : List Nd} {r : Int} {N : Int} {b : Bool} {a : Int} (h : okGS (N + 1) L r a b = true) :
    ∃ fuel, start (R := R0) E (tabI (lib18 N)) fi18 cut18 (pieces (R := R0) E (tabI (lib18 N)) fi18 cut18 0 .ok fuel) [.agg (trC L r), .int .i64 a, .bool b] [] .ok = .ok (outS (formBS b L a)) := by
  rw [okGS_eq] at h
  simp only [Bool.and_eq_true, decide_eq_true_eq] at h
  obtain ⟨hok, hfine, hin, hN, hb⟩ := h
  have hin' := inI_iff.1 hin
  have hok' := hok
  simp only [okLR, Bool.and_eq_true, beq_iff_eq] at hok'
  have g := good_of hok'.2
  obtain ⟨hL, hK⟩ := midS_kids hok'.1
  obtain ⟨i, rfl⟩ : ∃ i : Nat, a = (i : Int) := ⟨a.toNat, by omega⟩
  have hi : i < L.length := by omega
  have e0 : formBS b L i = formB b L i := by unfold formBS; rw [Int.toNat_natCast]
  rw [e0] at hb ⊢
  have hmem := List.mem_of_getElem? (getN_get hi)
  have hsm : smallN (getN L i) = true := by
    have := hok'.1
    simp only [midS, Bool.and_eq_true] at this
    exact List.all_eq_true.1 this.2 _ hmem
  simp only [smallN, Bool.and_eq_true, decide_eq_true_eq] at hsm
  have hfn := List.all_eq_true.1 hfine _ hmem
  obtain ⟨hk, ht, hu, _, _, _⟩ := node_facts (g.node i _ (getN_get hi))
  rw [formB_eq g b hi] at hb ⊢
  cases b
  · simp only [Bool.false_and, cond_false] at hb ⊢
    obtain ⟨fuel, hf⟩ := finG_a (N := N) (b := false) g hok hfine hi hL (by omega) (hK i hi) (y := getN L i) rfl hfn (by omega) (by omega) (by omega) ht hb
    refine ⟨fuel, (start18 _ N L r i false).trans ?_⟩
    rw [hin]
    simp only [Int.toNat_natCast, cond_true, cond_false]
    exact hf
  · simp only [Bool.true_and, cond_true] at hb ⊢
    cases hw : wraps (nKind (getN L i))
    · obtain ⟨w1, w2, w3⟩ := wraps_not hw
      rw [hw] at hb
      simp only [cond_false] at hb ⊢
      have key : FinG N 2 (mk18c L r true (getN L i) (nKind (getN L i)) (nKind (getN L i) == 45)) (outS (bif nKind (getN L i) == 42 then nullT else bif tests (nKind (getN L i)) then binH (nKind (getN L i)) ++ formB true L (kid0 (getN L i)).toNat ++ [32] ++ nullT ++ [41] else lhS (bareN (getN L i)) ++ kidsB true L (nKids (getN L i)) ++ [41])) := by
        cases h42 : (nKind (getN L i) == 42)
        · rw [h42] at hb
          simp only [cond_false] at hb ⊢
          cases hts : tests (nKind (getN L i))
          · rw [hts] at hb
            simp only [cond_false] at hb ⊢
            have hts' : (nKind (getN L i) == 43) = false ∧ (nKind (getN L i) == 44) = false := by simpa [tests] using hts
            have h6 : ∃ m, (bif tydS (nKind (getN L i)) then blanks.take (nMarks (getN L i)).length else nMarks (getN L i)) = m ∧ m.length ≤ 1000 ∧ (tydS (nKind (getN L i)) = true → (nMarks (getN L i)).length ≤ 5 ∧ rightS (nBase (getN L i)) (nName (getN L i)) (nDims (getN L i)) m = true) := by
              cases hty : tydS (nKind (getN L i))
              · exact ⟨_, rfl, by simp only [cond_false]; omega, fun h => by cases h⟩
              · have hr := ht hty
                obtain ⟨r1, r2, r3, _⟩ := right_facts hr
                refine ⟨_, rfl, ?_, fun _ => ⟨by omega, ?_⟩⟩
                · simp only [cond_true, List.length_take]; omega
                · simp only [cond_true]
                  rw [bl_take (by omega)]
                  exact right_bl hr
            obtain ⟨m, hm1, hm2, hm3⟩ := h6
            have e1 : nMarks (bareN (getN L i)) = m := hm1
            obtain ⟨fuel, hf⟩ := finG_a (N := N) (b := true) g hok hfine hi hL (by omega) (hK i hi) (y := bareN (getN L i)) rfl hfn (show (nText (getN L i)).length ≤ 1000 by omega) (show (nName (getN L i)).length ≤ 1000 by omega) (by rw [e1]; exact hm2) (fun h => by rw [e1]; exact (hm3 h).2) hb
            refine ⟨fuel + 1, (piece18c (pieces (R := R0) E (tabI (lib18 N)) fi18 cut18 0 .ok fuel) N L r true (getN L i) _ _).trans ?_⟩
            simp only [w3, h42, hts'.1, hts'.2, cond_false]
            rw [mk18a_bare L r true (getN L i) m hm1] at hf
            cases hty : tydS (nKind (getN L i))
            · rw [hty] at hm1
              simp only [cond_false] at hm1 ⊢
              subst hm1
              exact hf
            · rw [hty] at hm1
              have h5 := (hm3 hty).1
              simp only [cond_true, h5, decide_true] at hm1 ⊢
              subst hm1
              exact hf
          · have h0 := g.kid0s hi (by rw [hts, Bool.or_true])
            obtain ⟨k0, k1, k2⟩ := g.kid hi (k := kid0 (getN L i)) (by rw [h0]; simp)
            rw [hts] at hb
            simp only [cond_true, List.length_append] at hb ⊢
            have hkb : (formB true L (kid0 (getN L i)).toNat).length < 2 ^ 60 := by omega
            have hn : inI 0 (nKids (getN L i)).length = true := by rw [h0]; rfl
            have e1 : getI (nKids (getN L i)) (Int.toNat 0) = kid0 (getN L i) := rfl
            have e2 : formBS true L (kid0 (getN L i)) = formB true L (kid0 (getN L i)).toNat := rfl
            have h7 : okG N ((L, r, ()), kid0 (getN L i), true, ()) = true := okGS_of hok hfine k0 (by omega) (by omega) hkb
            have hc : nKind (getN L i) = 43 ∨ nKind (getN L i) = 44 := by simpa [tests] using hts
            refine ⟨1, (piece18c (pieces (R := R0) E (tabI (lib18 N)) fi18 cut18 0 .ok 0) N L r true (getN L i) _ _).trans ?_⟩
            rw [w3]
            generalize nKind (getN L i) = kk at hc ⊢
            rcases hc with rfl | rfl
            · simp only [cond_false, hn, e1, e2, h7, cond_true]
              refine Eq.trans (bif_lt (by simp only [List.length_append, List.length_cons, List.length_nil]; omega)) ?_
              refine Eq.trans (bif_lt (by simp only [List.length_append, List.length_cons, List.length_nil]; omega)) ?_
              simp only [binH, nullT, List.append_assoc]
              rfl
            · simp only [cond_false, hn, e1, e2, h7, cond_true]
              refine Eq.trans (bif_lt (by simp only [List.length_append, List.length_cons, List.length_nil]; omega)) ?_
              refine Eq.trans (bif_lt (by simp only [List.length_append, List.length_cons, List.length_nil]; omega)) ?_
              simp only [binH, nullT, List.append_assoc]
              rfl
        · refine ⟨1, (piece18c (pieces (R := R0) E (tabI (lib18 N)) fi18 cut18 0 .ok 0) N L r true (getN L i) _ _).trans ?_⟩
          rw [w3, h42]
          rfl
      obtain ⟨fuel, hf⟩ := key
      refine ⟨fuel, (start18 _ N L r i true).trans ?_⟩
      rw [hin]
      simp only [Int.toNat_natCast, w1, w2, cond_true, cond_false]
      exact hf
    · have h0 := g.kid0s hi (by rw [hw, Bool.true_or])
      obtain ⟨k0, k1, k2⟩ := g.kid hi (k := kid0 (getN L i)) (by rw [h0]; simp)
      rw [hw] at hb
      simp only [cond_true] at hb ⊢
      have hn : inI 0 (nKids (getN L i)).length = true := by rw [h0]; rfl
      have e1 : getI (nKids (getN L i)) (Int.toNat 0) = kid0 (getN L i) := rfl
      have e2 : formBS true L (kid0 (getN L i)) = formB true L (kid0 (getN L i)).toNat := rfl
      have h7 : okG N ((L, r, ()), kid0 (getN L i), true, ()) = true := okGS_of hok hfine k0 (by omega) (by omega) hb
      have key : FinG N 2 (mk18c L r true (getN L i) (nKind (getN L i)) true) (outS (formB true L (kid0 (getN L i)).toNat)) := by
        refine ⟨1, (piece18c (pieces (R := R0) E (tabI (lib18 N)) fi18 cut18 0 .ok 0) N L r true (getN L i) _ _).trans ?_⟩
        simp only [hn, e1, e2, h7, cond_true]
      obtain ⟨fuel, hf⟩ := key
      refine ⟨fuel, (start18 _ N L r i true).trans ?_⟩
      rw [hin]
      simp only [Int.toNat_natCast, cond_true]
      rcases wraps_cases hw with e | e | e
      · have e' : (nKind (getN L i) == 40) = true := by rw [e]; rfl
        simp only [e', cond_true]
        exact hf
      · have e' : (nKind (getN L i) == 40) = false := by rw [e]; rfl
        simp only [e', cond_false]
        have e'' : (nKind (getN L i) == 41) = true := by rw [e]; rfl
        simp only [e'', cond_true]
        exact hf
      · have e' : (nKind (getN L i) == 40) = false := by rw [e]; rfl
        have e'' : (nKind (getN L i) == 41) = false := by rw [e]; rfl
        have e3 : (nKind (getN L i) == 45) = true := by rw [e]; rfl
        simp only [e', e'', e3, cond_false]
        exact hf
theorem lib18_ok {w0 : World} (t : TabsAt w0) {N : Int} (h : ∀ x : Dens sigTIB, okG N x = true → SAD Tryd.prog (GW w0) 18 sigTIB sigS x (formGX x)) : IChk Tryd.prog (GW w0) (lib18 N) := by
  refine .cons (specI_ok fun x hx => h x hx) (.cons (specI_ok fun x h => type_SA t x h) (.cons (specI_ok fun x h => bare_SA t x h) (.cons (specI_ok fun x _ => name_SA t x) (.cons (specI_ok fun x _ => txt_SA t x) (.cons (specI_ok fun x _ => tyd_SA t x) (.cons ?_ (.cons ?_ .nil)))))))
  · exact ofT_ok (quoteD_ok fc45 fun D hG hs s hlen => Any.strconv_Quote Tryd.lays177 (by kernel_rfl) Lib.goPrintTabs s D.w hlen (t.at hG hs).pt (t.at hG hs).u8) quoteT_D
  · exact ofT_ok (formatD_ok fc46 fun D hG hs n h0 h1 => Calls.mono (Any.strconv_FormatInt_10 Tryd.laysM173 n h0 h1 D.w (t.at hG hs).p10) fun e w' ⟨e1, k, os, e2⟩ => ⟨e1, by rw [e2]; exact grow_below _ _ _⟩) formatT_D
theorem okGS_zero (L : List Nd) (r a : Int) (b : Bool) (h : okGS ((0 : Nat) : Int) L r a b = true) : False := by
  rw [okGS_eq] at h
  simp only [Bool.and_eq_true, decide_eq_true_eq, inI] at h
  omega
theorem form18_SA {w0 : World} (t : TabsAt w0) : ∀ (N : Nat) (x : Dens sigTIB), okG N x = true → SAD Tryd.prog (GW w0) 18 sigTIB sigS x (formGX x)
  | 0, ⟨⟨L, r, ⟨⟩⟩, a, b, ⟨⟩⟩, h => by
    exact (okGS_zero L r a b h).elim
  | N + 1, ⟨⟨L, r, ⟨⟩⟩, a, b, ⟨⟩⟩, h => by
    have h : okGS ((N : Int) + 1) L r a b = true := h
    obtain ⟨fuel, hf⟩ := form18_fin h
    exact start_ok (envOK []) (tabI_ok (lib18_ok t (form18_SA t N))) fc18 (.inl gen0_nil) hf
end Go.Sx.Tryd
namespace Go.Sx.Tryd
open Go Go.Sx Go.Proofs
set_option maxRecDepth 100000
noncomputable def lib4 : List (Nat × Intr) := [(10, oneI 10 (fun l => l.isEmpty) (.ret (.bool true), [])), (11, specI 11 sigTr sigB (fun _ => true) smallX2), (12, specI 12 sigTr sigI smallTr checkX), (14, specI 14 sigTI sigS okFm formX), (16, specI 16 sigTT sigB okTT sameX), (18, specI 18 sigTIB sigS (okG 1000000) formGX)]
end Go.Sx.Tryd
namespace Go.Sx.Tryd
open Go Go.Sx
set_option maxRecDepth 100000
theorem body4 (L : List Nd) (r : Int) (L2 : List Nd) (r2 a : Int) : body (R := R0) E (tabI lib4) fi4 [.agg (trC L r), .agg (trC L2 r2), .int .i64 a] [] .ok =
    bif !smallS L then Rs.ok (Out.ret (AV.bool true), [])
  else
    bif !smallS L2 then Rs.ok (Out.ret (AV.bool true), [])
    else
      bif smallTr ((L, r, ()), ()) then
        bif checkS L r != 0 then Rs.ok (Out.ret (AV.bool true), [])
        else
          bif okFm ((L, r, ()), a, ()) then
            bif decide (a < 0) then Rs.ok (Out.ret (AV.bool (formS L r a == [])), [])
            else
              bif decide (a ≥ (↑(List.length L) : Int)) then Rs.ok (Out.ret (AV.bool (formS L r a == [])), [])
              else
                bif smallTr ((L2, r2, ()), ()) then
                  bif checkS L2 r2 == 0 then
                    bif okG 1000000 ((L, r, ()), r, false, ()) then
                      bif okG 1000000 ((L2, r2, ()), r2, false, ()) then
                        bif okG 1000000 ((L, r, ()), a, false, ()) then
                          bif formS L r a == formBS false L a then
                            bif okTT ((L, r, ()), (L2, r2, ()), ()) then
                              bif sameS L r L2 r2 == (formBS false L r == formBS false L2 r2) then
                                bif okTT ((L2, r2, ()), (L, r, ()), ()) then Rs.ok (Out.ret (AV.bool (sameS L2 r2 L r == (formBS false L r == formBS false L2 r2))), [])
                                else Rs.err 3000016
                              else Rs.ok (Out.ret (AV.bool false), [])
                            else Rs.err 3000016
                          else Rs.ok (Out.ret (AV.bool false), [])
                        else Rs.err 3000018
                      else Rs.err 3000018
                    else Rs.err 3000018
                  else
                    bif okG 1000000 ((L, r, ()), a, false, ()) then
                      bif formS L r a == formBS false L a then
                        bif okTT ((L, r, ()), (L2, r2, ()), ()) then
                          bif sameS L r L2 r2 == false then bif okTT ((L2, r2, ()), (L, r, ()), ()) then Rs.ok (Out.ret (AV.bool (sameS L2 r2 L r == false)), []) else Rs.err 3000016
                          else Rs.ok (Out.ret (AV.bool false), [])
                        else Rs.err 3000016
                      else Rs.ok (Out.ret (AV.bool false), [])
                    else Rs.err 3000018
                else Rs.err 3000012
          else Rs.err 3000014
      else Rs.err 3000012 := by kernel_rfl
end Go.Sx.Tryd
namespace Go.Sx.Tryd
open Go Go.Sx Go.Proofs
set_option maxRecDepth 100000
theorem lhS_eq {x : Nd} (h : nodeE x = 0) : lhS x = hdS x := by
  obtain ⟨hk, ht, hu, _, _, _⟩ := node_facts h
  have e1 : shTxt (nKind x) = txtS (nKind x) := by unfold shTxt; rw [hk]; rfl
  have e2 : shTyd (nKind x) = tydS (nKind x) := by unfold shTyd; rw [hk]; rfl
  unfold lhS hdS tyS
  rw [e1, e2]
  cases e : tydS (nKind x)
  · rfl
  · rw [ht e]; rfl
theorem formB_false {L : List Nd} {r : Int} (g : Good L r) : ∀ (n i : Nat), i < n → i < L.length → formB false L i = formN L i
  | 0, i, h, _ => by omega
  | n + 1, i, hn, hi => by
    rw [formB_eq g false hi, formN_eq g hi]
    simp only [Bool.false_and, cond_false]
    rw [lhS_eq (g.node i _ (getN_get hi))]
    refine congrArg (fun z => hdS (getN L i) ++ z ++ [41]) (flatMap_congrG fun k hk => ?_)
    obtain ⟨_, _, h3⟩ := g.kid hi hk
    rw [formB_false g n k.toNat (by omega) (by omega)]
theorem okFm_of {L : List Nd} {r a : Int} (hm : midS L = true) (hf : L.all fineN = true) : okFm ((L, r, ()), a, ()) = true := by
  show (midS L && L.all fineN) = true
  rw [hm, hf]; rfl
theorem okTT_of {L L2 : List Nd} {r r2 : Int} (hm : midS L = true) (hf : L.all fineN = true) (hm2 : midS L2 = true) (hf2 : L2.all fineN = true) : okTT ((L, r, ()), (L2, r2, ()), ()) = true := by
  show ((midS L && L.all fineN) && (midS L2 && L2.all fineN)) = true
  rw [hm, hf, hm2, hf2]; rfl
theorem okLR_of {L : List Nd} {r : Int} (hm : midS L = true) (hc : checkS L r = 0) : okLR L r = true := by
  show (midS L && checkS L r == 0) = true
  rw [hm, hc]; rfl
theorem okG_false {L : List Nd} {r : Int} (hm : midS L = true) (hf : L.all fineN = true) (hc : checkS L r = 0) {a : Int} (h0 : 0 ≤ a) (h1 : a < (L.length : Int)) : okG 1000000 ((L, r, ()), a, false, ()) = true := by
  have g := good_of hc
  have hL := (midS_kids hm).1
  have hroom := form_room g hm hf (i := a.toNat) (by omega)
  have hmr : maxRoom = 68719476736 := rfl
  exact okGS_of (okLR_of hm hc) hf h0 h1 (by omega) (by rw [formB_false g (a.toNat + 1) a.toNat (by omega) (by omega)]; omega)
theorem formS_in {L : List Nd} {r : Int} (hc : checkS L r = 0) {a : Int} (h0 : 0 ≤ a) (h1 : a < (L.length : Int)) : formS L r a = formBS false L a := by
  have g := good_of hc
  unfold formS formBS
  rw [inI_of h0 h1, hc, formB_false g (a.toNat + 1) a.toNat (by omega) (by omega)]
  rfl
theorem formS_out {L : List Nd} {r : Int} {a : Int} (h : inI a L.length = false ∨ checkS L r ≠ 0) : formS L r a = [] := by
  unfold formS
  rcases h with h | h
  · rw [h]; rfl
  · have : (checkS L r == 0) = false := by simpa using h
    rw [this, Bool.and_false]; rfl
theorem formS_ne {L : List Nd} {r : Int} (hc : checkS L r = 0) {a : Int} (h0 : 0 ≤ a) (h1 : a < (L.length : Int)) : (formS L r a == []) = false := by
  have g := good_of hc
  have := formN_ne g (i := a.toNat) (by omega)
  unfold formS
  rw [inI_of h0 h1, hc]
  simpa using this
theorem lib4_ok {w0 : World} (t : TabsAt w0) : IChk Tryd.prog (GW w0) lib4 := by
  refine .cons (oneI_ok fun args h => ?_) (.cons (specI_ok fun x _ => small_SA t x) (.cons (specI_ok fun x h => check_SA t x h) (.cons (specI_ok fun x h => form_SA t x h) (.cons (specI_ok fun x h => same_SA t x h) (.cons (specI_ok fun x h => form18_SA t 1000000 x h) .nil)))))
  cases args with
  | nil => exact grows_SA t
  | cons a r => cases h
theorem law4_body (L : List Nd) (r : Int) (L2 : List Nd) (r2 a : Int) (hf : L.all fineN = true) (hf2 : L2.all fineN = true) : body (R := R0) E (tabI lib4) fi4 [.agg (trC L r), .agg (trC L2 r2), .int .i64 a] [] .ok = .ok (outB true) := by
  refine (body4 L r L2 r2 a).trans ?_
  cases hs : smallS L
  · rfl
  cases hs2 : smallS L2
  · rfl
  have hm := mid_of hs
  have hm2 := mid_of hs2
  have h1 : smallTr ((L, r, ()), ()) = true := hm
  have h1' : smallTr ((L2, r2, ()), ()) = true := hm2
  rw [h1, h1', okFm_of hm hf, okTT_of hm hf hm2 hf2, okTT_of hm2 hf2 hm hf]
  simp only [Bool.not_true, cond_true, cond_false]
  cases hc : (checkS L r != 0)
  · have hc0 : checkS L r = 0 := by simpa using hc
    have g := good_of hc0
    have hpos := g.pos
    have hr := g.root
    have hL := (midS_kids hm).1
    by_cases n1 : a < 0
    · have e : inI a L.length = false := by
        cases h : inI a L.length
        · rfl
        · have := inI_iff.1 h; omega
      rw [formS_out (.inl e)]
      simp only [n1, decide_true, cond_true, cond_false]
      rfl
    · by_cases n2 : a ≥ (L.length : Int)
      · have e : inI a L.length = false := by
          cases h : inI a L.length
          · rfl
          · have := inI_iff.1 h; omega
        rw [formS_out (.inl e)]
        simp only [n1, n2, decide_true, decide_false, cond_true, cond_false]
        rfl
      · have k1 := okG_false hm hf hc0 (a := a) (by omega) (by omega)
        have k2 := okG_false hm hf hc0 (a := r) (by omega) (by omega)
        have k3 := formS_in (r := r) hc0 (a := a) (by omega) (by omega)
        have k4 := formS_in (r := r) hc0 (a := r) (by omega) (by omega)
        have k5 := formS_ne (r := r) hc0 (a := r) (by omega) (by omega)
        cases hc2 : (checkS L2 r2 == 0)
        · have hc20 : checkS L2 r2 ≠ 0 := by simpa using hc2
          have e1 : sameS L r L2 r2 = false := by
            unfold sameS
            rw [formS_out (L := L2) (a := r2) (.inr hc20)]
            simp [k5]
          have e2 : sameS L2 r2 L r = false := by
            unfold sameS
            rw [formS_out (L := L2) (a := r2) (.inr hc20)]
            simp
          simp only [n1, n2, k1, k3, e1, e2, beq_self_eq_true, decide_false, cond_true, cond_false]
        · have hc20 : checkS L2 r2 = 0 := by simpa using hc2
          have g2 := good_of hc20
          have hpos2 := g2.pos
          have hr2 := g2.root
          have m2 := okG_false hm2 hf2 hc20 (a := r2) (by omega) (by omega)
          have m4 := formS_in (r := r2) hc20 (a := r2) (by omega) (by omega)
          have m5 := formS_ne (r := r2) hc20 (a := r2) (by omega) (by omega)
          have e1 : sameS L r L2 r2 = (formBS false L r == formBS false L2 r2) := by
            unfold sameS
            rw [k5, k4, m4]
            simp
          have e2 : sameS L2 r2 L r = (formBS false L r == formBS false L2 r2) := by
            unfold sameS
            rw [m5, k4, m4, Bool.beq_comm]
            simp
          simp only [n1, n2, k1, k2, k3, m2, e1, e2, beq_self_eq_true, decide_false, cond_true, cond_false]
  · simp only [cond_true]
theorem law4_SA {w0 : World} (tb : TabsAt w0) (L : List Nd) (r : Int) (L2 : List Nd) (r2 a : Int) (hf : L.all fineN = true) (hf2 : L2.all fineN = true) : SA Tryd.prog (GW w0) 4 [.agg (trC L r), .agg (trC L2 r2), .int .i64 a] [] (outB true) :=
  body_ok (envOK []) (tabI_ok (lib4_ok tb)) fc4 (law4_body L r L2 r2 a hf hf2)
end Go.Sx.Tryd
