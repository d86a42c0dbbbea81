/- A part of the proof: see the row's text. -/
import Derived.Test.YtbpfdbbijfpjkaaDoorUxTree
import Derived.Test.YtbpfdbbijfpjkaaDoorUxGrows
set_option linter.unusedVariables false
set_option linter.unusedSimpArgs false
namespace Go.Sx.Tryd
open Go Go.Sx Go.Proofs
set_option maxRecDepth 100000
theorem names_len : names.length = 46 := by kernel_rfl
theorem inI_of {k : Int} {n : Nat} (h0 : 0 ≤ k) (h : k < n) : inI k n = true := by simp [inI, h0, h]

theorem name_body (k : Int) : body (R := R0) E (tabI lib1) fi33 [.int .i64 k] [] .ok = .ok (.ret (.str (nameS k)), []) := by
  have h : body (R := R0) E (tabI lib1) fi33 [.int .i64 k] [] .ok = (bif decide (k < 1) then .ok (.ret (.str []), []) else bif decide (k ≥ ((names.length : Nat) : Int)) then .ok (.ret (.str []), []) else
    bif inI k names.length then .ok (.ret (.str (names.getD k.toNat [])), []) else .err 402) := body33 k
  rw [h, names_len]
  unfold nameS
  by_cases h1 : k < 1
  · simp [h1]
  · by_cases h2 : k ≥ 46
    · have h3 : (46 : Int) ≤ k := h2
      simp [h1, h3]
    · have h3 : inI k 46 = true := inI_of (by omega) (by omega)
      have h4 : ¬ (46 : Int) ≤ k := h2
      simp [h1, h3, h4]
theorem least_body (k : Int) (h : inK k = true) : body (R := R0) E (tabI lib1) fi37 [.int .i64 k] [] .ok = .ok (.ret (.int .i64 (leastS k)), []) := by
  have h1 : body (R := R0) E (tabI lib1) fi37 [.int .i64 k] [] .ok = (bif inI k leastL.length then .ok (.ret (.int .i64 (leastL.getD k.toNat 0)), []) else .err 202) := body37 k
  have h2 : leastL.length = 46 := by kernel_rfl
  simp only [inK, Bool.and_eq_true, decide_eq_true_eq] at h
  rw [h1, h2, inI_of h.1 (by omega)]
  rfl
theorem txt_body (k : Int) : body (R := R0) E (tabI lib1) fi39 [.int .i64 k] [] .ok = .ok (.ret (.bool (txtS k)), []) := by
  rw [body39]
  unfold txtS
  cases (k == 2) <;> cases (k == 3) <;> cases (k == 4) <;> cases (k == 6) <;> cases (k == 7) <;> first | rfl | skip
  all_goals cases (k == 9) <;> cases (k == 20) <;> cases (k == 22) <;> cases (k == 25) <;> cases (k == 26) <;> cases (k == 29) <;> rfl
theorem tyd_body (k : Int) : body (R := R0) E (tabI lib1) fi40 [.int .i64 k] [] .ok = .ok (.ret (.bool (tydS k)), []) := by
  rw [body40]
  unfold tydS
  cases (k == 4) <;> cases (k == 6) <;> cases (k == 7) <;> cases (k == 9) <;> cases (k == 30) <;> cases (k == 31) <;> rfl
theorem most_body (k : Int) (h : inK k = true) : body (R := R0) E (tabI libM) fi38 [.int .i64 k] [] .ok = .ok (.ret (.int .i64 (mostS k)), []) := by
  rw [body38]
  have h1 : inKX (k, ()) = true := h
  rw [h1]
  unfold mostS
  cases (k == 1) <;> cases (k == 2) <;> cases (k == 5) <;> cases (k == 6) <;> cases (k == 8) <;> first | rfl | skip
  all_goals cases (k == 17) <;> cases (k == 29) <;> cases (k == 30) <;> cases (k == 9) <;> cases (k == 15) <;> cases (k == 11) <;> rfl

theorem name_SA {w0 : World} (t : TabsAt w0) (x : Dens sigI) : SAD Tryd.prog (GW w0) 33 sigI sigS x (nameX x) := by
  obtain ⟨k, ⟨⟩⟩ := x
  exact body_ok (envOK []) (lib1_K t) fc33 (name_body k)
theorem least_SA {w0 : World} (t : TabsAt w0) (x : Dens sigI) (h : inKX x = true) : SAD Tryd.prog (GW w0) 37 sigI sigI x (leastX x) := by
  obtain ⟨k, ⟨⟩⟩ := x
  exact body_ok (envOK []) (lib1_K t) fc37 (least_body k h)
theorem txt_SA {w0 : World} (t : TabsAt w0) (x : Dens sigI) : SAD Tryd.prog (GW w0) 39 sigI sigB x (txtX x) := by
  obtain ⟨k, ⟨⟩⟩ := x
  exact body_ok (envOK []) (lib1_K t) fc39 (txt_body k)
theorem tyd_SA {w0 : World} (t : TabsAt w0) (x : Dens sigI) : SAD Tryd.prog (GW w0) 40 sigI sigB x (tydX x) := by
  obtain ⟨k, ⟨⟩⟩ := x
  exact body_ok (envOK []) (lib1_K t) fc40 (tyd_body k)
theorem libM_ok {w0 : World} (t : TabsAt w0) : IChk Tryd.prog (GW w0) libM := .cons (specI_ok fun x h => least_SA t x h) .nil
theorem most_SA {w0 : World} (t : TabsAt w0) (x : Dens sigI) (h : inKX x = true) : SAD Tryd.prog (GW w0) 38 sigI sigI x (mostX x) := by
  obtain ⟨k, ⟨⟩⟩ := x
  exact body_ok (envOK []) (tabI_ok (libM_ok t)) fc38 (most_body k h)
theorem libC_ok {w0 : World} (t : TabsAt w0) : IChk Tryd.prog (GW w0) libC :=
  .cons (specI_ok fun x _ => name_SA t x) (.cons (specI_ok fun x h => least_SA t x h) (.cons (specI_ok fun x h => most_SA t x h) (.cons (specI_ok fun x _ => txt_SA t x) (.cons (specI_ok fun x _ => tyd_SA t x) (.cons (specI_ok fun x h => right_SA t x h) .nil)))))
end Go.Sx.Tryd
namespace Go.Sx.Tryd
open Go Go.Sx Go.Proofs
set_option maxRecDepth 100000
/-! ref.Check -/
def kidsS (i : Int) : List Int → List Int → Sum Int (List Int)
  | [], u => .inr u
  | k :: r, u => bif decide (k < 0) then .inl 7 else bif decide (k ≥ i) then .inl 7 else bif decide (getI u k.toNat > 0) then .inl 4 else kidsS i r (setI u k.toNat 1)
def badT (x : Nd) : Bool := bif tydS (nKind x) then !rightS (nBase x) (nName x) (nDims x) (nMarks x) else (nBase x != 0 || (!(nName x == []) || (nDims x != 0 || !(nMarks x == []))))
def nodeE (x : Nd) : Int := bif nameS (nKind x) == [] then 3 else bif decide (((nKids x).length : Int) < leastS (nKind x)) then 131 else bif decide (mostS (nKind x) ≥ 0) && decide (((nKids x).length : Int) > mostS (nKind x)) then 131
  else bif !txtS (nKind x) && !(nText x == []) then 5 else bif badT x then 5 else 0
def nodesS (i : Int) : List Nd → List Int → Sum Int (List Int)
  | [], u => .inr u
  | x :: r, u => bif nodeE x != 0 then .inl (nodeE x) else match kidsS i (nKids x) u with
    | .inl c => .inl c
    | .inr u' => nodesS (i + 1) r u'
def lastS (u : List Int) : Int := bif u.any (· == 0) then 3 else 0
def checkS (L : List Nd) (r : Int) : Int := bif decide ((L.length : Int) > 16384) then 2 else bif (L.length : Int) == 0 then 5 else bif r != (L.length : Int) - 1 then 5 else bif nKind (getN L r.toNat) != 1 then 5 else
  match nodesS 0 L (List.replicate L.length 0) with
  | .inl c => c
  | .inr u => lastS (u.take (L.length - 1))
def smallN (x : Nd) : Bool := decide ((nKids x).length ≤ 100) && (decide ((nText x).length ≤ 200) && (decide ((nName x).length ≤ 200) && decide ((nMarks x).length ≤ 50)))
def smallS (L : List Nd) : Bool := decide (L.length ≤ 300) && L.all smallN
/-- likewise, of up to a thousand nodes -/
def midS (L : List Nd) : Bool := decide (L.length ≤ 1000) && L.all smallN
theorem mid_of {L : List Nd} (h : smallS L = true) : midS L = true := by
  simp only [smallS, midS, Bool.and_eq_true, decide_eq_true_eq] at h ⊢
  exact ⟨by omega, h.2⟩
def smallTr (x : Dens sigTr) : Bool := midS x.1.1
def checkX (x : Dens sigTr) : Dens sigI := (checkS x.1.1 x.1.2.1, ())

def FinC (j : Nat) (st : St) (o : R0) : Prop := ∃ fuel, pieces (R := R0) E (tabI libC) fi12 cut12 0 .ok fuel j st = .ok o
abbrev outI (c : Int) : R0 := (.ret (.int .i64 c), [])

theorem finC_a {L : List Nd} {r n : Int} {o : R0} : ∀ (d : Nat) (u : List Int) (i : Int), 0 ≤ i → i + d = n → n ≤ 1000 → u.length + d ≤ 2000 → FinC 1 (mk12b L r n (u ++ List.replicate d 0) 0) o → FinC 0 (mk12a L r n u i) o
  | 0, u, i, h0, hn, _, hu, ⟨fuel, h⟩ => by
    refine ⟨fuel + 1, (loop12a (pieces (R := R0) E (tabI libC) fi12 cut12 0 .ok fuel) L r n u i).trans ?_⟩
    have h1 : ¬ i < n := by omega
    simp only [h1, decide_false, cond_false]
    rw [show List.replicate 0 (0 : Int) = [] from rfl, List.append_nil] at h
    exact h
  | d + 1, u, i, h0, hn, h3, hu, h => by
    obtain ⟨fuel, ih⟩ := finC_a d (u ++ [0]) (i + 1) (by omega) (by omega) h3 (by simp; omega) (by simpa [List.replicate_succ] using h)
    refine ⟨fuel + 1, (loop12a (pieces (R := R0) E (tabI libC) fi12 cut12 0 .ok fuel) L r n u i).trans ?_⟩
    have h1 : i < n := by omega
    have h2 : List.length u + List.length ([0] : List Nat) < maxRoom := by
      simp only [List.length_cons, List.length_nil, maxRoom]
      omega
    have h4 : IntKind.wrap .i64 (i + 1) = i + 1 := wrap64 (by omega) (by omega)
    rw [h4]
    simp only [h1, h2, decide_true, cond_true]
    exact ih

theorem getI_app (pre : List Int) (c : Int) (r : List Int) : getI (pre ++ c :: r) pre.length = c := by simp [getI, List.getD]
theorem inI_appI (pre : List Int) (c : Int) (r : List Int) : inI (pre.length : Int) (pre ++ c :: r).length = true := by
  simp only [inI, List.length_append, List.length_cons, Bool.and_eq_true, decide_eq_true_eq]
  omega

theorem finC_c {L : List Nd} {r n i : Int} {x : Nd} {o : R0} (hk : (nKids x).length ≤ 100) (h0 : 0 ≤ i) (hi : i ≤ 1000) : ∀ (ks pre : List Int) (u : List Int), nKids x = pre ++ ks → i ≤ u.length →
    (match kidsS i ks u with | .inl c => o = outI c | .inr u' => FinC 1 (mk12b L r n u' (i + 1)) o) → FinC 2 (mk12c L r n u i x pre.length) o
  | [], pre, u, hp, hu, h => by
    obtain ⟨fuel, h⟩ : FinC 1 (mk12b L r n u (i + 1)) o := h
    refine ⟨fuel + 1, (loop12c (pieces (R := R0) E (tabI libC) fi12 cut12 0 .ok fuel) L r n u i x pre.length).trans ?_⟩
    rw [List.append_nil] at hp
    rw [hp]
    have h1 : ¬ ((pre.length : Int) < pre.length) := by omega
    have h4 : IntKind.wrap .i64 (i + 1) = i + 1 := wrap64 (by omega) (by omega)
    simp only [h1, decide_false, cond_false, h4]
    exact h
  | k :: ks, pre, u, hp, hu, h => by
    have hlen : pre.length + 1 + ks.length = (nKids x).length := by rw [hp]; simp; omega
    have h1 : (pre.length : Int) < (nKids x).length := by omega
    have h2 : inI (pre.length : Int) (nKids x).length = true := by rw [hp]; exact inI_appI _ _ _
    have h3 : getI (nKids x) (Int.toNat (pre.length : Int)) = k := by rw [hp, Int.toNat_natCast]; exact getI_app _ _ _
    have h4 : IntKind.wrap .i64 ((pre.length : Int) + 1) = (pre.length : Int) + 1 := wrap64 (by omega) (by omega)
    have h5 : (((pre ++ [k]).length : Nat) : Int) = (pre.length : Int) + 1 := by simp
    simp only [kidsS] at h
    by_cases e1 : k < 0
    · simp only [e1, decide_true, cond_true] at h
      refine ⟨1, (loop12c (pieces (R := R0) E (tabI libC) fi12 cut12 0 .ok 0) L r n u i x pre.length).trans ?_⟩
      simp only [h1, h2, h3, e1, decide_true, cond_true, h]
      rfl
    · by_cases e2 : k ≥ i
      · simp only [e1, e2, decide_true, decide_false, cond_true, cond_false] at h
        refine ⟨1, (loop12c (pieces (R := R0) E (tabI libC) fi12 cut12 0 .ok 0) L r n u i x pre.length).trans ?_⟩
        simp only [h1, h2, h3, e1, e2, decide_true, decide_false, cond_true, cond_false, h]
        rfl
      · have h6 : inI k u.length = true := inI_of (by omega) (by omega)
        by_cases e3 : getI u k.toNat > 0
        · simp only [e1, e2, e3, decide_true, decide_false, cond_true, cond_false] at h
          refine ⟨1, (loop12c (pieces (R := R0) E (tabI libC) fi12 cut12 0 .ok 0) L r n u i x pre.length).trans ?_⟩
          simp only [h1, h2, h3, h6, e1, e2, e3, decide_true, decide_false, cond_true, cond_false, h]
          rfl
        · simp only [e1, e2, e3, decide_false, cond_false] at h
          obtain ⟨fuel, ih⟩ := finC_c hk h0 hi ks (pre ++ [k]) (setI u k.toNat 1) (by simp [hp]) (by simp only [setI, List.length_set]; exact hu) h
          refine ⟨fuel + 1, (loop12c (pieces (R := R0) E (tabI libC) fi12 cut12 0 .ok fuel) L r n u i x pre.length).trans ?_⟩
          simp only [h1, h2, h3, h4, h6, e1, e2, e3, decide_true, decide_false, cond_true, cond_false]
          rw [h5] at ih
          exact ih

theorem kidsS_len {i : Int} : ∀ {ks u u' : List Int}, kidsS i ks u = .inr u' → u'.length = u.length
  | [], u, u', h => by simp only [kidsS, Sum.inr.injEq] at h; rw [h]
  | k :: ks, u, u', h => by
    simp only [kidsS] at h
    cases e1 : decide (k < 0)
    · cases e2 : decide (k ≥ i)
      · cases e3 : decide (getI u k.toNat > 0)
        · simp only [e1, e2, e3, cond_false] at h
          rw [kidsS_len h]
          simp [setI]
        · simp only [e1, e2, e3, cond_false, cond_true] at h; cases h
      · simp only [e1, e2, cond_false, cond_true] at h; cases h
    · simp only [e1, cond_true] at h; cases h

theorem finC_d {n : Int} {u : List Int} {o : R0} (hu : u.length ≤ 1000) (hn : n - 1 ≤ u.length) (hn0 : 0 ≤ n) : ∀ (d : Nat) (i : Int), 0 ≤ i → i + d = n - 1 → o = outI (lastS (((u.drop i.toNat).take d))) → FinC 3 (mk12d n u i) o
  | 0, i, h0, hd, h => by
    refine ⟨1, (loop12d (pieces (R := R0) E (tabI libC) fi12 cut12 0 .ok 0) n u i).trans ?_⟩
    have h4 : IntKind.wrap .i64 (n - 1) = n - 1 := wrap64 (by omega) (by omega)
    have h1 : ¬ i < n - 1 := by omega
    simp only [h4, h1, decide_false, cond_false, h]
    rfl
  | d + 1, i, h0, hd, h => by
    have h4 : IntKind.wrap .i64 (n - 1) = n - 1 := wrap64 (by omega) (by omega)
    have h1 : i < n - 1 := by omega
    have h2 : inI i u.length = true := inI_of h0 (by omega)
    have h5 : IntKind.wrap .i64 (i + 1) = i + 1 := wrap64 (by omega) (by omega)
    have hlt : i.toNat < u.length := by omega
    have e : (u.drop i.toNat).take (d + 1) = getI u i.toNat :: (u.drop (i + 1).toNat).take d := by
      rw [List.drop_eq_getElem_cons hlt, List.take_succ_cons]
      have : i.toNat + 1 = (i + 1).toNat := by omega
      rw [this]
      simp [getI, List.getD, hlt]
    rw [e] at h
    by_cases e1 : getI u i.toNat = 0
    · refine ⟨1, (loop12d (pieces (R := R0) E (tabI libC) fi12 cut12 0 .ok 0) n u i).trans ?_⟩
      have e2 : (getI u i.toNat == 0) = true := by simp [e1]
      simp only [lastS, List.any_cons, e2, Bool.true_or, cond_true] at h
      simp only [h4, h1, h2, e2, decide_true, cond_true, h]
      rfl
    · have e2 : (getI u i.toNat == 0) = false := by simp [e1]
      simp only [lastS, List.any_cons, e2, Bool.false_or] at h
      obtain ⟨fuel, ih⟩ := finC_d hu hn hn0 d (i + 1) (by omega) (by omega) h
      refine ⟨fuel + 1, (loop12d (pieces (R := R0) E (tabI libC) fi12 cut12 0 .ok fuel) n u i).trans ?_⟩
      simp only [h4, h1, h2, h5, e2, decide_true, cond_true, cond_false]
      exact ih
end Go.Sx.Tryd
namespace Go.Sx.Tryd
open Go Go.Sx Go.Proofs
set_option maxRecDepth 100000
theorem inK_name {k : Int} (h : (nameS k == []) = false) : inK k = true := by
  unfold nameS at h
  by_cases h1 : k < 1
  · simp [h1] at h
  · by_cases h2 : k ≥ 46
    · have h3 : (46 : Int) ≤ k := h2
      simp [h1, h3] at h
    · simp only [inK, Bool.and_eq_true, decide_eq_true_eq]
      omega

theorem loop12b' (J : Jump R0) {L : List Nd} {r n : Int} {u : List Int} {i : Int} {x : Nd} (h1 : i < n) (h2 : inI i L.length = true) (h3 : getN L i.toNat = x) (hm : (nMarks x).length ≤ 1000) :
    resume E (tabI libC) (cutsOf 0 cut12 0) J [true, true, true, true, true, true, false, true, false, false] fi12.code 1 (mk12b L r n u i) (finK E 0 fi12.results .ok) =
      bif nodeE x != 0 then .ok (outI (nodeE x)) else J 2 (mk12c L r n u i x 0) := by
  rw [loop12b]
  simp only [h1, h2, h3, decide_true, cond_true]
  unfold nodeE badT
  cases e1 : (nameS (nKind x) == [])
  · have hk : inKX (nKind x, ()) = true := inK_name e1
    have hm' : decide (List.length (nMarks x) ≤ 1000) = true := decide_eq_true hm
    simp only [hk, hm', cond_false, cond_true]
    cases e2 : decide (((nKids x).length : Int) < leastS (nKind x))
    · cases e3 : decide (mostS (nKind x) ≥ 0)
      · cases e5 : txtS (nKind x) <;> cases e6 : (nText x == []) <;> first | rfl | skip
        all_goals
          cases e7 : tydS (nKind x)
          · cases e8 : (nBase x == 0) <;> cases e9 : (nName x == []) <;> cases e10 : (nDims x == 0) <;> cases e11 : (nMarks x == []) <;> simp only [bne, e8, e9, e10, e11] <;> rfl
          · cases e8 : rightS (nBase x) (nName x) (nDims x) (nMarks x) <;> rfl
      · cases e4 : decide (((nKids x).length : Int) > mostS (nKind x))
        · cases e5 : txtS (nKind x) <;> cases e6 : (nText x == []) <;> first | rfl | skip
          all_goals
            cases e7 : tydS (nKind x)
            · cases e8 : (nBase x == 0) <;> cases e9 : (nName x == []) <;> cases e10 : (nDims x == 0) <;> cases e11 : (nMarks x == []) <;> simp only [bne, e8, e9, e10, e11] <;> rfl
            · cases e8 : rightS (nBase x) (nName x) (nDims x) (nMarks x) <;> rfl
        · rfl
    · rfl
  · rfl

theorem getN_app (pre : List Nd) (c : Nd) (r : List Nd) : getN (pre ++ c :: r) pre.length = c := by simp [getN, List.getD]
theorem inI_appN (pre : List Nd) (c : Nd) (r : List Nd) : inI (pre.length : Int) (pre ++ c :: r).length = true := by
  simp only [inI, List.length_append, List.length_cons, Bool.and_eq_true, decide_eq_true_eq]
  omega

theorem finC_b {L : List Nd} {r : Int} {o : R0} (hL : L.length ≤ 1000) : ∀ (xs pre : List Nd) (u : List Int), L = pre ++ xs → xs.all smallN = true → u.length = L.length →
    (match nodesS pre.length xs u with | .inl c => o = outI c | .inr u' => u'.length = L.length → FinC 3 (mk12d L.length u' 0) o) → FinC 1 (mk12b L r L.length u pre.length) o
  | [], pre, u, hp, _, hu, h => by
    obtain ⟨fuel, h⟩ : FinC 3 (mk12d L.length u 0) o := h hu
    refine ⟨fuel + 1, (loop12b (pieces (R := R0) E (tabI libC) fi12 cut12 0 .ok fuel) L r L.length u pre.length).trans ?_⟩
    have h1 : ¬ ((pre.length : Int) < L.length) := by rw [hp, List.append_nil]; omega
    simp only [h1, decide_false, cond_false]
    exact h
  | x :: xs, pre, u, hp, hs, hu, h => by
    have hlen : pre.length + 1 + xs.length = L.length := by rw [hp]; simp; omega
    have h1 : (pre.length : Int) < L.length := by omega
    have h2 : inI (pre.length : Int) L.length = true := by rw [hp]; exact inI_appN _ _ _
    have h3 : getN L (Int.toNat (pre.length : Int)) = x := by rw [hp, Int.toNat_natCast]; exact getN_app _ _ _
    have h5 : (((pre ++ [x]).length : Nat) : Int) = (pre.length : Int) + 1 := by simp
    simp only [List.all_cons, Bool.and_eq_true] at hs
    have hsx := hs.1
    simp only [smallN, Bool.and_eq_true, decide_eq_true_eq] at hsx
    have hk : (nKids x).length ≤ 100 := hsx.1
    have hm : (nMarks x).length ≤ 1000 := by omega
    simp only [nodesS] at h
    cases e : (nodeE x != 0)
    · simp only [e, cond_false] at h
      have key : FinC 2 (mk12c L r L.length u pre.length x 0) o := finC_c hk (by omega) (by omega) (nKids x) [] u rfl (by omega) (by
        cases e2 : kidsS (pre.length : Int) (nKids x) u with
        | inl c => rw [e2] at h; exact h
        | inr u' =>
          rw [e2] at h
          have := finC_b (r := r) hL xs (pre ++ [x]) u' (by simp [hp]) hs.2 (by rw [kidsS_len e2]; exact hu) (by rw [h5]; exact h)
          rw [h5] at this
          exact this)
      obtain ⟨fuel, hf⟩ := key
      refine ⟨fuel + 1, (loop12b' (pieces (R := R0) E (tabI libC) fi12 cut12 0 .ok fuel) h1 h2 h3 hm).trans ?_⟩
      rw [e]
      exact hf
    · simp only [e, cond_true] at h
      refine ⟨1, (loop12b' (pieces (R := R0) E (tabI libC) fi12 cut12 0 .ok 0) h1 h2 h3 hm).trans ?_⟩
      rw [e, h]
      rfl

theorem check_start (L : List Nd) (r : Int) (hs : midS L = true) : ∃ fuel, start (R := R0) E (tabI libC) fi12 cut12 (pieces (R := R0) E (tabI libC) fi12 cut12 0 .ok fuel) [.agg (trC L r)] [] .ok = .ok (outI (checkS L r)) := by
  simp only [midS, Bool.and_eq_true, decide_eq_true_eq] at hs
  obtain ⟨hL, hs⟩ := hs
  have h0 : ¬ ((L.length : Int) > 16384) := by omega
  have hw : IntKind.wrap .i64 ((L.length : Int) - 1) = (L.length : Int) - 1 := wrap64 (by omega) (by omega)
  unfold checkS
  by_cases h1 : (L.length : Int) = 0
  · exact ⟨0, by rw [start12]; simp only [h0, h1, decide_false, cond_false, cond_true, beq_self_eq_true]; rfl⟩
  have h1' : ((L.length : Int) == 0) = false := by simpa using h1
  cases e2 : (r != (L.length : Int) - 1)
  · have hr : r = (L.length : Int) - 1 := by simpa using e2
    have hin : inI r L.length = true := inI_of (by omega) (by omega)
    cases e3 : (nKind (getN L r.toNat) != 1)
    · obtain ⟨fuel, hf⟩ : FinC 0 (mk12a L r L.length [] 0) (outI (match nodesS 0 L (List.replicate L.length 0) with | .inl c => c | .inr u => lastS (u.take (L.length - 1)))) := by
        refine finC_a L.length [] 0 (by omega) (by omega) (by omega) (by simp; omega) ?_
        have := finC_b (r := r) (o := outI (match nodesS 0 L (List.replicate L.length 0) with | .inl c => c | .inr u => lastS (u.take (L.length - 1)))) hL L [] (List.replicate L.length 0) rfl hs (by simp) (by
          simp only [List.length_nil, Int.natCast_zero]
          cases e4 : nodesS 0 L (List.replicate L.length 0) with
          | inl c => rfl
          | inr u =>
            intro hu
            exact finC_d (by omega) (by omega) (by omega) (L.length - 1) 0 (by omega) (by omega) rfl)
        exact this
      refine ⟨fuel, ?_⟩
      rw [start12, hw]
      simp only [h0, h1', e2, e3, hin, decide_false, cond_false, cond_true]
      exact hf
    · refine ⟨0, ?_⟩
      rw [start12, hw]
      simp only [h0, h1', e2, e3, hin, decide_false, cond_false, cond_true]
      rfl
  · refine ⟨0, ?_⟩
    rw [start12, hw]
    simp only [h0, h1', e2, decide_false, cond_false, cond_true]
    rfl

theorem check_SA {w0 : World} (t : TabsAt w0) (x : Dens sigTr) (h : smallTr x = true) : SAD Tryd.prog (GW w0) 12 sigTr sigI x (checkX x) := by
  obtain ⟨⟨L, r, ⟨⟩⟩, ⟨⟩⟩ := x
  obtain ⟨fuel, hf⟩ := check_start L r h
  exact start_ok (envOK []) (tabI_ok (libC_ok t)) fc12 (.inl gen0_nil) hf
end Go.Sx.Tryd
namespace Go.Sx.Tryd
open Go Go.Sx Go.Proofs
set_option maxRecDepth 100000
abbrev outB (c : Bool) : R0 := (.ret (.bool c), [])
theorem small_loop {L : List Nd} (hL : L.length ≤ 300) : ∀ (xs pre : List Nd) (fuel : Nat), L = pre ++ xs → xs.length < fuel → pieces (R := R0) E (tabI lib1) fi11 cut11 0 .ok fuel 0 (mk11 L L.length pre.length) = .ok (outB (xs.all smallN))
  | xs, pre, 0, _, hf => by omega
  | [], pre, fuel + 1, hp, _ => by
    refine (loop11 (pieces (R := R0) E (tabI lib1) fi11 cut11 0 .ok fuel) L L.length pre.length).trans ?_
    have h1 : ¬ ((pre.length : Int) < L.length) := by rw [hp, List.append_nil]; omega
    simp only [h1, decide_false, cond_false]
    rfl
  | x :: xs, pre, fuel + 1, hp, hf => by
    have ih := small_loop hL xs (pre ++ [x]) fuel (by simp [hp]) (by simpa using hf)
    refine (loop11 (pieces (R := R0) E (tabI lib1) fi11 cut11 0 .ok fuel) L L.length pre.length).trans ?_
    have hlen : pre.length + 1 + xs.length = L.length := by rw [hp]; simp; omega
    have h1 : (pre.length : Int) < L.length := by omega
    have h2 : inI (pre.length : Int) L.length = true := by rw [hp]; exact inI_appN _ _ _
    have h3 : getN L (Int.toNat (pre.length : Int)) = x := by rw [hp, Int.toNat_natCast]; exact getN_app _ _ _
    have h4 : IntKind.wrap .i64 ((pre.length : Int) + 1) = (pre.length : Int) + 1 := wrap64 (by omega) (by omega)
    have h5 : (((pre ++ [x]).length : Nat) : Int) = (pre.length : Int) + 1 := by simp
    rw [h5] at ih
    simp only [h1, h2, h3, h4, decide_true, cond_true, List.all_cons]
    by_cases k1 : (nKids x).length ≤ 100
    · by_cases k2 : (nText x).length ≤ 200
      · by_cases k3 : (nName x).length ≤ 200
        · by_cases k4 : (nMarks x).length ≤ 50
          · have e1 : ¬ (((nKids x).length : Int) > 100) := by omega
            have e2 : ¬ (((nText x).length : Int) > 200) := by omega
            have e3 : ¬ (((nName x).length : Int) > 200) := by omega
            have e4 : ¬ (((nMarks x).length : Int) > 50) := by omega
            have e5 : smallN x = true := by simp only [smallN, k1, k2, k3, k4, decide_true, Bool.and_self]
            simp only [e1, e2, e3, e4, e5, decide_false, cond_false, Bool.true_and]
            exact ih
          · have e1 : ¬ (((nKids x).length : Int) > 100) := by omega
            have e2 : ¬ (((nText x).length : Int) > 200) := by omega
            have e3 : ¬ (((nName x).length : Int) > 200) := by omega
            have e4 : (((nMarks x).length : Int) > 50) := by omega
            have e5 : smallN x = false := by simp only [smallN, k1, k2, k3, k4, decide_true, decide_false, Bool.and_false]
            simp only [e1, e2, e3, e4, e5, decide_true, decide_false, cond_true, cond_false, Bool.false_and]
        · have e1 : ¬ (((nKids x).length : Int) > 100) := by omega
          have e2 : ¬ (((nText x).length : Int) > 200) := by omega
          have e3 : (((nName x).length : Int) > 200) := by omega
          have e5 : smallN x = false := by simp only [smallN, k1, k2, k3, decide_true, decide_false, Bool.and_false, Bool.false_and]
          simp only [e1, e2, e3, e5, decide_true, decide_false, cond_true, cond_false, Bool.false_and]
      · have e1 : ¬ (((nKids x).length : Int) > 100) := by omega
        have e2 : (((nText x).length : Int) > 200) := by omega
        have e5 : smallN x = false := by simp only [smallN, k1, k2, decide_true, decide_false, Bool.and_false, Bool.false_and]
        simp only [e1, e2, e5, decide_true, decide_false, cond_true, cond_false, Bool.false_and]
    · have e1 : (((nKids x).length : Int) > 100) := by omega
      have e5 : smallN x = false := by simp only [smallN, k1, decide_false, Bool.false_and]
      simp only [e1, e5, decide_true, cond_true, Bool.false_and]

def smallX2 (x : Dens sigTr) : Dens sigB := (smallS x.1.1, ())
theorem small_start (L : List Nd) (r : Int) : start (R := R0) E (tabI lib1) fi11 cut11 (pieces (R := R0) E (tabI lib1) fi11 cut11 0 .ok 400) [.agg (trC L r)] [] .ok = .ok (outB (smallS L)) := by
  rw [start11]
  unfold smallS
  by_cases h : L.length ≤ 300
  · have h1 : ¬ ((L.length : Int) > 300) := by omega
    simp only [h1, h, decide_true, decide_false, cond_false, Bool.true_and]
    exact small_loop h L [] 400 rfl (by omega)
  · have h1 : (L.length : Int) > 300 := by omega
    simp only [h1, h, decide_true, decide_false, cond_true, Bool.false_and]
theorem small_SA {w0 : World} (t : TabsAt w0) (x : Dens sigTr) : SAD Tryd.prog (GW w0) 11 sigTr sigB x (smallX2 x) := by
  obtain ⟨⟨L, r, ⟨⟩⟩, ⟨⟩⟩ := x
  exact start_ok (envOK []) (lib1_K t) fc11 (.inl gen0_nil) (small_start L r)
end Go.Sx.Tryd
namespace Go.Sx.Tryd
open Go Go.Sx
/-! what a tree that may be is -/
/-- which are used -/
def Used (u : List Int) (done : List Int) : Prop := ∀ k : Nat, k < u.length → getI u k = if (k : Int) ∈ done then 1 else 0

theorem getI_set {u : List Int} {i j : Nat} {v : Int} (hi : i < u.length) : getI (setI u i v) j = if j = i then v else getI u j := by
  simp only [getI, setI, List.getD, List.getElem?_set]
  by_cases h : i = j
  · subst h; simp [hi]
  · rw [if_neg h, if_neg (Ne.symm h)]

theorem kidsS_spec {i : Int} : ∀ {ks u u' done : List Int}, kidsS i ks u = .inr u' → Used u done → i ≤ u.length →
    (∀ k ∈ ks, 0 ≤ k ∧ k < i) ∧ ks.Nodup ∧ (∀ k ∈ ks, k ∉ done) ∧ Used u' (done ++ ks)
  | [], u, u', done, h, hu, _ => by
    simp only [kidsS, Sum.inr.injEq] at h
    subst h
    simp only [List.append_nil]
    exact ⟨by simp, by simp, by simp, hu⟩
  | k :: ks, u, u', done, h, hu, hi => by
    simp only [kidsS] at h
    cases e1 : decide (k < 0)
    · cases e2 : decide (k ≥ i)
      · cases e3 : decide (getI u k.toNat > 0)
        · simp only [e1, e2, e3, cond_false] at h
          simp only [decide_eq_false_iff_not] at e1 e2 e3
          have hlt : k.toNat < u.length := by omega
          have hkn : k ∉ done := fun hk => by
            have := hu k.toNat hlt
            rw [Int.toNat_of_nonneg (by omega), if_pos hk] at this
            omega
          have hu2 : Used (setI u k.toNat 1) (done ++ [k]) := fun j hj => by
            simp only [setI, List.length_set] at hj
            rw [getI_set hlt]
            by_cases hjk : j = k.toNat
            · subst hjk
              rw [if_pos rfl, if_pos (by simp [Int.toNat_of_nonneg (show 0 ≤ k by omega)])]
            · rw [if_neg hjk, hu j hj]
              have hne : (j : Int) ≠ k := by omega
              simp [hne]
          obtain ⟨h1, h2, h3, h4⟩ := kidsS_spec h hu2 (by simp only [setI, List.length_set]; exact hi)
          refine ⟨fun x hx => ?_, ?_, fun x hx => ?_, by simpa using h4⟩
          · rcases List.mem_cons.1 hx with rfl | hx
            · omega
            · exact h1 x hx
          · rw [List.nodup_cons]
            exact ⟨fun hk => h3 k hk (by simp), h2⟩
          · rcases List.mem_cons.1 hx with rfl | hx
            · exact hkn
            · exact fun hd => h3 x hx (by simp [hd])
        · simp only [e1, e2, e3, cond_false, cond_true] at h; cases h
      · simp only [e1, e2, cond_false, cond_true] at h; cases h
    · simp only [e1, cond_true] at h; cases h

theorem nodesS_spec : ∀ {xs : List Nd} {i : Nat} {u u' done : List Int}, nodesS (i : Int) xs u = .inr u' → Used u done → i + xs.length = u.length →
    (∀ j x, xs[j]? = some x → nodeE x = 0 ∧ ∀ k ∈ nKids x, 0 ≤ k ∧ k < ((i + j : Nat) : Int)) ∧ (xs.flatMap nKids).Nodup ∧ (∀ k ∈ xs.flatMap nKids, k ∉ done) ∧ Used u' (done ++ xs.flatMap nKids) ∧ u'.length = u.length
  | [], i, u, u', done, h, hu, _ => by
    simp only [nodesS, Sum.inr.injEq] at h
    subst h
    simp only [List.flatMap_nil, List.append_nil]
    exact ⟨by simp, by simp, by simp, hu, trivial⟩
  | x :: xs, i, u, u', done, h, hu, hl => by
    simp only [nodesS] at h
    cases e : (nodeE x != 0)
    · simp only [e, cond_false] at h
      cases e2 : kidsS (i : Int) (nKids x) u with
      | inl c => rw [e2] at h; cases h
      | inr u1 =>
        rw [e2] at h
        obtain ⟨h1, h2, h3, h4⟩ := kidsS_spec e2 hu (by simp at hl; omega)
        have hl1 := kidsS_len e2
        obtain ⟨k1, k2, k3, k4, k5⟩ := nodesS_spec (i := i + 1) (xs := xs) (by simpa using h) h4 (by simp at hl ⊢; omega)
        refine ⟨fun j y hj => ?_, ?_, fun k hk => ?_, ?_, by omega⟩
        · cases j with
          | zero =>
            simp only [List.getElem?_cons_zero, Option.some.injEq] at hj
            subst hj
            exact ⟨by simpa using e, by simpa using h1⟩
          | succ j =>
            obtain ⟨m1, m2⟩ := k1 j y (by simpa using hj)
            refine ⟨m1, fun k hk => ?_⟩
            have := m2 k hk
            omega
        · rw [List.flatMap_cons, List.nodup_append]
          exact ⟨h2, k2, fun a ha b hb hab => k3 b hb (by rw [← hab]; simp [ha])⟩
        · rw [List.flatMap_cons, List.mem_append] at hk
          rcases hk with hk | hk
          · exact h3 k hk
          · exact fun hd => k3 k hk (by simp [hd])
        · rw [List.flatMap_cons, ← List.append_assoc]
          exact k4
    · simp only [e, cond_true] at h; cases h

/-- a tree that may be -/
structure Good (L : List Nd) (r : Int) : Prop where
  pos : 0 < L.length
  root : r = (L.length : Int) - 1
  kids : ∀ (j : Nat) x, L[j]? = some x → ∀ k ∈ nKids x, 0 ≤ k ∧ k < (j : Int)
  node : ∀ (j : Nat) x, L[j]? = some x → nodeE x = 0
  once : (L.flatMap nKids).Nodup
  all : ∀ k : Nat, k + 1 < L.length → (k : Int) ∈ L.flatMap nKids

theorem good_of {L : List Nd} {r : Int} (h : checkS L r = 0) : Good L r := by
  unfold checkS at h
  cases e1 : decide ((L.length : Int) > 16384)
  · cases e2 : ((L.length : Int) == 0)
    · cases e3 : (r != (L.length : Int) - 1)
      · cases e4 : (nKind (getN L r.toNat) != 1)
        · simp only [e1, e2, e3, e4, cond_false] at h
          have hpos : 0 < L.length := by
            simp only [beq_eq_false_iff_ne] at e2
            omega
          have hr : r = (L.length : Int) - 1 := by simpa using e3
          cases e5 : nodesS 0 L (List.replicate L.length 0) with
          | inl c =>
            exfalso
            rw [e5] at h
            have h : c = 0 := h
            subst h
            clear e1 e2 e3 e4 hpos hr
            have key : ∀ (xs : List Nd) (i : Int) (u : List Int), nodesS i xs u ≠ .inl 0 := by
              intro xs
              induction xs with
              | nil => intro i u hh; cases hh
              | cons x xs ih =>
                intro i u hh
                simp only [nodesS] at hh
                cases e : (nodeE x != 0)
                · simp only [e, cond_false] at hh
                  have kk : ∀ (ks u : List Int), kidsS i ks u ≠ .inl 0 := by
                    intro ks
                    induction ks with
                    | nil => intro u hh; cases hh
                    | cons k ks ih2 =>
                      intro u hh
                      simp only [kidsS] at hh
                      cases f1 : decide (k < 0) <;> simp only [f1, cond_true, cond_false] at hh
                      · cases f2 : decide (k ≥ i) <;> simp only [f2, cond_true, cond_false] at hh
                        · cases f3 : decide (getI u k.toNat > 0) <;> simp only [f3, cond_true, cond_false] at hh
                          · exact ih2 _ hh
                          · cases hh
                        · cases hh
                      · cases hh
                  cases f : kidsS i (nKids x) u with
                  | inl c => rw [f] at hh; simp only [Sum.inl.injEq] at hh; subst hh; exact kk _ _ f
                  | inr u' => rw [f] at hh; exact ih _ _ hh
                · simp only [e, cond_true, Sum.inl.injEq] at hh
                  rw [hh] at e
                  simp at e
            exact key _ _ _ e5
          | inr u =>
            rw [e5] at h
            obtain ⟨k1, k2, _, k4, k5⟩ := nodesS_spec (i := 0) (done := []) e5 (fun k hk => by simp at hk ⊢; simp [getI, List.getD, hk]) (by simp)
            simp only [List.length_replicate] at k5
            refine ⟨hpos, hr, fun j x hj => by have := (k1 j x hj).2; simpa using this, fun j x hj => (k1 j x hj).1, k2, fun k hk => ?_⟩
            have h : lastS (u.take (L.length - 1)) = 0 := h
            unfold lastS at h
            cases e6 : (u.take (L.length - 1)).any (· == 0)
            · by_cases hm : (k : Int) ∈ L.flatMap nKids
              · exact hm
              · exfalso
                have := k4 k (by omega)
                rw [if_neg (by simpa using hm)] at this
                have hmem : (0 : Int) ∈ u.take (L.length - 1) := by
                  rw [List.mem_iff_getElem?]
                  refine ⟨k, ?_⟩
                  rw [List.getElem?_take, if_pos (by omega)]
                  simp only [getI, List.getD] at this
                  cases hg : u[k]? with
                  | none => rw [List.getElem?_eq_none_iff] at hg; omega
                  | some z => rw [hg] at this; simp at this; rw [this]
                have := List.any_eq_false.1 e6 0 hmem
                simp at this
            · rw [e6] at h; simp at h
        · simp only [e1, e2, e3, e4, cond_false, cond_true] at h; cases h
      · simp only [e1, e2, e3, cond_false, cond_true] at h; cases h
    · simp only [e1, e2, cond_false, cond_true] at h; cases h
  · simp only [e1, cond_true] at h; cases h
end Go.Sx.Tryd
namespace Go.Sx.Tryd
open Go Go.Sx
/-! a node and all that it is made of -/
def preF (L : List Nd) : Nat → Nat → List Int
  | 0, _ => []
  | f + 1, i => (i : Int) :: (nKids (getN L i)).flatMap fun k => preF L f k.toNat
def preN (L : List Nd) (i : Nat) : List Int := preF L (i + 1) i

theorem getN_get {L : List Nd} {i : Nat} (h : i < L.length) : L[i]? = some (getN L i) := by simp [getN, List.getD, h]

section
variable {L : List Nd} {r : Int} (g : Good L r)
theorem Good.kid {L : List Nd} {r : Int} (g : Good L r) {i : Nat} (hi : i < L.length) {k : Int} (hk : k ∈ nKids (getN L i)) : 0 ≤ k ∧ k < (i : Int) ∧ k.toNat < i := by
  obtain ⟨h1, h2⟩ := g.kids i _ (getN_get hi) k hk
  exact ⟨h1, h2, by omega⟩

theorem flatMap_congr' {l : List Int} {f h : Int → List Int} (e : ∀ k ∈ l, f k = h k) : l.flatMap f = l.flatMap h := by
  induction l with
  | nil => rfl
  | cons a l ih => rw [List.flatMap_cons, List.flatMap_cons, e a (by simp), ih fun k hk => e k (by simp [hk])]

theorem pre_stable {L : List Nd} {r : Int} (g : Good L r) : ∀ (n i f : Nat), i < n → i < L.length → i + 1 ≤ f → preF L f i = preN L i
  | 0, i, f, h, _, _ => by omega
  | n + 1, i, 0, _, _, h => by omega
  | n + 1, i, f + 1, hn, hi, hf => by
    simp only [preF, preN]
    congr 1
    refine flatMap_congr' fun k hk => ?_
    obtain ⟨_, _, h3⟩ := g.kid hi hk
    rw [pre_stable g n k.toNat f (by omega) (by omega) (by omega), pre_stable g n k.toNat i (by omega) (by omega) (by omega)]

theorem preN_eq {L : List Nd} {r : Int} (g : Good L r) {i : Nat} (hi : i < L.length) : preN L i = (i : Int) :: (nKids (getN L i)).flatMap fun k => preN L k.toNat := by
  show (i : Int) :: _ = _
  congr 1
  refine flatMap_congr' fun k hk => ?_
  obtain ⟨_, _, h3⟩ := g.kid hi hk
  exact pre_stable g (k.toNat + 1) k.toNat i (by omega) (by omega) (by omega)

theorem pre_le {L : List Nd} {r : Int} (g : Good L r) : ∀ (n i : Nat), i < n → i < L.length → ∀ x ∈ preN L i, 0 ≤ x ∧ x ≤ (i : Int)
  | 0, _, h, _, _, _ => by omega
  | n + 1, i, hn, hi, x, hx => by
    rw [preN_eq g hi] at hx
    rcases List.mem_cons.1 hx with rfl | hx
    · omega
    · obtain ⟨k, hk, hx⟩ := List.mem_flatMap.1 hx
      obtain ⟨h1, h2, h3⟩ := g.kid hi hk
      have := pre_le g n k.toNat (by omega) (by omega) x hx
      omega

theorem pre_self {L : List Nd} {i : Nat} : (i : Int) ∈ preN L i := by simp [preN, preF]

/-- what a node within is made of is within -/
theorem pre_closed {L : List Nd} {r : Int} (g : Good L r) : ∀ (n i : Nat), i < n → i < L.length → ∀ (p : Nat), (p : Int) ∈ preN L i → ∀ x ∈ nKids (getN L p), x ∈ preN L i
  | 0, _, h, _, _, _, _, _ => by omega
  | n + 1, i, hn, hi, p, hp, x, hx => by
    rw [preN_eq g hi] at hp ⊢
    rcases List.mem_cons.1 hp with e | hp
    · have e : p = i := by omega
      subst e
      obtain ⟨h1, _, _⟩ := g.kid hi hx
      refine List.mem_cons_of_mem _ (List.mem_flatMap.2 ⟨x, hx, ?_⟩)
      have := pre_self (L := L) (i := x.toNat)
      rwa [Int.toNat_of_nonneg h1] at this
    · obtain ⟨k, hk, hp⟩ := List.mem_flatMap.1 hp
      obtain ⟨h1, h2, h3⟩ := g.kid hi hk
      exact List.mem_cons_of_mem _ (List.mem_flatMap.2 ⟨k, hk, pre_closed g n k.toNat (by omega) (by omega) p hp x hx⟩)

/-- but for its head each node within is made use of within -/
theorem pre_parent {L : List Nd} {r : Int} (g : Good L r) : ∀ (n i : Nat), i < n → i < L.length → ∀ x ∈ preN L i, x = (i : Int) ∨ ∃ p : Nat, p < L.length ∧ (p : Int) ∈ preN L i ∧ x ∈ nKids (getN L p)
  | 0, _, h, _, _, _ => by omega
  | n + 1, i, hn, hi, x, hx => by
    rw [preN_eq g hi] at hx
    rcases List.mem_cons.1 hx with rfl | hx
    · exact .inl rfl
    · obtain ⟨k, hk, hx⟩ := List.mem_flatMap.1 hx
      obtain ⟨h1, h2, h3⟩ := g.kid hi hk
      refine .inr ?_
      rcases pre_parent g n k.toNat (by omega) (by omega) x hx with e | ⟨p, h4, h5, h6⟩
      · refine ⟨i, hi, pre_self, ?_⟩
        rw [e, Int.toNat_of_nonneg h1]
        exact hk
      · refine ⟨p, h4, ?_, h6⟩
        rw [preN_eq g hi]
        exact List.mem_cons_of_mem _ (List.mem_flatMap.2 ⟨k, hk, h5⟩)

theorem flat_once {α : Type} {f : α → List Int} : ∀ {l : List α}, (l.flatMap f).Nodup → ∀ (i j : Nat) a b x, l[i]? = some a → l[j]? = some b → x ∈ f a → x ∈ f b → i = j
  | [], _, i, j, a, b, x, h, _, _, _ => by simp at h
  | c :: l, hn, i, j, a, b, x, hi, hj, ha, hb => by
    rw [List.flatMap_cons, List.nodup_append] at hn
    obtain ⟨_, h2, h3⟩ := hn
    cases i with
    | zero =>
      cases j with
      | zero => rfl
      | succ j =>
        simp only [List.getElem?_cons_zero, Option.some.injEq] at hi
        subst hi
        exact (h3 x ha x (List.mem_flatMap.2 ⟨b, List.mem_of_getElem? (by simpa using hj), hb⟩) rfl).elim
    | succ i =>
      cases j with
      | zero =>
        simp only [List.getElem?_cons_zero, Option.some.injEq] at hj
        subst hj
        exact (h3 x hb x (List.mem_flatMap.2 ⟨a, List.mem_of_getElem? (by simpa using hi), ha⟩) rfl).elim
      | succ j => rw [flat_once h2 i j a b x (by simpa using hi) (by simpa using hj) ha hb]

theorem Good.parent {L : List Nd} {r : Int} (g : Good L r) {p q : Nat} (hp : p < L.length) (hq : q < L.length) {x : Int} (h1 : x ∈ nKids (getN L p)) (h2 : x ∈ nKids (getN L q)) : p = q :=
  flat_once g.once p q _ _ x (getN_get hp) (getN_get hq) h1 h2

theorem flat_nodup_each {α : Type} {f : α → List Int} : ∀ {l : List α}, (l.flatMap f).Nodup → ∀ a ∈ l, (f a).Nodup
  | c :: l, hn, a, ha => by
    rw [List.flatMap_cons, List.nodup_append] at hn
    rcases List.mem_cons.1 ha with rfl | ha
    · exact hn.1
    · exact flat_nodup_each hn.2.1 a ha

/-- two that stand side by side share nothing -/
theorem pre_apart {L : List Nd} {r : Int} (g : Good L r) {i : Nat} (hi : i < L.length) {k k' : Int} (hk : k ∈ nKids (getN L i)) (hk' : k' ∈ nKids (getN L i)) (hne : k ≠ k') : ∀ (n x : Nat), L.length ≤ x + n → (x : Int) ∈ preN L k.toNat → (x : Int) ∈ preN L k'.toNat → False
  | 0, x, hx, h1, _ => by
    obtain ⟨_, _, h3⟩ := g.kid hi hk
    have := (pre_le g _ k.toNat (Nat.lt_succ_self _) (by omega) _ h1).2
    omega
  | n + 1, x, hx, h1, h2 => by
    obtain ⟨a1, a2, a3⟩ := g.kid hi hk
    obtain ⟨b1, b2, b3⟩ := g.kid hi hk'
    have c1 := pre_parent g _ k.toNat (Nat.lt_succ_self _) (by omega) _ h1
    have c2 := pre_parent g _ k'.toNat (Nat.lt_succ_self _) (by omega) _ h2
    have top : ∀ {a b : Int}, a ∈ nKids (getN L i) → b ∈ nKids (getN L i) → ∀ p : Nat, p < L.length → (p : Int) ∈ preN L b.toNat → a ∈ nKids (getN L p) → False := fun {a b} ha hb p hp hpb hap => by
      have e := g.parent hp hi hap ha
      subst e
      obtain ⟨_, _, d3⟩ := g.kid hi hb
      have := (pre_le g _ b.toNat (Nat.lt_succ_self _) (by omega) _ hpb).2
      omega
    rcases c1 with e1 | ⟨p, p1, p2, p3⟩
    · rcases c2 with e2 | ⟨q, q1, q2, q3⟩
      · omega
      · have : (x : Int) = k := by omega
        rw [this] at q3
        exact top hk hk' q q1 q2 q3
    · rcases c2 with e2 | ⟨q, q1, q2, q3⟩
      · have : (x : Int) = k' := by omega
        rw [this] at p3
        exact top hk' hk p p1 p2 p3
      · have e := g.parent p1 q1 p3 q3
        subst e
        have := (g.kid p1 p3).2.1
        exact pre_apart g hi hk hk' hne n p (by omega) p2 q2

theorem flat_nodup {f : Int → List Int} : ∀ {l : List Int}, l.Nodup → (∀ k ∈ l, (f k).Nodup) → (∀ k ∈ l, ∀ k' ∈ l, k ≠ k' → ∀ x ∈ f k, x ∉ f k') → (l.flatMap f).Nodup
  | [], _, _, _ => by simp
  | k :: l, hn, h1, h2 => by
    rw [List.nodup_cons] at hn
    rw [List.flatMap_cons, List.nodup_append]
    refine ⟨h1 k (by simp), flat_nodup hn.2 (fun a ha => h1 a (by simp [ha])) (fun a ha b hb => h2 a (by simp [ha]) b (by simp [hb])), fun x hx y hy e => ?_⟩
    subst e
    obtain ⟨k', hk', hy⟩ := List.mem_flatMap.1 hy
    exact h2 k (by simp) k' (by simp [hk']) (fun e => hn.1 (e ▸ hk')) x hx hy

theorem pre_nodup {L : List Nd} {r : Int} (g : Good L r) : ∀ (n i : Nat), i < n → i < L.length → (preN L i).Nodup
  | 0, _, h, _ => by omega
  | n + 1, i, hn, hi => by
    rw [preN_eq g hi, List.nodup_cons]
    refine ⟨fun h => ?_, ?_⟩
    · obtain ⟨k, hk, h⟩ := List.mem_flatMap.1 h
      obtain ⟨_, _, h3⟩ := g.kid hi hk
      have := (pre_le g _ k.toNat (Nat.lt_succ_self _) (by omega) _ h).2
      omega
    · refine flat_nodup (flat_nodup_each g.once _ (List.mem_of_getElem? (getN_get hi))) (fun k hk => ?_) (fun k hk k' hk' hne x hx hx' => ?_)
      · obtain ⟨_, _, h3⟩ := g.kid hi hk
        exact pre_nodup g n k.toNat (by omega) (by omega)
      · obtain ⟨_, _, h3⟩ := g.kid hi hk
        have h4 := (pre_le g _ k.toNat (Nat.lt_succ_self _) (by omega) _ hx).1
        have e : ((x.toNat : Nat) : Int) = x := Int.toNat_of_nonneg h4
        rw [← e] at hx hx'
        exact pre_apart g hi hk hk' hne L.length x.toNat (by omega) hx hx'

theorem nodup_le : ∀ (n : Nat) (l : List Int), l.Nodup → (∀ x ∈ l, 0 ≤ x ∧ x < (n : Int)) → l.length ≤ n
  | 0, [], _, _ => by simp
  | 0, a :: l, _, h => by have := h a (by simp); omega
  | n + 1, l, hn, h => by
    by_cases hm : (n : Int) ∈ l
    · have := nodup_le n (l.erase n) (hn.erase _) fun x hx => by
        rw [hn.mem_erase_iff] at hx
        have := h x hx.2
        omega
      rw [List.length_erase_of_mem hm] at this
      omega
    · have := nodup_le n l hn fun x hx => by
        have h1 := h x hx
        have : x ≠ n := fun e => hm (e ▸ hx)
        omega
      omega
theorem nodup_ge : ∀ (n : Nat) (l : List Int), (∀ x : Nat, x < n → (x : Int) ∈ l) → l.Nodup → n ≤ l.length
  | 0, l, _, _ => Nat.zero_le _
  | n + 1, l, h, hn => by
    have hm := h n (by omega)
    have := nodup_ge n (l.erase n) (fun x hx => by
      rw [hn.mem_erase_iff]
      exact ⟨by omega, h x (by omega)⟩) (hn.erase _)
    rw [List.length_erase_of_mem hm] at this
    have : 0 < l.length := List.length_pos_of_mem hm
    omega

theorem pre_all {L : List Nd} {r : Int} (g : Good L r) : ∀ (n x : Nat), x < L.length → L.length ≤ x + n → (x : Int) ∈ preN L (L.length - 1)
  | 0, x, hx, hn => by omega
  | n + 1, x, hx, hn => by
    have hpos := g.pos
    by_cases e : x = L.length - 1
    · rw [e]; exact pre_self
    · obtain ⟨nd, hnd, hk⟩ := List.mem_flatMap.1 (g.all x (by omega))
      obtain ⟨p, hp⟩ := List.mem_iff_getElem?.1 hnd
      have hpl : p < L.length := (List.getElem?_eq_some_iff.1 hp).1
      have e2 : getN L p = nd := by
        have := getN_get hpl
        rw [hp] at this
        exact (Option.some.inj this).symm
      have h3 := (g.kids p nd hp x hk).2
      exact pre_closed g _ (L.length - 1) (Nat.lt_succ_self _) (by omega) p (pre_all g n p hpl (by omega)) x (by rw [e2]; exact hk)

theorem pre_len_le {L : List Nd} {r : Int} (g : Good L r) {i : Nat} (hi : i < L.length) : (preN L i).length ≤ L.length :=
  nodup_le _ _ (pre_nodup g _ i (Nat.lt_succ_self _) hi) fun x hx => by
    have := pre_le g _ i (Nat.lt_succ_self _) hi x hx
    omega
/-- the whole is all -/
theorem pre_len {L : List Nd} {r : Int} (g : Good L r) : (preN L (L.length - 1)).length = L.length := by
  have hpos := g.pos
  have h1 := pre_len_le g (i := L.length - 1) (by omega)
  have h2 := nodup_ge L.length (preN L (L.length - 1)) (fun x hx => pre_all g L.length x hx (by omega)) (pre_nodup g _ _ (Nat.lt_succ_self _) (by omega))
  omega
end
end Go.Sx.Tryd
namespace Go.Sx.Tryd
open Go Go.Sx Go.Proofs
set_option maxRecDepth 100000
def FinW (j : Nat) (st : St) (o : R0) : Prop := ∃ fuel, pieces (R := R0) E (tabI lib1) fi19 cut19 0 .ok fuel j st = .ok o
abbrev outL (l : List Int) : R0 := (.ret (.own 0 0), [.list 3 (.int .i64) 0 false l])

theorem take_last (K : List Int) (m : Nat) (h : m < K.length) : K.take (m + 1) = K.take m ++ [getI K m] := by
  rw [List.take_add_one, List.getElem?_eq_getElem h]
  simp [getI, List.getD, h]

theorem finW_b {L : List Nd} {r : Int} {o : List Int} {i : Nat} {w : R0} (hi : i < L.length) (hL : L.length ≤ 1000) (hkid : ∀ k ∈ nKids (getN L i), 0 ≤ k ∧ k < (i : Int)) : ∀ (m : Nat) (t : List Int), m ≤ (nKids (getN L i)).length → (nKids (getN L i)).length ≤ 1000 → t.length + m ≤ 10000 →
    FinW 0 (mk19a L r o (t ++ ((nKids (getN L i)).take m).reverse)) w → FinW 1 (mk19b L r o t i ((m : Int) - 1)) w
  | 0, t, _, _, _, ⟨fuel, h⟩ => by
    refine ⟨fuel + 1, (loop19b (pieces (R := R0) E (tabI lib1) fi19 cut19 0 .ok fuel) L r o t i (((0 : Nat) : Int) - 1)).trans ?_⟩
    have h1 : decide ((((0 : Nat) : Int) - 1) ≥ 0) = false := rfl
    rw [h1]
    simp only [List.take_zero, List.reverse_nil, List.append_nil] at h
    exact h
  | m + 1, t, hm, hK, ht, h => by
    rw [take_last _ _ (by omega), List.reverse_append, List.reverse_singleton, List.singleton_append] at h
    obtain ⟨fuel, ih⟩ := finW_b hi hL hkid m (t ++ [getI (nKids (getN L i)) m]) (by omega) hK (by simp; omega) (by simpa using h)
    refine ⟨fuel + 1, (loop19b (pieces (R := R0) E (tabI lib1) fi19 cut19 0 .ok fuel) L r o t i (((m + 1 : Nat) : Int) - 1)).trans ?_⟩
    have e0 : (((m + 1 : Nat) : Int) - 1) = (m : Int) := by omega
    have h1 : decide ((m : Int) ≥ 0) = true := decide_eq_true (by omega)
    have h2 : inI (i : Int) L.length = true := inI_of (by omega) (by omega)
    have h3 : inI (m : Int) (nKids (getN L i)).length = true := inI_of (by omega) (by omega)
    have h4 : IntKind.wrap .i64 ((m : Int) - 1) = (m : Int) - 1 := wrap64 (by omega) (by omega)
    have hlt : getI (nKids (getN L i)) m < (i : Int) := by
      refine (hkid _ ?_).2
      rw [getI, List.getD, List.getElem?_eq_getElem (show m < _ by omega)]
      exact List.getElem_mem _
    have h6 : List.length t + 1 < maxRoom := by simp only [maxRoom]; omega
    simp only [e0, h1, h2, Int.toNat_natCast, h3, h4, hlt, List.length_cons, List.length_nil, Nat.zero_add, h6, decide_true, cond_true]
    exact ih

/-- what is still to be met -/
def rest (L : List Nd) (t : List Int) : List Int := t.reverse.flatMap fun k => preN L k.toNat
theorem rest_len {L : List Nd} : ∀ (t : List Int), t.length ≤ (rest L t).length
  | t => by
    unfold rest
    have : ∀ l : List Int, l.length ≤ (l.flatMap fun k => preN L k.toNat).length := by
      intro l
      induction l with
      | nil => simp
      | cons a l ih =>
        rw [List.flatMap_cons, List.length_append, List.length_cons]
        have : 1 ≤ (preN L a.toNat).length := by simp [preN, preF]
        omega
    have := this t.reverse
    rwa [List.length_reverse] at this

theorem finW_a {L : List Nd} {r : Int} (g : Good L r) (hL : L.length ≤ 1000) (hK : ∀ i : Nat, i < L.length → (nKids (getN L i)).length ≤ 1000) : ∀ (n : Nat) (o t : List Int), (rest L t).length ≤ n → o.length + (rest L t).length ≤ 1000 → (∀ k ∈ t, 0 ≤ k ∧ k < (L.length : Int)) → FinW 0 (mk19a L r o t) (outL (o ++ rest L t)) := by
  intro n
  induction n with
  | zero =>
    intro o t hn hb hv
    have : t = [] := List.eq_nil_of_length_eq_zero (by have := rest_len (L := L) t; omega)
    subst this
    refine ⟨1, (loop19a (pieces (R := R0) E (tabI lib1) fi19 cut19 0 .ok 0) L r o []).trans ?_⟩
    simp [rest]
  | succ n ih =>
    intro o t hn hb hv
    rcases List.eq_nil_or_concat t with rfl | ⟨t0, k, rfl⟩
    · refine ⟨1, (loop19a (pieces (R := R0) E (tabI lib1) fi19 cut19 0 .ok 0) L r o []).trans ?_⟩
      simp [rest]
    · rw [List.concat_eq_append] at *
      obtain ⟨k0, k1⟩ := hv k (by simp)
      obtain ⟨i, rfl⟩ : ∃ i : Nat, k = (i : Int) := ⟨k.toNat, by omega⟩
      have hi : i < L.length := by omega
      have hkid : ∀ x ∈ nKids (getN L i), 0 ≤ x ∧ x < (i : Int) := fun x hx => ⟨(g.kid hi hx).1, (g.kid hi hx).2.1⟩
      have er : rest L (t0 ++ [(i : Int)]) = (i : Int) :: rest L (t0 ++ (nKids (getN L i)).reverse) := by
        simp only [rest, List.reverse_append, List.reverse_singleton, List.singleton_append, List.flatMap_cons, Int.toNat_natCast, List.reverse_reverse, List.flatMap_append]
        rw [preN_eq g hi, List.cons_append]
      have hrl := rest_len (L := L) (t0 ++ [(i : Int)])
      rw [List.length_append, List.length_singleton] at hrl
      rw [er] at hn hb hrl ⊢
      simp only [List.length_cons] at hn hb hrl
      have hrl2 := rest_len (L := L) (t0 ++ (nKids (getN L i)).reverse)
      have key := ih (o ++ [(i : Int)]) (t0 ++ (nKids (getN L i)).reverse) (by omega) (by simp; omega) (fun x hx => by
        rcases List.mem_append.1 hx with hx | hx
        · exact hv x (by simp [hx])
        · have := hkid x (by simpa using hx)
          omega)
      have key2 : FinW 1 (mk19b L r (o ++ [(i : Int)]) t0 i (((nKids (getN L i)).length : Int) - 1)) (outL ((o ++ [(i : Int)]) ++ rest L (t0 ++ (nKids (getN L i)).reverse))) :=
        finW_b hi hL hkid (nKids (getN L i)).length t0 (Nat.le_refl _) (hK i hi) (by have := hK i hi; omega) (by rw [List.take_length]; exact key)
      obtain ⟨fuel, hf⟩ := key2
      refine ⟨fuel + 1, (loop19a (pieces (R := R0) E (tabI lib1) fi19 cut19 0 .ok fuel) L r o (t0 ++ [(i : Int)])).trans ?_⟩
      have hlen : (((t0 ++ [(i : Int)]).length : Nat) : Int) = (t0.length : Int) + 1 := by simp
      have hw : IntKind.wrap .i64 ((t0.length : Int) + 1 - 1) = (t0.length : Int) := by rw [wrap64 (by omega) (by omega)]; omega
      have h1 : ((t0.length : Int) + 1 > 0) := by omega
      have h2 : inI (t0.length : Int) (t0 ++ [(i : Int)]).length = true := inI_of (by omega) (by rw [hlen]; omega)
      have h3 : inB 0 (t0.length : Int) (t0 ++ [(i : Int)]).length = true := by
        simp only [inB, Bool.and_eq_true, decide_eq_true_eq, hlen]
        omega
      have h4 : getI (t0 ++ [(i : Int)]) t0.length = (i : Int) := getI_app t0 i []
      have h5 : ¬ ((i : Int) < 0) := by omega
      have h6 : ¬ ((i : Int) ≥ (L.length : Int)) := by omega
      have h7 : ¬ ((o.length : Int) ≥ 16384) := by omega
      have h8 : List.length o + 1 < maxRoom := by simp only [maxRoom]; omega
      have h9 : inI (i : Int) L.length = true := inI_of (by omega) (by omega)
      have h10 : List.take t0.length (t0 ++ [(i : Int)]) = t0 := by simp
      have h11 : IntKind.wrap .i64 (((nKids (getN L i)).length : Int) - 1) = ((nKids (getN L i)).length : Int) - 1 := by
        have := hK i hi
        exact wrap64 (by omega) (by omega)
      simp only [hlen, hw, h1, h2, h3, Int.toNat_natCast, h4, h5, h6, h7, List.length_cons, List.length_nil, Nat.zero_add, h8, h9, h10, h11, decide_true, decide_false, cond_true, cond_false]
      rw [show o ++ (i : Int) :: rest L (t0 ++ (nKids (getN L i)).reverse) = (o ++ [(i : Int)]) ++ rest L (t0 ++ (nKids (getN L i)).reverse) by simp]
      have e : mk19b L r (o ++ [(i : Int)]) t0 i (((nKids (getN L i)).length : Int) - 1) = mk19b L r (o ++ [(i : Int)]) (List.take t0.length (t0 ++ [(i : Int)])) i (((nKids (getN L i)).length : Int) - 1) := by rw [h10]
      rw [e] at hf
      exact hf

/-- what Walk answers of a tree that may be -/
def walkS (L : List Nd) (a : Int) : List Int := bif inI a L.length then preN L a.toNat else []
abbrev sigTI : Sig := [(true, treeTy), (false, .int .i64)]
abbrev sigL : Sig := [(false, .slice (.int .i64))]
def okTI (x : Dens sigTI) : Bool := midS x.1.1 && checkS x.1.1 x.1.2.1 == 0
def walkX (x : Dens sigTI) : Dens sigL := (walkS x.1.1 x.2.1, ())

theorem midS_kids {L : List Nd} (h : midS L = true) : L.length ≤ 1000 ∧ ∀ i : Nat, i < L.length → (nKids (getN L i)).length ≤ 1000 := by
  simp only [midS, Bool.and_eq_true, decide_eq_true_eq] at h
  refine ⟨h.1, fun i hi => ?_⟩
  have := List.all_eq_true.1 h.2 _ (List.mem_of_getElem? (getN_get hi))
  simp only [smallN, Bool.and_eq_true, decide_eq_true_eq] at this
  omega

theorem walk_start (L : List Nd) (r a : Int) (h : okTI ((L, r, ()), a, ()) = true) : ∃ fuel, start (R := R0) E (tabI lib1) fi19 cut19 (pieces (R := R0) E (tabI lib1) fi19 cut19 0 .ok fuel) [.agg (trC L r), .int .i64 a] [] .ok = .ok (outL (walkS L a)) := by
  simp only [okTI, Bool.and_eq_true, beq_iff_eq] at h
  obtain ⟨hs, hc⟩ := h
  have g := good_of hc
  obtain ⟨hL, hK⟩ := midS_kids hs
  unfold walkS
  cases e : inI a L.length
  · refine ⟨2, ?_⟩
    rw [start19]
    refine (loop19a (pieces (R := R0) E (tabI lib1) fi19 cut19 0 .ok 1) L r [] [a]).trans ?_
    have h1 : IntKind.wrap .i64 ((([a] : List Int).length : Int) - 1) = 0 := rfl
    have h2 : getI [a] (Int.toNat 0) = a := rfl
    have h3 : inI 0 ([a] : List Int).length = true := rfl
    have h4 : inB 0 0 ([a] : List Int).length = true := rfl
    have h5 : decide ((([a] : List Int).length : Int) > 0) = true := rfl
    have fin : pieces (R := R0) E (tabI lib1) fi19 cut19 0 .ok 1 0 (mk19a L r [] []) = .ok (outL []) := loop19a (pieces (R := R0) E (tabI lib1) fi19 cut19 0 .ok 0) L r [] []
    rw [h5, h1, h2, h3, h4]
    simp only [cond_true]
    by_cases n1 : a < 0
    · simp only [n1, decide_true, cond_true]
      exact fin
    · have n2 : a ≥ (L.length : Int) := by
        simp only [inI, Bool.and_eq_false_iff, decide_eq_false_iff_not] at e
        omega
      simp only [n1, n2, decide_true, decide_false, cond_true, cond_false]
      exact fin
  · simp only [inI, Bool.and_eq_true, decide_eq_true_eq] at e
    have hr : rest L [a] = preN L a.toNat := by simp [rest]
    have hlen := pre_len_le g (i := a.toNat) (by omega)
    obtain ⟨fuel, hf⟩ := finW_a g hL hK L.length [] [a] (by rw [hr]; exact hlen) (by rw [hr]; simp; omega) (fun k hk => by simp at hk; omega)
    refine ⟨fuel, ?_⟩
    rw [start19]
    rw [hr, List.nil_append] at hf
    exact hf

theorem walk_SA {w0 : World} (t : TabsAt w0) (x : Dens sigTI) (h : okTI x = true) : SAD Tryd.prog (GW w0) 19 sigTI sigL x (walkX x) := by
  obtain ⟨⟨L, r, ⟨⟩⟩, a, ⟨⟩⟩ := x
  obtain ⟨fuel, hf⟩ := walk_start L r a h
  exact SA.data (start_ok (envOK []) (lib1_K t) fc19 (.inl gen0_nil) hf) (y := walkX ((L, r, ()), a, ())) (m := [0]) rfl
end Go.Sx.Tryd
namespace Go.Sx.Tryd
open Go Go.Sx
set_option maxRecDepth 100000
def okW (N : Int) (x : Dens sigTI) : Bool := okTI x && (inI x.2.1 x.1.1.length && decide ((show Int from x.2.1) < N))
noncomputable def libW (N : Int) : List (Nat × Intr) := [(20, specI 20 sigTI sigL (okW N) walkX)]
def cut20 : List Cut := [⟨[true, true, false, true, false, false], some ⟨[(1, []), (2, []), (5, ownI), (6, [])], [[], []]⟩⟩]
def mk20 (L : List Nd) (r a : Int) (o : List Int) (k : Int) : St := { tmps := [(1, .int .i64 a), (2, .ref 0 0), (5, .own 1 0), (6, .int .i64 k)], blks := [(0, .cells 24 (trC L r)), (1, .list 3 (.int .i64) 0 false o)], next := 2 }
noncomputable def libF : List (Nat × Intr) := [(10, oneI 10 (fun l => l.isEmpty) (.ret (.bool true), [])), (11, specI 11 sigTr sigB (fun _ => true) smallX2), (12, specI 12 sigTr sigI smallTr checkX), (19, specI 19 sigTI sigL okTI walkX), (20, specI 20 sigTI sigL (okW 1000000) walkX)]
def cut5 : List Cut := [⟨[true, true, true, true, true, true, true, false, true, false, false], some ⟨[(1, []), (2, []), (5, [.sl (.int .i64)]), (6, [.sl (.int .i64)]), (42, []), (43, [])], [[]]⟩⟩]
def mk5 (L : List Nd) (r a : Int) (l w : List Int) (n i : Int) : St := { tmps := [(1, .int .i64 a), (2, .ref 0 0), (5, .sl (.int .i64) l), (6, .sl (.int .i64) w), (42, .int .i64 n), (43, .int .i64 i)], blks := [(0, .cells 24 (trC L r))], next := 1 }
end Go.Sx.Tryd
namespace Go.Sx.Tryd
open Go Go.Sx
set_option maxRecDepth 100000
theorem start20 (J : Jump R0) (N : Int) (L : List Nd) (r a : Int) : start E (tabI (libW N)) fi20 cut20 J [.agg (trC L r), .int .i64 a] [] .ok =
    J 0
    { tmps := [(1, AV.int IntKind.i64 a), (2, AV.ref 0 0), (5, AV.own 1 0), (6, AV.int IntKind.i64 0)],
      blks := [(0, Blk.cells 24 [AV.sl nodeTy L, AV.int IntKind.i64 r]), (1, Blk.list 3 (Ty.int IntKind.i64) 0 false [a])], next := 2 } := by kernel_rfl
theorem loop20 (J : Jump R0) (N : Int) (L : List Nd) (r a : Int) (o : List Int) (k : Int) : resume E (tabI (libW N)) (cutsOf 0 cut20 0) J [true, true, false, true, false, false] fi20.code 1 (mk20 L r a o k) (finK E 0 fi20.results .ok) =
    bif inI a (List.length L) then
    bif decide (k < (↑(List.length (nKids (getN L (Int.toNat a)))) : Int)) then
      bif inI a (List.length L) then
        bif inI k (List.length (nKids (getN L (Int.toNat a)))) then
          bif okW N ((L, r, ()), getI (nKids (getN L (Int.toNat a))) (Int.toNat k), ()) then
            bif decide (List.length o + List.length (walkS L (getI (nKids (getN L (Int.toNat a))) (Int.toNat k))) < maxRoom) then
              J 0
                { tmps := [(1, AV.int IntKind.i64 a), (2, AV.ref 0 0), (5, AV.own 1 0), (6, AV.int IntKind.i64 (IntKind.wrap IntKind.i64 (k + 1)))],
                  blks :=
                    [(0, Blk.cells 24 [AV.sl nodeTy L, AV.int IntKind.i64 r]),
                      (1, Blk.list 3 (Ty.int IntKind.i64) 0 false (o ++ walkS L (getI (nKids (getN L (Int.toNat a))) (Int.toNat k))))],
                  next := 2 }
            else Rs.err 512
          else Rs.err 3000020
        else Rs.err 509
      else Rs.err 505
    else Rs.ok (Out.ret (AV.own 0 0), [Blk.list 3 (Ty.int IntKind.i64) 0 false o])
  else Rs.err 304 := by kernel_rfl
theorem start5 (J : Jump R0) (L : List Nd) (r a : Int) : start E (tabI libF) fi5 cut5 J [.agg (trC L r), .int .i64 a] [] .ok =
    bif !smallS L then Rs.ok (Out.ret (AV.bool true), [])
  else
    bif smallTr ((L, r, ()), ()) then
      bif checkS L r != 0 then Rs.ok (Out.ret (AV.bool true), [])
      else
        bif okTI ((L, r, ()), a, ()) then
          bif decide (a < 0) then Rs.ok (Out.ret (AV.bool ((↑(List.length (walkS L a)) : Int) == 0)), [])
          else
            bif decide (a ≥ (↑(List.length L) : Int)) then Rs.ok (Out.ret (AV.bool ((↑(List.length (walkS L a)) : Int) == 0)), [])
            else
              bif okW 1000000 ((L, r, ()), a, ()) then
                bif (↑(List.length (walkS L a)) : Int) != (↑(List.length (walkS L a)) : Int) then Rs.ok (Out.ret (AV.bool false), [])
                else
                  J 0
                    {
                      tmps :=
                        [(1, AV.int IntKind.i64 a), (2, AV.ref 0 0), (5, AV.sl (Ty.int IntKind.i64) (walkS L a)), (6, AV.sl (Ty.int IntKind.i64) (walkS L a)),
                          (42, AV.int IntKind.i64 (↑(List.length (walkS L a)) : Int)), (43, AV.int IntKind.i64 0)],
                      blks := [(0, Blk.cells 24 [AV.sl nodeTy L, AV.int IntKind.i64 r])], next := 1 }
              else Rs.err 3000020
        else Rs.err 3000019
    else Rs.err 3000012 := by kernel_rfl
theorem loop5 (J : Jump R0) (L : List Nd) (r a : Int) (l w : List Int) (n i : Int) : resume E (tabI libF) (cutsOf 0 cut5 0) J [true, true, true, true, true, true, true, false, true, false, false] fi5.code 1 (mk5 L r a l w n i) (finK E 0 fi5.results .ok) =
    bif decide (i < n) then
    bif inI i (List.length l) then
      bif inI i (List.length w) then
        bif getI l (Int.toNat i) != getI w (Int.toNat i) then Rs.ok (Out.ret (AV.bool false), [])
        else
          J 0
            {
              tmps :=
                [(1, AV.int IntKind.i64 a), (2, AV.ref 0 0), (5, AV.sl (Ty.int IntKind.i64) l), (6, AV.sl (Ty.int IntKind.i64) w), (42, AV.int IntKind.i64 n),
                  (43, AV.int IntKind.i64 (IntKind.wrap IntKind.i64 (i + 1)))],
              blks := [(0, Blk.cells 24 [AV.sl nodeTy L, AV.int IntKind.i64 r])], next := 1 }
      else Rs.err 1406
    else Rs.err 1402
  else bif a != r then Rs.ok (Out.ret (AV.bool true), []) else Rs.ok (Out.ret (AV.bool ((↑(List.length l) : Int) == (↑(List.length L) : Int))), []) := by kernel_rfl
end Go.Sx.Tryd
namespace Go.Sx.Tryd
open Go Go.Sx Go.Proofs
set_option maxRecDepth 100000
def FinR (N : Int) (st : St) (o : R0) : Prop := ∃ fuel, pieces (R := R0) E (tabI (libW N)) fi20 cut20 0 .ok fuel 0 st = .ok o

theorem walkS_in {L : List Nd} {i : Nat} (hi : i < L.length) : walkS L i = preN L i := by
  unfold walkS
  rw [inI_of (by omega) (by omega)]
  rfl

def okLR (L : List Nd) (r : Int) : Bool := midS L && checkS L r == 0
theorem okTI_eq (L : List Nd) (r z : Int) : okTI ((L, r, ()), z, ()) = okLR L r := rfl
theorem okW_eq (N : Int) (L : List Nd) (r z : Int) : okW N ((L, r, ()), z, ()) = (okLR L r && (inI z L.length && decide (z < N))) := rfl

theorem finR {L : List Nd} {r : Int} {N : Int} (g : Good L r) (hok : okLR L r = true) {i : Nat} (hi : i < L.length) (hN : (i : Int) ≤ N) (hK : (nKids (getN L i)).length ≤ 1000) : ∀ (ks pre o : List Int), nKids (getN L i) = pre ++ ks → o.length + (ks.flatMap fun k => preN L k.toNat).length ≤ 1000 →
    FinR N (mk20 L r i o pre.length) (outL (o ++ ks.flatMap fun k => preN L k.toNat))
  | [], pre, o, hp, hb => by
    refine ⟨1, (loop20 (pieces (R := R0) E (tabI (libW N)) fi20 cut20 0 .ok 0) N L r i o pre.length).trans ?_⟩
    have h2 : inI (i : Int) L.length = true := inI_of (by omega) (by omega)
    have h1 : ¬ ((pre.length : Int) < (nKids (getN L i)).length) := by rw [hp, List.append_nil]; omega
    simp only [h2, Int.toNat_natCast, h1, decide_false, cond_true, cond_false, List.flatMap_nil, List.append_nil]
  | k :: ks, pre, o, hp, hb => by
    have hlen : pre.length + 1 + ks.length = (nKids (getN L i)).length := by rw [hp]; simp; omega
    obtain ⟨k0, k1, k2⟩ := g.kid hi (k := k) (by rw [hp]; simp)
    have hw : walkS L k = preN L k.toNat := by
      have := walkS_in (L := L) (i := k.toNat) (by omega)
      rwa [Int.toNat_of_nonneg k0] at this
    have h5 : (((pre ++ [k]).length : Nat) : Int) = (pre.length : Int) + 1 := by simp
    rw [List.flatMap_cons, List.length_append] at hb
    obtain ⟨fuel, ih⟩ := finR g hok hi hN hK ks (pre ++ [k]) (o ++ preN L k.toNat) (by simp [hp]) (by rw [List.length_append]; omega)
    refine ⟨fuel + 1, (loop20 (pieces (R := R0) E (tabI (libW N)) fi20 cut20 0 .ok fuel) N L r i o pre.length).trans ?_⟩
    have h1 : (pre.length : Int) < (nKids (getN L i)).length := by omega
    have h2 : inI (i : Int) L.length = true := inI_of (by omega) (by omega)
    have h3 : inI (pre.length : Int) (nKids (getN L i)).length = true := by rw [hp]; exact inI_appI _ _ _
    have h4 : getI (nKids (getN L i)) pre.length = k := by rw [hp]; exact getI_app _ _ _
    have h6 : IntKind.wrap .i64 ((pre.length : Int) + 1) = (pre.length : Int) + 1 := wrap64 (by omega) (by omega)
    have h7 : okW N ((L, r, ()), k, ()) = true := by
      have h8 : inI k L.length = true := inI_of k0 (by omega)
      have h9 : decide (k < N) = true := decide_eq_true (by omega)
      rw [okW_eq, hok, h8, h9]
      rfl
    have h10 : o.length + (preN L k.toNat).length < maxRoom := by simp only [maxRoom]; omega
    simp only [h1, h2, h3, h4, h6, h7, hw, h10, Int.toNat_natCast, decide_true, cond_true]
    rw [h5] at ih
    rw [List.flatMap_cons, ← List.append_assoc]
    exact ih

theorem rwalk_step {w0 : World} (N : Nat) (ih : ∀ x : Dens sigTI, okW N x = true → SAD Tryd.prog (GW w0) 20 sigTI sigL x (walkX x)) (L : List Nd) (r a : Int) (h : (okLR L r && (inI a L.length && decide (a < ((N + 1 : Nat) : Int)))) = true) :
    SA Tryd.prog (GW w0) 20 [.agg (trC L r), .int .i64 a] [] (outL (walkS L a)) := by
  simp only [Bool.and_eq_true, decide_eq_true_eq] at h
  obtain ⟨hok, hin, hN⟩ := h
  have hin' := hin
  simp only [inI, Bool.and_eq_true, decide_eq_true_eq] at hin'
  have hok' := hok
  simp only [okLR, Bool.and_eq_true, beq_iff_eq] at hok'
  have g := good_of hok'.2
  obtain ⟨hL, hK⟩ := midS_kids hok'.1
  obtain ⟨i, rfl⟩ : ∃ i : Nat, a = (i : Int) := ⟨a.toNat, by omega⟩
  have hi : i < L.length := by omega
  have hlen := pre_len_le g hi
  have e := preN_eq g hi
  have hlen2 : ((nKids (getN L i)).flatMap fun k => preN L k.toNat).length + 1 ≤ 1000 := by
    rw [e, List.length_cons] at hlen
    omega
  obtain ⟨fuel, hf⟩ := finR (N := N) g hok hi (by omega) (hK i hi) (nKids (getN L i)) [] [(i : Int)] rfl (by simp only [List.length_singleton]; omega)
  have hs : start (R := R0) E (tabI (libW N)) fi20 cut20 (pieces (R := R0) E (tabI (libW N)) fi20 cut20 0 .ok fuel) [.agg (trC L r), .int .i64 i] [] .ok = .ok (outL (walkS L i)) := by
    refine (start20 _ N L r i).trans ?_
    rw [walkS_in hi, e]
    exact hf
  have hlib : IChk Tryd.prog (GW w0) (libW N) := .cons (specI_ok fun y hy => ih y hy) .nil
  exact start_ok (envOK []) (tabI_ok hlib) fc20 (.inl gen0_nil) hs

theorem rwalk_SA {w0 : World} : ∀ (N : Nat) (x : Dens sigTI), okW N x = true → SAD Tryd.prog (GW w0) 20 sigTI sigL x (walkX x)
  | 0, ⟨⟨L, r, ⟨⟩⟩, a, ⟨⟩⟩, h => by
    exfalso
    have key : ∀ (L : List Nd) (r a : Int), (okLR L r && (inI a L.length && decide (a < ((0 : Nat) : Int)))) = true → False := fun L r a h => by
      simp only [inI, Bool.and_eq_true, decide_eq_true_eq] at h
      omega
    exact key L r a h
  | N + 1, ⟨⟨L, r, ⟨⟩⟩, a, ⟨⟩⟩, h => SA.data (rwalk_step N (rwalk_SA N) L r a h) (y := walkX ((L, r, ()), a, ())) (m := [0]) rfl

theorem libF_ok {w0 : World} (t : TabsAt w0) : IChk Tryd.prog (GW w0) libF := by
  refine .cons (oneI_ok fun args h => ?_) (.cons (specI_ok fun x _ => small_SA t x) (.cons (specI_ok fun x h => check_SA t x h) (.cons (specI_ok fun x h => walk_SA t x h) (.cons (specI_ok fun x h => rwalk_SA 1000000 x h) .nil))))
  cases args with
  | nil => exact grows_SA t
  | cons a r => cases h

theorem loop5_run {L : List Nd} {r a : Int} {l : List Int} (hl : l.length ≤ 1000) (hlast : a = r → l.length = L.length) : ∀ (ks pre : List Int) (fuel : Nat), l = pre ++ ks → ks.length < fuel →
    pieces (R := R0) E (tabI libF) fi5 cut5 0 .ok fuel 0 (mk5 L r a l l l.length pre.length) = .ok (outB true)
  | ks, pre, 0, _, hf => by omega
  | [], pre, fuel + 1, hp, _ => by
    refine (loop5 (pieces (R := R0) E (tabI libF) fi5 cut5 0 .ok fuel) L r a l l l.length pre.length).trans ?_
    have h1 : ¬ ((pre.length : Int) < l.length) := by rw [hp, List.append_nil]; omega
    simp only [h1, decide_false, cond_false]
    cases e : (a != r)
    · have e : a = r := by simpa using e
      rw [hlast e]
      simp only [cond_false, beq_self_eq_true]
    · rfl
  | k :: ks, pre, fuel + 1, hp, hf => by
    have ih := loop5_run (L := L) hl hlast ks (pre ++ [k]) fuel (by simp [hp]) (by simpa using hf)
    refine (loop5 (pieces (R := R0) E (tabI libF) fi5 cut5 0 .ok fuel) L r a l l l.length pre.length).trans ?_
    have hlen : pre.length + 1 + ks.length = l.length := by rw [hp]; simp; omega
    have h1 : (pre.length : Int) < l.length := by omega
    have h2 : inI (pre.length : Int) l.length = true := by rw [hp]; exact inI_appI _ _ _
    have h4 : IntKind.wrap .i64 ((pre.length : Int) + 1) = (pre.length : Int) + 1 := wrap64 (by omega) (by omega)
    have h5 : (((pre ++ [k]).length : Nat) : Int) = (pre.length : Int) + 1 := by simp
    rw [h5] at ih
    simp only [h1, h2, h4, bne_self_eq_false, decide_true, cond_true, cond_false]
    exact ih

theorem law5_start (L : List Nd) (r a : Int) : ∃ fuel, start (R := R0) E (tabI libF) fi5 cut5 (pieces (R := R0) E (tabI libF) fi5 cut5 0 .ok fuel) [.agg (trC L r), .int .i64 a] [] .ok = .ok (outB true) := by
  cases hs : smallS L
  · exact ⟨0, by rw [start5, hs]; rfl⟩
  have h1 : smallTr ((L, r, ()), ()) = true := mid_of hs
  cases hc : (checkS L r != 0)
  · have hc0 : checkS L r = 0 := by simpa using hc
    have h2 : ∀ z : Int, okTI ((L, r, ()), z, ()) = true := fun z => by
      show (midS L && checkS L r == 0) = true
      rw [mid_of hs, hc0]; rfl
    have g := good_of hc0
    obtain ⟨hL, hK⟩ := midS_kids (mid_of hs)
    by_cases n1 : a < 0
    · have h3 : walkS L a = [] := by
        unfold walkS
        have : inI a L.length = false := by simp only [inI, Bool.and_eq_false_iff, decide_eq_false_iff_not]; omega
        rw [this]; rfl
      refine ⟨0, ?_⟩
      rw [start5, hs, h1, hc, h2 a, h3]
      simp only [n1, decide_true, Bool.not_true, cond_true, cond_false]
      rfl
    · by_cases n2 : a ≥ (L.length : Int)
      · have h3 : walkS L a = [] := by
          unfold walkS
          have : inI a L.length = false := by simp only [inI, Bool.and_eq_false_iff, decide_eq_false_iff_not]; omega
          rw [this]; rfl
        refine ⟨0, ?_⟩
        rw [start5, hs, h1, hc, h2 a, h3]
        simp only [n1, n2, decide_true, decide_false, Bool.not_true, cond_true, cond_false]
        rfl
      · have h3 : okW 1000000 ((L, r, ()), a, ()) = true := by
          have h8 : inI a L.length = true := inI_of (by omega) (by omega)
          have h9 : decide (a < 1000000) = true := decide_eq_true (by omega)
          rw [okW_eq, ← okTI_eq L r a, h2 a, h8, h9]
          rfl
        obtain ⟨i, rfl⟩ : ∃ i : Nat, a = (i : Int) := ⟨a.toNat, by omega⟩
        have hi : i < L.length := by omega
        have hw := walkS_in hi
        have hlen := pre_len_le g hi
        refine ⟨2000, ?_⟩
        rw [start5, hs, h1, hc, h2 _, h3]
        simp only [n1, n2, bne_self_eq_false, decide_false, Bool.not_true, cond_true, cond_false]
        exact loop5_run (L := L) (r := r) (a := (i : Int)) (l := walkS L i) (by rw [hw]; omega) (fun e => by
          rw [hw]
          have hr := g.root
          have : i = L.length - 1 := by omega
          rw [this]
          exact pre_len g) (walkS L i) [] 2000 rfl (by rw [hw]; omega)
  · exact ⟨0, by rw [start5, hs, h1, hc]; rfl⟩

theorem law5_SA {w0 : World} (tb : TabsAt w0) (L : List Nd) (r a : Int) : SA Tryd.prog (GW w0) 5 [.agg (trC L r), .int .i64 a] [] (outB true) := by
  obtain ⟨fuel, h⟩ := law5_start L r a
  exact start_ok (envOK []) (tabI_ok (libF_ok tb)) fc5 (.inl gen0_nil) h
end Go.Sx.Tryd
