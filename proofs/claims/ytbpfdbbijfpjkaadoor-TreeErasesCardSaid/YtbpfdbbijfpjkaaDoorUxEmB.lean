/- A part of the proof: see the row's text. -/
import Derived.Test.YtbpfdbbijfpjkaaDoorUxEmA
import Derived.Test.YtbpfdbbijfpjkaaDoorUxErB
set_option linter.unusedVariables false
set_option linter.unusedSimpArgs false
namespace Go.Sx.Tryd
open Go Go.Sx Go.Proofs
set_option maxRecDepth 100000
theorem lib1_nt : INtL lib1 := .cons ofT_nt (.cons ofT_nt (.cons ofT_nt (.cons ofT_nt (.cons ofT_nt (.cons ofT_nt (.cons ofT_nt .nil))))))
theorem lib47_ok {w0 : World} (t : TabsAt w0) {N : Int} (h : IntrOne Tryd.prog (GW w0) 47 (erC N)) : IChk Tryd.prog (GW w0) (lib47 N) := by
  refine .cons (shiftI_ok h) (.cons (inlI_ok (envOK []) lib1_nt (lib1_ok t) fc28) (.cons ?_ .nil))
  exact ofT_ok (repeatD_ok fc55 fun w s c hc hlen => Any.strings_Repeat Tryd.lays105 Tryd.Builder_Extra_105 s c w hc hlen) repeatT_D
theorem gen0_bsE (A : List Nd) (t : Int) : Gen0 (bsE A t) := fun ee tt gg sh l hm => by
  simp only [bsE, List.mem_cons, List.not_mem_nil, or_false, reduceCtorEq, false_or] at hm
  cases hm
  rfl
theorem erase_SA {w0 : World} (tb : TabsAt w0) {N : Int} (ih : IntrOne Tryd.prog (GW w0) 47 (erC N)) (L : List Nd) (r a : Int) (A : List Nd) (t : Int) (h : okE (N + 1) L r a A = true) :
    SA Tryd.prog (GW w0) 47 [.ref 0 0, .agg (trC L r), .int .i64 a] (bsE A t) (.ret (.int .i64 (topE L a A)), bsE1 (appN A (erS L a A.length)) t) := by
  obtain ⟨g, fuel, hf⟩ := erase_fin (t := t) h
  have h1 := start_ok (envOK []) (tabI_ok (lib47_ok tb ih)) fc47 (.inl (gen0_bsE A t)) hf
  refine SA.bump (q := fun _ => 1) h1 (gen0_bsE A t) (fun _ _ => Nat.le_refl _) rfl ?_ rfl
  simp [gBs, gB, mapO, gA, withIds, getB, bsE1, appN]
theorem erC_of {w0 : World} {N : Int} (h : ∀ (L : List Nd) (r a : Int) (A : List Nd) (t : Int), okE N L r a A = true → SA Tryd.prog (GW w0) 47 [.ref 0 0, .agg (trC L r), .int .i64 a] (bsE A t) (.ret (.int .i64 (topE L a A)), bsE1 (appN A (erS L a A.length)) t)) : IntrOne Tryd.prog (GW w0) 47 (erC N) := fun R args bs k r hr => by
  unfold erC at hr
  split at hr
  · split at hr
    · rename_i L' A' hc hc2
      split at hr
      · rename_i hd
        obtain ⟨e, hL⟩ := castL_ty hc
        subst e
        subst hL
        obtain ⟨e, hA⟩ := castL_ty hc2
        subst e
        subst hA
        exact ⟨_, hr, h _ _ _ _ _ hd⟩
      · cases hr
    · cases hr
  · cases hr
theorem okE_zero {L : List Nd} {r a : Int} {A : List Nd} (h : okE ((0 : Nat) : Int) L r a A = true) : False := by
  rw [okE_eq] at h
  simp only [Bool.and_eq_true, decide_eq_true_eq, inI] at h
  omega
theorem erC_ok {w0 : World} (tb : TabsAt w0) : ∀ N : Nat, IntrOne Tryd.prog (GW w0) 47 (erC N)
  | 0 => erC_of fun L r a A t h => (okE_zero h).elim
  | N + 1 => erC_of fun L r a A t h => erase_SA tb (erC_ok tb N) L r a A t h

/-! Clone, Tree, Erase -/
def cloneN (x : Nd) : Bool := decide ((nKids x).length ≤ 17592186044416) && decide ((nEnds x).length ≤ 17592186044416)
def okClone (x : Dens sigTr) : Bool := decide (x.1.1.length ≤ 20000) && x.1.1.all cloneN
def cloneX (x : Dens sigTr) : Dens sigTr := ((x.1.1, x.1.2.1, ()), ())
def cut30 : List Cut := [⟨[true, true, false, true, false, false], some ⟨[(2, []), (3, []), (10, [.sl nodeTy]), (11, []), (12, [])], [[], [.own 46 nodeTy]]⟩⟩]
def mk30 (L O : List Nd) (r l k : Int) : St := { tmps := [(2, .ref 0 0), (3, .ref 1 0), (10, .sl nodeTy L), (11, .int .i64 l), (12, .int .i64 k)], blks := [(0, .cells 24 [.nils, .int .i64 0]), (1, .cells 24 [.own 2 0, .int .i64 r]), (2, .list 46 nodeTy 0 false O)], next := 3 }
noncomputable def lib30 : List (Nat × Intr) := lib1
noncomputable def lib29 : List (Nat × Intr) := [(30, specI 30 sigTr sigTr okClone cloneX)]
noncomputable def lib21 : List (Nat × Intr) := [(13, specI 13 sigTr sigI smallTr checkX), (47, castI 47 [[.own 46 nodeTy]] (shiftI 47 (erC 1000000))), (29, inlI E lib29 fi29)]
/-! Marked -/
def noMarks (m : List UInt8) : Bool := Lib.trimB m 32 == []
def markN (x : Nd) : Bool := (decide (nKind x ≥ 40) && decide (nKind x ≤ 45)) || !noMarks (nMarks x)
def markS (L : List Nd) : List Int → Int × Bool
  | [] => (0, false)
  | k :: ks => bif markN (getN L k.toNat) then (k, true) else markS L ks
abbrev sigIB : Sig := [(false, .int .i64), (false, .bool)]
def mkdS (L : List Nd) (r : Int) : Int × Bool := markS L (walkS L r)
def markX (x : Dens sigTr) : Dens sigIB := ((mkdS x.1.1 x.1.2.1).1, (mkdS x.1.1 x.1.2.1).2, ())
def okMk (x : Dens sigTr) : Bool := midS x.1.1 && checkS x.1.1 x.1.2.1 == 0
def cut22 : List Cut := [⟨[true, false, true, false, false], some ⟨[(1, []), (10, [.sl (.int .i64)]), (11, []), (12, [])], [[]]⟩⟩]
def mk22 (L : List Nd) (r : Int) (W : List Int) (l k : Int) : St := { tmps := [(1, .ref 0 0), (10, .sl (.int .i64) W), (11, .int .i64 l), (12, .int .i64 k)], blks := [(0, .cells 24 (trC L r))], next := 1 }
noncomputable def lib22 : List (Nat × Intr) := [(19, specI 19 sigTI sigL okTI walkX), (26, specI 26 sigT sigB smallX plainX)]
end Go.Sx.Tryd
namespace Go.Sx.Tryd
open Go Go.Sx
set_option maxRecDepth 100000
theorem start30 (J : Jump R0) (L : List Nd) (r : Int) : start E (tabI lib30) fi30 cut30 J [.agg (trC L r)] [] .ok =
    J 0
    { tmps := [(2, AV.ref 0 0), (3, AV.ref 1 0), (10, AV.sl nodeTy L), (11, AV.int IntKind.i64 (↑(List.length L) : Int)), (12, AV.int IntKind.i64 0)],
      blks := [(0, Blk.cells 24 [AV.nils, AV.int IntKind.i64 0]), (1, Blk.cells 24 [AV.own 2 0, AV.int IntKind.i64 r]), (2, Blk.list 46 nodeTy 0 false [])], next := 3 } := by kernel_rfl
theorem loop30 (J : Jump R0) (L O : List Nd) (r l k : Int) : resume E (tabI lib30) (cutsOf 0 cut30 0) J [true, true, false, true, false, false] fi30.code 1 (mk30 L O r l k) (finK E 0 fi30.results .ok) =
    bif decide (k < l) then
    bif inI k (List.length L) then
      bif Nat.ble (List.length (nKids (getN L (Int.toNat k)))) 17592186044416 then
        bif Nat.ble (List.length (nEnds (getN L (Int.toNat k)))) 17592186044416 then
          bif
              decide
                (List.length O +
                    List.length
                      [(mkN (nKind (getN L (Int.toNat k))) (nAt (getN L (Int.toNat k))) (nTo (getN L (Int.toNat k))) (nKids (getN L (Int.toNat k))) (nText (getN L (Int.toNat k))) (nBase (getN L (Int.toNat k))) (nName (getN L (Int.toNat k))) (nDims (getN L (Int.toNat k))) (nMarks (getN L (Int.toNat k))) (nN (getN L (Int.toNat k))) (nW1 (getN L (Int.toNat k))) (nW2 (getN L (Int.toNat k))) (nEnds (getN L (Int.toNat k))))] <
                  maxRoom) then
            J 0
              { tmps := [(2, AV.ref 0 0), (3, AV.ref 1 0), (10, AV.sl nodeTy L), (11, AV.int IntKind.i64 l), (12, AV.int IntKind.i64 (IntKind.wrap IntKind.i64 (k + 1)))],
                blks :=
                  [(0, Blk.cells 24 [AV.nils, AV.int IntKind.i64 0]), (1, Blk.cells 24 [AV.own 2 0, AV.int IntKind.i64 r]),
                    (2,
                      Blk.list 46 nodeTy 0 false
                        (O ++
                          [(mkN (nKind (getN L (Int.toNat k))) (nAt (getN L (Int.toNat k))) (nTo (getN L (Int.toNat k))) (nKids (getN L (Int.toNat k))) (nText (getN L (Int.toNat k))) (nBase (getN L (Int.toNat k))) (nName (getN L (Int.toNat k))) (nDims (getN L (Int.toNat k))) (nMarks (getN L (Int.toNat k))) (nN (getN L (Int.toNat k))) (nW1 (getN L (Int.toNat k))) (nW2 (getN L (Int.toNat k))) (nEnds (getN L (Int.toNat k))))]))],
                next := 3 }
          else Rs.err 604
        else Rs.err 1000049
      else Rs.err 1000049
    else Rs.err 400
  else Rs.ok (Out.ret (AV.agg [AV.own 0 0, AV.int IntKind.i64 r]), [Blk.list 46 nodeTy 0 false O]) := by kernel_rfl
theorem body21 (L : List Nd) (r : Int) : body (R := R0) E (tabI lib21) fi21 [.agg (trC L r)] [] .ok =
    bif smallTr ((L, r, ()), ()) then
    bif checkS L r == 0 then
      bif okE 1000000 L r r [] then
        bif okClone ((appN [] (erS L r (List.length ([] : List Nd))), (0 : Int), ()), ()) then
          Rs.ok
            (Out.ret
                (AV.agg
                  [AV.sl nodeTy (appN [] (erS L r (List.length ([] : List Nd)))),
                    AV.int IntKind.i64 (IntKind.wrap IntKind.i64 ((↑(List.length (appN [] (erS L r (List.length ([] : List Nd))))) : Int) - 1))]),
              [])
        else Rs.err 3000030
      else Rs.err 47
    else Rs.ok (Out.ret (AV.agg [AV.sl nodeTy [], AV.int IntKind.i64 (Int.negSucc 0)]), [])
  else Rs.err 3000013 := by kernel_rfl
theorem start22 (J : Jump R0) (L : List Nd) (r : Int) : start E (tabI lib22) fi22 cut22 J [.agg (trC L r)] [] .ok =
    bif okTI ((L, r, ()), r, ()) then
    J 0
      { tmps := [(1, AV.ref 0 0), (10, AV.sl (Ty.int IntKind.i64) (walkS L r)), (11, AV.int IntKind.i64 (↑(List.length (walkS L r)) : Int)), (12, AV.int IntKind.i64 0)],
        blks := [(0, Blk.cells 24 [AV.sl nodeTy L, AV.int IntKind.i64 r])], next := 1 }
  else Rs.err 3000019 := by kernel_rfl
theorem loop22 (J : Jump R0) (L : List Nd) (r : Int) (W : List Int) (l k : Int) : resume E (tabI lib22) (cutsOf 0 cut22 0) J [true, false, true, false, false] fi22.code 1 (mk22 L r W l k) (finK E 0 fi22.results .ok) =
    bif decide (k < l) then
    bif inI k (List.length W) then
      bif inI (getI W (Int.toNat k)) (List.length L) then
        bif decide (nKind (getN L (Int.toNat (getI W (Int.toNat k)))) ≥ 40) then
          bif decide (nKind (getN L (Int.toNat (getI W (Int.toNat k)))) ≤ 45) then Rs.ok (Out.ret (AV.tup [AV.int IntKind.i64 (getI W (Int.toNat k)), AV.bool true]), [])
          else
            bif
                smallX
                  ((nBase (getN L (Int.toNat (getI W (Int.toNat k)))), nName (getN L (Int.toNat (getI W (Int.toNat k)))), nDims (getN L (Int.toNat (getI W (Int.toNat k)))),
                      nMarks (getN L (Int.toNat (getI W (Int.toNat k)))), ()),
                    ()) then
              bif !Lib.trimB (nMarks (getN L (Int.toNat (getI W (Int.toNat k))))) 32 == [] then Rs.ok (Out.ret (AV.tup [AV.int IntKind.i64 (getI W (Int.toNat k)), AV.bool true]), [])
              else
                J 0
                  { tmps := [(1, AV.ref 0 0), (10, AV.sl (Ty.int IntKind.i64) W), (11, AV.int IntKind.i64 l), (12, AV.int IntKind.i64 (IntKind.wrap IntKind.i64 (k + 1)))],
                    blks := [(0, Blk.cells 24 [AV.sl nodeTy L, AV.int IntKind.i64 r])], next := 1 }
            else Rs.err 3000026
        else
          bif
              smallX
                ((nBase (getN L (Int.toNat (getI W (Int.toNat k)))), nName (getN L (Int.toNat (getI W (Int.toNat k)))), nDims (getN L (Int.toNat (getI W (Int.toNat k)))),
                    nMarks (getN L (Int.toNat (getI W (Int.toNat k)))), ()),
                  ()) then
            bif !Lib.trimB (nMarks (getN L (Int.toNat (getI W (Int.toNat k))))) 32 == [] then Rs.ok (Out.ret (AV.tup [AV.int IntKind.i64 (getI W (Int.toNat k)), AV.bool true]), [])
            else
              J 0
                { tmps := [(1, AV.ref 0 0), (10, AV.sl (Ty.int IntKind.i64) W), (11, AV.int IntKind.i64 l), (12, AV.int IntKind.i64 (IntKind.wrap IntKind.i64 (k + 1)))],
                  blks := [(0, Blk.cells 24 [AV.sl nodeTy L, AV.int IntKind.i64 r])], next := 1 }
          else Rs.err 3000026
      else Rs.err 403
    else Rs.err 300
  else Rs.ok (Out.ret (AV.tup [AV.int IntKind.i64 0, AV.bool false]), []) := by kernel_rfl
end Go.Sx.Tryd
namespace Go.Sx.Tryd
open Go Go.Sx Go.Proofs
set_option maxRecDepth 100000
abbrev outT (L : List Nd) (r : Int) : R0 := (.ret (.agg [.own 0 0, .int .i64 r]), [.list 46 nodeTy 0 false L])
theorem clone_loop {L : List Nd} {r : Int} (hL : L.length ≤ 20000) (hc : L.all cloneN = true) : ∀ (xs pre : List Nd) (fuel : Nat), L = pre ++ xs → xs.length < fuel →
    pieces (R := R0) E (tabI lib30) fi30 cut30 0 .ok fuel 0 (mk30 L pre r L.length pre.length) = .ok (outT L r)
  | xs, pre, 0, _, hf => by omega
  | [], pre, fuel + 1, hp, _ => by
    refine (loop30 (pieces (R := R0) E (tabI lib30) fi30 cut30 0 .ok fuel) L pre r L.length pre.length).trans ?_
    have h1 : ¬ ((pre.length : Int) < L.length) := by rw [hp, List.append_nil]; omega
    rw [List.append_nil] at hp
    simp only [h1, decide_false, cond_false]
    rw [← hp]
  | x :: xs, pre, fuel + 1, hp, hf => by
    have ih := clone_loop (r := r) hL hc xs (pre ++ [x]) fuel (by simp [hp]) (by simpa using hf)
    refine (loop30 (pieces (R := R0) E (tabI lib30) fi30 cut30 0 .ok fuel) L pre r L.length pre.length).trans ?_
    have hlen : pre.length + 1 + xs.length = L.length := by rw [hp]; simp; omega
    have h1 : (pre.length : Int) < L.length := by omega
    have h2 : inI (pre.length : Int) L.length = true := by rw [hp]; exact inI_appN _ _ _
    have h3 : getN L pre.length = x := by rw [hp]; exact getN_app _ _ _
    have h4 : IntKind.wrap .i64 ((pre.length : Int) + 1) = (pre.length : Int) + 1 := wrap64 (by omega) (by omega)
    have h5 : (((pre ++ [x]).length : Nat) : Int) = (pre.length : Int) + 1 := by simp
    have hx := List.all_eq_true.1 hc x (by rw [hp]; simp)
    simp only [cloneN, Bool.and_eq_true, decide_eq_true_eq] at hx
    have h6 : Nat.ble (nKids x).length 17592186044416 = true := Nat.ble_eq_true_of_le hx.1
    have h7 : Nat.ble (nEnds x).length 17592186044416 = true := Nat.ble_eq_true_of_le hx.2
    have hmr : maxRoom = 68719476736 := rfl
    rw [h5] at ih
    simp only [h1, h2, h3, h4, h6, h7, Int.toNat_natCast, decide_true, cond_true]
    refine Eq.trans (bif_lt (by simp only [List.length_singleton]; omega)) ?_
    exact ih
theorem clone_SA {w0 : World} (t : TabsAt w0) (x : Dens sigTr) (h : okClone x = true) : SAD Tryd.prog (GW w0) 30 sigTr sigTr x (cloneX x) := by
  obtain ⟨⟨L, r, ⟨⟩⟩, ⟨⟩⟩ := x
  have h : (decide (List.length L ≤ 20000) && List.all L cloneN) = true := h
  simp only [Bool.and_eq_true, decide_eq_true_eq] at h
  have hs : start (R := R0) E (tabI lib30) fi30 cut30 (pieces (R := R0) E (tabI lib30) fi30 cut30 0 .ok (List.length L + 1)) [.agg (trC L r)] [] .ok = .ok (outT L r) :=
    (start30 _ L r).trans (clone_loop h.1 h.2 L [] (List.length L + 1) rfl (by omega))
  exact SA.data (start_ok (envOK []) (lib1_K t) fc30 (.inl gen0_nil) hs) (y := cloneX ((L, r, ()), ())) (m := [0]) rfl
theorem lib29_ok {w0 : World} (t : TabsAt w0) : IChk Tryd.prog (GW w0) lib29 := .cons (specI_ok fun x h => clone_SA t x h) .nil
theorem lib29_nt : INtL lib29 := .cons specI_nt .nil
theorem lib21_ok {w0 : World} (t : TabsAt w0) : IChk Tryd.prog (GW w0) lib21 := .cons (specI_ok fun x h => check13_SA t x h) (.cons (castI_ok (shiftI_ok (erC_ok t 1000000))) (.cons (inlI_ok (envOK []) lib29_nt (lib29_ok t) fc29) .nil))
/-- what Erase answers -/
def erT (L : List Nd) (r : Int) : List Nd := erS L r 0
def erR (L : List Nd) (r : Int) : Int := ((erT L r).length : Int) - 1
def eraseX (x : Dens sigTr) : Dens sigTr := ((erT x.1.1 x.1.2.1, erR x.1.1 x.1.2.1, ()), ())
def okErS (L : List Nd) (r : Int) : Bool := midS L && (L.all fineN && (L.all endsN && (checkS L r == 0 && decide ((erT L r).length ≤ 1000))))
def okEr (x : Dens sigTr) : Bool := okErS x.1.1 x.1.2.1
theorem er_ends_all {L : List Nd} {r : Int} (g : Good L r) (he : L.all endsN = true) : ∀ (n i c : Nat), i < n → i < L.length → ∀ x ∈ erN L i c, endsN x = true
  | 0, i, c, h, _ => by omega
  | n + 1, i, c, hn, hi => fun x hx => by
    have hen := List.all_eq_true.1 he _ (List.mem_of_getElem? (getN_get hi))
    have each : ∀ (ks : List Int) (c : Nat), (∀ k ∈ ks, k ∈ nKids (getN L i)) → ∀ x ∈ (eachE (fun k c => erN L k.toNat c) ks c).1, endsN x = true := by
      intro ks
      induction ks with
      | nil => intro c _ x hx; cases hx
      | cons k ks ih =>
        intro c hk x hx
        obtain ⟨_, _, k3⟩ := g.kid hi (hk k (by simp))
        simp only [eachE, List.mem_append] at hx
        rcases hx with hx | hx
        · exact er_ends_all g he n k.toNat c (by omega) (by omega) x hx
        · exact ih _ (fun y hy => hk y (by simp [hy])) x hx
    rw [erN_eq g hi] at hx
    cases hw : wraps (nKind (getN L i))
    · cases ht : tests (nKind (getN L i))
      · rw [hw, ht] at hx
        simp only [cond_false, List.mem_append, List.mem_singleton] at hx
        rcases hx with hx | rfl
        · exact each _ _ (fun k hk => hk) x hx
        · exact hen
      · have h0 := g.kid0s hi (by rw [ht, Bool.or_true])
        obtain ⟨_, _, k3⟩ := g.kid hi (k := kid0 (getN L i)) (by rw [h0]; simp)
        rw [hw, ht] at hx
        simp only [cond_false, cond_true, List.mem_append, List.mem_cons, List.not_mem_nil, or_false] at hx
        rcases hx with hx | rfl | rfl
        · exact er_ends_all g he n _ c (by omega) (by omega) x hx
        · rfl
        · exact hen
    · have h0 := g.kid0s hi (by rw [hw, Bool.true_or])
      obtain ⟨_, _, k3⟩ := g.kid hi (k := kid0 (getN L i)) (by rw [h0]; simp)
      rw [hw] at hx
      simp only [cond_true] at hx
      exact er_ends_all g he n _ c (by omega) (by omega) x hx
theorem erase21_SA {w0 : World} (t : TabsAt w0) (x : Dens sigTr) (h : okEr x = true) : SAD Tryd.prog (GW w0) 21 sigTr sigTr x (eraseX x) := by
  obtain ⟨⟨L, r, ⟨⟩⟩, ⟨⟩⟩ := x
  have key : ∀ (L : List Nd) (r : Int), okErS L r = true → body (R := R0) E (tabI lib21) fi21 [.agg (trC L r)] [] .ok = .ok (.ret (.agg (trC (erT L r) (erR L r))), []) := fun L r h => by
    simp only [okErS, Bool.and_eq_true, beq_iff_eq, decide_eq_true_eq] at h
    obtain ⟨hm, hf, he, hc, hb⟩ := h
    have g := good_of hc
    have hpos := g.pos
    have hr := g.root
    have hL := (midS_kids hm).1
    have h1 : smallTr ((L, r, ()), ()) = true := hm
    have hb' : (erN L r.toNat 0).length ≤ 1000 := hb
    have h2 : okE 1000000 L r r [] = true := okE_of (okLR_of hm hc) hf he (by omega) (by omega) (by omega) (by simp only [List.length_nil]; omega)
    have e1 : appN [] (erS L r (List.length ([] : List Nd))) = erT L r := rfl
    have hmS := hm
    simp only [midS, Bool.and_eq_true] at hmS
    have h3 : okClone ((erT L r, (0 : Int), ()), ()) = true := by
      show (decide ((erT L r).length ≤ 20000) && (erT L r).all cloneN) = true
      rw [decide_eq_true (by omega), Bool.true_and, List.all_eq_true]
      intro x hx
      have hx : x ∈ erN L r.toNat 0 := hx
      have h4 := er_ends_all g he (r.toNat + 1) r.toNat 0 (by omega) (by omega) x hx
      obtain ⟨_, _, h5⟩ := er_ends g hmS.2 hf (r.toNat + 1) r.toNat (by omega) (by omega) 0
      have h6 := (h5 x hx).2
      simp only [fineE, smallN, Bool.and_eq_true, decide_eq_true_eq] at h6
      simp only [endsN, decide_eq_true_eq] at h4
      simp only [cloneN, Bool.and_eq_true, decide_eq_true_eq]
      exact ⟨by omega, h4⟩
    have h4 : IntKind.wrap .i64 (((erT L r).length : Int) - 1) = erR L r := wrap64 (by omega) (by omega)
    refine (body21 L r).trans ?_
    rw [e1]
    simp only [h1, h2, h3, h4, hc, beq_self_eq_true, cond_true]
  exact body_ok (envOK []) (tabI_ok (lib21_ok t)) fc21 (key L r h)
theorem trim_all (m : List UInt8) : noMarks m = m.all (· == 32) := trim_nil m
theorem mark_eq (x : Nd) : markN x = strictN x := by
  unfold markN strictN
  rw [trim_all]
theorem lib22_ok {w0 : World} (t : TabsAt w0) : IChk Tryd.prog (GW w0) lib22 := .cons (specI_ok fun x h => walk_SA t x h) (.cons (specI_ok fun x h => plain_SA t x h) .nil)
abbrev outIB (p : Int × Bool) : R0 := (.ret (.tup [.int .i64 p.1, .bool p.2]), [])
theorem mark_loop {L : List Nd} {r : Int} {W : List Int} (hW : W.length ≤ 1000) (hs : L.all smallN = true) (hin : ∀ k ∈ W, 0 ≤ k ∧ k < (L.length : Int)) : ∀ (ks pre : List Int) (fuel : Nat), W = pre ++ ks → ks.length < fuel →
    pieces (R := R0) E (tabI lib22) fi22 cut22 0 .ok fuel 0 (mk22 L r W W.length pre.length) = .ok (outIB (markS L ks))
  | ks, pre, 0, _, hf => by omega
  | [], pre, fuel + 1, hp, _ => by
    refine (loop22 (pieces (R := R0) E (tabI lib22) fi22 cut22 0 .ok fuel) L r W W.length pre.length).trans ?_
    have h1 : ¬ ((pre.length : Int) < W.length) := by rw [hp, List.append_nil]; omega
    simp only [h1, decide_false, cond_false]
    rfl
  | k :: ks, pre, fuel + 1, hp, hf => by
    have ih := mark_loop (r := r) hW hs hin ks (pre ++ [k]) fuel (by simp [hp]) (by simpa using hf)
    refine (loop22 (pieces (R := R0) E (tabI lib22) fi22 cut22 0 .ok fuel) L r W W.length pre.length).trans ?_
    have hlen : pre.length + 1 + ks.length = W.length := by rw [hp]; simp; omega
    have h1 : (pre.length : Int) < W.length := by omega
    have h2 : inI (pre.length : Int) W.length = true := by rw [hp]; exact inI_appI _ _ _
    have h3 : getI W pre.length = k := by rw [hp]; exact getI_app _ _ _
    have h4 : IntKind.wrap .i64 ((pre.length : Int) + 1) = (pre.length : Int) + 1 := wrap64 (by omega) (by omega)
    have h5 : (((pre ++ [k]).length : Nat) : Int) = (pre.length : Int) + 1 := by simp
    obtain ⟨k0, k1⟩ := hin k (by rw [hp]; simp)
    have h6 : inI k L.length = true := inI_of k0 k1
    have hsm := List.all_eq_true.1 hs _ (List.mem_of_getElem? (getN_get (L := L) (i := k.toNat) (by omega)))
    simp only [smallN, Bool.and_eq_true, decide_eq_true_eq] at hsm
    have h7 : smallX ((nBase (getN L k.toNat), nName (getN L k.toNat), nDims (getN L k.toNat), nMarks (getN L k.toNat), ()), ()) = true := by
      simp only [smallX, Bool.and_eq_true, decide_eq_true_eq]
      exact ⟨show (nName (getN L k.toNat)).length ≤ 1000 by omega, show (nMarks (getN L k.toNat)).length ≤ 1000 by omega⟩
    rw [h5] at ih
    simp only [h1, h2, h3, h4, h6, h7, Int.toNat_natCast, decide_true, cond_true, markS]
    unfold markN noMarks
    cases e1 : decide (nKind (getN L k.toNat) ≥ 40) <;> cases e2 : decide (nKind (getN L k.toNat) ≤ 45) <;> cases e3 : (Lib.trimB (nMarks (getN L k.toNat)) 32 == [])
    all_goals simp only [cond_true, cond_false, Bool.and_true, Bool.and_false, Bool.false_and, Bool.true_and, Bool.or_true, Bool.or_false, Bool.true_or, Bool.false_or, Bool.not_true, Bool.not_false]
    all_goals exact ih
theorem marked_SA {w0 : World} (t : TabsAt w0) (x : Dens sigTr) (h : okMk x = true) : SAD Tryd.prog (GW w0) 22 sigTr sigIB x (markX x) := by
  obtain ⟨⟨L, r, ⟨⟩⟩, ⟨⟩⟩ := x
  have key : ∀ (L : List Nd) (r : Int), (midS L && checkS L r == 0) = true → start (R := R0) E (tabI lib22) fi22 cut22 (pieces (R := R0) E (tabI lib22) fi22 cut22 0 .ok 2000) [.agg (trC L r)] [] .ok = .ok (outIB (mkdS L r)) := fun L r h => by
    have h1 : okTI ((L, r, ()), r, ()) = true := h
    simp only [Bool.and_eq_true, beq_iff_eq] at h
    have g := good_of h.2
    have hpos := g.pos
    have hr := g.root
    have hL := (midS_kids h.1).1
    have hmS := h.1
    simp only [midS, Bool.and_eq_true] at hmS
    obtain ⟨i, rfl⟩ : ∃ i : Nat, r = (i : Int) := ⟨r.toNat, by omega⟩
    have hi : i < L.length := by omega
    have hlen := pre_len_le g hi
    refine (start22 _ L i).trans ?_
    rw [h1]
    simp only [cond_true]
    have hw := walkS_in hi
    exact mark_loop (by rw [hw]; omega) hmS.2 (fun k hk => by
      rw [hw] at hk
      have := pre_le g (i + 1) i (by omega) hi k hk
      omega) (walkS L i) [] 2000 rfl (by rw [hw]; omega)
  exact start_ok (envOK []) (tabI_ok (lib22_ok t)) fc22 (.inl gen0_nil) (key L r h)
end Go.Sx.Tryd
namespace Go.Sx.Tryd
open Go Go.Sx Go.Proofs
set_option maxRecDepth 100000
noncomputable def lib6 : List (Nat × Intr) := [(10, oneI 10 (fun l => l.isEmpty) (.ret (.bool true), [])), (11, specI 11 sigTr sigB (fun _ => true) smallX2), (12, specI 12 sigTr sigI smallTr checkX), (13, specI 13 sigTr sigI smallTr checkX), (14, specI 14 sigTI sigS okFm formX), (16, specI 16 sigTT sigB okTT sameX), (18, specI 18 sigTIB sigS (okG 1000000) formGX), (20, specI 20 sigTI sigL (okW 1000000) walkX), (21, specI 21 sigTr sigTr okEr eraseX), (22, specI 22 sigTr sigIB okMk markX)]
def cut6 : List Cut := [⟨[true, true, true, true, true, true, true, true, false, true, false, false], some ⟨[(1, []), (4, []), (5, []), (8, []), (70, [.sl (.int .i64)]), (71, []), (72, [])], [[]]⟩⟩,
  ⟨[true, true, true, true, true, true, true, true, false, true, false, false, true, true, false, false, true, true, true, false, true, false, false], some ⟨[(1, []), (4, []), (5, []), (8, []), (10, []), (11, []), (12, []), (70, [.sl (.int .i64)]), (71, []), (72, []), (92, []), (93, [])], [[], []]⟩⟩]
def mk6a (L : List Nd) (r a : Int) (m : Bool) (f : Int) (W : List Int) (l k : Int) : St := { tmps := [(1, .ref 0 0), (4, .int .i64 a), (5, .bool m), (8, .int .i64 f), (70, .sl (.int .i64) W), (71, .int .i64 l), (72, .int .i64 k)], blks := [(0, .cells 24 (trC L r))], next := 1 }
def mk6b (L : List Nd) (r a : Int) (m : Bool) (f i : Int) (x : Nd) (s : Bool) (W : List Int) (l k : Int) (n j : Int) : St := { tmps := [(1, .ref 0 0), (4, .int .i64 a), (5, .bool m), (8, .int .i64 f), (10, .int .i64 i), (11, .ref 1 0), (12, .bool s), (70, .sl (.int .i64) W), (71, .int .i64 l), (72, .int .i64 k), (92, .int .i64 n), (93, .int .i64 j)], blks := [(0, .cells 24 (trC L r)), (1, .cells 46 (flat nodeTy x))], next := 2 }
end Go.Sx.Tryd
namespace Go.Sx.Tryd
open Go Go.Sx
set_option maxRecDepth 100000
theorem start6 (J : Jump R0) (L : List Nd) (r : Int) : start E (tabI lib6) fi6 cut6 J [.agg (trC L r)] [] .ok =
    bif !smallS L then Rs.ok (Out.ret (AV.bool true), [])
  else
    bif smallTr ((L, r, ()), ()) then
      bif checkS L r != 0 then Rs.ok (Out.ret (AV.bool true), [])
      else
        bif okEr ((L, r, ()), ()) then
          bif okMk ((L, r, ()), ()) then
            bif okMk ((erT L r, erR L r, ()), ()) then
              bif smallTr ((erT L r, erR L r, ()), ()) then
                bif checkS (erT L r) (erR L r) != 0 then Rs.ok (Out.ret (AV.bool false), [])
                else
                  bif okFm ((erT L r, erR L r, ()), erR L r, ()) then
                    bif okG 1000000 ((L, r, ()), r, true, ()) then
                      bif !formS (erT L r) (erR L r) (erR L r) == formBS true L r then Rs.ok (Out.ret (AV.bool false), [])
                      else
                        bif Prod.snd (mkdS (erT L r) (erR L r)) then Rs.ok (Out.ret (AV.bool false), [])
                        else
                          bif okEr ((erT L r, erR L r, ()), ()) then
                            bif okTT ((erT (erT L r) (erR L r), erR (erT L r) (erR L r), ()), (erT L r, erR L r, ()), ()) then
                              bif !sameS (erT (erT L r) (erR L r)) (erR (erT L r) (erR L r)) (erT L r) (erR L r) then Rs.ok (Out.ret (AV.bool false), [])
                              else
                                bif okTT ((L, r, ()), (erT L r, erR L r, ()), ()) then
                                  bif sameS L r (erT L r) (erR L r) == Prod.snd (mkdS L r) then Rs.ok (Out.ret (AV.bool false), [])
                                  else
                                    bif okW 1000000 ((L, r, ()), r, ()) then
                                      J 0
                                        {
                                          tmps :=
                                            [(1, AV.ref 0 0), (4, AV.int IntKind.i64 (Prod.fst (mkdS L r))), (5, AV.bool (Prod.snd (mkdS L r))),
                                              (8, AV.int IntKind.i64 (Int.negSucc 0)), (70, AV.sl (Ty.int IntKind.i64) (walkS L r)),
                                              (71, AV.int IntKind.i64 (↑(List.length (walkS L r)) : Int)), (72, AV.int IntKind.i64 0)],
                                          blks := [(0, Blk.cells 24 [AV.sl nodeTy L, AV.int IntKind.i64 r])], next := 1 }
                                    else Rs.err 3000020
                                else Rs.err 3000016
                            else Rs.err 3000016
                          else Rs.err 3000021
                    else Rs.err 3000018
                  else Rs.err 3000014
              else Rs.err 3000013
            else Rs.err 3000022
          else Rs.err 3000022
        else Rs.err 3000021
    else Rs.err 3000012 := by kernel_rfl
theorem loop6a (J : Jump R0) (L : List Nd) (r a : Int) (m : Bool) (f : Int) (W : List Int) (l k : Int) : resume E (tabI lib6) (cutsOf 0 cut6 0) J [true, true, true, true, true, true, true, true, false, true, false, false] fi6.code 1 (mk6a L r a m f W l k) (finK E 0 fi6.results .ok) =
    bif decide (k < l) then
    bif inI k (List.length W) then
      bif inI (getI W (Int.toNat k)) (List.length L) then
        bif decide (nKind (getN L (Int.toNat (getI W (Int.toNat k)))) ≥ 40) then
          J 1
            {
              tmps :=
                [(1, AV.ref 0 0), (4, AV.int IntKind.i64 a), (5, AV.bool m), (8, AV.int IntKind.i64 f), (10, AV.int IntKind.i64 (getI W (Int.toNat k))), (11, AV.ref 1 0),
                  (12, AV.bool (decide (nKind (getN L (Int.toNat (getI W (Int.toNat k)))) ≤ 45))), (70, AV.sl (Ty.int IntKind.i64) W), (71, AV.int IntKind.i64 l),
                  (72, AV.int IntKind.i64 k), (92, AV.int IntKind.i64 (↑(List.length (nMarks (getN L (Int.toNat (getI W (Int.toNat k)))))) : Int)),
                  (93, AV.int IntKind.i64 0)],
              blks :=
                [(0, Blk.cells 24 [AV.sl nodeTy L, AV.int IntKind.i64 r]),
                  (1,
                    Blk.cells 46
                      [AV.int IntKind.i64 (nKind (getN L (Int.toNat (getI W (Int.toNat k))))), AV.int IntKind.i64 (nAt (getN L (Int.toNat (getI W (Int.toNat k))))),
                        AV.int IntKind.i64 (nTo (getN L (Int.toNat (getI W (Int.toNat k))))), AV.sl (Ty.int IntKind.i64) (nKids (getN L (Int.toNat (getI W (Int.toNat k))))),
                        AV.str (nText (getN L (Int.toNat (getI W (Int.toNat k))))), AV.int IntKind.i64 (nBase (getN L (Int.toNat (getI W (Int.toNat k))))),
                        AV.str (nName (getN L (Int.toNat (getI W (Int.toNat k))))), AV.int IntKind.i64 (nDims (getN L (Int.toNat (getI W (Int.toNat k))))),
                        AV.str (nMarks (getN L (Int.toNat (getI W (Int.toNat k))))), AV.int IntKind.i64 (nN (getN L (Int.toNat (getI W (Int.toNat k))))),
                        AV.int IntKind.i64 (nW1 (getN L (Int.toNat (getI W (Int.toNat k))))), AV.int IntKind.i64 (nW2 (getN L (Int.toNat (getI W (Int.toNat k))))),
                        AV.sl (Ty.int IntKind.i64) (nEnds (getN L (Int.toNat (getI W (Int.toNat k)))))])],
              next := 2 }
        else
          J 1
            {
              tmps :=
                [(1, AV.ref 0 0), (4, AV.int IntKind.i64 a), (5, AV.bool m), (8, AV.int IntKind.i64 f), (10, AV.int IntKind.i64 (getI W (Int.toNat k))), (11, AV.ref 1 0),
                  (12, AV.bool false), (70, AV.sl (Ty.int IntKind.i64) W), (71, AV.int IntKind.i64 l), (72, AV.int IntKind.i64 k),
                  (92, AV.int IntKind.i64 (↑(List.length (nMarks (getN L (Int.toNat (getI W (Int.toNat k)))))) : Int)), (93, AV.int IntKind.i64 0)],
              blks :=
                [(0, Blk.cells 24 [AV.sl nodeTy L, AV.int IntKind.i64 r]),
                  (1,
                    Blk.cells 46
                      [AV.int IntKind.i64 (nKind (getN L (Int.toNat (getI W (Int.toNat k))))), AV.int IntKind.i64 (nAt (getN L (Int.toNat (getI W (Int.toNat k))))),
                        AV.int IntKind.i64 (nTo (getN L (Int.toNat (getI W (Int.toNat k))))), AV.sl (Ty.int IntKind.i64) (nKids (getN L (Int.toNat (getI W (Int.toNat k))))),
                        AV.str (nText (getN L (Int.toNat (getI W (Int.toNat k))))), AV.int IntKind.i64 (nBase (getN L (Int.toNat (getI W (Int.toNat k))))),
                        AV.str (nName (getN L (Int.toNat (getI W (Int.toNat k))))), AV.int IntKind.i64 (nDims (getN L (Int.toNat (getI W (Int.toNat k))))),
                        AV.str (nMarks (getN L (Int.toNat (getI W (Int.toNat k))))), AV.int IntKind.i64 (nN (getN L (Int.toNat (getI W (Int.toNat k))))),
                        AV.int IntKind.i64 (nW1 (getN L (Int.toNat (getI W (Int.toNat k))))), AV.int IntKind.i64 (nW2 (getN L (Int.toNat (getI W (Int.toNat k))))),
                        AV.sl (Ty.int IntKind.i64) (nEnds (getN L (Int.toNat (getI W (Int.toNat k)))))])],
              next := 2 }
      else Rs.err 1403
    else Rs.err 1300
  else bif m == decide (f ≥ 0) then bif !m then Rs.ok (Out.ret (AV.bool true), []) else Rs.ok (Out.ret (AV.bool (a == f)), []) else Rs.ok (Out.ret (AV.bool false), []) := by kernel_rfl
theorem loop6b (J : Jump R0) (L : List Nd) (r a : Int) (m : Bool) (f i : Int) (x : Nd) (s : Bool) (W : List Int) (l k : Int) (n j : Int) : resume E (tabI lib6) (cutsOf 0 cut6 0) J [true, true, true, true, true, true, true, true, false, true, false, false, true, true, false, false, true, true, true, false, true, false, false] fi6.code 1 (mk6b L r a m f i x s W l k n j) (finK E 0 fi6.results .ok) =
    bif decide (j < n) then
    bif s then
      J 1
        {
          tmps :=
            [(1, AV.ref 0 0), (4, AV.int IntKind.i64 a), (5, AV.bool m), (8, AV.int IntKind.i64 f), (10, AV.int IntKind.i64 i), (11, AV.ref 1 0), (12, AV.bool true),
              (70, AV.sl (Ty.int IntKind.i64) W), (71, AV.int IntKind.i64 l), (72, AV.int IntKind.i64 k), (92, AV.int IntKind.i64 n),
              (93, AV.int IntKind.i64 (IntKind.wrap IntKind.i64 (j + 1)))],
          blks :=
            [(0, Blk.cells 24 [AV.sl nodeTy L, AV.int IntKind.i64 r]),
              (1,
                Blk.cells 46
                  [AV.int IntKind.i64 (nKind x), AV.int IntKind.i64 (nAt x), AV.int IntKind.i64 (nTo x), AV.sl (Ty.int IntKind.i64) (nKids x), AV.str (nText x),
                    AV.int IntKind.i64 (nBase x), AV.str (nName x), AV.int IntKind.i64 (nDims x), AV.str (nMarks x), AV.int IntKind.i64 (nN x), AV.int IntKind.i64 (nW1 x),
                    AV.int IntKind.i64 (nW2 x), AV.sl (Ty.int IntKind.i64) (nEnds x)])],
          next := 2 }
    else
      bif inI j (List.length (nMarks x)) then
        J 1
          {
            tmps :=
              [(1, AV.ref 0 0), (4, AV.int IntKind.i64 a), (5, AV.bool m), (8, AV.int IntKind.i64 f), (10, AV.int IntKind.i64 i), (11, AV.ref 1 0),
                (12, AV.bool ((↑(UInt8.toNat (List.getD (nMarks x) (Int.toNat j) 0)) : Int) != 32)), (70, AV.sl (Ty.int IntKind.i64) W), (71, AV.int IntKind.i64 l),
                (72, AV.int IntKind.i64 k), (92, AV.int IntKind.i64 n), (93, AV.int IntKind.i64 (IntKind.wrap IntKind.i64 (j + 1)))],
            blks :=
              [(0, Blk.cells 24 [AV.sl nodeTy L, AV.int IntKind.i64 r]),
                (1,
                  Blk.cells 46
                    [AV.int IntKind.i64 (nKind x), AV.int IntKind.i64 (nAt x), AV.int IntKind.i64 (nTo x), AV.sl (Ty.int IntKind.i64) (nKids x), AV.str (nText x),
                      AV.int IntKind.i64 (nBase x), AV.str (nName x), AV.int IntKind.i64 (nDims x), AV.str (nMarks x), AV.int IntKind.i64 (nN x), AV.int IntKind.i64 (nW1 x),
                      AV.int IntKind.i64 (nW2 x), AV.sl (Ty.int IntKind.i64) (nEnds x)])],
            next := 2 }
      else Rs.err 1906
  else
    bif s then
      bif decide (f < 0) then
        J 0
          {
            tmps :=
              [(1, AV.ref 0 0), (4, AV.int IntKind.i64 a), (5, AV.bool m), (8, AV.int IntKind.i64 i), (70, AV.sl (Ty.int IntKind.i64) W), (71, AV.int IntKind.i64 l),
                (72, AV.int IntKind.i64 (IntKind.wrap IntKind.i64 (k + 1)))],
            blks := [(0, Blk.cells 24 [AV.sl nodeTy L, AV.int IntKind.i64 r])], next := 1 }
      else
        J 0
          {
            tmps :=
              [(1, AV.ref 0 0), (4, AV.int IntKind.i64 a), (5, AV.bool m), (8, AV.int IntKind.i64 f), (70, AV.sl (Ty.int IntKind.i64) W), (71, AV.int IntKind.i64 l),
                (72, AV.int IntKind.i64 (IntKind.wrap IntKind.i64 (k + 1)))],
            blks := [(0, Blk.cells 24 [AV.sl nodeTy L, AV.int IntKind.i64 r])], next := 1 }
    else
      J 0
        {
          tmps :=
            [(1, AV.ref 0 0), (4, AV.int IntKind.i64 a), (5, AV.bool m), (8, AV.int IntKind.i64 f), (70, AV.sl (Ty.int IntKind.i64) W), (71, AV.int IntKind.i64 l),
              (72, AV.int IntKind.i64 (IntKind.wrap IntKind.i64 (k + 1)))],
          blks := [(0, Blk.cells 24 [AV.sl nodeTy L, AV.int IntKind.i64 r])], next := 1 } := by kernel_rfl
end Go.Sx.Tryd
namespace Go.Sx.Tryd
open Go Go.Sx Go.Proofs
set_option maxRecDepth 100000
theorem check_root {L : List Nd} {r : Int} (h : checkS L r = 0) : nKind (getN L (L.length - 1)) = 1 := by
  have g := good_of h
  have hpos := g.pos
  have hr := g.root
  unfold checkS at h
  cases e1 : decide ((L.length : Int) > 16384)
  · cases e2 : ((L.length : Int) == 0)
    · cases e3 : (r != (L.length : Int) - 1)
      · cases e4 : (nKind (getN L r.toNat) != 1)
        · have : r.toNat = L.length - 1 := by omega
          rw [this] at e4
          simpa using e4
        · rw [e1, e2, e3, e4] at h
          have : (5 : Int) = 0 := h
          omega
      · rw [hr] at e3; simp at e3
    · have := beq_iff_eq.1 e2
      omega
  · rw [e1] at h
    have : (2 : Int) = 0 := h
    omega
/-- what is known of the erased program -/
structure ErFacts (L : List Nd) (r : Int) : Prop where
  good : Good (erT L r) (erR L r)
  check : (erT L r).length ≤ 16384 → checkS (erT L r) (erR L r) = 0
  fine : ∀ x ∈ erT L r, fineE x = true
  ends : (erT L r).all endsN = true
  form : formN (erT L r) ((erT L r).length - 1) = formB true L r.toNat
theorem er_facts {L : List Nd} {r : Int} (hc : checkS L r = 0) (hs : L.all smallN = true) (hf : L.all fineN = true) (he : L.all endsN = true) : ErFacts L r := by
  have g := good_of hc
  have hpos := g.pos
  have hr := g.root
  have hi : r.toNat < L.length := by omega
  obtain ⟨h1, h2, h3⟩ := er_ends g hs hf (r.toNat + 1) r.toNat (by omega) hi 0
  have e0 : erT L r = erN L r.toNat 0 := rfl
  have hE : (0 + (erN L r.toNat 0).length : Nat) = (erN L r.toNat 0).length := Nat.zero_add _
  rw [hE] at h2
  have gE : Good (erT L r) (erR L r) := Part.good h2 h1 fun x hx => (h3 x hx).1
  refine ⟨gE, fun hl => check_of gE hl ?_, fun x hx => (h3 x hx).2, List.all_eq_true.2 fun x hx => er_ends_all g he (r.toNat + 1) r.toNat 0 (by omega) hi x hx, ?_⟩
  · have hk := check_root hc
    have e1 : r.toNat = L.length - 1 := by omega
    rw [← e1] at hk
    rw [e0, erN_eq g hi]
    have w1 : wraps (nKind (getN L r.toNat)) = false := by rw [hk]; rfl
    have w2 : tests (nKind (getN L r.toNat)) = false := by rw [hk]; rfl
    rw [w1, w2]
    simp only [cond_false, List.length_append, List.length_singleton, Nat.add_sub_cancel]
    have : getN ((eachE (fun k c => erN L k.toNat c) (nKids (getN L r.toNat)) 0).1 ++ [endN (getN L r.toNat) (eachE (fun k c => erN L k.toNat c) (nKids (getN L r.toNat)) 0).2]) (eachE (fun k c => erN L k.toNat c) (nKids (getN L r.toNat)) 0).1.length = endN (getN L r.toNat) (eachE (fun k c => erN L k.toNat c) (nKids (getN L r.toNat)) 0).2 := getN_app _ _ []
    rw [this]
    show (bif nKind (getN L r.toNat) == 42 then 23 else nKind (getN L r.toNat)) = 1
    rw [hk]; rfl
  · have := er_form g hs hf gE (r.toNat + 1) r.toNat (by omega) hi [] [] (by simp [e0])
    simpa [e0] using this
theorem fineE_strict {x : Nd} (h : fineE x = true) : strictN x = false ∧ smallN x = true ∧ fineN x = true ∧ tests (nKind x) = false := by
  unfold fineE at h
  simp only [Bool.and_eq_true] at h
  obtain ⟨h1, h2, h3, h4⟩ := h
  refine ⟨?_, h1, h2, ?_⟩
  · unfold strictN
    simp only [Bool.not_eq_true'] at h3
    rw [h3, h4]; rfl
  · simp only [Bool.not_eq_true', Bool.and_eq_false_iff, decide_eq_false_iff_not] at h3
    simp only [tests, Bool.or_eq_false_iff, beq_eq_false_iff_ne]
    omega
theorem markS_true {L : List Nd} : ∀ {ks : List Int}, (markS L ks).2 = true ↔ ∃ k ∈ ks, strictN (getN L k.toNat) = true
  | [] => by simp [markS]
  | k :: ks => by
    simp only [markS, mark_eq]
    cases e : strictN (getN L k.toNat)
    · simp only [cond_false]
      rw [markS_true]
      simp [e]
    · simp [e]
/-- the first one, as the law finds it -/
def fEnd (L : List Nd) : Int → List Int → Int
  | f, [] => f
  | f, k :: ks => fEnd L (bif strictN (getN L k.toNat) && decide (f < 0) then k else f) ks
theorem fEnd_pos {L : List Nd} : ∀ {ks : List Int} {f : Int}, 0 ≤ f → fEnd L f ks = f
  | [], f, _ => rfl
  | k :: ks, f, h => by
    have e : decide (f < 0) = false := decide_eq_false (by omega)
    simp only [fEnd, e, Bool.and_false, cond_false]
    exact fEnd_pos h
theorem fEnd_mark {L : List Nd} : ∀ {ks : List Int}, (∀ k ∈ ks, 0 ≤ k) → (markS L ks).2 = decide (fEnd L (-1) ks ≥ 0) ∧ ((markS L ks).2 = true → (markS L ks).1 = fEnd L (-1) ks)
  | [], _ => ⟨rfl, fun h => by cases h⟩
  | k :: ks, h => by
    cases e : strictN (getN L k.toNat)
    · have e1 : fEnd L (-1) (k :: ks) = fEnd L (-1) ks := by simp [fEnd, e]
      have e2 : markS L (k :: ks) = markS L ks := by simp [markS, mark_eq, e]
      simp only [e1, e2]
      exact fEnd_mark fun x hx => h x (by simp [hx])
    · have hk := h k (by simp)
      have e1 : fEnd L (-1) (k :: ks) = k := by
        have : fEnd L (-1) (k :: ks) = fEnd L k ks := by simp [fEnd, e]
        rw [this, fEnd_pos hk]
      have e2 : markS L (k :: ks) = (k, true) := by simp [markS, mark_eq, e]
      simp only [e1, e2]
      exact ⟨(decide_eq_true hk).symm, fun _ => trivial⟩
def Fin6 (j : Nat) (st : St) (o : R0) : Prop := ∃ fuel, pieces (R := R0) E (tabI lib6) fi6 cut6 0 .ok fuel j st = .ok o
theorem fin6_b {L : List Nd} {r a : Int} {m : Bool} {f i : Int} {x : Nd} {W : List Int} {l k : Int} {o : R0} (hx : (nMarks x).length ≤ 1000) (hk : -1000 ≤ k ∧ k ≤ 2000) : ∀ (ms pre : List UInt8) (s : Bool), nMarks x = pre ++ ms →
    Fin6 0 (mk6a L r a m (bif (s || !ms.all (· == 32)) && decide (f < 0) then i else f) W l (k + 1)) o → Fin6 1 (mk6b L r a m f i x s W l k (nMarks x).length pre.length) o
  | [], pre, s, hp, ⟨fuel, h⟩ => by
    refine ⟨fuel + 1, (loop6b (pieces (R := R0) E (tabI lib6) fi6 cut6 0 .ok fuel) L r a m f i x s W l k (nMarks x).length pre.length).trans ?_⟩
    have h1 : ¬ ((pre.length : Int) < (nMarks x).length) := by rw [hp, List.append_nil]; omega
    have h2 : IntKind.wrap .i64 (k + 1) = k + 1 := wrap64 (by omega) (by omega)
    simp only [h1, h2, decide_false, cond_false]
    simp only [List.all_nil, Bool.not_true, Bool.or_false] at h
    cases s
    · exact h
    · cases e : decide (f < 0)
      · rw [e] at h
        simp only [cond_true, cond_false]
        exact h
      · rw [e] at h
        simp only [cond_true]
        exact h
  | c :: ms, pre, s, hp, h => by
    have h0 : Fin6 0 (mk6a L r a m (bif ((s || (c != 32)) || !ms.all (· == 32)) && decide (f < 0) then i else f) W l (k + 1)) o := by
      have e : (s || !(c :: ms).all (· == 32)) = ((s || (c != 32)) || !ms.all (· == 32)) := by
        simp only [List.all_cons, Bool.not_and, bne, Bool.or_assoc]
      rw [e] at h
      exact h
    obtain ⟨fuel, ih⟩ := fin6_b hx hk ms (pre ++ [c]) (s || (c != 32)) (by simp [hp]) h0
    refine ⟨fuel + 1, (loop6b (pieces (R := R0) E (tabI lib6) fi6 cut6 0 .ok fuel) L r a m f i x s W l k (nMarks x).length pre.length).trans ?_⟩
    have hlen : pre.length + 1 + ms.length = (nMarks x).length := by rw [hp]; simp; omega
    have h1 : (pre.length : Int) < (nMarks x).length := by omega
    have h2 : inI (pre.length : Int) (nMarks x).length = true := by rw [hp]; exact inI_app _ _ _
    have h3 : List.getD (nMarks x) pre.length 0 = c := by rw [hp]; exact getD_app _ _ _
    have h4 : IntKind.wrap .i64 ((pre.length : Int) + 1) = (pre.length : Int) + 1 := wrap64 (by omega) (by omega)
    have h5 : (((pre ++ [c]).length : Nat) : Int) = (pre.length : Int) + 1 := by simp
    have h6 : (((c.toNat : Int)) != 32) = (c != 32) := by
      have := nat8 c 32
      rw [show ((32 : UInt8).toNat : Int) = 32 from rfl] at this
      simp only [bne, this]
    rw [h5] at ih
    simp only [h1, h2, h3, h4, h6, Int.toNat_natCast, decide_true, cond_true]
    cases s
    · simp only [cond_false]
      rw [Bool.false_or] at ih
      exact ih
    · simp only [cond_true]
      rw [Bool.true_or] at ih
      exact ih
theorem fin6_a {L : List Nd} {r a : Int} {m : Bool} {W : List Int} (hW : W.length ≤ 1000) (hs : L.all smallN = true) (hin : ∀ k ∈ W, 0 ≤ k ∧ k < (L.length : Int)) : ∀ (ks pre : List Int) (f : Int), W = pre ++ ks → m = decide (fEnd L f ks ≥ 0) → (m = true → a = fEnd L f ks) →
    Fin6 0 (mk6a L r a m f W W.length pre.length) (outB true)
  | [], pre, f, hp, hm, ha => by
    refine ⟨1, (loop6a (pieces (R := R0) E (tabI lib6) fi6 cut6 0 .ok 0) L r a m f W W.length pre.length).trans ?_⟩
    have h1 : ¬ ((pre.length : Int) < W.length) := by rw [hp, List.append_nil]; omega
    simp only [h1, decide_false, cond_false]
    have hm : m = decide (f ≥ 0) := hm
    have h2 : (m == decide (f ≥ 0)) = true := by rw [← hm]; simp
    rw [h2]
    cases m
    · rfl
    · have := ha rfl
      have h3 : (a == f) = true := by rw [this]; simp [fEnd]
      rw [h3]
      rfl
  | k :: ks, pre, f, hp, hm, ha => by
    have hlen : pre.length + 1 + ks.length = W.length := by rw [hp]; simp; omega
    obtain ⟨k0, k1⟩ := hin k (by rw [hp]; simp)
    have hsm := List.all_eq_true.1 hs _ (List.mem_of_getElem? (getN_get (L := L) (i := k.toNat) (by omega)))
    simp only [smallN, Bool.and_eq_true, decide_eq_true_eq] at hsm
    have h5 : (((pre ++ [k]).length : Nat) : Int) = (pre.length : Int) + 1 := by simp
    have ih := fin6_a (r := r) hW hs hin ks (pre ++ [k]) (bif strictN (getN L k.toNat) && decide (f < 0) then k else f) (by simp [hp]) hm ha
    rw [h5] at ih
    have key : ∀ s : Bool, s = (decide (nKind (getN L k.toNat) ≥ 40) && decide (nKind (getN L k.toNat) ≤ 45)) → Fin6 1 (mk6b L r a m f k (getN L k.toNat) s W W.length pre.length (nMarks (getN L k.toNat)).length 0) (outB true) := fun s hs => by
      refine fin6_b (pre := []) (by omega) (by omega) (nMarks (getN L k.toNat)) s rfl ?_
      have e : (s || !(nMarks (getN L k.toNat)).all (· == 32)) = strictN (getN L k.toNat) := by rw [hs]; rfl
      rw [e]
      exact ih
    have h1 : (pre.length : Int) < W.length := by omega
    have h2 : inI (pre.length : Int) W.length = true := by rw [hp]; exact inI_appI _ _ _
    have h3 : getI W pre.length = k := by rw [hp]; exact getI_app _ _ _
    have h6 : inI k L.length = true := inI_of k0 k1
    cases e1 : decide (nKind (getN L k.toNat) ≥ 40)
    · obtain ⟨fuel, hf⟩ := key false (by rw [e1]; rfl)
      refine ⟨fuel + 1, (loop6a (pieces (R := R0) E (tabI lib6) fi6 cut6 0 .ok fuel) L r a m f W W.length pre.length).trans ?_⟩
      simp only [h1, h2, h3, h6, e1, Int.toNat_natCast, decide_true, cond_true, cond_false]
      exact hf
    · obtain ⟨fuel, hf⟩ := key (decide (nKind (getN L k.toNat) ≤ 45)) (by rw [e1]; rfl)
      refine ⟨fuel + 1, (loop6a (pieces (R := R0) E (tabI lib6) fi6 cut6 0 .ok fuel) L r a m f W W.length pre.length).trans ?_⟩
      simp only [h1, h2, h3, h6, e1, Int.toNat_natCast, decide_true, cond_true]
      exact hf
theorem lib6_ok {w0 : World} (t : TabsAt w0) : IChk Tryd.prog (GW w0) lib6 := by
  refine .cons (oneI_ok fun args h => ?_) (.cons (specI_ok fun x _ => small_SA t x) (.cons (specI_ok fun x h => check_SA t x h) (.cons (specI_ok fun x h => check13_SA t x h) (.cons (specI_ok fun x h => form_SA t x h) (.cons (specI_ok fun x h => same_SA t x h) (.cons (specI_ok fun x h => form18_SA t 1000000 x h) (.cons (specI_ok fun x h => rwalk_SA 1000000 x h) (.cons (specI_ok fun x h => erase21_SA t x h) (.cons (specI_ok fun x h => marked_SA t x h) .nil)))))))))
  cases args with
  | nil => exact grows_SA t
  | cons a r => cases h
theorem okErS_of {L : List Nd} {r : Int} (hm : midS L = true) (hf : L.all fineN = true) (he : L.all endsN = true) (hc : checkS L r = 0) (hb : (erT L r).length ≤ 1000) : okErS L r = true := by
  unfold okErS
  rw [hm, hf, he, hc, decide_eq_true hb]
  rfl
theorem law6_start (L : List Nd) (r : Int) (hf : L.all fineN = true) (he : L.all endsN = true) : ∃ fuel, start (R := R0) E (tabI lib6) fi6 cut6 (pieces (R := R0) E (tabI lib6) fi6 cut6 0 .ok fuel) [.agg (trC L r)] [] .ok = .ok (outB true) := by
  cases hs : smallS L
  · exact ⟨0, by rw [start6, hs]; rfl⟩
  have hm := mid_of hs
  have h1 : smallTr ((L, r, ()), ()) = true := hm
  cases hc : (checkS L r != 0)
  · have hc0 : checkS L r = 0 := by simpa using hc
    have g := good_of hc0
    have hpos := g.pos
    have hr := g.root
    have hmS := hm
    simp only [midS, Bool.and_eq_true] at hmS
    have hs3 := hs
    simp only [smallS, Bool.and_eq_true, decide_eq_true_eq] at hs3
    have hi : r.toNat < L.length := by omega
    have F := er_facts hc0 hmS.2 hf he
    have hlen : (erT L r).length ≤ 600 := by
      have h2 := er_len g 2 (by omega) (fun h => by omega) (r.toNat + 1) r.toNat 0 (by omega) hi
      have h3 := pre_len_le g hi
      have e : erT L r = erN L r.toNat 0 := rfl
      rw [e]
      omega
    have hcE := F.check (by omega)
    have hsE : (erT L r).all smallN = true := List.all_eq_true.2 fun x hx => (fineE_strict (F.fine x hx)).2.1
    have hfE : (erT L r).all fineN = true := List.all_eq_true.2 fun x hx => (fineE_strict (F.fine x hx)).2.2.1
    have hmE : midS (erT L r) = true := by
      unfold midS
      rw [hsE, decide_eq_true (by omega)]
      rfl
    have gE := F.good
    have hposE := gE.pos
    have hrE := gE.root
    have hiE : (erR L r).toNat < (erT L r).length := by omega
    have e5 : (erR L r).toNat = (erT L r).length - 1 := by omega
    -- nothing is strict in it
    have hno : ∀ (i : Nat), i < (erT L r).length → strictN (getN (erT L r) i) = false := fun i hi => (fineE_strict (F.fine _ (List.mem_of_getElem? (getN_get hi)))).1
    have hnot : ∀ (i : Nat), i < (erT L r).length → tests (nKind (getN (erT L r) i)) = false := fun i hi => (fineE_strict (F.fine _ (List.mem_of_getElem? (getN_get hi)))).2.2.2
    have hpreno : ∀ k ∈ preN (erT L r) (erR L r).toNat, strictN (getN (erT L r) k.toNat) = false := fun k hk => by
      have := pre_le gE ((erR L r).toNat + 1) (erR L r).toNat (by omega) hiE k hk
      exact hno k.toNat (by omega)
    have hlen2 : (erT (erT L r) (erR L r)).length ≤ 1000 := by
      have h2 := er_len gE 1 (by omega) (fun _ i hi => hnot i hi) ((erR L r).toNat + 1) (erR L r).toNat 0 (by omega) hiE
      have h3 := pre_len_le gE hiE
      have e : erT (erT L r) (erR L r) = erN (erT L r) (erR L r).toNat 0 := rfl
      rw [e]
      omega
    have F2 := er_facts hcE hsE hfE F.ends
    have hcE2 := F2.check (by omega)
    have gE2 := F2.good
    have hposE2 := gE2.pos
    have hrE2 := gE2.root
    have hsE2 : (erT (erT L r) (erR L r)).all smallN = true := List.all_eq_true.2 fun x hx => (fineE_strict (F2.fine x hx)).2.1
    have hfE2 : (erT (erT L r) (erR L r)).all fineN = true := List.all_eq_true.2 fun x hx => (fineE_strict (F2.fine x hx)).2.2.1
    have hmE2 : midS (erT (erT L r) (erR L r)) = true := by
      unfold midS
      rw [hsE2, decide_eq_true (by omega)]
      rfl
    have e52 : (erR (erT L r) (erR L r)).toNat = (erT (erT L r) (erR L r)).length - 1 := by omega
    -- the texts
    have f0 : formS L r r = formN L r.toNat := by
      rw [formS_in hc0 (by omega) (by omega)]
      exact formB_false g (r.toNat + 1) r.toNat (by omega) hi
    have f1 : formS (erT L r) (erR L r) (erR L r) = formB true L r.toNat := by
      rw [formS_in hcE (by omega) (by omega)]
      show formB false (erT L r) (erR L r).toNat = _
      rw [formB_false gE ((erR L r).toNat + 1) (erR L r).toNat (by omega) hiE, e5]
      exact F.form
    have f2 : formS (erT (erT L r) (erR L r)) (erR (erT L r) (erR L r)) (erR (erT L r) (erR L r)) = formS (erT L r) (erR L r) (erR L r) := by
      rw [formS_in hcE2 (by omega) (by omega)]
      show formB false (erT (erT L r) (erR L r)) (erR (erT L r) (erR L r)).toNat = _
      rw [formB_false gE2 ((erR (erT L r) (erR L r)).toNat + 1) _ (by omega) (by omega), e52, F2.form, form_same gE ((erR L r).toNat + 1) (erR L r).toNat (by omega) hiE hpreno]
      rw [formS_in hcE (by omega) (by omega)]
      exact (formB_false gE ((erR L r).toNat + 1) (erR L r).toNat (by omega) hiE).symm
    have n1 := formS_ne (r := erR L r) hcE (a := erR L r) (by omega) (by omega)
    have n0 := formS_ne (r := r) hc0 (a := r) (by omega) (by omega)
    have hw : walkS L r = preN L r.toNat := by
      have := walkS_in (L := L) (i := r.toNat) hi
      rwa [Int.toNat_of_nonneg (by omega)] at this
    have hmk : sameS L r (erT L r) (erR L r) = !(mkdS L r).2 := by
      cases e : (mkdS L r).2
      · have h2 : ∀ k ∈ preN L r.toNat, strictN (getN L k.toNat) = false := fun k hk => by
          cases e2 : strictN (getN L k.toNat)
          · rfl
          · have := (markS_true (L := L) (ks := walkS L r)).2 ⟨k, by rw [hw]; exact hk, e2⟩
            have e : (markS L (walkS L r)).2 = false := e
            rw [e] at this
            cases this
        have h3 := form_same g (r.toNat + 1) r.toNat (by omega) hi h2
        unfold sameS
        rw [f1, f0, h3]
        rw [f0] at n0
        rw [n0]
        simp
      · have h2 := (markS_true (L := L) (ks := walkS L r)).1 e
        rw [hw] at h2
        have h3 := form_diff g (r.toNat + 1) r.toNat (by omega) hi h2 [] [] (.inl rfl) (.inl rfl)
        rw [List.append_nil, List.append_nil] at h3
        unfold sameS
        rw [f1, f0]
        have : (formN L r.toNat == formB true L r.toNat) = false := by simpa using h3
        rw [this]
        rfl
    have hmE0 : (mkdS (erT L r) (erR L r)).2 = false := by
      cases e : (mkdS (erT L r) (erR L r)).2
      · rfl
      · obtain ⟨k, hk, hk2⟩ := (markS_true (L := erT L r) (ks := walkS (erT L r) (erR L r))).1 e
        have hwE : walkS (erT L r) (erR L r) = preN (erT L r) (erR L r).toNat := by
          have := walkS_in (L := erT L r) (i := (erR L r).toNat) hiE
          rwa [Int.toNat_of_nonneg (by omega)] at this
        rw [hwE] at hk
        rw [hpreno k hk] at hk2
        cases hk2
    have k1 : okEr ((L, r, ()), ()) = true := okErS_of hm hf he hc0 (show (erT L r).length ≤ 1000 by omega)
    have k2 : okMk ((L, r, ()), ()) = true := by
      show (midS L && checkS L r == 0) = true
      rw [hm, hc0]; rfl
    have k3 : okMk ((erT L r, erR L r, ()), ()) = true := by
      show (midS (erT L r) && checkS (erT L r) (erR L r) == 0) = true
      rw [hmE, hcE]; rfl
    have k4 : smallTr ((erT L r, erR L r, ()), ()) = true := hmE
    have k5 : (checkS (erT L r) (erR L r) != 0) = false := by rw [hcE]; rfl
    have k6 : okFm ((erT L r, erR L r, ()), erR L r, ()) = true := okFm_of hmE hfE
    have k7 : okG 1000000 ((L, r, ()), r, true, ()) = true := by
      refine okGS_of (okLR_of hm hc0) hf (by omega) (by omega) (by omega) ?_
      have := form_room gE hmE hfE (i := (erT L r).length - 1) (by omega)
      rw [F.form] at this
      have hmr : maxRoom = 68719476736 := rfl
      omega
    have k8 : (formS (erT L r) (erR L r) (erR L r) == formBS true L r) = true := by
      rw [f1]
      show (formB true L r.toNat == formB true L r.toNat) = true
      simp
    have k9 : okEr ((erT L r, erR L r, ()), ()) = true := okErS_of hmE hfE F.ends hcE hlen2
    have k10 : okTT ((erT (erT L r) (erR L r), erR (erT L r) (erR L r), ()), (erT L r, erR L r, ()), ()) = true := okTT_of hmE2 hfE2 hmE hfE
    have k11 : sameS (erT (erT L r) (erR L r)) (erR (erT L r) (erR L r)) (erT L r) (erR L r) = true := by
      unfold sameS
      rw [f2, n1]
      simp
    have k12 : okTT ((L, r, ()), (erT L r, erR L r, ()), ()) = true := okTT_of hm hf hmE hfE
    have k13 : (sameS L r (erT L r) (erR L r) == (mkdS L r).2) = false := by
      rw [hmk]
      cases (mkdS L r).2 <;> rfl
    have k14 : okW 1000000 ((L, r, ()), r, ()) = true := by
      have h8 : inI r L.length = true := inI_of (by omega) (by omega)
      have h9 : decide (r < 1000000) = true := decide_eq_true (by omega)
      rw [okW_eq, okLR_of hm hc0, h8, h9]
      rfl
    have hin : ∀ k ∈ walkS L r, 0 ≤ k ∧ k < (L.length : Int) := fun k hk => by
      rw [hw] at hk
      have := pre_le g (r.toNat + 1) r.toNat (by omega) hi k hk
      omega
    obtain ⟨q1, q2⟩ := fEnd_mark (L := L) (ks := walkS L r) fun k hk => (hin k hk).1
    have hwl : (walkS L r).length ≤ 1000 := by
      rw [hw]
      have := pre_len_le g hi
      omega
    obtain ⟨fuel, hfin⟩ := fin6_a (L := L) (r := r) (a := (mkdS L r).1) (m := (mkdS L r).2) hwl hmS.2 hin (walkS L r) [] (-1) rfl q1 q2
    refine ⟨fuel, (start6 _ L r).trans ?_⟩
    simp only [hs, h1, hc, k1, k2, k3, k4, k5, k6, k7, k8, k9, k10, k11, k12, k13, k14, hmE0, Bool.not_true, cond_true, cond_false]
    exact hfin
  · exact ⟨0, by rw [start6, hs, h1, hc]; rfl⟩
theorem law6_SA {w0 : World} (tb : TabsAt w0) (L : List Nd) (r : Int) (hf : L.all fineN = true) (he : L.all endsN = true) : SA Tryd.prog (GW w0) 6 [.agg (trC L r)] [] (outB true) := by
  obtain ⟨fuel, h⟩ := law6_start L r hf he
  exact start_ok (envOK []) (tabI_ok (lib6_ok tb)) fc6 (.inl gen0_nil) h
end Go.Sx.Tryd
