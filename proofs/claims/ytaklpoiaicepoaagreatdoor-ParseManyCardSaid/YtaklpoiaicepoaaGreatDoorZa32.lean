/- A part of the proof: see the row's text. -/
import Derived.Test.YtaklpoiaicepoaaGreatDoorZa31
set_option linter.unusedVariables false
set_option linter.unusedSimpArgs false
noncomputable section
namespace Go.Sx.Tryz
open Go Go.Sx Go.Proofs
set_option maxRecDepth 100000
section
variable {T : List UInt8} {K : List Tok} {a d : Int} {A : List Nd} {r : List Tk} {k : Int} {s : List UInt8} {q : Kn}
theorem few_no {n : Int} (h : 64 < n) : cFew K n a d A = .fault 2 (tFrom (tokAt K a)) := by
 unfold cFew
 rw [decide_eq_true (by omega : n > 64)]
 rfl
theorem add_no (x : Nd) (f : Int) (hl : 8192 ≤ A.length) : cAdd K x f a d A = .fault 2 f := by
 unfold cAdd
 rw [decide_eq_true (by omega : ((A.length : Int) ≥ 8192))]
 rfl
theorem class_one (h : At T K a (clsK ++ r)) (hl : A.length < 8192) : ∃ N, cClass T K q a d A = .ok (A.length : Int) (a + 4) d (A ++ [N]) := by
 have h : At T K a ((1, [99, 108, 97, 115, 115]) :: (1, [65]) :: (5, [123]) :: (5, [125]) :: r) := h
 have h3 : At T K (a + 3) ((5, [125]) :: r) := by rw [show a + 3 = a + 1 + 1 + 1 by omega]; exact h.step.step.step
 obtain ⟨N, hN⟩ := classL_end (q := q) (f := tFrom (tokAt K a)) (n := K.length + 1) (L := []) (w := [65]) (d := d) h3 hl
 refine ⟨N, (class_open h).trans (hN.trans ?_)⟩
 rw [show a + 3 + 1 = a + 4 by omega]
theorem programL_few {n : Nat} {L : List Int} (h : At T K a ((k, s) :: r)) (hk : (k == 0) = false) (hL : 64 ≤ L.length) : ∃ p, cProgramL T K q (n + 1) L a d A = .fault 2 p := by
 refine ⟨tFrom (tokAt K a), ?_⟩
 rw [programL_eq]
 show (cNext T K a d A).bind _ = _
 rw [next_at h]
 simp only [PR.bind]
 rw [h.get.1, hk]
 simp only [cond_false]
 show (cFew K ((L.length : Int) + 1) a d A).bind _ = _
 rw [few_no (by omega)]
 rfl
theorem at_four {u : List Tk} (h : At T K a (clsK ++ u)) : At T K (a + 4) u := by
 have h : At T K a ((1, [99, 108, 97, 115, 115]) :: (1, [65]) :: (5, [123]) :: (5, [125]) :: u) := h
 rw [show a + 4 = a + 1 + 1 + 1 + 1 by omega]
 exact h.step.step.step.step
theorem progL_ok : ∀ (j n : Nat) (L : List Int) (a : Int) (A : List Nd), At T K a (repK clsK j ++ [(0, [])]) → L.length + j ≤ 64 → A.length + j < 8192 → j < n → ∃ b B, cProgramL T K q n L a d A = .ok () b d B
 | _, 0, _, _, _, _, _, _, hn => absurd hn (Nat.not_lt_zero _)
 | 0, n + 1, L, a, A, h, _, hl, _ => by
  obtain ⟨B, hB⟩ := programL_end (q := q) (n := n) (L := L) (d := d) (A := A) (r := []) (s := []) h (by omega)
  exact ⟨_, _, hB⟩
 | j + 1, n + 1, L, a, A, h, hL, hl, hn => by
  have h : At T K a (clsK ++ (repK clsK j ++ [(0, [])])) := by
   have e : repK clsK (j + 1) ++ [((0 : Int), ([] : List UInt8))] = clsK ++ (repK clsK j ++ [(0, [])]) := by simp [repK, List.append_assoc]
   rwa [e] at h
  obtain ⟨N, hN⟩ := class_one (q := q) (d := d) (A := A) h (by omega)
  obtain ⟨b, B, hB⟩ := progL_ok j n (L ++ [(A.length : Int)]) (a + 4) (A ++ [N]) (at_four h) (by simp; omega) (by simp; omega) (by omega)
  refine ⟨b, B, ?_⟩
  rw [programL_step (k := 1) (s := [99, 108, 97, 115, 115]) (r := (1, [65]) :: (5, [123]) :: (5, [125]) :: (repK clsK j ++ [(0, [])])) h rfl (by omega)]
  show (cClass T K q a d A).bind _ = _
  rw [hN]
  exact hB
theorem progL_no : ∀ (j n : Nat) (L : List Int) (a : Int) (A : List Nd), At T K a (repK clsK j ++ [(0, [])]) → 64 < L.length + j → L.length ≤ 64 → A.length + j < 8192 → j < n → ∃ p, cProgramL T K q n L a d A = .fault 2 p
 | _, 0, _, _, _, _, _, _, _, hn => absurd hn (Nat.not_lt_zero _)
 | 0, n + 1, L, a, A, h, h1, h2, _, _ => by omega
 | j + 1, n + 1, L, a, A, h, h1, h2, hl, hn => by
  have h : At T K a (clsK ++ (repK clsK j ++ [(0, [])])) := by
   have e : repK clsK (j + 1) ++ [((0 : Int), ([] : List UInt8))] = clsK ++ (repK clsK j ++ [(0, [])]) := by simp [repK, List.append_assoc]
   rwa [e] at h
  have h' : At T K a ((1, [99, 108, 97, 115, 115]) :: (1, [65]) :: (5, [123]) :: (5, [125]) :: (repK clsK j ++ [(0, [])])) := h
  by_cases hL : L.length = 64
  ·exact programL_few h' rfl (by omega)
  ·obtain ⟨N, hN⟩ := class_one (q := q) (d := d) (A := A) h (by omega)
   obtain ⟨p, hp⟩ := progL_no j n (L ++ [(A.length : Int)]) (a + 4) (A ++ [N]) (at_four h) (by simp; omega) (by simp; omega) (by simp; omega) (by omega)
   refine ⟨p, ?_⟩
   rw [programL_step h' rfl (by omega)]
   show (cClass T K q a d A).bind _ = _
   rw [hN]
   exact hp
theorem member_fld (h : At T K a (fldK ++ r)) (hl : A.length < 8192) : ∃ N, cMember T K q a d A = .ok (A.length : Int) (a + 3) d (A ++ [N]) := by
 have h : At T K a ((1, [105, 110, 116]) :: (1, [120]) :: (5, [59]) :: r) := h
 have h2 : At T K (a + 2) ((5, [59]) :: r) := by rw [show a + 2 = a + 1 + 1 by omega]; exact h.step.step
 refine ⟨spanned (withK (nodT 1 [] (tFrom (tokAt K a)) (tTo (tokAt K a)) (tTo (tokAt K a))) 4 (nKids (nodT 1 [] (tFrom (tokAt K a)) (tTo (tokAt K a)) (tTo (tokAt K a)))) [120]) (tFrom (tokAt K a)) (lastTo K (a + 3) (tFrom (tokAt K a))), ?_⟩
 unfold cMember
 show (cNext T K a d A).bind _ = _
 rw [next_at h]
 simp only [PR.bind]
 rw [h.get.1]
 show (cTyped T K true a d A).bind _ = _
 rw [typed_int h rfl rfl h2 (by simp)]
 simp only [PR.bind]
 show (cName T K (a + 1) d A).bind _ = _
 rw [name_at h.step (by decide)]
 simp only [PR.bind]
 show (cIs T K [40] (a + 1 + 1) d A).bind _ = _
 rw [is_at h.step.step]
 simp only [PR.bind]
 show (cWant T K [59] (a + 1 + 1) d A).bind _ = _
 rw [want_at h.step.step rfl]
 simp only [PR.bind]
 rw [show a + 1 + 1 + 1 = a + 3 by omega]
 exact add_at _ _ hl
theorem classL_few {f : Int} {n : Nat} {L : List Int} {w : List UInt8} (h : At T K a ((k, s) :: r)) (hs : ((k == 1 || k == 5) && s == [125]) = false) (hL : 64 ≤ L.length) : ∃ p, cClassL T K q f w (n + 1) L a d A = .fault 2 p := by
 refine ⟨tFrom (tokAt K a), ?_⟩
 rw [classL_eq]
 show (cIs T K [125] a d A).bind _ = _
 rw [is_at h, hs]
 simp only [PR.bind, cond_false]
 show (cFew K ((L.length : Int) + 1) a d A).bind _ = _
 rw [few_no (by omega)]
 rfl
theorem at_fld {u : List Tk} (h : At T K a (fldK ++ u)) : At T K (a + 3) u := by
 have h : At T K a ((1, [105, 110, 116]) :: (1, [120]) :: (5, [59]) :: u) := h
 rw [show a + 3 = a + 1 + 1 + 1 by omega]
 exact h.step.step.step
theorem repK_succ (u : List Tk) (j : Nat) (r : List Tk) : repK u (j + 1) ++ r = u ++ (repK u j ++ r) := by simp [repK, List.append_assoc]
theorem fldL_ok {f : Int} {w : List UInt8} : ∀ (j n : Nat) (L : List Int) (a : Int) (A : List Nd), At T K a (repK fldK j ++ (5, [125]) :: r) → L.length + j ≤ 64 → A.length + j < 8191 → j < n → ∃ v b B, cClassL T K q f w n L a d A = .ok v b d B ∧ B.length = A.length + j + 1 ∧ At T K b r
 | _, 0, _, _, _, _, _, _, hn => absurd hn (Nat.not_lt_zero _)
 | 0, n + 1, L, a, A, h, _, hl, _ => by
  have h : At T K a ((5, [125]) :: r) := h
  obtain ⟨N, hN⟩ := classL_end (q := q) (f := f) (n := n) (L := L) (w := w) (d := d) (A := A) h (by omega)
  exact ⟨_, _, _, hN, by simp, h.step⟩
 | j + 1, n + 1, L, a, A, h, hL, hl, hn => by
  rw [repK_succ] at h
  obtain ⟨N, hN⟩ := member_fld (q := q) (d := d) (A := A) h (by omega)
  obtain ⟨v, b, B, hB, hb, ha⟩ := fldL_ok j n (L ++ [(A.length : Int)]) (a + 3) (A ++ [N]) (at_fld h) (by simp; omega) (by simp; omega) (by omega)
  refine ⟨v, b, B, ?_, by rw [hb]; simp; omega, ha⟩
  rw [classL_step (k := 1) (s := [105, 110, 116]) (r := (1, [120]) :: (5, [59]) :: (repK fldK j ++ (5, [125]) :: r)) h rfl (by omega)]
  show (cMember T K q a d A).bind _ = _
  rw [hN]
  exact hB
theorem fldL_no {f : Int} {w : List UInt8} : ∀ (j n : Nat) (L : List Int) (a : Int) (A : List Nd), At T K a (repK fldK j ++ r) → 64 < L.length + j → L.length ≤ 64 → A.length + j < 8191 → j < n → ∃ p, cClassL T K q f w n L a d A = .fault 2 p
 | _, 0, _, _, _, _, _, _, _, hn => absurd hn (Nat.not_lt_zero _)
 | 0, n + 1, L, a, A, h, h1, h2, _, _ => by omega
 | j + 1, n + 1, L, a, A, h, h1, h2, hl, hn => by
  rw [repK_succ] at h
  have h' : At T K a ((1, [105, 110, 116]) :: (1, [120]) :: (5, [59]) :: (repK fldK j ++ r)) := h
  by_cases hL : L.length = 64
  ·exact classL_few h' rfl (by omega)
  ·obtain ⟨N, hN⟩ := member_fld (q := q) (d := d) (A := A) h (by omega)
   obtain ⟨p, hp⟩ := fldL_no (f := f) (w := w) j n (L ++ [(A.length : Int)]) (a + 3) (A ++ [N]) (at_fld h) (by simp; omega) (by simp; omega) (by simp; omega) (by omega)
   refine ⟨p, ?_⟩
   rw [classL_step h' rfl (by omega)]
   show (cMember T K q a d A).bind _ = _
   rw [hN]
   exact hp
theorem one_ok (h : At T K 0 (opnK ++ r)) (hc : ∀ f, ∃ v b B, cClassL T K q f [65] (K.length + 2) [] 3 0 [] = .ok v b 0 B ∧ B.length < 8192 ∧ At T K b [(0, [])]) : ∃ b B, cProgram T K q 0 0 [] = .ok () b 0 B := by
 have h : At T K 0 ((1, [99, 108, 97, 115, 115]) :: (1, [65]) :: (5, [123]) :: r) := h
 obtain ⟨v, b, B, h1, h2, h3⟩ := hc (tFrom (tokAt K 0))
 obtain ⟨C, hC⟩ := programL_end (q := q) (n := K.length) (L := [] ++ [v]) (d := 0) (A := B) (r := []) (s := []) h3 h2
 refine ⟨b, C, ?_⟩
 unfold cProgram
 rw [programL_step (n := K.length + 1) h rfl (by simp)]
 show (cClass T K q 0 0 []).bind _ = _
 rw [class_open h]
 show (cClassL T K q (tFrom (tokAt K 0)) [65] (K.length + 2) [] 3 0 []).bind _ = _
 rw [h1]
 exact hC
theorem one_no (h : At T K 0 (opnK ++ r)) (hc : ∀ f, ∃ p, cClassL T K q f [65] (K.length + 2) [] 3 0 [] = .fault 2 p) : ∃ p, cProgram T K q 0 0 [] = .fault 2 p := by
 have h : At T K 0 ((1, [99, 108, 97, 115, 115]) :: (1, [65]) :: (5, [123]) :: r) := h
 obtain ⟨p, hp⟩ := hc (tFrom (tokAt K 0))
 refine ⟨p, ?_⟩
 unfold cProgram
 rw [programL_step (n := K.length + 1) h rfl (by simp)]
 show (cClass T K q 0 0 []).bind _ = _
 rw [class_open h]
 show (cClassL T K q (tFrom (tokAt K 0)) [65] (K.length + 2) [] 3 0 []).bind _ = _
 rw [hp]
 rfl
theorem member_par (h : At T K a ((1, [105, 110, 116]) :: (1, [102]) :: (5, [40]) :: r)) (hr : r ≠ []) : ∃ x f, cMember T K q a d A = (((cParams T K).bind fun l => q.blk.bind fun b => cAdd K (withK x 6 (l ++ [b]) [102]) f) : Pm Int) (a + 2) d A := by
 refine ⟨nodT 1 [] (tFrom (tokAt K a)) (tTo (tokAt K a)) (tTo (tokAt K a)), tFrom (tokAt K a), ?_⟩
 unfold cMember
 show (cNext T K a d A).bind _ = _
 rw [next_at h]
 simp only [PR.bind]
 rw [h.get.1]
 show ((cTyped T K true).bind _) a d A = _
 show (cTyped T K true a d A).bind _ = _
 have h2 : At T K (a + 2) ((5, [40]) :: r) := by rw [show a + 2 = a + 1 + 1 by omega]; exact h.step.step
 rw [typed_int h rfl rfl h2 (by simp)]
 simp only [PR.bind]
 show (cName T K (a + 1) d A).bind _ = _
 rw [name_at h.step (by decide)]
 simp only [PR.bind]
 show (cIs T K [40] (a + 1 + 1) d A).bind _ = _
 rw [is_at h.step.step]
 simp only [PR.bind]
 rw [show a + 1 + 1 = a + 2 by omega]
 rfl
theorem par_one {n : Nat} {L : List Int} (h : At T K a ((1, [105, 110, 116]) :: (1, [120]) :: r)) (hr : r ≠ []) (hl : A.length < 8192) : ∃ N, (((cNext T K).bind fun t => (cTyped T K false).bind fun x => (cName T K).bind fun s => (cAdd K (withK x 7 (nKids x) s) (tFrom t.1)).bind fun y => cParamsL T K n (L ++ [y])) : Pm (List Int)) a d A = cParamsL T K n (L ++ [(A.length : Int)]) (a + 2) d (A ++ [N]) := by
 have h2 : At T K (a + 2) r := by rw [show a + 2 = a + 1 + 1 by omega]; exact h.step.step
 refine ⟨spanned (withK (nodT 1 [] (tFrom (tokAt K a)) (tTo (tokAt K a)) (tTo (tokAt K a))) 7 (nKids (nodT 1 [] (tFrom (tokAt K a)) (tTo (tokAt K a)) (tTo (tokAt K a)))) [120]) (tFrom (tokAt K a)) (lastTo K (a + 1 + 1) (tFrom (tokAt K a))), ?_⟩
 show (cNext T K a d A).bind _ = _
 rw [next_at h]
 simp only [PR.bind]
 show (cTyped T K false a d A).bind _ = _
 rw [typed_int h rfl rfl h2 hr]
 simp only [PR.bind]
 show (cName T K (a + 1) d A).bind _ = _
 rw [name_at h.step (by decide)]
 simp only [PR.bind]
 show (cAdd K _ _ (a + 1 + 1) d A).bind _ = _
 rw [add_at _ _ hl]
 simp only [PR.bind]
 rw [show a + 1 + 1 = a + 2 by omega]
def cpK : List Tk := [(5, [44]), (1, [105, 110, 116]), (1, [120])]
theorem par_turn (r : List Tk) : ∀ n, repK parK n ++ (1, [105, 110, 116]) :: (1, [120]) :: r = (1, [105, 110, 116]) :: (1, [120]) :: (repK cpK n ++ r)
 | 0 => rfl
 | n + 1 => by
  rw [repK_succ, par_turn r n, repK_succ]
  rfl
theorem parL_end {n : Nat} {L : List Int} (h : At T K a ((5, [41]) :: r)) : cParamsL T K (n + 1) L a d A = .ok L (a + 1) d A := by
 rw [paramsL_eq]
 show (cTake T K [41] a d A).bind _ = _
 rw [take_yes h rfl]
 rfl
theorem parL_step {n : Nat} {L : List Int} (hL : 0 < L.length) (h64 : L.length < 64) (h : At T K a ((5, [44]) :: (1, [105, 110, 116]) :: (1, [120]) :: r)) (hr : r ≠ []) (hl : A.length < 8192) : ∃ N, cParamsL T K (n + 1) L a d A = cParamsL T K n (L ++ [(A.length : Int)]) (a + 3) d (A ++ [N]) := by
 obtain ⟨N, hN⟩ := par_one (n := n) (L := L) (d := d) (A := A) h.step hr hl
 refine ⟨N, ?_⟩
 rw [paramsL_eq]
 show (cTake T K [41] a d A).bind _ = _
 rw [take_no h rfl]
 simp only [PR.bind, cond_false]
 rw [decide_eq_true (by omega : ((L.length : Int) > 0))]
 simp only [cond_true]
 show ((cWant T K [44] a d A).bind _).bind _ = _
 rw [want_at h rfl]
 simp only [PR.bind]
 show (cFew K ((L.length : Int) + 1) (a + 1) d A).bind _ = _
 rw [few_at (by omega)]
 rw [show a + 1 + 2 = a + 3 by omega] at hN
 exact hN
theorem parL_few {n : Nat} {L : List Int} (h64 : 64 ≤ L.length) (h : At T K a ((5, [44]) :: r)) : ∃ p, cParamsL T K (n + 1) L a d A = .fault 2 p := by
 refine ⟨tFrom (tokAt K (a + 1)), ?_⟩
 rw [paramsL_eq]
 show (cTake T K [41] a d A).bind _ = _
 rw [take_no h rfl]
 simp only [PR.bind, cond_false]
 rw [decide_eq_true (by omega : ((L.length : Int) > 0))]
 simp only [cond_true]
 show ((cWant T K [44] a d A).bind _).bind _ = _
 rw [want_at h rfl]
 simp only [PR.bind]
 show (cFew K ((L.length : Int) + 1) (a + 1) d A).bind _ = _
 rw [few_no (by omega)]
 rfl
theorem at_cp {u : List Tk} (h : At T K a (cpK ++ u)) : At T K (a + 3) u := by
 have h : At T K a ((5, [44]) :: (1, [105, 110, 116]) :: (1, [120]) :: u) := h
 rw [show a + 3 = a + 1 + 1 + 1 by omega]
 exact h.step.step.step
theorem parL_ok : ∀ (j n : Nat) (L : List Int) (a : Int) (A : List Nd), At T K a (repK cpK j ++ (5, [41]) :: r) → 0 < L.length → L.length + j ≤ 64 → A.length + j < 8192 → j < n → ∃ l B, cParamsL T K n L a d A = .ok l (a + 3 * j + 1) d B ∧ B.length = A.length + j ∧ At T K (a + 3 * j + 1) r
 | _, 0, _, _, _, _, _, _, _, hn => absurd hn (Nat.not_lt_zero _)
 | 0, n + 1, L, a, A, h, _, _, hl, _ => by
  have h : At T K a ((5, [41]) :: r) := h
  rw [show a + 3 * ((0 : Nat) : Int) + 1 = a + 1 by omega]
  exact ⟨_, _, parL_end h, by simp, h.step⟩
 | j + 1, n + 1, L, a, A, h, h0, hL, hl, hn => by
  rw [repK_succ] at h
  have h' : At T K a ((5, [44]) :: (1, [105, 110, 116]) :: (1, [120]) :: (repK cpK j ++ (5, [41]) :: r)) := h
  obtain ⟨N, hN⟩ := parL_step (n := n) (L := L) (d := d) (A := A) h0 (by omega) h' (by simp) (by omega)
  obtain ⟨l, B, hB, hb, ha⟩ := parL_ok j n (L ++ [(A.length : Int)]) (a + 3) (A ++ [N]) (at_cp h) (by simp) (by simp; omega) (by simp; omega) (by omega)
  rw [show a + 3 * ((j + 1 : Nat) : Int) + 1 = a + 3 + 3 * (j : Int) + 1 by omega]
  exact ⟨l, B, hN.trans hB, by rw [hb]; simp; omega, ha⟩
theorem parL_no : ∀ (j n : Nat) (L : List Int) (a : Int) (A : List Nd), At T K a (repK cpK j ++ (5, [41]) :: r) → 0 < L.length → 64 < L.length + j → L.length ≤ 64 → A.length + j < 8192 → j < n → ∃ p, cParamsL T K n L a d A = .fault 2 p
 | _, 0, _, _, _, _, _, _, _, _, hn => absurd hn (Nat.not_lt_zero _)
 | 0, n + 1, L, a, A, h, _, h1, h2, _, _ => by omega
 | j + 1, n + 1, L, a, A, h, h0, h1, h2, hl, hn => by
  rw [repK_succ] at h
  have h' : At T K a ((5, [44]) :: (1, [105, 110, 116]) :: (1, [120]) :: (repK cpK j ++ (5, [41]) :: r)) := h
  by_cases hL : L.length = 64
  ·exact parL_few (by omega) h'
  ·obtain ⟨N, hN⟩ := parL_step (n := n) (L := L) (d := d) (A := A) h0 (by omega) h' (by simp) (by omega)
   obtain ⟨p, hp⟩ := parL_no j n (L ++ [(A.length : Int)]) (a + 3) (A ++ [N]) (at_cp h) (by simp) (by simp; omega) (by simp; omega) (by simp; omega) (by omega)
   exact ⟨p, hN.trans hp⟩
theorem params_open {u : List Tk} (h : At T K a ((5, [40]) :: (1, [105, 110, 116]) :: (1, [120]) :: u)) (hu : u ≠ []) (hl : A.length < 8192) : ∃ N, cParams T K a d A = cParamsL T K (K.length + 1) [(A.length : Int)] (a + 3) d (A ++ [N]) := by
 obtain ⟨N, hN⟩ := par_one (n := K.length + 1) (L := []) (d := d) (A := A) h.step hu hl
 refine ⟨N, ?_⟩
 unfold cParams
 show (cWant T K [40] a d A).bind _ = _
 rw [want_at h rfl]
 simp only [PR.bind]
 rw [paramsL_eq]
 show (cTake T K [41] (a + 1) d A).bind _ = _
 rw [take_no h.step rfl]
 simp only [PR.bind, cond_false, List.length_nil]
 show (cFew K ((([] : List Int).length : Int) + 1) (a + 1) d A).bind _ = _
 rw [few_at (by simp)]
 rw [show a + 1 + 2 = a + 3 by omega] at hN
 exact hN
end
end Go.Sx.Tryz
namespace Go.Sx.Tryz
open Go Go.Sx Go.Proofs
set_option maxRecDepth 100000
section
variable {T : List UInt8} {K : List Tok} {a d : Int} {A : List Nd} {r : List Tk} {k : Int} {s : List UInt8} {q : Kn}
theorem chain_eq (j : Nat) : cChain T K q (j + 1) = (cNext T K).bind fun t => (cChain T K q j).bind fun x => cChainL T K (5 - (j : Int)) (tFrom t.1) (cChain T K q j) (K.length + 2) x := rfl
theorem chainL_eq (least f : Int) (sub : Pm Int) (n : Nat) (x : Int) : cChainL T K least f sub (n + 1) x = (cNext T K).bind fun t => bif tKind t.1 == 5 && bindsS t.2 == least then
   ((cSkip K).bind fun _ => sub.bind fun y => (cAdd K (nod 34 [x, y] t.2) f).bind fun z => cChainL T K least f sub n z)
  else bif least == 3 then ((cTake T K [105, 115]).bind fun b => bif b then
    ((cTake T K [115, 111, 109, 101]).bind fun b => bif b then (cAdd K (nod 43 [x] []) f).bind fun z => cChainL T K least f sub n z
     else (cWant T K [110, 111, 110, 101]).bind fun _ => (cAdd K (nod 44 [x] []) f).bind fun z => cChainL T K least f sub n z)
    else .ret x)
  else .ret x := rfl
theorem behL_eq (f : Int) (n : Nat) (x : Int) : cBehindL T K q f (n + 1) x = (cTake T K [33]).bind fun b => bif b then (cAdd K (nod 40 [x] []) f).bind fun y => cBehindL T K q f n y
  else (cTake T K [91]).bind fun b => bif b then q.val.bind fun y => (cWant T K [93]).bind fun _ => (cAdd K (nod 27 [x, y] []) f).bind fun y => cBehindL T K q f n y
  else (cTake T K [46]).bind fun b => bif b then (cPart T K q x f).bind fun y => cBehindL T K q f n y
  else .ret x := rfl
theorem int_one : (intS [49]).2 = 0 := by kernel_rfl
theorem cLit_no (x : Nd) (h : At T K a ((k, s) :: r)) (hk : (k != 0) = true) (hl : 8192 ≤ A.length) : ∃ p, cLit T K x 0 a d A = .fault 2 p := by
 refine ⟨tFrom (tokAt K a), ?_⟩
 unfold cLit
 show (cNext T K a d A).bind _ = _
 rw [next_at h]
 simp only [PR.bind]
 show (cSkip K a d A).bind _ = _
 rw [skip_at h hk]
 exact add_no _ _ hl
theorem prim_int_eq (h : At T K a ((2, [49]) :: r)) : cPrimary T K q a d A = cLit T K (nodV 19 (intS [49]).1 []) 0 a d A := by
 unfold cPrimary
 show (cNext T K a d A).bind _ = _
 rw [next_at h]
 simp only [PR.bind]
 rw [h.get.1]
 show cLit T K (nodV 19 (intS [49]).1 []) (intS [49]).2 a d A = _
 rw [int_one]
def lo (x : Tk) : Bool := !x.2 == [33] && (!x.2 == [91] && (!x.2 == [46] && !x.2 == [105, 115]))
theorem behindL_lo {f v : Int} {n : Nat} {x : Tk} (h : At T K a (x :: r)) (hc : lo x = true) : cBehindL T K q f (n + 1) v a d A = .ok v a d A := by
 unfold lo at hc
 simp only [Bool.and_eq_true, Bool.not_eq_true'] at hc
 obtain ⟨c3, c4, c5, c6⟩ := hc
 obtain ⟨k, s⟩ := x
 have no : ∀ w, (s == w) = false → cTake T K w a d A = .ok false a d A := fun w hw => take_no h (by rw [hw, Bool.and_false])
 unfold cBehindL Pm.bind
 rw [no [33] c3]
 show ((cTake T K [91]).bind _) a d A = _
 unfold Pm.bind
 rw [no [91] c4]
 show ((cTake T K [46]).bind _) a d A = _
 unfold Pm.bind
 rw [no [46] c5]
 rfl
theorem behind_lo {v a' d' : Int} {A' : List Nd} {x : Tk} {r' : List Tk} (h : At T K a ((k, s) :: r)) (hp : cPrimary T K q a d A = .ok v a' d' A') (h' : At T K a' (x :: r')) (hc : lo x = true) : cBehind T K q a d A = .ok v a' d' A' := by
 unfold cBehind Pm.bind
 rw [next_at h]
 show ((cPrimary T K q).bind _) a d A = _
 unfold Pm.bind
 rw [hp]
 exact behindL_lo h' hc
theorem chainL_no {least f v : Int} {sub : Pm Int} {n : Nat} {x : Tk} (h : At T K a (x :: r)) (hb : (bindsS x.2 == least) = false) (hc : lo x = true) : cChainL T K least f sub (n + 1) v a d A = .ok v a d A := by
 unfold lo at hc
 simp only [Bool.and_eq_true, Bool.not_eq_true'] at hc
 obtain ⟨c3, c4, c5, c6⟩ := hc
 obtain ⟨k, s⟩ := x
 have no : ∀ w, (s == w) = false → cTake T K w a d A = .ok false a d A := fun w hw => take_no h (by rw [hw, Bool.and_false])
 unfold cChainL Pm.bind
 rw [next_at h]
 show (cond (tKind (tokAt K a) == 5 && bindsS s == least) (_ : Pm Int) (cond (least == 3) (_ : Pm Int) (_ : Pm Int))) a d A = _
 have hb : (bindsS s == least) = false := hb
 rw [hb, Bool.and_false]
 simp only [cond_false]
 cases least == 3
 ·rfl
 ·show ((cTake T K [105, 115]).bind _) a d A = _
  unfold Pm.bind
  rw [no [105, 115] c6]
  rfl
theorem num_one {m : Nat} {x : Tk} (h : At T K a ((2, [49]) :: x :: r)) (hb : (bindsS x.2 == 5) = false) (hx : lo x = true) (hl : A.length < 8192) : ∃ N, cChain T K (kns T K (m + 1)) 1 a d A = .ok (A.length : Int) (a + 1) d (A ++ [N]) := by
 obtain ⟨N, h1, _⟩ := lit_at (nodV 19 (intS [49]).1 []) (d := d) h rfl hl
 have h2 : cUnary T K (kns T K m) a d A = .ok (A.length : Int) (a + 1) d (A ++ [N]) := (unary_to h rfl).trans (behind_lo h ((prim_int_eq h).trans h1) h.step hx)
 refine ⟨N, ?_⟩
 rw [chain_eq]
 show (cNext T K a d A).bind _ = _
 rw [next_at h]
 simp only [PR.bind]
 show ((cUnary T K (kns T K m)) a d A).bind _ = _
 rw [h2]
 exact chainL_no h.step hb hx
theorem num_no {m : Nat} {x : Tk} (h : At T K a ((2, [49]) :: x :: r)) (hl : 8192 ≤ A.length) : ∃ p, cChain T K (kns T K (m + 1)) 1 a d A = .fault 2 p := by
 obtain ⟨p, h1⟩ := cLit_no (nodV 19 (intS [49]).1 []) (d := d) h rfl hl
 have h2 : cUnary T K (kns T K m) a d A = .fault 2 p := (unary_to h rfl).trans (behind_fault h ((prim_int_eq h).trans h1))
 refine ⟨p, ?_⟩
 rw [chain_eq]
 show (cNext T K a d A).bind _ = _
 rw [next_at h]
 simp only [PR.bind]
 show ((cUnary T K (kns T K m)) a d A).bind _ = _
 rw [h2]
 rfl
theorem plus_eq {f v : Int} {sub : Pm Int} {n : Nat} (h : At T K a ((5, [43]) :: r)) : cChainL T K 4 f sub (n + 1) v a d A = ((sub.bind fun y => (cAdd K (nod 34 [v, y] [43]) f).bind fun z => cChainL T K 4 f sub n z) : Pm Int) (a + 1) d A := by
 rw [chainL_eq]
 show (cNext T K a d A).bind _ = _
 rw [next_at h]
 simp only [PR.bind]
 rw [h.get.1]
 show (cSkip K a d A).bind _ = _
 rw [skip_at h rfl]
 rfl
theorem plus_head (n : Nat) (x : Tk) (r : List Tk) : ∃ y u, repK plsK n ++ x :: r = y :: u ∧ (y = x ∨ y = (5, [43])) := by
 cases n with
 | zero => exact ⟨x, r, rfl, .inl rfl⟩
 | succ n => exact ⟨(5, [43]), (2, [49]) :: (repK plsK n ++ x :: r), by rw [repK_succ]; rfl, .inr rfl⟩
theorem at_pls {u : List Tk} (h : At T K a (plsK ++ u)) : At T K (a + 2) u := by
 have h : At T K a ((5, [43]) :: (2, [49]) :: u) := h
 rw [show a + 2 = a + 1 + 1 by omega]
 exact h.step.step
theorem plus_ok {f : Int} {m : Nat} : ∀ (j n : Nat) (v a : Int) (A : List Nd), At T K a (repK plsK j ++ (5, [59]) :: r) → A.length + 2 * j ≤ 8192 → j < n → ∃ v' B, cChainL T K 4 f (cChain T K (kns T K (m + 1)) 1) n v a d A = .ok v' (a + 2 * j) d B ∧ B.length = A.length + 2 * j ∧ At T K (a + 2 * j) ((5, [59]) :: r)
 | _, 0, _, _, _, _, _, hn => absurd hn (Nat.not_lt_zero _)
 | 0, n + 1, v, a, A, h, hl, _ => by
  have h : At T K a ((5, [59]) :: r) := h
  rw [show a + 2 * ((0 : Nat) : Int) = a by omega]
  exact ⟨_, _, chainL_no h (by decide) (by decide), by simp, h⟩
 | j + 1, n + 1, v, a, A, h, hl, hn => by
  rw [repK_succ] at h
  have h' : At T K a ((5, [43]) :: (2, [49]) :: (repK plsK j ++ (5, [59]) :: r)) := h
  obtain ⟨y, u, e, hy⟩ := plus_head j (5, [59]) r
  have h1 : At T K (a + 1) ((2, [49]) :: y :: u) := by rw [← e]; exact h'.step
  obtain ⟨N, hN⟩ := num_one (m := m) (d := d) (A := A) h1 (by rcases hy with rfl | rfl <;> decide) (by rcases hy with rfl | rfl <;> decide) (by omega)
  obtain ⟨v', B, hB, hb, ha⟩ := plus_ok (f := f) (m := m) j n ((A ++ [N]).length : Int) (a + 2) (A ++ [N] ++ [spanned (nod 34 [v, (A.length : Int)] [43]) f (lastTo K (a + 1 + 1) f)]) (at_pls h) (by simp; omega) (by omega)
  rw [show a + 2 * ((j + 1 : Nat) : Int) = a + 2 + 2 * (j : Int) by omega]
  refine ⟨v', B, ?_, by rw [hb]; simp; omega, ha⟩
  rw [plus_eq h']
  show (cChain T K (kns T K (m + 1)) 1 (a + 1) d A).bind _ = _
  rw [hN]
  simp only [PR.bind]
  show (cAdd K _ _ (a + 1 + 1) d (A ++ [N])).bind _ = _
  rw [add_at _ _ (by simp; omega)]
  simp only [PR.bind]
  rw [show a + 1 + 1 = a + 2 by omega] at hB ⊢
  exact hB
theorem plus_no {f : Int} {m : Nat} : ∀ (j n : Nat) (v a : Int) (A : List Nd), At T K a (repK plsK j ++ (5, [59]) :: r) → 8192 < A.length + 2 * j → A.length ≤ 8192 → j < n → ∃ p, cChainL T K 4 f (cChain T K (kns T K (m + 1)) 1) n v a d A = .fault 2 p
 | _, 0, _, _, _, _, _, _, hn => absurd hn (Nat.not_lt_zero _)
 | 0, n + 1, v, a, A, h, h1, h2, _ => by omega
 | j + 1, n + 1, v, a, A, h, h1, h2, hn => by
  rw [repK_succ] at h
  have h' : At T K a ((5, [43]) :: (2, [49]) :: (repK plsK j ++ (5, [59]) :: r)) := h
  obtain ⟨y, u, e, hy⟩ := plus_head j (5, [59]) r
  have h1' : At T K (a + 1) ((2, [49]) :: y :: u) := by rw [← e]; exact h'.step
  by_cases hl : A.length < 8192
  ·obtain ⟨N, hN⟩ := num_one (m := m) (d := d) (A := A) h1' (by rcases hy with rfl | rfl <;> decide) (by rcases hy with rfl | rfl <;> decide) hl
   by_cases hl2 : A.length + 1 < 8192
   ·obtain ⟨p, hp⟩ := plus_no (f := f) (m := m) j n ((A ++ [N]).length : Int) (a + 2) (A ++ [N] ++ [spanned (nod 34 [v, (A.length : Int)] [43]) f (lastTo K (a + 1 + 1) f)]) (at_pls h) (by simp; omega) (by simp; omega) (by omega)
    refine ⟨p, ?_⟩
    rw [plus_eq h']
    show (cChain T K (kns T K (m + 1)) 1 (a + 1) d A).bind _ = _
    rw [hN]
    simp only [PR.bind]
    show (cAdd K _ _ (a + 1 + 1) d (A ++ [N])).bind _ = _
    rw [add_at _ _ (by simp; omega)]
    simp only [PR.bind]
    rw [show a + 1 + 1 = a + 2 by omega] at hp ⊢
    exact hp
   ·refine ⟨f, ?_⟩
    rw [plus_eq h']
    show (cChain T K (kns T K (m + 1)) 1 (a + 1) d A).bind _ = _
    rw [hN]
    simp only [PR.bind]
    show (cAdd K _ _ (a + 1 + 1) d (A ++ [N])).bind _ = _
    rw [add_no _ _ (by simp; omega)]
    rfl
  ·obtain ⟨p, hp⟩ := num_no (m := m) (d := d) (A := A) h1' (by omega)
   refine ⟨p, ?_⟩
   rw [plus_eq h']
   show (cChain T K (kns T K (m + 1)) 1 (a + 1) d A).bind _ = _
   rw [hp]
   rfl
theorem chain_up {v a' d' : Int} {A' : List Nd} {x : Tk} (i : Nat) (hq : cChain T K q i a d A = .ok v a' d' A') (h : At T K a' (x :: r)) (hc : clo x = true) : ∀ j : Nat, i + j ≤ 6 → cChain T K q (i + j) a d A = .ok v a' d' A'
 | 0, _ => hq
 | j + 1, hj => by
  have ih := chain_up i hq h hc j (by omega)
  rw [show i + (j + 1) = (i + j) + 1 from rfl, chain_eq]
  show (cChain T K q (i + j) a d A).bind _ = _
  rw [ih]
  exact chainL_clo (by omega) h hc
theorem chain_upF {c p : Int} (i : Nat) (hq : cChain T K q i a d A = .fault c p) : ∀ j : Nat, cChain T K q (i + j) a d A = .fault c p
 | 0 => hq
 | j + 1 => by
  show (cChain T K q (i + j)).bind _ a d A = _
  unfold Pm.bind
  rw [chain_upF i hq j]
  rfl
theorem value_of {v a' : Int} {A' : List Nd} (hd : d + 1 ≤ 60) (hq : cChain T K q 6 a (d + 1) A = .ok v a' (d + 1) A') : cValue T K q a d A = .ok v a' d A' := by
 unfold cValue Pm.bind
 rw [into_at hd]
 show ((cChain T K q 6).bind _) a (d + 1) A = _
 unfold Pm.bind
 rw [hq]
 show PR.ok v a' (d + 1 - 1) A' = _
 rw [show d + 1 - 1 = d by omega]
theorem value_ofF {c p : Int} (hd : d + 1 ≤ 60) (hq : cChain T K q 6 a (d + 1) A = .fault c p) : cValue T K q a d A = .fault c p := by
 unfold cValue Pm.bind
 rw [into_at hd]
 show ((cChain T K q 6).bind _) a (d + 1) A = _
 unfold Pm.bind
 rw [hq]
 rfl
theorem chain2_eq {m : Nat} {N : Nd} (h : At T K a ((k, s) :: r)) (hN : cChain T K (kns T K (m + 1)) 1 a d A = .ok (A.length : Int) (a + 1) d (A ++ [N])) : cChain T K (kns T K (m + 1)) 2 a d A = cChainL T K 4 (tFrom (tokAt K a)) (cChain T K (kns T K (m + 1)) 1) (K.length + 2) (A.length : Int) (a + 1) d (A ++ [N]) := by
 rw [chain_eq]
 show (cNext T K a d A).bind _ = _
 rw [next_at h]
 simp only [PR.bind]
 show (cChain T K (kns T K (m + 1)) 1 a d A).bind _ = _
 rw [hN]
 rfl
theorem sum_ok {m j : Nat} (hj : j ≤ K.length) (h : At T K a ((2, [49]) :: (repK plsK j ++ (5, [59]) :: r))) (hd : d + 1 ≤ 60) (hl : A.length + 1 + 2 * j ≤ 8192) : ∃ v B, (kns T K (m + 2)).val a d A = .ok v (a + 1 + 2 * j) d B ∧ B.length = A.length + 1 + 2 * j ∧ At T K (a + 1 + 2 * j) ((5, [59]) :: r) := by
 obtain ⟨y, u, e, hy⟩ := plus_head j (5, [59]) r
 have h1 : At T K a ((2, [49]) :: y :: u) := by rw [← e]; exact h
 obtain ⟨N, hN⟩ := num_one (m := m) (d := d + 1) (A := A) h1 (by rcases hy with rfl | rfl <;> decide) (by rcases hy with rfl | rfl <;> decide) (by omega)
 obtain ⟨v, B, hB, hb, ha⟩ := plus_ok (f := tFrom (tokAt K a)) (m := m) (d := d + 1) j (K.length + 2) (A.length : Int) (a + 1) (A ++ [N]) h.step (by simp; omega) (by omega)
 refine ⟨v, B, ?_, by rw [hb]; simp, ha⟩
 show cValue T K (kns T K (m + 1)) a d A = _
 refine value_of hd ?_
 exact chain_up 2 ((chain2_eq h hN).trans hB) ha (by decide) 4 (by omega)
theorem sum_no {m j : Nat} (hj : j ≤ K.length) (h : At T K a ((2, [49]) :: (repK plsK j ++ (5, [59]) :: r))) (hd : d + 1 ≤ 60) (hl : 8192 < A.length + 1 + 2 * j) (hA : A.length < 8192) : ∃ p, (kns T K (m + 2)).val a d A = .fault 2 p := by
 obtain ⟨y, u, e, hy⟩ := plus_head j (5, [59]) r
 have h1 : At T K a ((2, [49]) :: y :: u) := by rw [← e]; exact h
 obtain ⟨N, hN⟩ := num_one (m := m) (d := d + 1) (A := A) h1 (by rcases hy with rfl | rfl <;> decide) (by rcases hy with rfl | rfl <;> decide) (by omega)
 obtain ⟨p, hp⟩ := plus_no (f := tFrom (tokAt K a)) (m := m) (d := d + 1) j (K.length + 2) (A.length : Int) (a + 1) (A ++ [N]) h.step (by simp; omega) (by simp; omega) (by omega)
 refine ⟨p, ?_⟩
 show cValue T K (kns T K (m + 1)) a d A = _
 refine value_ofF hd ?_
 exact chain_upF 2 ((chain2_eq h hN).trans hp) 4
theorem arg_val {m : Nat} {x : Tk} (h : At T K a ((2, [49]) :: x :: r)) (hx : clo x = true) (hd : d + 1 ≤ 60) (hl : A.length < 8192) : ∃ N, (kns T K (m + 2)).val a d A = .ok (A.length : Int) (a + 1) d (A ++ [N]) := by
 obtain ⟨c1, c2, c3, c4, c5, c6⟩ := clo_is hx
 obtain ⟨N, hN⟩ := num_one (m := m) (d := d + 1) (A := A) h (by rw [c2]; decide) (by unfold lo; rw [c3, c4, c5, c6]; rfl) hl
 refine ⟨N, ?_⟩
 show cValue T K (kns T K (m + 1)) a d A = _
 exact value_of hd (chain_up 1 hN h.step hx 5 (by omega))
theorem argsL_eq (n : Nat) (L : List Int) : cArgsL T K q (n + 1) L = (cTake T K [41]).bind fun b => bif b then .ret L
  else (bif decide ((L.length : Int) > 0) then (cWant T K [44]).bind fun _ => .ret () else .ret ()).bind fun _ => (cFew K ((L.length : Int) + 1)).bind fun _ => q.val.bind fun x => cArgsL T K q n (L ++ [x]) := rfl
def caK : List Tk := [(5, [44]), (2, [49])]
theorem arg_turn (r : List Tk) : ∀ n, repK argK n ++ (2, [49]) :: r = (2, [49]) :: (repK caK n ++ r)
 | 0 => rfl
 | n + 1 => by
  rw [repK_succ, arg_turn r n, repK_succ]
  rfl
theorem argL_end {n : Nat} {L : List Int} (h : At T K a ((5, [41]) :: r)) : cArgsL T K q (n + 1) L a d A = .ok L (a + 1) d A := by
 rw [argsL_eq]
 show (cTake T K [41] a d A).bind _ = _
 rw [take_yes h rfl]
 rfl
theorem argL_step {m n : Nat} {L : List Int} {x : Tk} (hL : 0 < L.length) (h64 : L.length < 64) (h : At T K a ((5, [44]) :: (2, [49]) :: x :: r)) (hx : clo x = true) (hd : d + 1 ≤ 60) (hl : A.length < 8192) : ∃ N, cArgsL T K (kns T K (m + 2)) (n + 1) L a d A = cArgsL T K (kns T K (m + 2)) n (L ++ [(A.length : Int)]) (a + 2) d (A ++ [N]) := by
 obtain ⟨N, hN⟩ := arg_val (m := m) (d := d) (A := A) h.step hx hd hl
 refine ⟨N, ?_⟩
 rw [argsL_eq]
 show (cTake T K [41] a d A).bind _ = _
 rw [take_no h rfl]
 simp only [PR.bind, cond_false]
 rw [decide_eq_true (by omega : ((L.length : Int) > 0))]
 simp only [cond_true]
 show ((cWant T K [44] a d A).bind _).bind _ = _
 rw [want_at h rfl]
 simp only [PR.bind]
 show (cFew K ((L.length : Int) + 1) (a + 1) d A).bind _ = _
 rw [few_at (by omega)]
 simp only [PR.bind]
 show ((kns T K (m + 2)).val (a + 1) d A).bind _ = _
 rw [hN]
 rw [show a + 1 + 1 = a + 2 by omega]
 rfl
theorem argL_few {n : Nat} {L : List Int} (h64 : 64 ≤ L.length) (h : At T K a ((5, [44]) :: r)) : ∃ p, cArgsL T K q (n + 1) L a d A = .fault 2 p := by
 refine ⟨tFrom (tokAt K (a + 1)), ?_⟩
 rw [argsL_eq]
 show (cTake T K [41] a d A).bind _ = _
 rw [take_no h rfl]
 simp only [PR.bind, cond_false]
 rw [decide_eq_true (by omega : ((L.length : Int) > 0))]
 simp only [cond_true]
 show ((cWant T K [44] a d A).bind _).bind _ = _
 rw [want_at h rfl]
 simp only [PR.bind]
 show (cFew K ((L.length : Int) + 1) (a + 1) d A).bind _ = _
 rw [few_no (by omega)]
 rfl
theorem at_ca {u : List Tk} (h : At T K a (caK ++ u)) : At T K (a + 2) u := by
 have h : At T K a ((5, [44]) :: (2, [49]) :: u) := h
 rw [show a + 2 = a + 1 + 1 by omega]
 exact h.step.step
theorem ca_head (n : Nat) (r : List Tk) : ∃ y u, repK caK n ++ (5, [41]) :: r = y :: u ∧ clo y = true := by
 cases n with
 | zero => exact ⟨_, _, rfl, by decide⟩
 | succ n => exact ⟨(5, [44]), (2, [49]) :: (repK caK n ++ (5, [41]) :: r), by rw [repK_succ]; rfl, by decide⟩
theorem argL_ok {m : Nat} (hd : d + 1 ≤ 60) : ∀ (j n : Nat) (L : List Int) (a : Int) (A : List Nd), At T K a (repK caK j ++ (5, [41]) :: r) → 0 < L.length → L.length + j ≤ 64 → A.length + j < 8192 → j < n → ∃ l B, cArgsL T K (kns T K (m + 2)) n L a d A = .ok l (a + 2 * j + 1) d B ∧ B.length = A.length + j ∧ At T K (a + 2 * j + 1) r
 | _, 0, _, _, _, _, _, _, _, hn => absurd hn (Nat.not_lt_zero _)
 | 0, n + 1, L, a, A, h, _, _, hl, _ => by
  have h : At T K a ((5, [41]) :: r) := h
  rw [show a + 2 * ((0 : Nat) : Int) + 1 = a + 1 by omega]
  exact ⟨_, _, argL_end h, by simp, h.step⟩
 | j + 1, n + 1, L, a, A, h, h0, hL, hl, hn => by
  rw [repK_succ] at h
  obtain ⟨y, u, e, hy⟩ := ca_head j r
  have h' : At T K a ((5, [44]) :: (2, [49]) :: y :: u) := by rw [← e]; exact h
  obtain ⟨N, hN⟩ := argL_step (m := m) (n := n) (L := L) (d := d) (A := A) h0 (by omega) h' hy hd (by omega)
  obtain ⟨l, B, hB, hb, ha⟩ := argL_ok (m := m) hd j n (L ++ [(A.length : Int)]) (a + 2) (A ++ [N]) (at_ca h) (by simp) (by simp; omega) (by simp; omega) (by omega)
  rw [show a + 2 * ((j + 1 : Nat) : Int) + 1 = a + 2 + 2 * (j : Int) + 1 by omega]
  exact ⟨l, B, hN.trans hB, by rw [hb]; simp; omega, ha⟩
theorem argL_no {m : Nat} (hd : d + 1 ≤ 60) : ∀ (j n : Nat) (L : List Int) (a : Int) (A : List Nd), At T K a (repK caK j ++ (5, [41]) :: r) → 0 < L.length → 64 < L.length + j → L.length ≤ 64 → A.length + j < 8192 → j < n → ∃ p, cArgsL T K (kns T K (m + 2)) n L a d A = .fault 2 p
 | _, 0, _, _, _, _, _, _, _, _, hn => absurd hn (Nat.not_lt_zero _)
 | 0, n + 1, L, a, A, h, _, h1, h2, _, _ => by omega
 | j + 1, n + 1, L, a, A, h, h0, h1, h2, hl, hn => by
  rw [repK_succ] at h
  obtain ⟨y, u, e, hy⟩ := ca_head j r
  have h' : At T K a ((5, [44]) :: (2, [49]) :: y :: u) := by rw [← e]; exact h
  by_cases hL : L.length = 64
  ·exact argL_few (by omega) h'
  ·obtain ⟨N, hN⟩ := argL_step (m := m) (n := n) (L := L) (d := d) (A := A) h0 (by omega) h' hy hd (by omega)
   obtain ⟨p, hp⟩ := argL_no (m := m) hd j n (L ++ [(A.length : Int)]) (a + 2) (A ++ [N]) (at_ca h) (by simp) (by simp; omega) (by simp; omega) (by simp; omega) (by omega)
   exact ⟨p, hN.trans hp⟩
theorem args_open {m : Nat} {x : Tk} (h : At T K a ((5, [40]) :: (2, [49]) :: x :: r)) (hx : clo x = true) (hd : d + 1 ≤ 60) (hl : A.length < 8192) : ∃ N, cArgs T K (kns T K (m + 2)) a d A = cArgsL T K (kns T K (m + 2)) (K.length + 1) [(A.length : Int)] (a + 2) d (A ++ [N]) := by
 obtain ⟨N, hN⟩ := arg_val (m := m) (d := d) (A := A) h.step hx hd hl
 refine ⟨N, ?_⟩
 unfold cArgs
 show (cWant T K [40] a d A).bind _ = _
 rw [want_at h rfl]
 simp only [PR.bind]
 rw [argsL_eq]
 show (cTake T K [41] (a + 1) d A).bind _ = _
 rw [take_no h.step rfl]
 simp only [PR.bind, cond_false, List.length_nil]
 show (cFew K ((([] : List Int).length : Int) + 1) (a + 1) d A).bind _ = _
 rw [few_at (by simp)]
 simp only [PR.bind]
 show ((kns T K (m + 2)).val (a + 1) d A).bind _ = _
 rw [hN]
 rw [show a + 1 + 1 = a + 2 by omega]
 rfl
theorem prim_this (h : At T K a ((1, [116, 104, 105, 115]) :: r)) (hl : A.length < 8192) : ∃ N, cPrimary T K q a d A = .ok (A.length : Int) (a + 1) d (A ++ [N]) := by
 obtain ⟨N, h1, h2⟩ := lit_at (nodV 24 0 []) (d := d) h rfl hl
 refine ⟨N, ?_⟩
 unfold cPrimary
 show (cNext T K a d A).bind _ = _
 rw [next_at h]
 simp only [PR.bind]
 rw [h.get.1]
 show cKept T K q (tokAt K a) [116, 104, 105, 115] a d A = _
 exact h1
theorem beh_call {f v : Int} {n : Nat} (h : At T K a ((5, [46]) :: (1, [102]) :: (5, [40]) :: r)) : cBehindL T K q f (n + 1) v a d A = ((((cArgs T K q).bind fun l => cAdd K (nod 29 ([v] ++ l) [102]) f).bind fun y => cBehindL T K q f n y) : Pm Int) (a + 2) d A := by
 have no : ∀ w, (([46] : List UInt8) == w) = false → cTake T K w a d A = .ok false a d A := fun w hw => take_no h (by rw [hw, Bool.and_false])
 rw [behL_eq]
 show (cTake T K [33] a d A).bind _ = _
 rw [no [33] rfl]
 simp only [PR.bind, cond_false]
 show (cTake T K [91] a d A).bind _ = _
 rw [no [91] rfl]
 simp only [PR.bind, cond_false]
 show (cTake T K [46] a d A).bind _ = _
 rw [take_yes h rfl]
 simp only [PR.bind, cond_true]
 show (cPart T K q v f (a + 1) d A).bind _ = (((cArgs T K q).bind fun l => cAdd K (nod 29 ([v] ++ l) [102]) f) (a + 2) d A).bind _
 congr 1
 unfold cPart
 show (cTake T K [108, 101, 110, 103, 116, 104] (a + 1) d A).bind _ = _
 rw [take_no h.step rfl]
 simp only [PR.bind, cond_false]
 show (cTake T K [118, 97, 108] (a + 1) d A).bind _ = _
 rw [take_no h.step rfl]
 simp only [PR.bind, cond_false]
 show (cName T K (a + 1) d A).bind _ = _
 rw [name_at h.step (by decide)]
 simp only [PR.bind]
 show (cIs T K [40] (a + 1 + 1) d A).bind _ = _
 rw [is_at h.step.step]
 simp only [PR.bind]
 rw [show a + 1 + 1 = a + 2 by omega]
 rfl
theorem un_call {N : Nd} (h : At T K a ((1, [116, 104, 105, 115]) :: (5, [46]) :: (1, [102]) :: (5, [40]) :: r)) (h1 : cPrimary T K q a d A = .ok (A.length : Int) (a + 1) d (A ++ [N])) :
  cUnary T K q a d A = ((((cArgs T K q).bind fun l => cAdd K (nod 29 ([(A.length : Int)] ++ l) [102]) (tFrom (tokAt K a))).bind fun y => cBehindL T K q (tFrom (tokAt K a)) (K.length + 1) y) : Pm Int) (a + 3) d (A ++ [N]) := by
 rw [unary_to h rfl]
 unfold cBehind Pm.bind
 rw [next_at h]
 show ((cPrimary T K q).bind _) a d A = _
 unfold Pm.bind
 rw [h1]
 have := beh_call (q := q) (f := tFrom (tokAt K a)) (v := (A.length : Int)) (n := K.length + 1) (d := d) (A := A ++ [N]) h.step
 rw [show a + 1 + 2 = a + 3 by omega] at this
 exact this
theorem un_call_no {N : Nd} {c p : Int} (h : At T K a ((1, [116, 104, 105, 115]) :: (5, [46]) :: (1, [102]) :: (5, [40]) :: r)) (h1 : cPrimary T K q a d A = .ok (A.length : Int) (a + 1) d (A ++ [N])) (h2 : cArgs T K q (a + 3) d (A ++ [N]) = .fault c p) : cUnary T K q a d A = .fault c p := by
 rw [un_call h h1]
 show ((cArgs T K q (a + 3) d (A ++ [N])).bind _).bind _ = _
 rw [h2]
 rfl
theorem un_call_ok {N : Nd} {l : List Int} {b : Int} {B : List Nd} {x : Tk} {u : List Tk} (h : At T K a ((1, [116, 104, 105, 115]) :: (5, [46]) :: (1, [102]) :: (5, [40]) :: r)) (h1 : cPrimary T K q a d A = .ok (A.length : Int) (a + 1) d (A ++ [N])) (h2 : cArgs T K q (a + 3) d (A ++ [N]) = .ok l b d B)
  (hx : At T K b (x :: u)) (hc : clo x = true) (hl : B.length < 8192) : ∃ M, cUnary T K q a d A = .ok (B.length : Int) b d (B ++ [M]) ∧ nKind M = 29 := by
 refine ⟨spanned (nod 29 ([(A.length : Int)] ++ l) [102]) (tFrom (tokAt K a)) (lastTo K b (tFrom (tokAt K a))), ?_, rfl⟩
 rw [un_call h h1]
 show ((cArgs T K q (a + 3) d (A ++ [N])).bind _).bind _ = _
 rw [h2]
 simp only [PR.bind]
 show (cAdd K _ _ b d B).bind _ = _
 rw [add_at _ _ hl]
 exact behindL_clo hx hc
theorem dec_this (h : At T K a ((1, [116, 104, 105, 115]) :: r)) : cDeclares T K a d A = .ok false a d A := by
 have h0 : At T K (a + 0) ((1, [116, 104, 105, 115]) :: r) := by rw [Int.add_zero]; exact h
 unfold cDeclares
 show (cAhead T K 0 a d A).bind _ = _
 rw [ahead_at h0]
 simp only [PR.bind]
 rw [show nameS [116, 104, 105, 115] = false from by decide]
 rfl
theorem stat_this (h : At T K a ((1, [116, 104, 105, 115]) :: r)) : cStat T K q a d A = cPlain T K q (tFrom (tokAt K a)) a d A := by
 unfold cStat
 show (cNext T K a d A).bind _ = _
 rw [next_at h]
 simp only [PR.bind]
 rw [h.get.1]
 show (cDeclares T K a d A).bind _ = _
 rw [dec_this h]
 rfl
theorem plain_call {f v b : Int} {B : List Nd} {M : Nd} (hv : q.val a d A = .ok v b d (B ++ [M])) (hv' : v = (B.length : Int)) (hM : nKind M = 29) (h' : At T K b ((5, [59]) :: r)) (hl : B.length + 1 < 8192) : ∃ N, cPlain T K q f a d A = .ok ((B ++ [M]).length : Int) (b + 1) d (B ++ [M] ++ [N]) := by
 refine ⟨spanned (nod 18 [v] []) f (lastTo K (b + 1) f), ?_⟩
 unfold cPlain
 show (q.val a d A).bind _ = _
 rw [hv]
 simp only [PR.bind]
 show (cNext T K b d (B ++ [M])).bind _ = _
 rw [next_at h']
 simp only [PR.bind]
 have hk : nKind (getN (B ++ [M]) v.toNat) = 29 := by
  subst hv'
  unfold getN
  rw [Int.toNat_natCast, List.getD_eq_getElem?_getD]
  simpa using hM
 show (PR.ok (nKind (getN (B ++ [M]) v.toNat)) b d (B ++ [M])).bind _ = _
 rw [hk]
 simp only [PR.bind]
 show (cTake T K [61] b d (B ++ [M])).bind _ = _
 rw [take_no h' rfl]
 simp only [PR.bind, cond_false]
 show (cWant T K [59] b d (B ++ [M])).bind _ = _
 rw [want_at h' rfl]
 exact add_at _ _ (by simp; omega)
theorem plain_fault {f c p : Int} (hv : q.val a d A = .fault c p) : cPlain T K q f a d A = .fault c p := by
 unfold cPlain
 show (q.val a d A).bind _ = _
 rw [hv]
 rfl
theorem blk_call {m j : Nat} (hj : j + 1 ≤ 64) (hK : j < K.length) (h : At T K a ((5, [123]) :: (1, [116, 104, 105, 115]) :: (5, [46]) :: (1, [102]) :: (5, [40]) :: (2, [49]) :: (repK caK j ++ (5, [41]) :: (5, [59]) :: (5, [125]) :: r))) (hd : d + 3 ≤ 60) (hl : A.length + j < 8000) :
  ∃ v b B, (kns T K (m + 5)).blk a d A = .ok v b d B ∧ B.length < 8160 ∧ At T K b r := by
 obtain ⟨N, hN⟩ := prim_this (q := kns T K (m + 2)) (d := d + 1 + 1) (A := A) h.step (by omega)
 obtain ⟨y, u, e, hy⟩ := ca_head j ((5, [59]) :: (5, [125]) :: r)
 have h4 : At T K (a + 1 + 3) ((5, [40]) :: (2, [49]) :: y :: u) := by
  rw [← e, show a + 1 + 3 = a + 1 + 1 + 1 + 1 by omega]
  exact h.step.step.step.step
 obtain ⟨M, hM⟩ := args_open (m := m) (d := d + 1 + 1) (A := A ++ [N]) h4 hy (by omega) (by simp; omega)
 have h6 : At T K (a + 1 + 3 + 2) (repK caK j ++ (5, [41]) :: (5, [59]) :: (5, [125]) :: r) := by
  rw [e, show a + 1 + 3 + 2 = a + 1 + 3 + 1 + 1 by omega]
  exact h4.step.step
 obtain ⟨l, B, hB, hb, ha⟩ := argL_ok (m := m) (d := d + 1 + 1) (by omega) j (K.length + 1) [((A ++ [N]).length : Int)] (a + 1 + 3 + 2) (A ++ [N] ++ [M]) h6 (by simp) (by simp; omega) (by simp; omega) (by omega)
 simp only [List.length_append, List.length_singleton] at hb
 obtain ⟨C, hC, hC2⟩ := un_call_ok (q := kns T K (m + 2)) (d := d + 1 + 1) h.step hN (hM.trans hB) ha (by decide) (by omega)
 have hval : (kns T K (m + 4)).val (a + 1) (d + 1) A = .ok (B.length : Int) (a + 1 + 3 + 2 + 2 * j + 1) (d + 1) (B ++ [C]) := by
  show cValue T K (kns T K (m + 3)) (a + 1) (d + 1) A = _
  exact value_clo (q := kns T K (m + 3)) (by omega) hC ha (by decide)
 obtain ⟨D, hD⟩ := plain_call (q := kns T K (m + 4)) (f := tFrom (tokAt K (a + 1))) hval rfl hC2 ha (by omega)
 have hst := (stat_this (q := kns T K (m + 4)) (d := d + 1) (A := A) h.step).trans hD
 obtain ⟨F, hF⟩ := blkL_end (q := kns T K (m + 4)) (d := d + 1) (f := tFrom (tokAt K a)) (n := K.length) (L := [] ++ [((B ++ [C]).length : Int)]) (A := B ++ [C] ++ [D]) ha.step (by simp; omega)
 have hk := (block_open (q := kns T K (m + 4)) (A := A) (d := d) (by omega) h).trans ((blkL_step (n := K.length + 1) h.step rfl hst).trans hF)
 rw [show d + 1 - 1 = d by omega] at hk
 exact ⟨_, _, _, hk, by simp; omega, ha.step.step⟩
theorem blk_call_no {m j : Nat} (hj : 64 < j + 1) (hK : j < K.length) (h : At T K a ((5, [123]) :: (1, [116, 104, 105, 115]) :: (5, [46]) :: (1, [102]) :: (5, [40]) :: (2, [49]) :: (repK caK j ++ (5, [41]) :: r))) (hd : d + 3 ≤ 60) (hl : A.length + j < 8000) :
  ∃ p, (kns T K (m + 5)).blk a d A = .fault 2 p := by
 obtain ⟨N, hN⟩ := prim_this (q := kns T K (m + 2)) (d := d + 1 + 1) (A := A) h.step (by omega)
 obtain ⟨y, u, e, hy⟩ := ca_head j r
 have h4 : At T K (a + 1 + 3) ((5, [40]) :: (2, [49]) :: y :: u) := by
  rw [← e, show a + 1 + 3 = a + 1 + 1 + 1 + 1 by omega]
  exact h.step.step.step.step
 obtain ⟨M, hM⟩ := args_open (m := m) (d := d + 1 + 1) (A := A ++ [N]) h4 hy (by omega) (by simp; omega)
 have h6 : At T K (a + 1 + 3 + 2) (repK caK j ++ (5, [41]) :: r) := by
  rw [e, show a + 1 + 3 + 2 = a + 1 + 3 + 1 + 1 by omega]
  exact h4.step.step
 obtain ⟨p, hp⟩ := argL_no (m := m) (d := d + 1 + 1) (by omega) j (K.length + 1) [((A ++ [N]).length : Int)] (a + 1 + 3 + 2) (A ++ [N] ++ [M]) h6 (by simp) (by simp; omega) (by simp) (by simp; omega) (by omega)
 refine ⟨p, ?_⟩
 have hC := un_call_no (q := kns T K (m + 2)) (d := d + 1 + 1) h.step hN (hM.trans hp)
 have hval : (kns T K (m + 4)).val (a + 1) (d + 1) A = .fault 2 p := by
  show cValue T K (kns T K (m + 3)) (a + 1) (d + 1) A = _
  exact value_fault (q := kns T K (m + 3)) (by omega) hC
 have hst := (stat_this (q := kns T K (m + 4)) (d := d + 1) (A := A) h.step).trans (plain_fault (q := kns T K (m + 4)) (f := tFrom (tokAt K (a + 1))) hval)
 show cBlock T K (kns T K (m + 4)) a d A = _
 rw [block_open (by omega) h]
 exact blkL_fault (n := K.length + 1) h.step rfl hst
end
end Go.Sx.Tryz
namespace Go.Sx.Tryz
open Go Go.Sx Go.Proofs
set_option maxRecDepth 100000
theorem kK_len {T : List UInt8} {r : List Tk} (h : At T (lexK T) 0 r) : (lexK T).length = r.length := by
 have := congrArg List.length h.eq
 simpa [kindsOf] using this
theorem many_at {T : List UInt8} {ts : List Tk} (hT : T.length ≤ 65536) (hg : gapS T = 0) (hl : Lx T ts) (hk : ts.length < 16384) : lexC T = 0 ∧ At T (lexK T) 0 (ts ++ [(0, [])]) := by
 obtain ⟨h1, h2⟩ := lex_of hT hg hl hk
 exact ⟨h1, at_zero h2⟩
theorem code_ok {T : List UInt8} (hl : lexC T = 0) (h : ∃ b B, cProgram T (lexK T) (kns T (lexK T) deepK) 0 0 [] = .ok () b 0 B) : (parseS T).2.1.1 = 0 := by
 obtain ⟨b, B, h⟩ := h
 rw [parse_ok hl h]
 rfl
theorem code_no {T : List UInt8} (hl : lexC T = 0) (h : ∃ p, cProgram T (lexK T) (kns T (lexK T) deepK) 0 0 [] = .fault 2 p) : (parseS T).2.1.1 = 2 := by
 obtain ⟨p, h⟩ := h
 rw [parse_fault hl h]
 rfl
theorem len_many (w : List UInt8) (n : Nat) : (Lib.repeatL w n).length = n * w.length := Lib.repeatL_length w n
theorem read_m0 {n : Nat} (hn : n ≤ 100) : lexC (Lib.repeatL clsT n) = 0 ∧ At (Lib.repeatL clsT n) (lexK (Lib.repeatL clsT n)) 0 (repK clsK n ++ [(0, [])]) := by
 refine many_at ?_ ?_ (lxm0 n) ?_
 ·rw [len_many]
  show n * 9 ≤ 65536
  omega
 ·cases n with
  | zero => rfl
  | succ n => exact gap_nb (d := 99) (by decide)
 ·rw [repK_len]
  show n * 4 < 16384
  omega
theorem m0_ok {n : Nat} (hn : n ≤ 64) : (parseS (Lib.repeatL clsT n)).2.1.1 = 0 := by
 obtain ⟨h1, h2⟩ := read_m0 (n := n) (by omega)
 have hk := kK_len h2
 rw [List.length_append, repK_len] at hk
 exact code_ok h1 (progL_ok (d := 0) n ((lexK (Lib.repeatL clsT n)).length + 2) [] 0 [] h2 (by simp; omega) (by simp; omega) (by rw [hk]; show n < n * 4 + 1 + 2; omega))
theorem m0_no {n : Nat} (h0 : 64 < n) (hn : n ≤ 100) : (parseS (Lib.repeatL clsT n)).2.1.1 = 2 := by
 obtain ⟨h1, h2⟩ := read_m0 (n := n) (by omega)
 have hk := kK_len h2
 rw [List.length_append, repK_len] at hk
 exact code_no h1 (progL_no (d := 0) n ((lexK (Lib.repeatL clsT n)).length + 2) [] 0 [] h2 (by simp; omega) (by simp) (by simp; omega) (by rw [hk]; show n < n * 4 + 1 + 2; omega))
def txm1 (n : Nat) : List UInt8 := opnT ++ Lib.repeatL fldT n ++ [125]
theorem read_m1 {n : Nat} (hn : n ≤ 100) : lexC (txm1 n) = 0 ∧ At (txm1 n) (lexK (txm1 n)) 0 (opnK ++ (repK fldK n ++ (5, [125]) :: [(0, [])])) := by
 have h := many_at (T := txm1 n) ?_ (gap_nb (d := 99) (by decide)) (lxm1 n) ?_
 ·refine ⟨h.1, ?_⟩
  have := h.2
  simpa [List.append_assoc] using this
 ·unfold txm1
  rw [List.length_append, List.length_append, len_many]
  show 8 + n * 6 + 1 ≤ 65536
  omega
 ·rw [List.length_append, List.length_append, repK_len]
  show 3 + (n * 3 + 1) < 16384
  omega
theorem at_opn {T : List UInt8} {K : List Tok} {u : List Tk} (h : At T K 0 (opnK ++ u)) : At T K 3 u := by
 have h : At T K 0 ((1, [99, 108, 97, 115, 115]) :: (1, [65]) :: (5, [123]) :: u) := h
 exact h.step.step.step
theorem m1_ok {n : Nat} (hn : n ≤ 64) : (parseS (txm1 n)).2.1.1 = 0 := by
 obtain ⟨h1, h2⟩ := read_m1 (n := n) (by omega)
 have hk := kK_len h2
 rw [List.length_append, List.length_append, repK_len] at hk
 refine code_ok h1 (one_ok h2 fun f => ?_)
 obtain ⟨v, b, B, hB, hb, ha⟩ := fldL_ok (q := kns (txm1 n) (lexK (txm1 n)) deepK) (d := 0) (f := f) (w := [65]) n ((lexK (txm1 n)).length + 2) [] 3 [] (at_opn h2) (by simp; omega) (by simp; omega) (by rw [hk]; show n < 3 + (n * 3 + 2) + 2; omega)
 exact ⟨v, b, B, hB, by rw [hb]; simp; omega, ha⟩
theorem m1_no {n : Nat} (h0 : 64 < n) (hn : n ≤ 100) : (parseS (txm1 n)).2.1.1 = 2 := by
 obtain ⟨h1, h2⟩ := read_m1 (n := n) (by omega)
 have hk := kK_len h2
 rw [List.length_append, List.length_append, repK_len] at hk
 refine code_no h1 (one_no h2 fun f => ?_)
 exact fldL_no (d := 0) (f := f) (w := [65]) n ((lexK (txm1 n)).length + 2) [] 3 [] (at_opn h2) (by simp; omega) (by simp) (by simp; omega) (by rw [hk]; show n < 3 + (n * 3 + 2) + 2; omega)
def txm2 (n : Nat) : List UInt8 := metT ++ Lib.repeatL parT n ++ [105, 110, 116, 32, 120, 41, 123, 125, 125]
theorem read_m2 {n : Nat} (hn : n ≤ 100) : lexC (txm2 n) = 0 ∧ At (txm2 n) (lexK (txm2 n)) 0 (opnK ++ ((1, [105, 110, 116]) :: (1, [102]) :: (5, [40]) :: (1, [105, 110, 116]) :: (1, [120]) :: (repK cpK n ++ (5, [41]) :: (5, [123]) :: (5, [125]) :: (5, [125]) :: [(0, [])]))) := by
 have h := many_at (T := txm2 n) ?_ (gap_nb (d := 99) (by decide)) (lxm2 n) ?_
 ·refine ⟨h.1, ?_⟩
  have e := par_turn ((5, [41]) :: (5, [123]) :: (5, [125]) :: (5, [125]) :: [(0, [])]) n
  have h2 := h.2
  have e2 : metK ++ (repK parK n ++ parE) ++ [((0 : Int), ([] : List UInt8))] = metK ++ (repK parK n ++ (1, [105, 110, 116]) :: (1, [120]) :: (5, [41]) :: (5, [123]) :: (5, [125]) :: (5, [125]) :: [(0, [])]) := by simp [parE, List.append_assoc]
  rw [e2, e] at h2
  exact h2
 ·unfold txm2
  rw [List.length_append, List.length_append, len_many]
  show 14 + n * 6 + 9 ≤ 65536
  omega
 ·rw [List.length_append, List.length_append, repK_len]
  show 6 + (n * 3 + 6) < 16384
  omega
theorem m2_ok {n : Nat} (hn : n + 1 ≤ 64) : (parseS (txm2 n)).2.1.1 = 0 := by
 obtain ⟨h1, h2⟩ := read_m2 (n := n) (by omega)
 have hk := kK_len h2
 simp only [List.length_append, List.length_cons, List.length_nil, repK_len] at hk
 have hk3 : cpK.length = 3 := rfl
 rw [hk3] at hk
 refine code_ok h1 (one_ok h2 fun f => ?_)
 have h3 := at_opn h2
 obtain ⟨x, g, hm⟩ := member_par (q := kns (txm2 n) (lexK (txm2 n)) deepK) (d := 0) (A := []) h3 (by simp)
 obtain ⟨N, hN⟩ := params_open (d := 0) (A := []) h3.step.step (by simp) (by simp)
 have h8 : At (txm2 n) (lexK (txm2 n)) (3 + 2 + 3) (repK cpK n ++ (5, [41]) :: (5, [123]) :: (5, [125]) :: (5, [125]) :: [(0, [])]) := by
  have := h3.step.step.step.step.step
  rwa [show (3 : Int) + 1 + 1 + 1 + 1 + 1 = 3 + 2 + 3 by omega] at this
 obtain ⟨l, B, hB, hb, ha⟩ := parL_ok (d := 0) n ((lexK (txm2 n)).length + 1) [(([] : List Nd).length : Int)] (3 + 2 + 3) ([] ++ [N]) h8 (by simp) (by simp; omega) (by simp; omega) (by omega)
 have hb : B.length = n + 1 := by rw [hb]; simp; omega
 obtain ⟨v, C, c1, c2, c3⟩ := blk_nest 0 deepK (3 + 2 + 3 + 3 * n + 1) 0 B ((5, [125]) :: [(0, [])]) (by unfold deepK; omega) ha (by omega) (by omega)
 have hmem : cMember (txm2 n) (lexK (txm2 n)) (kns (txm2 n) (lexK (txm2 n)) deepK) 3 0 [] = .ok (C.length : Int) (3 + 2 + 3 + 3 * n + 1 + 2 * ((0 : Nat) : Int) + 2) 0 (C ++ [spanned (withK x 6 (l ++ [v]) [102]) g (lastTo (lexK (txm2 n)) (3 + 2 + 3 + 3 * n + 1 + 2 * ((0 : Nat) : Int) + 2) g)]) := by
  rw [hm]
  rw [show (3 : Int) + 1 + 1 = 3 + 2 by omega] at hN
  show (cParams (txm2 n) (lexK (txm2 n)) (3 + 2) 0 []).bind _ = _
  rw [hN, hB]
  simp only [PR.bind]
  show ((kns (txm2 n) (lexK (txm2 n)) deepK).blk (3 + 2 + 3 + 3 * n + 1) 0 B).bind _ = _
  rw [c1]
  exact add_at _ _ (by omega)
 obtain ⟨M, hM⟩ := classL_end (q := kns (txm2 n) (lexK (txm2 n)) deepK) (f := f) (n := (lexK (txm2 n)).length) (L := [] ++ [(C.length : Int)]) (w := [65]) (d := 0) (A := C ++ [spanned (withK x 6 (l ++ [v]) [102]) g (lastTo (lexK (txm2 n)) (3 + 2 + 3 + 3 * n + 1 + 2 * ((0 : Nat) : Int) + 2) g)]) c3 (by simp; omega)
 have hb2 : ∀ (k : Int → Pm Int) (R : PR Int), k (C.length : Int) (3 + 2 + 3 + 3 * n + 1 + 2 * ((0 : Nat) : Int) + 2) 0 (C ++ [spanned (withK x 6 (l ++ [v]) [102]) g (lastTo (lexK (txm2 n)) (3 + 2 + 3 + 3 * n + 1 + 2 * ((0 : Nat) : Int) + 2) g)]) = R → (cMember (txm2 n) (lexK (txm2 n)) (kns (txm2 n) (lexK (txm2 n)) deepK)).bind k 3 0 [] = R := fun k R hk => by
  show (cMember (txm2 n) (lexK (txm2 n)) _ 3 0 []).bind _ = _
  rw [hmem]
  exact hk
 exact ⟨_, _, _, (classL_step (n := (lexK (txm2 n)).length + 1) (L := []) h3 rfl (by simp)).trans (hb2 _ _ hM), by simp; omega, c3.step⟩
theorem m2_no {n : Nat} (h0 : 64 < n + 1) (hn : n ≤ 100) : (parseS (txm2 n)).2.1.1 = 2 := by
 obtain ⟨h1, h2⟩ := read_m2 (n := n) (by omega)
 have hk := kK_len h2
 simp only [List.length_append, List.length_cons, List.length_nil, repK_len] at hk
 have hk3 : cpK.length = 3 := rfl
 rw [hk3] at hk
 refine code_no h1 (one_no h2 fun f => ?_)
 have h3 := at_opn h2
 obtain ⟨x, g, hm⟩ := member_par (q := kns (txm2 n) (lexK (txm2 n)) deepK) (d := 0) (A := []) h3 (by simp)
 obtain ⟨N, hN⟩ := params_open (d := 0) (A := []) h3.step.step (by simp) (by simp)
 have h8 : At (txm2 n) (lexK (txm2 n)) (3 + 2 + 3) (repK cpK n ++ (5, [41]) :: (5, [123]) :: (5, [125]) :: (5, [125]) :: [(0, [])]) := by
  have := h3.step.step.step.step.step
  rwa [show (3 : Int) + 1 + 1 + 1 + 1 + 1 = 3 + 2 + 3 by omega] at this
 obtain ⟨p, hp⟩ := parL_no (d := 0) n ((lexK (txm2 n)).length + 1) [(([] : List Nd).length : Int)] (3 + 2 + 3) ([] ++ [N]) h8 (by simp) (by simp; omega) (by simp) (by simp; omega) (by omega)
 refine ⟨p, ?_⟩
 rw [classL_step (n := (lexK (txm2 n)).length + 1) (L := []) h3 rfl (by simp)]
 show (cMember (txm2 n) (lexK (txm2 n)) _ 3 0 []).bind _ = _
 rw [hm]
 rw [show (3 : Int) + 1 + 1 = 3 + 2 by omega] at hN
 show ((cParams (txm2 n) (lexK (txm2 n)) (3 + 2) 0 []).bind _).bind _ = _
 rw [hN, hp]
 rfl
def txm3 (n : Nat) : List UInt8 := metT ++ (calT ++ (Lib.repeatL argT n ++ [49, 41, 59, 125, 125]))
theorem read_m3 {n : Nat} (hn : n ≤ 100) : lexC (txm3 n) = 0 ∧ At (txm3 n) (lexK (txm3 n)) 0 (headK ++ ((5, [123]) :: (1, [116, 104, 105, 115]) :: (5, [46]) :: (1, [102]) :: (5, [40]) :: (2, [49]) :: (repK caK n ++ (5, [41]) :: (5, [59]) :: (5, [125]) :: (5, [125]) :: [(0, [])]))) := by
 have h := many_at (T := txm3 n) ?_ (gap_nb (d := 99) (by decide)) (lxm3 n) ?_
 ·refine ⟨h.1, ?_⟩
  have e := arg_turn ((5, [41]) :: (5, [59]) :: (5, [125]) :: (5, [125]) :: [(0, [])]) n
  have h2 := h.2
  have e2 : metK ++ (calK ++ (repK argK n ++ argE)) ++ [((0 : Int), ([] : List UInt8))] = metK ++ (calK ++ (repK argK n ++ (2, [49]) :: (5, [41]) :: (5, [59]) :: (5, [125]) :: (5, [125]) :: [(0, [])])) := by simp [argE, List.append_assoc]
  rw [e2, e] at h2
  exact h2
 ·unfold txm3
  simp only [List.length_append]
  rw [len_many]
  show 14 + (9 + (n * 2 + 5)) ≤ 65536
  omega
 ·simp only [List.length_append]
  rw [repK_len]
  show 6 + (6 + (n * 2 + 5)) < 16384
  omega
theorem deepK_five : deepK = 39995 + 5 := rfl
theorem m3_ok {n : Nat} (hn : n + 1 ≤ 64) : (parseS (txm3 n)).2.1.1 = 0 := by
 obtain ⟨h1, h2⟩ := read_m3 (n := n) (by omega)
 have hk := kK_len h2
 simp only [List.length_append, List.length_cons, List.length_nil, repK_len] at hk
 have hk3 : caK.length = 2 := rfl
 rw [hk3] at hk
 obtain ⟨v, b, B, b1, b2, b3⟩ := blk_call (m := 39995) (d := 0) (A := []) hn (by omega) (at_seven h2) (by omega) (by simp; omega)
 rw [← deepK_five] at b1
 obtain ⟨C, hC⟩ := prog_ok h2 b1 b3 (by omega)
 rw [parse_ok h1 hC]
 rfl
theorem m3_no {n : Nat} (h0 : 64 < n + 1) (hn : n ≤ 100) : (parseS (txm3 n)).2.1.1 = 2 := by
 obtain ⟨h1, h2⟩ := read_m3 (n := n) (by omega)
 have hk := kK_len h2
 simp only [List.length_append, List.length_cons, List.length_nil, repK_len] at hk
 have hk3 : caK.length = 2 := rfl
 rw [hk3] at hk
 obtain ⟨p, hp⟩ := blk_call_no (m := 39995) (d := 0) (A := []) h0 (by omega) (at_seven h2) (by omega) (by simp; omega)
 rw [← deepK_five] at hp
 exact code_no h1 ⟨p, prog_fault h2 hp⟩
def txm4 (n : Nat) : List UInt8 := preT ++ [49] ++ Lib.repeatL plsT n ++ [59, 125, 125]
theorem read_m4 {n : Nat} (hn : n ≤ 4100) : lexC (txm4 n) = 0 ∧ At (txm4 n) (lexK (txm4 n)) 0 (headK ++ ((5, [123]) :: (1, [120]) :: (5, [61]) :: (2, [49]) :: (repK plsK n ++ (5, [59]) :: (5, [125]) :: (5, [125]) :: [(0, [])]))) := by
 have h := many_at (T := txm4 n) ?_ (gap_nb (d := 99) (by decide)) (lxm4 n) ?_
 ·refine ⟨h.1, ?_⟩
  have h2 := h.2
  have e2 : preK ++ ((2, [49]) :: (repK plsK n ++ [(5, [59]), (5, [125]), (5, [125])])) ++ [((0 : Int), ([] : List UInt8))] = headK ++ ((5, [123]) :: (1, [120]) :: (5, [61]) :: (2, [49]) :: (repK plsK n ++ (5, [59]) :: (5, [125]) :: (5, [125]) :: [(0, [])])) := by simp [preK, List.append_assoc]
  rw [e2] at h2
  exact h2
 ·unfold txm4
  simp only [List.length_append]
  rw [len_many]
  show 18 + 1 + n * 2 + 3 ≤ 65536
  omega
 ·simp only [List.length_append, List.length_cons]
  rw [repK_len]
  show 10 + (n * 2 + 3 + 1) < 16384
  omega
theorem m4_ok {n : Nat} (hn : n ≤ 4059) : (parseS (txm4 n)).2.1.1 = 0 := by
 obtain ⟨h1, h2⟩ := read_m4 (n := n) (by omega)
 have hk := kK_len h2
 simp only [List.length_append, List.length_cons, List.length_nil, repK_len] at hk
 have hk3 : plsK.length = 2 := rfl
 rw [hk3] at hk
 refine ok_of h1 h2 fun m hm => ?_
 have h7 := at_seven h2
 have h10 := h7.step.step.step
 rw [seven_three] at h10
 exact blk_set_ok (m := m) (d := 0) (A := []) (r' := [(5, [125]), (0, [])]) h7 (by omega) (by simp) fun N => by
  obtain ⟨v, B, v1, v2, v3⟩ := sum_ok (m := m) (d := 0 + 1) (A := [] ++ [N]) (by omega) h10 (by omega) (by simp; omega)
  exact ⟨_, _, _, v1, by rw [v2]; simp; omega, v3⟩
theorem m4_no {n : Nat} (h0 : 4096 ≤ n) (hn : n ≤ 4100) : (parseS (txm4 n)).2.1.1 = 2 := by
 obtain ⟨h1, h2⟩ := read_m4 (n := n) (by omega)
 have hk := kK_len h2
 simp only [List.length_append, List.length_cons, List.length_nil, repK_len] at hk
 have hk3 : plsK.length = 2 := rfl
 rw [hk3] at hk
 have h7 := at_seven h2
 have h10 := h7.step.step.step
 rw [seven_three] at h10
 obtain ⟨p, hp⟩ := blk_set_fault (m := 39997) (c := 2) (d := 0) (A := []) h7 (by omega) (by simp) fun N => sum_no (m := 39997) (d := 0 + 1) (A := [] ++ [N]) (by omega) h10 (by omega) (by simp; omega) (by simp)
 rw [← deepK_eq] at hp
 exact code_no h1 ⟨p, prog_fault h2 hp⟩
end Go.Sx.Tryz
namespace Go.Sx.Tryz
open Go Go.Sx
set_option maxRecDepth 100000
end Go.Sx.Tryz
namespace Go.Sx.Tryz
open Go Go.Sx Go.Proofs
set_option maxRecDepth 100000
theorem bt {α : Type} {b : Bool} {x y : α} (h : b = true) : (bif b then x else y) = x := by rw [h]; rfl
theorem bn {α : Type} {b : Bool} {x y : α} (h : b = false) : (bif b then x else y) = y := by rw [h]; rfl
theorem big_lt {x y : Nat} (h : x + y ≤ 100000) : decide (x + y < 2 ^ 62) = true := decide_eq_true (Nat.lt_of_le_of_lt h (by decide))
end Go.Sx.Tryz
