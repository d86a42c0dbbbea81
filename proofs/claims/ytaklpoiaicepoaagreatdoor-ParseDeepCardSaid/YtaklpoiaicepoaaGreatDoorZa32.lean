/- A part of the proof: see the row's text. -/
import Derived.Test.YtaklpoiaicepoaaGreatDoorZa31
set_option linter.unusedVariables false
set_option linter.unusedSimpArgs false
namespace Go.Sx.Tryz
open Go Go.Sx Go.Proofs
set_option maxRecDepth 100000
theorem at_zero {T : List UInt8} {K : List Tok} {r : List Tk} (h : kindsOf T K = r) : At T K 0 r := ⟨Int.le_refl 0, h⟩
theorem parse_ok {T : List UInt8} {a d : Int} {B : List Nd} (hl : lexC T = 0) (h : cProgram T (lexK T) (kns T (lexK T) deepK) 0 0 [] = .ok () a d B) : parseS T = ((B, (B.length : Int) - 1, ()), ((0 : Int), (0 : Int), ()), ()) := by
 unfold parseS parseP
 rw [hl, h]
 rfl
theorem parse_fault {T : List UInt8} {c p : Int} (hl : lexC T = 0) (h : cProgram T (lexK T) (kns T (lexK T) deepK) 0 0 [] = .fault c p) : parseS T = ((([] : List Nd), (0 : Int), ()), (c, p, ()), ()) := by
 unfold parseS parseP
 rw [hl, h]
 rfl
theorem deepK_eq : deepK = 39997 + 3 := rfl
def tx0 (n : Nat) : List UInt8 := preT ++ Lib.repeatL [40] n ++ [121] ++ Lib.repeatL [41] n ++ [59, 125, 125]
def tx1 (n : Nat) : List UInt8 := preT ++ Lib.repeatL [33] n ++ [121, 59, 125, 125]
def tx2 (n : Nat) : List UInt8 := [99, 108, 97, 115, 115, 32, 65, 123, 105, 110, 116, 32, 102, 40, 41] ++ Lib.repeatL [123] (n + 1) ++ Lib.repeatL [125] (n + 1) ++ [125]
theorem rep_len (c : UInt8) (n : Nat) : (Lib.repeatL [c] n).length = n := by rw [Lib.repeatL_length]; simp
theorem len0 (n : Nat) : (tx0 n).length = 22 + 2 * n := by unfold tx0 preT; simp only [List.length_append, rep_len, List.length_cons, List.length_nil]; omega
theorem len1 (n : Nat) : (tx1 n).length = 22 + n := by unfold tx1 preT; simp only [List.length_append, rep_len, List.length_cons, List.length_nil]; omega
theorem len2 (n : Nat) : (tx2 n).length = 18 + 2 * n := by unfold tx2; simp only [List.length_append, rep_len, List.length_cons, List.length_nil]; omega
theorem read0 {n : Nat} (hn : n ≤ 3000) : lexC (tx0 n) = 0 ∧ At (tx0 n) (lexK (tx0 n)) 0 (headK ++ ((5, [123]) :: (1, [120]) :: (5, [61]) :: (List.replicate n (5, [40]) ++ (1, [121]) :: (List.replicate n (5, [41]) ++ (5, [59]) :: (5, [125]) :: [(5, [125]), (0, [])])))) := by
 obtain ⟨h1, h2⟩ := lex_of (by have := len0 n; unfold tx0 at this; omega) rfl (lx0 n) (by simp [preK, headK]; omega)
 refine ⟨h1, at_zero ?_⟩
 rw [show tx0 n = preT ++ Lib.repeatL [40] n ++ [121] ++ Lib.repeatL [41] n ++ [59, 125, 125] from rfl, h2]
 simp [preK, List.append_assoc]
theorem read1 {n : Nat} (hn : n ≤ 3000) : lexC (tx1 n) = 0 ∧ At (tx1 n) (lexK (tx1 n)) 0 (headK ++ ((5, [123]) :: (1, [120]) :: (5, [61]) :: (List.replicate n (5, [33]) ++ (1, [121]) :: (5, [59]) :: (5, [125]) :: [(5, [125]), (0, [])]))) := by
 obtain ⟨h1, h2⟩ := lex_of (by have := len1 n; unfold tx1 at this; omega) rfl (lx1 n) (by simp [preK, headK]; omega)
 refine ⟨h1, at_zero ?_⟩
 rw [show tx1 n = preT ++ Lib.repeatL [33] n ++ [121, 59, 125, 125] from rfl, h2]
 simp [preK, List.append_assoc]
theorem read2 {n : Nat} (hn : n ≤ 3000) : lexC (tx2 n) = 0 ∧ At (tx2 n) (lexK (tx2 n)) 0 (headK ++ (List.replicate (n + 1) (5, [123]) ++ (List.replicate (n + 1) (5, [125]) ++ [(5, [125]), (0, [])]))) := by
 obtain ⟨h1, h2⟩ := lex_of (by have := len2 n; unfold tx2 at this; omega) rfl (lx2 n) (by simp [headK]; omega)
 refine ⟨h1, at_zero ?_⟩
 rw [show tx2 n = [99, 108, 97, 115, 115, 32, 65, 123, 105, 110, 116, 32, 102, 40, 41] ++ Lib.repeatL [123] (n + 1) ++ Lib.repeatL [125] (n + 1) ++ [125] from rfl, h2]
 rw [List.replicate_succ' (n := n + 1)]
 simp [List.append_assoc]
theorem at_seven {T : List UInt8} {K : List Tok} {r : List Tk} (h : At T K 0 (headK ++ r)) : At T K 7 r := by
 have h : At T K 0 ((1, [99, 108, 97, 115, 115]) :: (1, [65]) :: (5, [123]) :: (1, [105, 110, 116]) :: (1, [102]) :: (5, [40]) :: (5, [41]) :: r) := h
 exact h.step.step.step.step.step.step.step
theorem rep_split {α : Type} {k n : Nat} {x : α} (h : k ≤ n) : List.replicate n x = List.replicate k x ++ List.replicate (n - k) x := by
 rw [List.replicate_append_replicate]
 congr 1
 omega
theorem head_of (n : Nat) (c : UInt8) (x : Tk) (r : List Tk) : ∃ k s r', List.replicate n ((5 : Int), [c]) ++ x :: r = (k, s) :: r' := by
 cases n with
 | zero => exact ⟨_, _, _, rfl⟩
 | succ n => exact ⟨_, _, _, rfl⟩
section
variable {T : List UInt8} {K : List Tok} {n : Nat} {r : List Tk}
theorem seven_three : (7 : Int) + 1 + 1 + 1 = 7 + 3 := by omega
theorem blk0_ok (m : Nat) (hm : 200 ≤ m) (hn : n ≤ 58) (h7 : At T K 7 ((5, [123]) :: (1, [120]) :: (5, [61]) :: (List.replicate n (5, [40]) ++ (1, [121]) :: (List.replicate n (5, [41]) ++ (5, [59]) :: (5, [125]) :: r)))) :
  ∃ v a' A', (kns T K (m + 3)).blk 7 0 [] = .ok v a' 0 A' ∧ A'.length < 8160 ∧ At T K a' r := by
 have h10 := h7.step.step.step
 rw [seven_three] at h10
 obtain ⟨k, s, r', he⟩ := head_of n 40 (1, [121]) (List.replicate n (5, [41]) ++ (5, [59]) :: (5, [125]) :: r)
 have h7' := h7
 rw [he] at h7'
 exact blk_set_ok (m := m) (d := 0) (A := []) (r' := r) h7' (by omega) (by simp) fun N => by
  obtain ⟨M, v1, _, v3⟩ := val_par (s := [121]) (by decide) n (m + 2) (7 + 3) (0 + 1) ([] ++ [N]) (5, [59]) ((5, [125]) :: r) (by decide) (by omega) h10 (by omega) (by simp)
  exact ⟨_, _, _, v1, by simp, v3⟩
theorem blk0_no (m : Nat) (hm : 200 ≤ m) (hn : 59 ≤ n) {x : Tk} (h7 : At T K 7 ((5, [123]) :: (1, [120]) :: (5, [61]) :: (List.replicate n (5, [40]) ++ x :: r))) : ∃ p, (kns T K (m + 3)).blk 7 0 [] = .fault 6 p := by
 have h10 := h7.step.step.step
 rw [seven_three] at h10
 obtain ⟨k, s, r', he⟩ := head_of n 40 x r
 have h7' := h7
 rw [he] at h7'
 rw [rep_split (k := 59) hn, List.append_assoc] at h10
 exact blk_set_fault (m := m) (c := 6) (d := 0) (A := []) h7' (by omega) (by simp) fun N => val_par_deep 59 (m + 2) (7 + 3) (0 + 1) ([] ++ [N]) _ (by omega) h10 (by omega)
theorem blk1_ok (m : Nat) (hm : 200 ≤ m) (hn : n ≤ 58) (h7 : At T K 7 ((5, [123]) :: (1, [120]) :: (5, [61]) :: (List.replicate n (5, [33]) ++ (1, [121]) :: (5, [59]) :: (5, [125]) :: r))) :
  ∃ v a' A', (kns T K (m + 3)).blk 7 0 [] = .ok v a' 0 A' ∧ A'.length < 8160 ∧ At T K a' r := by
 have h10 := h7.step.step.step
 rw [seven_three] at h10
 obtain ⟨k, s, r', he⟩ := head_of n 33 (1, [121]) ((5, [59]) :: (5, [125]) :: r)
 have h7' := h7
 rw [he] at h7'
 exact blk_set_ok (m := m) (d := 0) (A := []) (r' := r) h7' (by omega) (by simp) fun N => by
  obtain ⟨v, A', v1, v2, v3⟩ := un_bangs (s := [121]) (x := (5, [59])) (by decide) (by decide) n (m + 1) (7 + 3) (0 + 1 + 1) ([] ++ [N]) (by omega) h10 (by omega) (by simp; omega)
  have hv : (kns T K (m + 2)).val (7 + 3) (0 + 1) ([] ++ [N]) = .ok v (7 + 3 + n + 1) (0 + 1) A' := value_clo (q := kns T K (m + 1)) (by omega) v1 v3 (by decide)
  exact ⟨_, _, _, hv, by rw [v2]; simp; omega, v3⟩
theorem blk1_no (m : Nat) (hm : 200 ≤ m) (hn : 59 ≤ n) {x : Tk} (h7 : At T K 7 ((5, [123]) :: (1, [120]) :: (5, [61]) :: (List.replicate n (5, [33]) ++ x :: r))) : ∃ p, (kns T K (m + 3)).blk 7 0 [] = .fault 6 p := by
 have h10 := h7.step.step.step
 rw [seven_three] at h10
 obtain ⟨k, s, r', he⟩ := head_of n 33 x r
 have h7' := h7
 rw [he] at h7'
 rw [rep_split (k := 58 + 1) hn, List.append_assoc] at h10
 exact blk_set_fault (m := m) (c := 6) (d := 0) (A := []) h7' (by omega) (by simp) fun N => by
  obtain ⟨p, hp⟩ := un_bangs_deep 58 (m + 1) (7 + 3) (0 + 1 + 1) ([] ++ [N]) _ (by omega) h10 (by omega)
  have hv : (kns T K (m + 2)).val (7 + 3) (0 + 1) ([] ++ [N]) = .fault 6 p := value_fault (q := kns T K (m + 1)) (by omega) hp
  exact ⟨p, hv⟩
end
theorem ok_of {T : List UInt8} {r : List Tk} (hl : lexC T = 0) (h : At T (lexK T) 0 (headK ++ r)) (hb : ∀ m, 200 ≤ m → ∃ v a' A', (kns T (lexK T) (m + 3)).blk 7 0 [] = .ok v a' 0 A' ∧ A'.length < 8160 ∧ At T (lexK T) a' [(5, [125]), (0, [])]) : (parseS T).2.1.1 = 0 := by
 obtain ⟨v, a', A', b1, b2, b3⟩ := hb 39997 (by omega)
 rw [← deepK_eq] at b1
 obtain ⟨B, hB⟩ := prog_ok h b1 b3 (by omega)
 rw [parse_ok hl hB]
 rfl
theorem no_of {T : List UInt8} {r : List Tk} (hl : lexC T = 0) (h : At T (lexK T) 0 (headK ++ r)) (hb : ∀ m, 200 ≤ m → ∃ p, (kns T (lexK T) (m + 3)).blk 7 0 [] = .fault 6 p) : (parseS T).2.1.1 = 6 ∧ (parseS T).1.1 = [] := by
 obtain ⟨p, hp⟩ := hb 39997 (by omega)
 rw [← deepK_eq] at hp
 rw [parse_fault hl (prog_fault h hp)]
 exact ⟨rfl, rfl⟩
theorem deep0_ok {n : Nat} (hn : n ≤ 58) : (parseS (tx0 n)).2.1.1 = 0 := by
 obtain ⟨hl, h⟩ := read0 (n := n) (by omega)
 exact ok_of hl h fun m hm => blk0_ok m hm hn (at_seven h)
theorem deep0_no {n : Nat} (h1 : 58 < n) (hn : n ≤ 3000) : (parseS (tx0 n)).2.1.1 = 6 ∧ (parseS (tx0 n)).1.1 = [] := by
 obtain ⟨hl, h⟩ := read0 (n := n) hn
 exact no_of hl h fun m hm => blk0_no m hm h1 (at_seven h)
theorem deep1_ok {n : Nat} (hn : n ≤ 58) : (parseS (tx1 n)).2.1.1 = 0 := by
 obtain ⟨hl, h⟩ := read1 (n := n) (by omega)
 exact ok_of hl h fun m hm => blk1_ok m hm hn (at_seven h)
theorem deep1_no {n : Nat} (h1 : 58 < n) (hn : n ≤ 3000) : (parseS (tx1 n)).2.1.1 = 6 ∧ (parseS (tx1 n)).1.1 = [] := by
 obtain ⟨hl, h⟩ := read1 (n := n) hn
 exact no_of hl h fun m hm => blk1_no m hm h1 (at_seven h)
theorem deep2_ok {n : Nat} (hn : n ≤ 59) : (parseS (tx2 n)).2.1.1 = 0 := by
 obtain ⟨hl, h⟩ := read2 (n := n) (by omega)
 exact ok_of hl h fun m hm => by
  obtain ⟨v, A', b1, b2, b3⟩ := blk_nest n (m + 3) 7 0 [] [(5, [125]), (0, [])] (by omega) (at_seven h) (by omega) (by simp; omega)
  exact ⟨v, _, A', b1, by simp at b2; omega, b3⟩
theorem deep2_no {n : Nat} (h1 : 59 < n) (hn : n ≤ 3000) : (parseS (tx2 n)).2.1.1 = 6 ∧ (parseS (tx2 n)).1.1 = [] := by
 obtain ⟨hl, h⟩ := read2 (n := n) hn
 have h7 := at_seven h
 rw [rep_split (k := 60 + 1) (n := n + 1) (x := ((5 : Int), [(123 : UInt8)])) (by omega), List.append_assoc] at h7
 exact no_of hl h fun m hm => blk_deep 60 (m + 3) 7 0 [] _ (by omega) h7 (by omega)
end Go.Sx.Tryz
namespace Go.Sx.Tryz
open Go Go.Sx Go.Proofs
set_option maxRecDepth 100000
theorem bt {α : Type} {b : Bool} {x y : α} (h : b = true) : (bif b then x else y) = x := by rw [h]; rfl
theorem bn {α : Type} {b : Bool} {x y : α} (h : b = false) : (bif b then x else y) = y := by rw [h]; rfl
theorem rep_ok' {α : Type} {w : List α} {z : Int} {n : Nat} (hz : z = n) (hn : n ≤ 3001) (hw : w.length = 1) : (decide (0 ≤ z) && (decide (z ≤ 9223372036854775807) && Nat.ble (w.length * z.toNat) 140737488355328)) = true := by
 subst hz
 rw [decide_eq_true (by omega), decide_eq_true (by omega), Bool.true_and, Bool.true_and, hw]
 exact Nat.ble_eq_true_of_le (by rw [Int.toNat_natCast]; omega)
theorem big_lt {x y : Nat} (h : x + y ≤ 100000) : decide (x + y < 2 ^ 62) = true := decide_eq_true (Nat.lt_of_le_of_lt h (by decide))
theorem law7_run (n way : Int) : body (R := R0) E (tabI lib7) fi7 [.int .i64 n, .int .i64 way] [] .ok = .ok (.ret (.bool true), []) := by
 refine (body7 n way).trans ?_
 by_cases h1 : n < 0
 ·exact bt (decide_eq_true h1)
 refine (bn (decide_eq_false h1)).trans ?_
 by_cases h2 : n > 3000
 ·exact bt (decide_eq_true h2)
 refine (bn (decide_eq_false h2)).trans ?_
 by_cases h3 : way < 0
 ·exact bt (decide_eq_true h3)
 refine (bn (decide_eq_false h3)).trans ?_
 by_cases h4 : way > 2
 ·exact bt (decide_eq_true h4)
 refine (bn (decide_eq_false h4)).trans ?_
 obtain ⟨N, rfl⟩ := Int.eq_ofNat_of_zero_le (by omega : 0 ≤ n)
 have hN : N ≤ 3000 := by omega
 have hw : way = 0 ∨ way = 1 ∨ way = 2 := by omega
 have len1 : ∀ (c : UInt8), (Lib.repeatL [c] (Int.toNat (N : Int))).length = N := fun c => by rw [Int.toNat_natCast, rep_len]
 have wN : IntKind.wrap .i64 ((N : Int) + 1) = ((N + 1 : Nat) : Int) := by rw [wrap64 (by omega) (by omega)]; omega
 rcases hw with rfl | rfl | rfl
 ·rw [show (List.getD [[40], [33], [123]] (Int.toNat 0) (Ty.dflt Ty.str) : List UInt8) = [40] from rfl]
  refine (bt rfl).trans ?_
  refine (bt (rep_ok' (n := N) rfl (by omega) rfl)).trans ?_
  refine (bt (big_lt (by rw [len1]; simp; omega))).trans ?_
  refine (bt (big_lt (by rw [List.length_append, len1]; simp; omega))).trans ?_
  refine (bt (rep_ok' (n := N) rfl (by omega) rfl)).trans ?_
  refine (bt (big_lt (by rw [List.length_append, List.length_append, len1, len1]; simp; omega))).trans ?_
  refine (bt (big_lt (by rw [List.length_append, List.length_append, List.length_append, len1, len1]; simp; omega))).trans ?_
  refine (bn rfl).trans ?_
  refine (bn rfl).trans ?_
  by_cases h5 : N ≤ 58
  ·refine (bn (decide_eq_false (by omega))).trans ?_
   have := deep0_ok h5
   unfold tx0 preT at this
   rw [Int.toNat_natCast, this]
   rfl
  ·refine (bt (decide_eq_true (by omega))).trans ?_
   obtain ⟨k1, k2⟩ := deep0_no (n := N) (by omega) hN
   unfold tx0 preT at k1 k2
   rw [Int.toNat_natCast, k1, k2]
   rfl
 ·rw [show (List.getD [[40], [33], [123]] (Int.toNat 1) (Ty.dflt Ty.str) : List UInt8) = [33] from rfl]
  refine (bt rfl).trans ?_
  refine (bt (rep_ok' (n := N) rfl (by omega) rfl)).trans ?_
  refine (bt (big_lt (by rw [len1]; simp; omega))).trans ?_
  refine (bt (big_lt (by rw [List.length_append, len1]; simp; omega))).trans ?_
  refine (bt (rep_ok' (n := N) rfl (by omega) rfl)).trans ?_
  refine (bt (big_lt (by rw [List.length_append, List.length_append, len1, len1]; simp; omega))).trans ?_
  refine (bt (big_lt (by rw [List.length_append, List.length_append, List.length_append, len1, len1]; simp; omega))).trans ?_
  refine (bt rfl).trans ?_
  refine (bt (rep_ok' (n := N) rfl (by omega) rfl)).trans ?_
  refine (bt (big_lt (by rw [len1]; simp; omega))).trans ?_
  refine (bt (big_lt (by rw [List.length_append, len1]; simp; omega))).trans ?_
  by_cases h5 : N ≤ 58
  ·refine (bn (decide_eq_false (by omega))).trans ?_
   have := deep1_ok h5
   unfold tx1 preT at this
   rw [Int.toNat_natCast, this]
   rfl
  ·refine (bt (decide_eq_true (by omega))).trans ?_
   obtain ⟨k1, k2⟩ := deep1_no (n := N) (by omega) hN
   unfold tx1 preT at k1 k2
   rw [Int.toNat_natCast, k1, k2]
   rfl
 ·rw [show (List.getD [[40], [33], [123]] (Int.toNat 2) (Ty.dflt Ty.str) : List UInt8) = [123] from rfl, wN]
  have len2 : ∀ (c : UInt8), (Lib.repeatL [c] (Int.toNat ((N + 1 : Nat) : Int))).length = N + 1 := fun c => by rw [Int.toNat_natCast, rep_len]
  refine (bt rfl).trans ?_
  refine (bt (rep_ok' (n := N) rfl (by omega) rfl)).trans ?_
  refine (bt (big_lt (by rw [len1]; simp; omega))).trans ?_
  refine (bt (big_lt (by rw [List.length_append, len1]; simp; omega))).trans ?_
  refine (bt (rep_ok' (n := N) rfl (by omega) rfl)).trans ?_
  refine (bt (big_lt (by rw [List.length_append, List.length_append, len1, len1]; simp; omega))).trans ?_
  refine (bt (big_lt (by rw [List.length_append, List.length_append, List.length_append, len1, len1]; simp; omega))).trans ?_
  refine (bn rfl).trans ?_
  refine (bt rfl).trans ?_
  refine (bt (rep_ok' (n := N + 1) rfl (by omega) rfl)).trans ?_
  refine (bt (big_lt (by rw [len2]; simp; omega))).trans ?_
  refine (bt (rep_ok' (n := N + 1) rfl (by omega) rfl)).trans ?_
  refine (bt (big_lt (by rw [List.length_append, len2, len2]; simp; omega))).trans ?_
  refine (bt (big_lt (by rw [List.length_append, List.length_append, len2, len2]; simp; omega))).trans ?_
  by_cases h5 : N ≤ 59
  ·refine (bn (decide_eq_false (by omega))).trans ?_
   have := deep2_ok h5
   unfold tx2 at this
   rw [Int.toNat_natCast, this]
   rfl
  ·refine (bt (decide_eq_true (by omega))).trans ?_
   obtain ⟨k1, k2⟩ := deep2_no (n := N) (by omega) hN
   unfold tx2 at k1 k2
   rw [Int.toNat_natCast, k1, k2]
   rfl
theorem law7_SA {w0 : World} (t : TabsW w0) (n way : Int) : SA Tryz.prog (GW w0) 7 [.int .i64 n, .int .i64 way] [] (.ret (.bool true), []) :=
 body_ok (envOK []) (tabI_ok (lib7_ok t)) fc7 (law7_run n way)
end Go.Sx.Tryz
