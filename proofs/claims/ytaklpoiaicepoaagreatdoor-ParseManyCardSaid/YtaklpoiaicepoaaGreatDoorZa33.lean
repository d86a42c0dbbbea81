/- A part of the proof: see the row's text. -/
import Derived.Test.YtaklpoiaicepoaaGreatDoorZa32
set_option linter.unusedVariables false
set_option linter.unusedSimpArgs false
noncomputable section
namespace Go.Sx.Tryz
open Go Go.Sx Go.Proofs
set_option maxRecDepth 100000
def mz (n : Int) : Int := bif decide (0 < IntKind.wrap .i64 (n - 1)) then IntKind.wrap .i64 (n - 1) else 0
def wm (n : Int) : Int := IntKind.wrap .i64 (41 * n)
def rp (w : List UInt8) (z : Int) : Bool := decide (0 ≤ z) && (decide (z ≤ 9223372036854775807) && Nat.ble (w.length * z.toNat) 140737488355328)
def s8 (n way : Int) : List UInt8 := List.getD [Lib.repeatL clsT n.toNat, opnT ++ Lib.repeatL fldT n.toNat ++ [125], metT ++ Lib.repeatL parT (mz n).toNat ++ [105, 110, 116, 32, 120, 41, 123, 125, 125],
 [99, 108, 97, 115, 115, 32, 65, 123, 105, 110, 116, 32, 102, 40, 41, 123, 116, 104, 105, 115, 46, 102, 40] ++ Lib.repeatL argT (mz n).toNat ++ [49, 41, 59, 125, 125]] way.toNat (Ty.dflt Ty.str)
def u8 (n : Int) : List UInt8 := [99, 108, 97, 115, 115, 32, 65, 123, 105, 110, 116, 32, 102, 40, 41, 123, 120, 61, 49] ++ Lib.repeatL plsT (wm n).toNat ++ [59, 125, 125]
def tl8 (n : Int) (s : List UInt8) : Rs R0 := bif rp plsT (wm n) then bif decide (List.length [99, 108, 97, 115, 115, 32, 65, 123, 105, 110, 116, 32, 102, 40, 41, 123, 120, 61, 49] + (Lib.repeatL plsT (wm n).toNat).length < 2 ^ 62) then
  bif decide (([99, 108, 97, 115, 115, 32, 65, 123, 105, 110, 116, 32, 102, 40, 41, 123, 120, 61, 49] ++ Lib.repeatL plsT (wm n).toNat).length + List.length [59, 125, 125] < 2 ^ 62) then
   bif ((parseS s).2.1.1 == 2) == decide (n > 64) then bif ((parseS s).2.1.1 == 0) == decide (n ≤ 64) then
    .ok (.ret (.bool (((parseS (u8 n)).2.1.1 == 2) == decide (IntKind.wrap .i64 (7 + IntKind.wrap .i64 (82 * n)) > 8192))), [])
   else .ok (.ret (.bool false), []) else .ok (.ret (.bool false), [])
  else .err 1004 else .err 1003 else .err 1000024
theorem body8 (n way : Int) : body (R := R0) E (tabI lib7) fi8 [.int .i64 n, .int .i64 way] [] .ok = bif decide (n < 0) then .ok (.ret (.bool true), []) else bif decide (n > 100) then .ok (.ret (.bool true), []) else bif decide (way < 0) then .ok (.ret (.bool true), []) else bif decide (way > 3) then .ok (.ret (.bool true), []) else bif rp clsT n then bif rp fldT n then bif decide (opnT.length + (Lib.repeatL fldT n.toNat).length < 2 ^ 62) then bif decide ((opnT ++ Lib.repeatL fldT n.toNat).length + List.length [125] < 2 ^ 62) then bif rp parT (mz n) then bif decide (metT.length + (Lib.repeatL parT (mz n).toNat).length < 2 ^ 62) then bif decide ((metT ++ Lib.repeatL parT (mz n).toNat).length + List.length [105, 110, 116, 32, 120, 41, 123, 125, 125] < 2 ^ 62) then bif rp argT (mz n) then bif decide (List.length [99, 108, 97, 115, 115, 32, 65, 123, 105, 110, 116, 32, 102, 40, 41, 123, 116, 104, 105, 115, 46, 102, 40] + (Lib.repeatL argT (mz n).toNat).length < 2 ^ 62) then bif decide (([99, 108, 97, 115, 115, 32, 65, 123, 105, 110, 116, 32, 102, 40, 41, 123, 116, 104, 105, 115, 46, 102, 40] ++ Lib.repeatL argT (mz n).toNat).length + List.length [49, 41, 59, 125, 125] < 2 ^ 62) then bif inI way 4 then bif decide (way > 1) then bif n == 0 then .ok (.ret (.bool true), []) else tl8 n (s8 n way) else tl8 n (s8 n way) else .err 616 else .err 613 else .err 612 else .err 1000024 else .err 609 else .err 608 else .err 1000024 else .err 605 else .err 604 else .err 1000024 else .err 1000024 := by kernel_rfl
theorem rp_ok {w : List UInt8} {n : Nat} (hn : n ≤ 5000) (hw : w.length ≤ 10) : rp w (n : Int) = true := by
 unfold rp
 rw [decide_eq_true (by omega), decide_eq_true (by omega), Bool.true_and, Bool.true_and]
 refine Nat.ble_eq_true_of_le ?_
 rw [Int.toNat_natCast]
 have := Nat.mul_le_mul hw hn
 omega
theorem rep_le {w : List UInt8} {n : Nat} (hn : n ≤ 5000) (hw : w.length ≤ 10) : (Lib.repeatL w n).length ≤ 50000 := by
 rw [Lib.repeatL_length]
 have := Nat.mul_le_mul hn hw
 omega
theorem mz_of (N : Nat) (h : N ≤ 100) : mz (N : Int) = ((N - 1 : Nat) : Int) := by
 unfold mz
 rw [wrap64 (by omega) (by omega)]
 cases N with
 | zero => rfl
 | succ N =>
  by_cases h0 : N = 0
  ·subst h0
   rfl
  ·rw [decide_eq_true (by omega)]
   show ((N + 1 : Nat) : Int) - 1 = _
   omega
theorem wm_of (N : Nat) (h : N ≤ 100) : wm (N : Int) = ((41 * N : Nat) : Int) := by
 unfold wm
 rw [wrap64 (by omega) (by omega)]
 omega
theorem tl8_ok {N : Nat} (hN : N ≤ 100) {s : List UInt8} (h1 : N ≤ 64 → (parseS s).2.1.1 = 0) (h2 : 64 < N → (parseS s).2.1.1 = 2) : tl8 (N : Int) s = .ok (.ret (.bool true), []) := by
 have hw := wm_of N hN
 have hl : (Lib.repeatL plsT (41 * N)).length ≤ 50000 := rep_le (by omega) (by decide)
 have hu : u8 (N : Int) = txm4 (41 * N) := by
  unfold u8 txm4 preT
  rw [hw, Int.toNat_natCast]
  rfl
 unfold tl8
 rw [hu, hw, Int.toNat_natCast]
 refine (bt (rp_ok (by omega) (by decide))).trans ?_
 refine (bt (big_lt (by simp; omega))).trans ?_
 refine (bt (big_lt (by simp; omega))).trans ?_
 have h82 : IntKind.wrap .i64 (7 + IntKind.wrap .i64 (82 * (N : Int))) = 7 + 82 * (N : Int) := by
  rw [wrap64 (n := 82 * (N : Int)) (by omega) (by omega), wrap64 (by omega) (by omega)]
 have e3 : ((parseS (txm4 (41 * N))).2.1.1 == 2) = decide (7 + 82 * (N : Int) > 8192) := by
  by_cases h : N ≤ 99
  ·rw [m4_ok (by omega), decide_eq_false (by omega)]
   rfl
  ·rw [m4_no (by omega) (by omega), decide_eq_true (by omega)]
   rfl
 by_cases h : N ≤ 64
 ·rw [h1 h, decide_eq_false (by omega : ¬ ((N : Int) > 64)), decide_eq_true (by omega : (N : Int) ≤ 64), h82, e3]
  simp
  rfl
 ·rw [h2 (by omega), decide_eq_true (by omega : ((N : Int) > 64)), decide_eq_false (by omega : ¬ (N : Int) ≤ 64), h82, e3]
  simp
  rfl
theorem law8_run (n way : Int) : body (R := R0) E (tabI lib7) fi8 [.int .i64 n, .int .i64 way] [] .ok = .ok (.ret (.bool true), []) := by
 refine (body8 n way).trans ?_
 by_cases h1 : n < 0
 ·exact bt (decide_eq_true h1)
 refine (bn (decide_eq_false h1)).trans ?_
 by_cases h2 : n > 100
 ·exact bt (decide_eq_true h2)
 refine (bn (decide_eq_false h2)).trans ?_
 by_cases h3 : way < 0
 ·exact bt (decide_eq_true h3)
 refine (bn (decide_eq_false h3)).trans ?_
 by_cases h4 : way > 3
 ·exact bt (decide_eq_true h4)
 refine (bn (decide_eq_false h4)).trans ?_
 obtain ⟨N, rfl⟩ := Int.eq_ofNat_of_zero_le (by omega : 0 ≤ n)
 have hN : N ≤ 100 := by omega
 have hm := mz_of N hN
 have l1 : (Lib.repeatL fldT N).length ≤ 50000 := rep_le (by omega) (by decide)
 have l2 : (Lib.repeatL parT (N - 1)).length ≤ 50000 := rep_le (by omega) (by decide)
 have l3 : (Lib.repeatL argT (N - 1)).length ≤ 50000 := rep_le (by omega) (by decide)
 have k1 : opnT.length = 8 := rfl
 have k2 : metT.length = 14 := rfl
 rw [hm, Int.toNat_natCast, Int.toNat_natCast]
 refine (bt (rp_ok (by omega) (by decide))).trans ?_
 refine (bt (rp_ok (by omega) (by decide))).trans ?_
 refine (bt (big_lt (by omega))).trans ?_
 refine (bt (big_lt (by rw [List.length_append]; simp; omega))).trans ?_
 refine (bt (rp_ok (by omega) (by decide))).trans ?_
 refine (bt (big_lt (by omega))).trans ?_
 refine (bt (big_lt (by rw [List.length_append]; simp; omega))).trans ?_
 refine (bt (rp_ok (by omega) (by decide))).trans ?_
 refine (bt (big_lt (by simp; omega))).trans ?_
 refine (bt (big_lt (by rw [List.length_append]; simp; omega))).trans ?_
 refine (bt (inI_of (by omega) (by omega))).trans ?_
 have hw : way = 0 ∨ way = 1 ∨ way = 2 ∨ way = 3 := by omega
 rcases hw with rfl | rfl | rfl | rfl
 ·refine (bn rfl).trans ?_
  have e : s8 (N : Int) 0 = Lib.repeatL clsT N := by unfold s8; rw [Int.toNat_natCast]; rfl
  rw [e]
  exact tl8_ok hN (fun h => m0_ok h) (fun h => m0_no h hN)
 ·refine (bn rfl).trans ?_
  have e : s8 (N : Int) 1 = txm1 N := by unfold s8; rw [Int.toNat_natCast]; rfl
  rw [e]
  exact tl8_ok hN (fun h => m1_ok h) (fun h => m1_no h hN)
 ·refine (bt rfl).trans ?_
  by_cases h0 : N = 0
  ·subst h0
   rfl
  refine (bn (by simpa using h0)).trans ?_
  have e : s8 (N : Int) 2 = txm2 (N - 1) := by unfold s8; rw [hm, Int.toNat_natCast]; rfl
  rw [e]
  exact tl8_ok hN (fun h => m2_ok (by omega)) (fun h => m2_no (by omega) (by omega))
 ·refine (bt rfl).trans ?_
  by_cases h0 : N = 0
  ·subst h0
   rfl
  refine (bn (by simpa using h0)).trans ?_
  have e : s8 (N : Int) 3 = txm3 (N - 1) := by
   have e0 : s8 (N : Int) 3 = [99, 108, 97, 115, 115, 32, 65, 123, 105, 110, 116, 32, 102, 40, 41, 123, 116, 104, 105, 115, 46, 102, 40] ++ Lib.repeatL argT (mz (N : Int)).toNat ++ [49, 41, 59, 125, 125] := rfl
   rw [e0, hm, Int.toNat_natCast]
   unfold txm3 metT calT
   simp [List.append_assoc]
  rw [e]
  exact tl8_ok hN (fun h => m3_ok (by omega)) (fun h => m3_no (by omega) (by omega))
theorem law8_SA {w0 : World} (t : TabsW w0) (n way : Int) : SA Tryz.prog (GW w0) 8 [.int .i64 n, .int .i64 way] [] (.ret (.bool true), []) :=
 body_ok (envOK []) (tabI_ok (lib7_ok t)) fc8 (law8_run n way)
end Go.Sx.Tryz
