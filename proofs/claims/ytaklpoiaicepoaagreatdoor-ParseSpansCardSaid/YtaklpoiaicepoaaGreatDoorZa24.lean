/- A part of the proof: see the row's text. -/
import Derived.Test.YtaklpoiaicepoaaGreatDoorZa23
set_option linter.unusedVariables false
set_option linter.unusedSimpArgs false
noncomputable section
namespace Go.Sx.Tryz
open Go Go.Sx
set_option maxRecDepth 100000
theorem Inv.step {K : List Tok} {a d : Int} {A : List Nd} (h : Inv K a d A) (h1 : a + 1 < K.length) : Inv K (a + 1) d A := ⟨by have := h.a0; omega, h1, h.d0, h.d1, h.len, h.nd⟩
theorem Inv.at {K : List Tok} {a b d : Int} {A : List Nd} (h : Inv K a d A) (h0 : 0 ≤ b) (h1 : b < K.length) : Inv K b d A := ⟨h0, h1, h.d0, h.d1, h.len, h.nd⟩
theorem Post.up {K : List Tok} {a a1 d a2 d2 c c1 : Int} {A A2 : List Nd} (h : Post K a1 d A c1 a2 d2 A2) (hle : a + c ≤ a1 + c1) : Post K a d A c a2 d2 A2 := ⟨h.inv, by have := h.le; omega, h.eq, h.pre⟩
theorem Post.step {K : List Tok} {a d a2 d2 c : Int} {A A2 : List Nd} (h : Post K a d A c a2 d2 A2) (h1 : a2 + 1 < K.length) : Post K a d A (c + 1) (a2 + 1) d2 A2 := ⟨h.inv.step h1, by have := h.le; omega, h.eq, h.pre⟩
def QI (K : List Tok) (a d : Int) (A : List Nd) (c : Int) (y : Int) (a' d' : Int) (A' : List Nd) : Prop := (0 ≤ y ∧ y < A'.length) ∧ Post K a d A c a' d' A'
def QL (K : List Tok) (a d : Int) (A : List Nd) (c : Int) (y : List Int) (a' d' : Int) (A' : List Nd) : Prop := y.length ≤ 64 ∧ Post K a d A c a' d' A'
def QN (K : List Tok) (a d : Int) (A : List Nd) (c : Int) (y : Nd) (a' d' : Int) (A' : List Nd) : Prop := Small y ∧ Post K a d A c a' d' A'
structure KEq (T : List UInt8) (K : List Tok) (m : Nat) : Prop where
 val : ∀ (n : Nat) (a d : Int) (A : List Nd), 40 * m + 4 ≤ n → 2 * ((K.length : Int) - a) + 2 ≤ m → Inv K a d A → EqH iI (QI K a d A 1) ((fns n).value T K a d A ()) ((kns T K m).val a d A)
 blk : ∀ (n : Nat) (a d : Int) (A : List Nd), 40 * m + 4 ≤ n → 2 * ((K.length : Int) - a) + 1 ≤ m → Inv K a d A → EqH iI (QI K a d A 1) ((fns n).block T K a d A ()) ((kns T K m).blk a d A)
 un : ∀ (n : Nat) (a d : Int) (A : List Nd), 40 * m + 4 ≤ n → 2 * ((K.length : Int) - a) + 1 ≤ m → Inv K a d A → EqH iI (QI K a d A 1) ((fns n).unary T K a d A ()) ((kns T K m).un a d A)
section
variable {T : List UInt8} {K : List Tok} {n m : Nat} {a d : Int} {A : List Nd}
theorem E_addQ (wf : WF T K) (hn : 1 ≤ n) {a0 d0 c : Int} {A0 : List Nd} (hp : Post K a0 d0 A0 c a d A) {x : Nd} (hx : Small x) {f : Int} : EqH iI (QI K a0 d0 A0 c) ((fns n).add T K a d A (x, f, ())) (cAdd K x f a d A) :=
 EqH.mono (E_add wf hn hp.inv hx) fun _ _ _ _ h => ⟨h.2.1, (hp.trans h.2.2.1 (by omega))⟩
theorem E_addT (wf : WF T K) (hn : 1 ≤ n) {a0 d0 c : Int} {A0 : List Nd} (hp : Post K a0 d0 A0 c a d A) {x : Nd} (hx : Small x) {f : Int} : EqH iI (QI K a0 d0 A0 c) (((fns n).add T K a d A (x, f, ())).bind fun y a d A => .ok (y.1, ()) a d A) (cAdd K x f a d A) :=
 EqH.tail (E_addQ wf hn hp hx) fun _ _ _ _ h => ⟨rfl, h⟩
theorem EqH.same {Q : Int → Int → Int → List Nd → Prop} {r : PR (Dens [tI])} {r' : PR Int} (h : EqH iI Q r r') : EqH iI Q (r.bind fun y a d A => .ok (y.1, ()) a d A) r' := EqH.tail h fun _ _ _ _ h => ⟨rfl, h⟩
theorem small_nod {k : Int} {l : List Int} {s : Str} (h : l.length ≤ 20000) : Small (nod k l s) := ⟨h, Nat.zero_le _⟩
theorem small_nodV {k v : Int} {s : Str} : Small (nodV k v s) := ⟨Nat.zero_le _, Nat.zero_le _⟩
theorem small_with {x : Nd} (hx : Small x) {k : Int} {l : List Int} {s : Str} (h : l.length ≤ 20000) : Small (withK x k l s) := ⟨h, hx.2⟩
theorem E_bracket (wf : WF T K) (hK : KEq T K m) (hn : 40 * m + 5 ≤ n) (hm : 2 * ((K.length : Int) - a) ≤ m) (hi : Inv K a d A) : EqH iI (QI K a d A 2) ((fns n).bracket T K a d A ()) (cBracket T K (kns T K m) a d A) := by
 obtain ⟨n, rfl, hn'⟩ := succ_of (k := 40 * m + 4) hn
 show EqH iI _ (sp127 (fns n) T K a d A) _
 unfold sp127 cBracket Pm.bind
 refine EqH.bind (E_want wf (n := n) (by omega) hi.a0 hi.a1) ?_
 rintro _ _ _ _ ⟨rfl, rfl, hlt, rfl, rfl⟩
 refine EqH.bind (hK.val n _ _ _ (by omega) (by omega) (hi.step hlt)) ?_
 rintro x a1 d1 A1 ⟨hx, hp⟩
 refine EqH.bind (E_want wf (n := n) (by omega) hp.inv.a0 hp.inv.a1) ?_
 rintro _ _ _ _ ⟨rfl, rfl, hlt2, rfl, rfl⟩
 exact ⟨rfl, hx, (hp.up (a := a) (c := 1) (by omega)).step hlt2⟩
theorem mr_small {l : List Int} (h : l.length ≤ 20000) (x : Int) : decide (l.length + [x].length < maxRoom) = true := decide_eq_true (by
 unfold maxRoom
 show l.length + 1 < 2 ^ 36
 omega)
theorem E_argsL (wf : WF T K) (hK : KEq T K m) (hn : 40 * m + 5 ≤ n + 1) : ∀ (N : Nat) (a d : Int) (A : List Nd) (L : List Int), (K.length : Int) - a + 1 ≤ N → 2 * ((K.length : Int) - a) + 2 ≤ m → Inv K a d A → L.length ≤ 64 →
  EqH iL (QL K a d A 1) (lF128 (fns n) T K N a d A L) (cArgsL T K (kns T K m) N L a d A)
 | 0, a, d, A, L, hN, hm, hi, hL => by have := hi.a1; omega
 | N + 1, a, d, A, L, hN, hm, hi, hL => by
  show EqH iL _ (sL128 (fns n) T K (lF128 (fns n) T K N) a d A L) _
  unfold sL128 cArgsL Pm.bind
  refine EqH.bind (E_take wf (n := n) (by omega) hi.a0 hi.a1) ?_
  rintro b _ _ _ ⟨hb, rfl, rfl⟩
  rcases hb with ⟨rfl, rfl, hlt⟩ | ⟨rfl, rfl⟩
  ·exact ⟨rfl, hL, ⟨hi.step hlt, by omega, rfl, [], by simp⟩⟩
  ·have hl1 : IntKind.wrap .i64 ((L.length : Int) + 1) = (L.length : Int) + 1 := wf_wrap wf (by omega) (by omega)
   have go : ∀ (a1 : Int), a ≤ a1 → a1 < K.length → EqH iL (QL K a d A 1) (((fns n).few T K a1 d A (IntKind.wrap .i64 ((L.length : Int) + 1), ())).bind fun _ a16 d16 A16 => ((fns n).value T K a16 d16 A16 ()).bind fun y20 a20 d20 A20 => bif decide (L.length + [y20.1].length < maxRoom) then lF128 (fns n) T K N a20 d20 A20 (L ++ ([y20.1] : List Int)) else .bad)
     ((cFew K ((L.length : Int) + 1)).bind (fun _ => (kns T K m).val.bind fun x => cArgsL T K (kns T K m) N (L ++ [x])) a1 d A) := fun a1 g0 g1 => by
    have hi1 : Inv K a1 d A := hi.at (by have := hi.a0; omega) g1
    rw [hl1]
    unfold Pm.bind
    refine EqH.bind (E_few wf (n := n) (by omega) hi1.a0 hi1.a1) ?_
    rintro _ _ _ _ ⟨rfl, rfl, rfl, h64⟩
    refine EqH.bind (hK.val n _ _ _ (by omega) (by omega) hi1) ?_
    rintro x a2 d2 A2 ⟨hx, hp⟩
    have hle := hp.le
    show EqH iL _ (bif decide (L.length + [x].length < maxRoom) then _ else _) _
    rw [mr_small (by omega)]
    have ih := E_argsL wf hK hn N a2 d2 A2 (L ++ [x]) (by omega) (by omega) hp.inv (by rw [List.length_append, List.length_singleton]; omega)
    exact EqH.mono ih fun y a' d' A' h => ⟨h.1, (hp.up (a := a) (c := 0) (by omega)).trans h.2 (by omega)⟩
   show EqH iL _ (bif decide ((L.length : Int) > 0) then _ else _) (PR.bind ((bif decide ((L.length : Int) > 0) then (cWant T K [44]).bind fun _ => .ret () else .ret () : Pm Unit) a d A) _)
   cases decide ((L.length : Int) > 0) with
   | false => exact go a (Int.le_refl _) hi.a1
   | true =>
    show EqH iL _ (PR.bind ((fns n).want T K a d A ([44], ())) _) (PR.bind (PR.bind (cWant T K [44] a d A) _) _)
    have hw := E_want wf (n := n) (a := a) (d := d) (A := A) (s := [44]) (by omega) hi.a0 hi.a1
    cases e : cWant T K [44] a d A with
    | bad => rw [e] at hw; exact hw.elim
    | fault c p =>
     rw [e] at hw
     have hw : (fns n).want T K a d A ([44], ()) = .fault c p := hw
     rw [hw]
     exact EqH.flt
    | ok y a1 d1 A1 =>
     rw [e] at hw
     obtain ⟨e1, rfl, rfl, hlt, rfl, rfl⟩ := hw
     rw [e1]
     exact go (a + 1) (by omega) hlt
theorem E_args (wf : WF T K) (hK : KEq T K m) (hn : 40 * m + 6 ≤ n) (hm : 2 * ((K.length : Int) - a) ≤ m) (hi : Inv K a d A) : EqH iL (QL K a d A 2) ((fns n).args T K a d A ()) (cArgs T K (kns T K m) a d A) := by
 obtain ⟨n, rfl, hn'⟩ := succ_of (k := 40 * m + 5) hn
 show EqH iL _ (sS128 (fns n) T K (lF128 (fns n) T K (K.length + 2)) a d A) _
 unfold sS128 cArgs Pm.bind
 refine EqH.bind (E_want wf (n := n) (by omega) hi.a0 hi.a1) ?_
 rintro _ _ _ _ ⟨rfl, rfl, hlt, rfl, rfl⟩
 have := hi.a0
 exact EqH.mono (E_argsL wf hK (by omega) (K.length + 2) (a + 1) d A [] (by omega) (by omega) (hi.step hlt) (by simp)) fun y a' d' A' h => ⟨h.1, h.2.up (by omega)⟩
theorem E_lit (wf : WF T K) (hn : 2 ≤ n) (hi : Inv K a d A) (hk : tKind (tokAt K a) ≠ 0) {x : Nd} (hx : Small x) {e : Int} : EqH iI (QI K a d A 1) ((fns n).literal T K a d A (x, e, ())) (cLit T K x e a d A) := by
 obtain ⟨n, rfl, hn'⟩ := succ_of (k := 1) hn
 show EqH iI _ (sp139 (fns n) T K a d A x e) _
 unfold sp139 cLit Pm.bind
 refine EqH.bind (E_next wf (n := n) (by omega) hi.a0 hi.a1) ?_
 rintro _ _ _ _ ⟨rfl, rfl, rfl, rfl⟩
 show EqH iI _ (bif e != 0 then _ else _) ((bif e != 0 then _ else _ : Pm Int) a d A)
 cases e != 0 with
 | true => exact EqH.flt
 | false =>
  refine EqH.bind (E_skip wf (n := n) (by omega) hi.a0 hi.a1 hk) ?_
  rintro _ _ _ _ ⟨rfl, rfl, rfl, rfl⟩
  exact E_addT wf hn' ((Post.refl hi).step (next_lt wf hi.a0 hi.a1 hk)) hx
end
end Go.Sx.Tryz
namespace Go.Sx.Tryz
open Go Go.Sx
set_option maxRecDepth 100000
section
variable {T : List UInt8} {K : List Tok} {n m : Nat} {a d : Int} {A : List Nd}
theorem E_made (wf : WF T K) (hK : KEq T K m) (hn : 40 * m + 7 ≤ n) (hm : 2 * ((K.length : Int) - a) ≤ m) (hi : Inv K a d A) : EqH iN (QN K a d A 1) ((fns n).made T K a d A ()) (cMade T K (kns T K m) a d A) := by
 obtain ⟨n, rfl, hn'⟩ := succ_of (k := 40 * m + 6) hn
 show EqH iN _ (sp148 (fns n) T K a d A) _
 unfold sp148 cMade Pm.bind
 refine EqH.bind (E_inner wf (n := n) (by omega) hi.a0 hi.a1) ?_
 rintro x a1 _ _ ⟨hx, ⟨g1, g2⟩, rfl, rfl⟩
 have hi1 : Inv K a1 d A := hi.at (by have := hi.a0; omega) g2
 have hp1 : Post K a d A 1 a1 d A := ⟨hi1, g1, rfl, [], by simp⟩
 refine EqH.bind (E_is wf (n := n) (by omega) hi1.a0 hi1.a1) ?_
 rintro b _ _ _ ⟨_, rfl, rfl, rfl⟩
 show EqH iN _ (bif b then _ else _) ((bif b then _ else _ : Pm Nd) a1 d A)
 cases b with
 | true =>
  have hmk := hx.mks
  have hd1 := hx.d1
  have e1 : (decide (UInt8.toNat 32 < 128) && Nat.ble (List.length (nMarks x)) 9223372036854775807) = true := by
   rw [show decide (UInt8.toNat 32 < 128) = true from rfl, Bool.true_and]
   exact Nat.ble_eq_true_of_le (by omega)
  show EqH iN _ (bif nBase x != 5 then _ else bif decide (nDims x > 0) then _ else bif (decide (UInt8.toNat 32 < 128) && Nat.ble (List.length (nMarks x)) 9223372036854775807) then bif !Lib.trimB (nMarks x) 32 == [] then _ else _ else _)
   ((bif nBase x != 5 || (decide (nDims x > 0) || !Lib.trimB (nMarks x) 32 == []) then _ else _ : Pm Nd) a1 d A)
  rw [e1]
  cases nBase x != 5 with
  | true => exact EqH.flt
  | false =>
   cases decide (nDims x > 0) with
   | true => exact EqH.flt
   | false =>
    cases !Lib.trimB (nMarks x) 32 == [] with
    | true => exact EqH.flt
    | false =>
     refine EqH.bind (E_args wf hK (n := n) (by omega) (by omega) hi1) ?_
     rintro l a2 d2 A2 ⟨hl, hp⟩
     exact ⟨rfl, small_with hx.small (by omega), hp1.trans hp (by omega)⟩
 | false =>
  refine EqH.bind (E_want wf (n := n) (by omega) hi1.a0 hi1.a1) ?_
  rintro _ _ _ _ ⟨rfl, rfl, hlt, rfl, rfl⟩
  refine EqH.bind (hK.val n _ _ _ (by omega) (by omega) (hi1.step hlt)) ?_
  rintro y a2 d2 A2 ⟨hy, hp⟩
  refine EqH.bind (E_want wf (n := n) (by omega) hp.inv.a0 hp.inv.a1) ?_
  rintro _ _ _ _ ⟨rfl, rfl, hlt2, rfl, rfl⟩
  exact ⟨rfl, small_with hx.small (by simp), ((hp1.step hlt).trans (hp.step hlt2) (by omega))⟩
theorem E_kept (wf : WF T K) (hK : KEq T K m) (hn : 40 * m + 8 ≤ n) (hm : 2 * ((K.length : Int) - a) ≤ m) (hi : Inv K a d A) (hk : tKind (tokAt K a) ≠ 0) (t : Tok) (s : Str) : EqH iI (QI K a d A 1) ((fns n).kept T K a d A (t, s, ())) (cKept T K (kns T K m) t s a d A) := by
 obtain ⟨n, rfl, hn'⟩ := succ_of (k := 40 * m + 7) hn
 have hlt := next_lt wf hi.a0 hi.a1 hk
 have hi1 := hi.step hlt
 have hp1 : Post K a d A 1 (a + 1) d A := (Post.refl hi).step hlt
 have hlit : ∀ (k v : Int), EqH iI (QI K a d A 1) (((fns n).literal T K a d A (nodV k v [], 0, ())).bind fun y a d A => .ok (y.1, ()) a d A) (cLit T K (nodV k v []) 0 a d A) := fun k v => (E_lit wf (n := n) (by omega) hi hk small_nodV).same
 have hW : ∀ b1 b2 b3 : Bool, EqH iI (QI K a d A 1) (((fns n).skip T K a d A ()).bind fun _ a8 d8 A8 => ((fns n).bracket T K a8 d8 A8 ()).bind fun y12 a12 d12 A12 =>
   bif b1 then ((fns n).add T K a12 d12 A12 (nod 39 [y12.1] [], tFrom t, ())).bind fun y a d A => .ok (y.1, ()) a d A
   else bif b2 then ((fns n).add T K a12 d12 A12 (nod 36 [y12.1] [], tFrom t, ())).bind fun y a d A => .ok (y.1, ()) a d A
   else bif b3 then ((fns n).add T K a12 d12 A12 (nod 37 [y12.1] [], tFrom t, ())).bind fun y a d A => .ok (y.1, ()) a d A
   else ((fns n).add T K a12 d12 A12 (nod 41 [y12.1] [], tFrom t, ())).bind fun y a d A => .ok (y.1, ()) a d A)
   ((cSkip K).bind (fun _ => (cBracket T K (kns T K m)).bind fun x => cAdd K (nod (bif b1 then 39 else bif b2 then 36 else bif b3 then 37 else 41) [x] []) (tFrom t)) a d A) := fun b1 b2 b3 => by
  unfold Pm.bind
  refine EqH.bind (E_skip wf (n := n) (by omega) hi.a0 hi.a1 hk) ?_
  rintro _ _ _ _ ⟨rfl, rfl, rfl, rfl⟩
  refine EqH.bind (E_bracket wf hK (n := n) (by omega) (by omega) hi1) ?_
  rintro x a2 d2 A2 ⟨hx, hp⟩
  have hp2 := hp1.trans (c := 1) hp (by omega)
  cases b1 with
  | true => exact E_addT wf (by omega) hp2 (small_nod (by simp))
  | false =>
   cases b2 with
   | true => exact E_addT wf (by omega) hp2 (small_nod (by simp))
   | false =>
    cases b3 with
    | true => exact E_addT wf (by omega) hp2 (small_nod (by simp))
    | false => exact E_addT wf (by omega) hp2 (small_nod (by simp))
 show EqH iI _ (sp142 (fns n) T K a d A t s) _
 unfold sp142 cKept
 cases s == [116, 114, 117, 101] with
 | true => exact hlit 21 1
 | false =>
 cases s == [102, 97, 108, 115, 101] with
 | true => exact hlit 21 0
 | false =>
 cases s == [110, 117, 108, 108] with
 | true => exact hlit 23 0
 | false =>
 cases s == [110, 111, 110, 101] with
 | true => exact hlit 42 0
 | false =>
 cases s == [116, 104, 105, 115] with
 | true => exact hlit 24 0
 | false =>
 cases s == [105, 110, 112, 117, 116] with
 | true =>
  show EqH iI _ _ (Pm.bind (cSkip K) _ a d A)
  unfold Pm.bind
  refine EqH.bind (E_skip wf (n := n) (by omega) hi.a0 hi.a1 hk) ?_
  rintro _ _ _ _ ⟨rfl, rfl, rfl, rfl⟩
  refine EqH.bind (E_want wf (n := n) (by omega) hi1.a0 hi1.a1) ?_
  rintro _ _ _ _ ⟨rfl, rfl, hlt2, rfl, rfl⟩
  refine EqH.bind (E_want wf (n := n) (by omega) (by have := hi1.a0; omega) hlt2) ?_
  rintro _ _ _ _ ⟨rfl, rfl, hlt3, rfl, rfl⟩
  exact E_addT wf (by omega) (((hp1.step hlt2).step hlt3).up (by omega)) (small_nod (by simp))
 | false =>
 unfold isWrap wrapK
 cases s == [115, 111, 109, 101] with
 | true => exact hW _ _ _
 | false =>
 cases s == [97, 115, 107] with
 | true => exact hW true _ _
 | false =>
 cases s == [116, 111, 105, 110, 116] with
 | true => exact hW false true _
 | false =>
 cases s == [116, 111, 100, 111, 117, 98, 108, 101] with
 | true => exact hW false false true
 | false =>
 cases s == [99, 97, 115, 116] with
 | true =>
  show EqH iI _ _ (Pm.bind (cSkip K) _ a d A)
  unfold Pm.bind
  refine EqH.bind (E_skip wf (n := n) (by omega) hi.a0 hi.a1 hk) ?_
  rintro _ _ _ _ ⟨rfl, rfl, rfl, rfl⟩
  refine EqH.bind (E_want wf (n := n) (by omega) hi1.a0 hi1.a1) ?_
  rintro _ _ _ _ ⟨rfl, rfl, hlt2, rfl, rfl⟩
  refine EqH.bind (E_typed wf (n := n) (by omega) (by have := hi1.a0; omega) hlt2 false) ?_
  rintro x a3 _ _ ⟨hx, ⟨g1, g2⟩, rfl, rfl⟩
  have h0 := hi.a0
  refine EqH.bind (E_want wf (n := n) (by omega) (by omega) g2) ?_
  rintro _ _ _ _ ⟨rfl, rfl, hlt4, rfl, rfl⟩
  refine EqH.bind (E_bracket wf hK (n := n) (by omega) (by omega) (hi.at (by omega) hlt4)) ?_
  rintro y a5 d5 A5 ⟨hy, hp⟩
  exact E_addT wf (by omega) (hp.up (by omega)) (small_with hx.small (by simp))
 | false =>
 cases s == [110, 101, 119] with
 | true =>
  show EqH iI _ _ (Pm.bind (cSkip K) _ a d A)
  unfold Pm.bind
  refine EqH.bind (E_skip wf (n := n) (by omega) hi.a0 hi.a1 hk) ?_
  rintro _ _ _ _ ⟨rfl, rfl, rfl, rfl⟩
  refine EqH.bind (E_made wf hK (n := n) (by omega) (by omega) hi1) ?_
  rintro x a3 d3 A3 ⟨hx, hp⟩
  exact E_addT wf (by omega) (hp.up (by omega)) hx
 | false => exact EqH.flt
theorem E_primary (wf : WF T K) (hK : KEq T K m) (hn : 40 * m + 9 ≤ n) (hm : 2 * ((K.length : Int) - a) ≤ m) (hi : Inv K a d A) : EqH iI (QI K a d A 1) ((fns n).primary T K a d A ()) (cPrimary T K (kns T K m) a d A) := by
 obtain ⟨n, rfl, hn'⟩ := succ_of (k := 40 * m + 8) hn
 show EqH iI _ (sp136 (fns n) T K a d A) _
 unfold sp136 cPrimary Pm.bind
 refine EqH.bind (E_next wf (n := n) (by omega) hi.a0 hi.a1) ?_
 rintro _ _ _ _ ⟨rfl, rfl, rfl, rfl⟩
 have kne : ∀ k : Int, k ≠ 0 → (tKind (tokAt K a) == k) = true → tKind (tokAt K a) ≠ 0 := fun k h e e2 => by
  rw [e2] at e
  have e3 : (0 : Int) = k := by simpa using e
  exact h e3.symm
 show EqH iI _ (bif tKind (tokAt K a) == 2 then bif preU (say T (tokAt K a), ()) then _ else _ else bif tKind (tokAt K a) == 3 then bif preU (say T (tokAt K a), ()) then _ else _ else bif tKind (tokAt K a) == 4 then bif preU (say T (tokAt K a), ()) then _ else _ else
  bif tKind (tokAt K a) == 5 then bif say T (tokAt K a) == [40] then _ else _ else bif tKind (tokAt K a) == 1 then bif preS (say T (tokAt K a), ()) then bif nameS (say T (tokAt K a)) then _ else _ else _ else _)
  ((bif tKind (tokAt K a) == 2 then _ else bif tKind (tokAt K a) == 3 then _ else bif tKind (tokAt K a) == 4 then _ else bif tKind (tokAt K a) == 5 then (bif say T (tokAt K a) == [40] then _ else _) else bif tKind (tokAt K a) == 1 then (bif nameS (say T (tokAt K a)) then _ else _) else _ : Pm Int) a d A)
 rw [preS_tok wf say_len, preU_tok wf say_len]
 cases h2 : tKind (tokAt K a) == 2 with
 | true => exact (E_lit wf (n := n) (by omega) hi (kne 2 (by decide) h2) small_nodV).same
 | false =>
 cases h3 : tKind (tokAt K a) == 3 with
 | true => exact (E_lit wf (n := n) (by omega) hi (kne 3 (by decide) h3) small_nodV).same
 | false =>
 cases h4 : tKind (tokAt K a) == 4 with
 | true => exact (E_lit wf (n := n) (by omega) hi (kne 4 (by decide) h4) small_nodV).same
 | false =>
 cases h5 : tKind (tokAt K a) == 5 with
 | true =>
  cases say T (tokAt K a) == [40] with
  | true => exact (EqH.mono (E_bracket wf hK (n := n) (by omega) hm hi) fun _ _ _ _ h => ⟨h.1, h.2.up (by omega)⟩).same
  | false => exact EqH.flt
 | false =>
 cases h1 : tKind (tokAt K a) == 1 with
 | true =>
  have hk := kne 1 (by decide) h1
  cases nameS (say T (tokAt K a)) with
  | true => exact (E_lit wf (n := n) (by omega) hi hk small_nodV).same
  | false => exact (E_kept wf hK (n := n) (by omega) hm hi hk _ _).same
 | false => exact EqH.flt
end
end Go.Sx.Tryz
namespace Go.Sx.Tryz
open Go Go.Sx
set_option maxRecDepth 100000
section
variable {T : List UInt8} {K : List Tok} {n m : Nat} {a d : Int} {A : List Nd}
theorem E_part (wf : WF T K) (hK : KEq T K m) (hn : 40 * m + 7 ≤ n) (hm : 2 * ((K.length : Int) - a) ≤ m) (hi : Inv K a d A) (x f : Int) : EqH iI (QI K a d A 0) ((fns n).part T K a d A (x, f, ())) (cPart T K (kns T K m) x f a d A) := by
 obtain ⟨n, rfl, hn'⟩ := succ_of (k := 40 * m + 6) hn
 show EqH iI _ (sp137 (fns n) T K a d A x f) _
 unfold sp137 cPart Pm.bind
 refine EqH.bind (E_take wf (n := n) (by omega) hi.a0 hi.a1) ?_
 rintro b _ _ _ ⟨hb, rfl, rfl⟩
 rcases hb with ⟨rfl, rfl, hlt⟩ | ⟨rfl, rfl⟩
 ·exact E_addT wf (by omega) (((Post.refl hi).step hlt).up (by omega)) (small_nod (by simp))
 refine EqH.bind (E_take wf (n := n) (by omega) hi.a0 hi.a1) ?_
 rintro b _ _ _ ⟨hb, rfl, rfl⟩
 rcases hb with ⟨rfl, rfl, hlt⟩ | ⟨rfl, rfl⟩
 ·exact E_addT wf (by omega) (((Post.refl hi).step hlt).up (by omega)) (small_nod (by simp))
 refine EqH.bind (E_name wf (n := n) (by omega) hi.a0 hi.a1) ?_
 rintro s _ _ _ ⟨hs, rfl, hlt, rfl, rfl⟩
 have hi1 := hi.step hlt
 have hp1 : Post K a d A 1 (a + 1) d A := (Post.refl hi).step hlt
 refine EqH.bind (E_is wf (n := n) (by omega) hi1.a0 hi1.a1) ?_
 rintro b _ _ _ ⟨_, rfl, rfl, rfl⟩
 cases b with
 | true =>
  refine EqH.bind (E_args wf hK (n := n) (by omega) (by omega) hi1) ?_
  rintro l a2 d2 A2 ⟨hl, hp⟩
  have e : decide ([x].length + l.length < maxRoom) = true := decide_eq_true (by
   unfold maxRoom
   show 1 + l.length < 2 ^ 36
   omega)
  show EqH iI _ (bif decide ([x].length + l.length < maxRoom) then _ else _) _
  rw [e]
  exact E_addT wf (by omega) ((hp1.trans hp (c := 0) (by omega))) (small_nod (by simp; omega))
 | false => exact E_addT wf (by omega) (hp1.up (by omega)) (small_nod (by simp))
theorem E_behindL (wf : WF T K) (hK : KEq T K m) (hn : 40 * m + 7 ≤ n) (k f t : Int) : ∀ (N : Nat) (a d : Int) (A : List Nd) (x : Int), (K.length : Int) - a + 1 ≤ N → 2 * ((K.length : Int) - a) ≤ m → Inv K a d A → (0 ≤ x ∧ x < A.length) →
  EqH iI (QI K a d A 0) (lF135 (fns n) T K N a d A k f t x) (cBehindL T K (kns T K m) f N x a d A)
 | 0, a, d, A, x, hN, hm, hi, hx => by have := hi.a1; omega
 | N + 1, a, d, A, x, hN, hm, hi, hx => by
  show EqH iI _ (sL135 (fns n) T K (lF135 (fns n) T K N) a d A k f t x) _
  unfold sL135 cBehindL Pm.bind
  have again : ∀ {a2 d2 : Int} {A2 : List Nd} {y : Int}, QI K a d A 1 y a2 d2 A2 → EqH iI (QI K a d A 0) (lF135 (fns n) T K N a2 d2 A2 k f t y) (cBehindL T K (kns T K m) f N y a2 d2 A2) := fun {a2 d2 A2 y} h => by
   have hle := h.2.le
   exact EqH.mono (E_behindL wf hK hn k f t N a2 d2 A2 y (by omega) (by omega) h.2.inv h.1) fun _ _ _ _ g => ⟨g.1, h.2.trans g.2 (by omega)⟩
  refine EqH.bind (E_take wf (n := n) (by omega) hi.a0 hi.a1) ?_
  rintro b _ _ _ ⟨hb, rfl, rfl⟩
  rcases hb with ⟨rfl, rfl, hlt⟩ | ⟨rfl, rfl⟩
  ·refine EqH.bind (E_addQ wf (n := n) (by omega) ((Post.refl hi).step hlt) (small_nod (by simp))) ?_
   rintro y a2 d2 A2 h
   exact again h
  refine EqH.bind (E_take wf (n := n) (by omega) hi.a0 hi.a1) ?_
  rintro b _ _ _ ⟨hb, rfl, rfl⟩
  rcases hb with ⟨rfl, rfl, hlt⟩ | ⟨rfl, rfl⟩
  ·refine EqH.bind (hK.val n _ _ _ (by omega) (by omega) (hi.step hlt)) ?_
   rintro y a2 d2 A2 ⟨hy, hp⟩
   refine EqH.bind (E_want wf (n := n) (by omega) hp.inv.a0 hp.inv.a1) ?_
   rintro _ _ _ _ ⟨rfl, rfl, hlt2, rfl, rfl⟩
   refine EqH.bind (E_addQ wf (n := n) (by omega) (((hp.step hlt2).up (a := a) (c := 1) (by omega))) (small_nod (by simp))) ?_
   rintro y a2 d2 A2 h
   exact again h
  refine EqH.bind (E_take wf (n := n) (by omega) hi.a0 hi.a1) ?_
  rintro b _ _ _ ⟨hb, rfl, rfl⟩
  rcases hb with ⟨rfl, rfl, hlt⟩ | ⟨rfl, rfl⟩
  ·refine EqH.bind (E_part wf hK (n := n) (by omega) (by omega) (hi.step hlt) x f) ?_
   rintro y a2 d2 A2 ⟨hy, hp⟩
   exact again ⟨hy, hp.up (by omega)⟩
  exact ⟨rfl, hx, Post.refl hi⟩
theorem E_behind (wf : WF T K) (hK : KEq T K m) (hn : 40 * m + 10 ≤ n) (hm : 2 * ((K.length : Int) - a) ≤ m) (hi : Inv K a d A) : EqH iI (QI K a d A 1) ((fns n).behind T K a d A ()) (cBehind T K (kns T K m) a d A) := by
 obtain ⟨n, rfl, hn'⟩ := succ_of (k := 40 * m + 9) hn
 show EqH iI _ (sS135 (fns n) T K (lF135 (fns n) T K (K.length + 2)) a d A) _
 unfold sS135 cBehind Pm.bind
 refine EqH.bind (E_next wf (n := n) (by omega) hi.a0 hi.a1) ?_
 rintro _ _ _ _ ⟨rfl, rfl, rfl, rfl⟩
 refine EqH.bind (E_primary wf hK (n := n) (by omega) hm hi) ?_
 rintro x a2 d2 A2 ⟨hx, hp⟩
 have := hp.inv.a0
 have hle := hp.le
 exact EqH.mono (E_behindL wf hK (n := n) (by omega) _ _ _ (K.length + 2) a2 d2 A2 x (by omega) (by omega) hp.inv hx) fun _ _ _ _ g => ⟨g.1, hp.trans g.2 (by omega)⟩
theorem E_unaryB (wf : WF T K) (hK : KEq T K m) (hn : 40 * m + 12 ≤ n) (hm : 2 * ((K.length : Int) - a) ≤ m) (hi : Inv K a d A) : EqH iI (QI K a d A 1) ((fns n).unary T K a d A ()) (cUnary T K (kns T K m) a d A) := by
 obtain ⟨n, rfl, hn'⟩ := succ_of (k := 40 * m + 11) hn
 show EqH iI _ (sp133 (fns n) T K a d A) _
 unfold sp133 cUnary Pm.bind
 refine EqH.bind (E_next wf (n := n) (by omega) hi.a0 hi.a1) ?_
 rintro _ _ _ _ ⟨rfl, rfl, rfl, rfl⟩
 dsimp only [iTS]
 have hB : EqH iI (QI K a d A 1) (((fns n).behind T K a d A ()).bind fun y a d A => .ok (y.1, ()) a d A) (cBehind T K (kns T K m) a d A) := (E_behind wf hK (n := n) (by omega) hm hi).same
 show EqH iI _ (bif tKind (tokAt K a) != 5 then _ else bif !say T (tokAt K a) == [33] then bif !say T (tokAt K a) == [45] then _ else _ else _) ((bif tKind (tokAt K a) == 5 && (say T (tokAt K a) == [33] || say T (tokAt K a) == [45]) then _ else _ : Pm Int) a d A)
 cases h5 : tKind (tokAt K a) == 5 with
 | false =>
  rw [show (tKind (tokAt K a) != 5) = true by simp [bne, h5]]
  exact hB
 | true =>
  rw [show (tKind (tokAt K a) != 5) = false by simp [bne, h5]]
  have hk : tKind (tokAt K a) ≠ 0 := fun e => by rw [e] at h5; exact absurd h5 (by decide)
  have hlt := next_lt wf hi.a0 hi.a1 hk
  have go : ∀ b b' : Bool, b = b' → EqH iI (QI K a d A 1) (((fns n).goIn T K a d A ()).bind fun _ a10 d10 A10 => ((fns n).skip T K a10 d10 A10 ()).bind fun _ a14 d14 A14 => ((fns n).unary T K a14 d14 A14 ()).bind fun y18 a18 d18 A18 =>
    bif b then ((fns n).add T K a18 (IntKind.wrap .i64 (d18 - 1)) A18 (nod 32 [y18.1] [], tFrom (tokAt K a), ())).bind fun y a d A => .ok (y.1, ()) a d A
    else ((fns n).add T K a18 (IntKind.wrap .i64 (d18 - 1)) A18 (nod 33 [y18.1] [], tFrom (tokAt K a), ())).bind fun y a d A => .ok (y.1, ()) a d A)
    ((cInto K).bind (fun _ => (cSkip K).bind fun _ => (kns T K m).un.bind fun x => cOut.bind fun _ => cAdd K (nod (bif b' then 32 else 33) [x] []) (tFrom (tokAt K a))) a d A) := fun b b' hbb => by
   subst hbb
   unfold Pm.bind
   refine EqH.bind (E_into wf (n := n) (by omega) hi.a0 hi.a1 hi.d0 hi.d1) ?_
   rintro _ _ _ _ ⟨rfl, rfl, hd, rfl⟩
   refine EqH.bind (E_skip wf (n := n) (by omega) hi.a0 hi.a1 hk) ?_
   rintro _ _ _ _ ⟨rfl, rfl, rfl, rfl⟩
   have hi1 : Inv K (a + 1) (d + 1) A := ⟨by have := hi.a0; omega, hlt, by have := hi.d0; omega, hd, hi.len, hi.nd⟩
   refine EqH.bind (hK.un n _ _ _ (by omega) (by omega) hi1) ?_
   rintro x a2 d2 A2 ⟨hx, hp⟩
   have hd2 := hp.eq
   have hd0 := hi.d0
   have hw : IntKind.wrap .i64 (d2 - 1) = d := by rw [wf_wrap wf (by omega) (by omega)]; omega
   have hp2 : Post K a d A 1 a2 d A2 := ⟨⟨hp.inv.a0, hp.inv.a1, hi.d0, hi.d1, hp.inv.len, hp.inv.nd⟩, by have := hp.le; omega, rfl, hp.pre⟩
   have hd3 : d2 - 1 = d := by omega
   show EqH iI _ (bif b then ((fns n).add T K a2 (IntKind.wrap .i64 (d2 - 1)) A2 (nod 32 [x] [], tFrom (tokAt K a), ())).bind _ else ((fns n).add T K a2 (IntKind.wrap .i64 (d2 - 1)) A2 (nod 33 [x] [], tFrom (tokAt K a), ())).bind _) (cAdd K (nod (bif b then 32 else 33) [x] []) (tFrom (tokAt K a)) a2 (d2 - 1) A2)
   rw [hw, hd3]
   cases b with
   | true => exact E_addT wf (by omega) hp2 (small_nod (by simp))
   | false => exact E_addT wf (by omega) hp2 (small_nod (by simp))
  cases h33 : say T (tokAt K a) == [33] with
  | true => exact go _ _ rfl
  | false =>
   cases h45 : say T (tokAt K a) == [45] with
   | true => exact go _ true h45
   | false => exact hB
end
end Go.Sx.Tryz
namespace Go.Sx.Tryz
open Go Go.Sx
set_option maxRecDepth 100000
section
variable {T : List UInt8} {K : List Tok} {n m : Nat} {a d : Int} {A : List Nd}
theorem E_chainL (wf : WF T K) (hn : 3 ≤ n) (l k f t : Int) {sub : Pm Int} (hl : IntKind.wrap .i64 (l + 1) = l + 1) (hsub : ∀ a d A, 2 * ((K.length : Int) - a) + 1 ≤ m → Inv K a d A → EqH iI (QI K a d A 1) ((fns n).chain T K a d A (l + 1, ())) (sub a d A)) :
  ∀ (N : Nat) (a d : Int) (A : List Nd) (x : Int), (K.length : Int) - a + 1 ≤ N → 2 * ((K.length : Int) - a) + 1 ≤ m → Inv K a d A → (0 ≤ x ∧ x < A.length) → EqH iI (QI K a d A 0) (lF126 (fns n) T K N a d A l k f t x) (cChainL T K l f sub N x a d A)
 | 0, a, d, A, x, hN, hm, hi, hx => by have := hi.a1; omega
 | N + 1, a, d, A, x, hN, hm, hi, hx => by
  show EqH iI _ (sL126 (fns n) T K (lF126 (fns n) T K N) a d A l k f t x) _
  unfold sL126 cChainL Pm.bind
  have again : ∀ {a2 d2 : Int} {A2 : List Nd} {y : Int}, QI K a d A 1 y a2 d2 A2 → EqH iI (QI K a d A 0) (lF126 (fns n) T K N a2 d2 A2 l k f t y) (cChainL T K l f sub N y a2 d2 A2) := fun {a2 d2 A2 y} h => by
   have hle := h.2.le
   exact EqH.mono (E_chainL wf hn l k f t hl hsub N a2 d2 A2 y (by omega) (by omega) h.2.inv h.1) fun _ _ _ _ g => ⟨g.1, h.2.trans g.2 (by omega)⟩
  have done : EqH iI (QI K a d A 0) (.ok (x, ()) a d A) ((Pm.ret x : Pm Int) a d A) := ⟨rfl, hx, Post.refl hi⟩
  have hE : EqH iI (QI K a d A 0) (bif l == 3 then ((fns n).take T K a d A ([105, 115], ())).bind fun y16 a16 d16 A16 => bif y16.1 then
     ((fns n).take T K a16 d16 A16 ([115, 111, 109, 101], ())).bind fun y20 a20 d20 A20 => bif !y20.1 then
      ((fns n).want T K a20 d20 A20 ([110, 111, 110, 101], ())).bind fun _ a24 d24 A24 => ((fns n).add T K a24 d24 A24 (nod 44 [x] [], f, ())).bind fun y28 a28 d28 A28 => lF126 (fns n) T K N a28 d28 A28 l k f t y28.1
     else ((fns n).add T K a20 d20 A20 (nod 43 [x] [], f, ())).bind fun y24 a24 d24 A24 => lF126 (fns n) T K N a24 d24 A24 l k f t y24.1
    else .ok (x, ()) a16 d16 A16
   else .ok (x, ()) a d A)
   ((bif l == 3 then ((cTake T K [105, 115]).bind fun b => bif b then
    ((cTake T K [115, 111, 109, 101]).bind fun b => bif b then (cAdd K (nod 43 [x] []) f).bind fun z => cChainL T K l f sub N z
     else (cWant T K [110, 111, 110, 101]).bind fun _ => (cAdd K (nod 44 [x] []) f).bind fun z => cChainL T K l f sub N z)
    else .ret x) else .ret x : Pm Int) a d A) := by
   cases l == 3 with
   | false => exact done
   | true =>
    show EqH iI _ _ (Pm.bind (cTake T K [105, 115]) _ a d A)
    unfold Pm.bind
    refine EqH.bind (E_take wf (n := n) (by omega) hi.a0 hi.a1) ?_
    rintro b _ _ _ ⟨hb, rfl, rfl⟩
    rcases hb with ⟨rfl, rfl, hlt⟩ | ⟨rfl, rfl⟩
    ·have hp1 : Post K a d A 1 (a + 1) d A := (Post.refl hi).step hlt
     show EqH iI _ _ (Pm.bind (cTake T K [115, 111, 109, 101]) _ (a + 1) d A)
     unfold Pm.bind
     refine EqH.bind (E_take wf (n := n) (by omega) hp1.inv.a0 hp1.inv.a1) ?_
     rintro b _ _ _ ⟨hb, rfl, rfl⟩
     rcases hb with ⟨rfl, rfl, hlt2⟩ | ⟨rfl, rfl⟩
     ·refine EqH.bind (E_addQ wf (n := n) (by omega) ((hp1.step hlt2).up (a := a) (c := 1) (by omega)) (small_nod (by simp))) ?_
      rintro y a2 d2 A2 h
      exact again h
     ·refine EqH.bind (E_want wf (n := n) (by omega) hp1.inv.a0 hp1.inv.a1) ?_
      rintro _ _ _ _ ⟨rfl, rfl, hlt3, rfl, rfl⟩
      refine EqH.bind (E_addQ wf (n := n) (by omega) ((hp1.step hlt3).up (a := a) (c := 1) (by omega)) (small_nod (by simp))) ?_
      rintro y a2 d2 A2 h
      exact again h
    ·exact done
  refine EqH.bind (E_next wf (n := n) (by omega) hi.a0 hi.a1) ?_
  rintro _ _ _ _ ⟨rfl, rfl, rfl, rfl⟩
  show EqH iI _ (bif tKind (tokAt K a) == 5 then bif bindsS (say T (tokAt K a)) == l then _ else _ else _) ((bif tKind (tokAt K a) == 5 && bindsS (say T (tokAt K a)) == l then _ else _ : Pm Int) a d A)
  cases h5 : tKind (tokAt K a) == 5 with
  | false => exact hE
  | true =>
   cases bindsS (say T (tokAt K a)) == l with
   | false => exact hE
   | true =>
    have hk : tKind (tokAt K a) ≠ 0 := fun e => by rw [e] at h5; exact absurd h5 (by decide)
    have hlt := next_lt wf hi.a0 hi.a1 hk
    refine EqH.bind (E_skip wf (n := n) (by omega) hi.a0 hi.a1 hk) ?_
    rintro _ _ _ _ ⟨rfl, rfl, rfl, rfl⟩
    show EqH iI _ (PR.bind ((fns n).chain T K (a + 1) d A (IntKind.wrap .i64 (l + 1), ())) _) _
    rw [hl]
    refine EqH.bind (hsub _ _ _ (by omega) (hi.step hlt)) ?_
    rintro y a2 d2 A2 ⟨hy, hp⟩
    refine EqH.bind (E_addQ wf (n := n) (by omega) (hp.up (a := a) (c := 1) (by omega)) (small_nod (by simp))) ?_
    rintro z a3 d3 A3 h
    exact again h
theorem E_chain (wf : WF T K) (hK : KEq T K m) : ∀ (j n : Nat) (l a d : Int) (A : List Nd), l = 6 - (j : Int) → j ≤ 6 → 40 * m + 14 + j ≤ n → 2 * ((K.length : Int) - a) + 1 ≤ m → Inv K a d A → EqH iI (QI K a d A 1) ((fns n).chain T K a d A (l, ())) (cChain T K (kns T K m) j a d A)
 | 0, n, l, a, d, A, hl, hj, hn, hm, hi => by
  have hl : l = 6 := by omega
  subst hl
  obtain ⟨n, rfl, hn'⟩ := succ_of (k := 40 * m + 13) (by omega)
  show EqH iI _ (sp126 (fns n) T K a d A 6) _
  unfold sp126 sS126 cChain Pm.bind
  refine EqH.bind (E_next wf (n := n) (by omega) hi.a0 hi.a1) ?_
  rintro _ _ _ _ ⟨rfl, rfl, rfl, rfl⟩
  exact (hK.un n _ _ _ (by omega) hm hi).same
 | j + 1, n, l, a, d, A, hl, hj, hn, hm, hi => by
  have hl : l = 5 - (j : Int) := by omega
  subst hl
  obtain ⟨n, rfl, hn'⟩ := succ_of (k := 40 * m + 14 + j) (by omega)
  show EqH iI _ (sS126 (fns n) T K (lF126 (fns n) T K (K.length + 2)) a d A (5 - (j : Int))) _
  unfold sS126 cChain Pm.bind
  refine EqH.bind (E_next wf (n := n) (by omega) hi.a0 hi.a1) ?_
  rintro _ _ _ _ ⟨rfl, rfl, rfl, rfl⟩
  rw [decide_eq_false (by omega : ¬ (5 - (j : Int) > 5))]
  have hw : IntKind.wrap .i64 (5 - (j : Int) + 1) = 5 - (j : Int) + 1 := wf_wrap wf (by omega) (by omega)
  have hs : ∀ a d A, 2 * ((K.length : Int) - a) + 1 ≤ m → Inv K a d A → EqH iI (QI K a d A 1) ((fns n).chain T K a d A (5 - (j : Int) + 1, ())) (cChain T K (kns T K m) j a d A) := fun a d A hm hi => by
   exact E_chain wf hK j n _ a d A (by omega) (by omega) (by omega) hm hi
  show EqH iI _ (PR.bind ((fns n).chain T K a d A (IntKind.wrap .i64 (5 - (j : Int) + 1), ())) _) _
  rw [hw]
  refine EqH.bind (hs a d A hm hi) ?_
  rintro x a2 d2 A2 ⟨hx, hp⟩
  have hle := hp.le
  have := hp.inv.a0
  exact EqH.mono (E_chainL wf (n := n) (m := m) (by omega) (5 - (j : Int)) _ _ _ hw hs (K.length + 2) a2 d2 A2 x (by omega) (by omega) hp.inv hx) fun _ _ _ _ g => ⟨g.1, hp.trans g.2 (by omega)⟩
theorem E_valueB (wf : WF T K) (hK : KEq T K m) (hn : 40 * m + 22 ≤ n) (hm : 2 * ((K.length : Int) - a) + 1 ≤ m) (hi : Inv K a d A) : EqH iI (QI K a d A 1) ((fns n).value T K a d A ()) (cValue T K (kns T K m) a d A) := by
 obtain ⟨n, rfl, hn'⟩ := succ_of (k := 40 * m + 21) hn
 show EqH iI _ (sp114 (fns n) T K a d A) _
 unfold sp114 cValue Pm.bind
 refine EqH.bind (E_into wf (n := n) (by omega) hi.a0 hi.a1 hi.d0 hi.d1) ?_
 rintro _ _ _ _ ⟨rfl, rfl, hd, rfl⟩
 have hi1 : Inv K a (d + 1) A := ⟨hi.a0, hi.a1, by have := hi.d0; omega, hd, hi.len, hi.nd⟩
 refine EqH.bind (E_chain wf hK 6 n 0 a (d + 1) A rfl (by omega) (by omega) hm hi1) ?_
 rintro x a2 d2 A2 ⟨hx, hp⟩
 have hd2 := hp.eq
 have hd0 := hi.d0
 have hw : IntKind.wrap .i64 (d2 - 1) = d2 - 1 := wf_wrap wf (by omega) (by omega)
 have hd3 : d2 - 1 = d := by omega
 show EqH iI _ (.ok (x, ()) a2 (IntKind.wrap .i64 (d2 - 1)) A2) (.ok x a2 (d2 - 1) A2)
 rw [hw, hd3]
 exact ⟨rfl, hx, ⟨hp.inv.a0, hp.inv.a1, hi.d0, hi.d1, hp.inv.len, hp.inv.nd⟩, hp.le, rfl, hp.pre⟩
end
end Go.Sx.Tryz
namespace Go.Sx.Tryz
open Go Go.Sx
set_option maxRecDepth 100000
def QW (K : List Tok) (a d : Int) (A : List Nd) (y : Nd × Bool) (a' d' : Int) (A' : List Nd) : Prop := Small y.1 ∧ Post K a d A 0 a' d' A' ∧ (y.2 = true → a + 1 ≤ a')
section
variable {T : List UInt8} {K : List Tok} {n m : Nat} {a d : Int} {A : List Nd}
theorem E_word (wf : WF T K) (hK : KEq T K m) (hn : 40 * m + 8 ≤ n) (hm : 2 * ((K.length : Int) - a) ≤ m) (hi : Inv K a d A) (hk : tKind (tokAt K a) ≠ 0) (s : Str) : EqH iNB (QW K a d A) ((fns n).word T K a d A (s, ())) (cWord T K (kns T K m) s a d A) := by
 obtain ⟨n, rfl, hn'⟩ := succ_of (k := 40 * m + 7) hn
 have hlt := next_lt wf hi.a0 hi.a1 hk
 have hi1 := hi.step hlt
 have hp1 : Post K a d A 1 (a + 1) d A := (Post.refl hi).step hlt
 have fin : ∀ {x : Nd} {a2 d2 : Int} {A2 : List Nd}, Small x → Post K a d A 1 a2 d2 A2 → QW K a d A (x, true) a2 d2 A2 := fun hx hp => ⟨hx, hp.up (by omega), fun _ => hp.le⟩
 have skip : ∀ {k : Dens [tI] → Int → Int → List Nd → PR (Dens [tN, tB])} {k' : Pm (Nd × Bool)}, (EqH iNB (QW K a d A) (k (tTo (tokAt K a), ()) (a + 1) d A) (k' (a + 1) d A)) → EqH iNB (QW K a d A) (((fns n).skip T K a d A ()).bind k) ((cSkip K).bind (fun _ => k') a d A) := fun {k k'} h => by
  unfold Pm.bind
  refine EqH.bind (E_skip wf (n := n) (by omega) hi.a0 hi.a1 hk) ?_
  rintro _ _ _ _ ⟨rfl, rfl, rfl, rfl⟩
  exact h
 show EqH iNB _ (sp115 (fns n) T K a d A s) _
 unfold sp115 cWord
 cases s == [105, 102] with
 | true =>
  refine skip ?_
  unfold Pm.bind
  refine EqH.bind (E_bracket wf hK (n := n) (by omega) (by omega) hi1) ?_
  rintro x a2 d2 A2 ⟨hx, hp⟩
  have h2 := hp1.trans hp (c := 1) (by omega)
  have h2l := hp.le
  refine EqH.bind (hK.blk n _ _ _ (by omega) (by omega) h2.inv) ?_
  rintro y a3 d3 A3 ⟨hy, hp3⟩
  have h3 := h2.trans hp3 (c := 1) (by omega)
  have h3l := hp3.le
  refine EqH.bind (E_take wf (n := n) (by omega) h3.inv.a0 h3.inv.a1) ?_
  rintro b _ _ _ ⟨hb, rfl, rfl⟩
  rcases hb with ⟨rfl, rfl, hlt4⟩ | ⟨rfl, rfl⟩
  ·refine EqH.bind (hK.blk n _ _ _ (by omega) (by omega) (h3.inv.step hlt4)) ?_
   rintro z a5 d5 A5 ⟨hz, hp5⟩
   exact ⟨rfl, fin (small_nod (by simp)) ((h3.step hlt4).trans hp5 (by omega))⟩
  ·exact ⟨rfl, fin (small_nod (by simp)) h3⟩
 | false =>
 cases s == [119, 104, 105, 108, 101] with
 | true =>
  refine skip ?_
  unfold Pm.bind
  refine EqH.bind (E_bracket wf hK (n := n) (by omega) (by omega) hi1) ?_
  rintro x a2 d2 A2 ⟨hx, hp⟩
  have h2 := hp1.trans hp (c := 1) (by omega)
  have h2l := hp.le
  refine EqH.bind (hK.blk n _ _ _ (by omega) (by omega) h2.inv) ?_
  rintro y a3 d3 A3 ⟨hy, hp3⟩
  exact ⟨rfl, fin (small_nod (by simp)) (h2.trans hp3 (by omega))⟩
 | false =>
 cases s == [98, 114, 101, 97, 107] with
 | true =>
  refine skip ?_
  unfold Pm.bind
  refine EqH.bind (E_want wf (n := n) (by omega) hi1.a0 hi1.a1) ?_
  rintro _ _ _ _ ⟨rfl, rfl, hlt2, rfl, rfl⟩
  exact ⟨rfl, fin (small_nod (by simp)) ((hp1.step hlt2).up (by omega))⟩
 | false =>
 cases s == [99, 111, 110, 116, 105, 110, 117, 101] with
 | true =>
  refine skip ?_
  unfold Pm.bind
  refine EqH.bind (E_want wf (n := n) (by omega) hi1.a0 hi1.a1) ?_
  rintro _ _ _ _ ⟨rfl, rfl, hlt2, rfl, rfl⟩
  exact ⟨rfl, fin (small_nod (by simp)) ((hp1.step hlt2).up (by omega))⟩
 | false =>
 cases s == [114, 101, 116, 117, 114, 110] with
 | true =>
  refine skip ?_
  unfold Pm.bind
  refine EqH.bind (E_is wf (n := n) (by omega) hi1.a0 hi1.a1) ?_
  rintro b _ _ _ ⟨_, rfl, rfl, rfl⟩
  cases b with
  | false =>
   refine EqH.bind (hK.val n _ _ _ (by omega) (by omega) hi1) ?_
   rintro x a2 d2 A2 ⟨hx, hp⟩
   have h2 := hp1.trans hp (c := 1) (by omega)
   refine EqH.bind (E_want wf (n := n) (by omega) h2.inv.a0 h2.inv.a1) ?_
   rintro _ _ _ _ ⟨rfl, rfl, hlt2, rfl, rfl⟩
   exact ⟨rfl, fin (small_nod (by simp)) ((h2.step hlt2).up (by omega))⟩
  | true =>
   refine EqH.bind (E_want wf (n := n) (by omega) hi1.a0 hi1.a1) ?_
   rintro _ _ _ _ ⟨rfl, rfl, hlt2, rfl, rfl⟩
   exact ⟨rfl, fin (small_nod (by simp)) ((hp1.step hlt2).up (by omega))⟩
 | false =>
 cases s == [112, 114, 105, 110, 116] with
 | true =>
  refine skip ?_
  unfold Pm.bind
  refine EqH.bind (E_bracket wf hK (n := n) (by omega) (by omega) hi1) ?_
  rintro x a2 d2 A2 ⟨hx, hp⟩
  have h2 := hp1.trans hp (c := 1) (by omega)
  refine EqH.bind (E_want wf (n := n) (by omega) h2.inv.a0 h2.inv.a1) ?_
  rintro _ _ _ _ ⟨rfl, rfl, hlt2, rfl, rfl⟩
  exact ⟨rfl, fin (small_nod (by simp)) ((h2.step hlt2).up (by omega))⟩
 | false =>
 cases s == [115, 117, 112, 101, 114] with
 | true =>
  refine skip ?_
  unfold Pm.bind
  refine EqH.bind (E_args wf hK (n := n) (by omega) (by omega) hi1) ?_
  rintro l a2 d2 A2 ⟨hl, hp⟩
  have h2 := hp1.trans hp (c := 1) (by omega)
  refine EqH.bind (E_want wf (n := n) (by omega) h2.inv.a0 h2.inv.a1) ?_
  rintro _ _ _ _ ⟨rfl, rfl, hlt2, rfl, rfl⟩
  exact ⟨rfl, fin (small_nod (by omega)) ((h2.step hlt2).up (by omega))⟩
 | false => exact ⟨rfl, small_nod (by simp), Post.refl hi, fun h => by cases h⟩
theorem E_plain (wf : WF T K) (hK : KEq T K m) (hn : 40 * m + 8 ≤ n) (hm : 2 * ((K.length : Int) - a) + 2 ≤ m) (hi : Inv K a d A) (f : Int) : EqH iI (QI K a d A 1) ((fns n).plainS T K a d A (f, ())) (cPlain T K (kns T K m) f a d A) := by
 obtain ⟨n, rfl, hn'⟩ := succ_of (k := 40 * m + 7) hn
 show EqH iI _ (sp116 (fns n) T K a d A f) _
 unfold sp116 cPlain Pm.bind
 refine EqH.bind (hK.val n _ _ _ (by omega) hm hi) ?_
 rintro x a2 d2 A2 ⟨hx, hp⟩
 have hle := hp.le
 refine EqH.bind (E_next wf (n := n) (by omega) hp.inv.a0 hp.inv.a1) ?_
 rintro _ _ _ _ ⟨rfl, rfl, rfl, rfl⟩
 have hmem : getN A2 x.toNat ∈ A2 := by
  have : x.toNat < A2.length := by omega
  unfold getN
  rw [List.getD_eq_getElem?_getD, List.getElem?_eq_getElem this]
  exact List.getElem_mem _
 have hs := hp.inv.nd _ hmem
 have e1 : inI x A2.length = true := by
  simp only [inI, Bool.and_eq_true, decide_eq_true_eq]
  omega
 have e2 : Nat.ble (nKids (getN A2 x.toNat)).length 17592186044416 = true := Nat.ble_eq_true_of_le (by omega)
 have e3 : Nat.ble (nEnds (getN A2 x.toNat)).length 17592186044416 = true := Nat.ble_eq_true_of_le (by omega)
 show EqH iI _ (bif inI x A2.length then bif Nat.ble (nKids (getN A2 x.toNat)).length 17592186044416 then bif Nat.ble (nEnds (getN A2 x.toNat)).length 17592186044416 then _ else _ else _ else _) _
 rw [e1, e2, e3]
 show EqH iI _ _ (PR.bind (cTake T K [61] a2 d2 A2) _)
 refine EqH.bind (E_take wf (n := n) (by omega) hp.inv.a0 hp.inv.a1) ?_
 rintro b _ _ _ ⟨hb, rfl, rfl⟩
 rcases hb with ⟨rfl, rfl, hlt⟩ | ⟨rfl, rfl⟩
 ·have go : EqH iI (QI K a d A 1) (((fns n).value T K (a2 + 1) d2 A2 ()).bind fun y19 a19 d19 A19 => ((fns n).want T K a19 d19 A19 ([59], ())).bind fun _ a23 d23 A23 => ((fns n).add T K a23 d23 A23 (nod 10 [x, y19.1] [], f, ())).bind fun y a d A => .ok (y.1, ()) a d A)
    ((kns T K m).val.bind (fun y => (cWant T K [59]).bind fun _ => cAdd K (nod 10 [x, y] []) f) (a2 + 1) d2 A2) := by
   unfold Pm.bind
   have h1 := hp.step hlt
   refine EqH.bind (hK.val n _ _ _ (by omega) (by omega) h1.inv) ?_
   rintro y a3 d3 A3 ⟨hy, hp3⟩
   have h3 := h1.trans hp3 (c := 1) (by omega)
   refine EqH.bind (E_want wf (n := n) (by omega) h3.inv.a0 h3.inv.a1) ?_
   rintro _ _ _ _ ⟨rfl, rfl, hlt4, rfl, rfl⟩
   exact E_addT wf (by omega) ((h3.step hlt4).up (by omega)) (small_nod (by simp))
  show EqH iI _ (bif nKind (getN A2 x.toNat) != 25 then bif nKind (getN A2 x.toNat) != 26 then bif nKind (getN A2 x.toNat) != 27 then _ else _ else _ else _)
   ((bif nKind (getN A2 x.toNat) == 25 || (nKind (getN A2 x.toNat) == 26 || nKind (getN A2 x.toNat) == 27) then _ else _ : Pm Int) (a2 + 1) d2 A2)
  unfold bne
  cases nKind (getN A2 x.toNat) == 25 with
  | true => exact go
  | false =>
   cases nKind (getN A2 x.toNat) == 26 with
   | true => exact go
   | false =>
    cases nKind (getN A2 x.toNat) == 27 with
    | true => exact go
    | false => exact EqH.flt
 ·have go : EqH iI (QI K a d A 1) (((fns n).want T K a2 d2 A2 ([59], ())).bind fun _ a23 d23 A23 => ((fns n).add T K a23 d23 A23 (nod 18 [x] [], f, ())).bind fun y a d A => .ok (y.1, ()) a d A)
    ((cWant T K [59]).bind (fun _ => cAdd K (nod 18 [x] []) f) a2 d2 A2) := by
   unfold Pm.bind
   refine EqH.bind (E_want wf (n := n) (by omega) hp.inv.a0 hp.inv.a1) ?_
   rintro _ _ _ _ ⟨rfl, rfl, hlt4, rfl, rfl⟩
   exact E_addT wf (by omega) ((hp.step hlt4).up (by omega)) (small_nod (by simp))
  show EqH iI _ (bif nKind (getN A2 x.toNat) != 29 then bif nKind (getN A2 x.toNat) != 30 then _ else _ else _) ((bif nKind (getN A2 x.toNat) == 29 || nKind (getN A2 x.toNat) == 30 then _ else _ : Pm Int) a2 d2 A2)
  unfold bne
  cases nKind (getN A2 x.toNat) == 29 with
  | true => exact go
  | false =>
   cases nKind (getN A2 x.toNat) == 30 with
   | true => exact go
   | false => exact EqH.flt
end
end Go.Sx.Tryz
namespace Go.Sx.Tryz
open Go Go.Sx
set_option maxRecDepth 100000
section
variable {T : List UInt8} {K : List Tok} {n m : Nat} {a d : Int} {A : List Nd}
theorem E_stat (wf : WF T K) (hK : KEq T K m) (hn : 40 * m + 10 ≤ n) (hm : 2 * ((K.length : Int) - a) + 2 ≤ m) (hi : Inv K a d A) : EqH iI (QI K a d A 1) ((fns n).stat T K a d A ()) (cStat T K (kns T K m) a d A) := by
 obtain ⟨n, rfl, hn'⟩ := succ_of (k := 40 * m + 9) hn
 have h0 := hi.a0
 show EqH iI _ (sp105 (fns n) T K a d A) _
 unfold sp105 cStat Pm.bind
 refine EqH.bind (E_next wf (n := n) (by omega) hi.a0 hi.a1) ?_
 rintro _ _ _ _ ⟨rfl, rfl, rfl, rfl⟩
 have hD : ∀ {X : Dens [tB] → Int → Int → List Nd → PR (Dens [tI])}, (∀ b : Bool, EqH iI (QI K a d A 1) (X (b, ()) a d A) ((bif b then
  ((cTyped T K false).bind fun x => (cName T K).bind fun s => (cTake T K [61]).bind fun b => bif b then (kns T K m).val.bind fun y => (cWant T K [59]).bind fun _ => cAdd K (withK x 9 [y] s) (tFrom (tokAt K a))
   else (cWant T K [59]).bind fun _ => cAdd K (withK x 9 (nKids x) s) (tFrom (tokAt K a)))
  else bif tKind (tokAt K a) == 1 then (cWord T K (kns T K m) (say T (tokAt K a))).bind fun w => bif w.2 then cAdd K w.1 (tFrom (tokAt K a)) else cPlain T K (kns T K m) (tFrom (tokAt K a))
  else cPlain T K (kns T K m) (tFrom (tokAt K a)) : Pm Int) a d A)) →
   EqH iI (QI K a d A 1) (((fns n).declares T K a d A ()).bind X) ((cDeclares T K).bind (fun b => bif b then
  ((cTyped T K false).bind fun x => (cName T K).bind fun s => (cTake T K [61]).bind fun b => bif b then (kns T K m).val.bind fun y => (cWant T K [59]).bind fun _ => cAdd K (withK x 9 [y] s) (tFrom (tokAt K a))
   else (cWant T K [59]).bind fun _ => cAdd K (withK x 9 (nKids x) s) (tFrom (tokAt K a)))
  else bif tKind (tokAt K a) == 1 then (cWord T K (kns T K m) (say T (tokAt K a))).bind fun w => bif w.2 then cAdd K w.1 (tFrom (tokAt K a)) else cPlain T K (kns T K m) (tFrom (tokAt K a))
  else cPlain T K (kns T K m) (tFrom (tokAt K a))) a d A) := fun {X} h => by
  unfold Pm.bind
  refine EqH.bind (E_declares wf (n := n) (by omega) hi.a0 hi.a1) ?_
  rintro b _ _ _ ⟨rfl, rfl, rfl⟩
  exact h b
 have hP : EqH iI (QI K a d A 1) (((fns n).plainS T K a d A (tFrom (tokAt K a), ())).bind fun y a d A => .ok (y.1, ()) a d A) (cPlain T K (kns T K m) (tFrom (tokAt K a)) a d A) := (E_plain wf hK (n := n) (by omega) hm hi _).same
 have hdecl : EqH iI (QI K a d A 1) (((fns n).typed T K a d A (false, ())).bind fun y14 a14 d14 A14 => ((fns n).name T K a14 d14 A14 ()).bind fun y18 a18 d18 A18 => ((fns n).take T K a18 d18 A18 ([61], ())).bind fun y22 a22 d22 A22 =>
   bif y22.1 then ((fns n).value T K a22 d22 A22 ()).bind fun y26 a26 d26 A26 => ((fns n).want T K a26 d26 A26 ([59], ())).bind fun _ a30 d30 A30 => ((fns n).add T K a30 d30 A30 (withK y14.1 9 [y26.1] y18.1, tFrom (tokAt K a), ())).bind fun y a d A => .ok (y.1, ()) a d A
   else ((fns n).want T K a22 d22 A22 ([59], ())).bind fun _ a26 d26 A26 => ((fns n).add T K a26 d26 A26 (withK y14.1 9 (nKids y14.1) y18.1, tFrom (tokAt K a), ())).bind fun y a d A => .ok (y.1, ()) a d A)
   ((cTyped T K false).bind (fun x => (cName T K).bind fun s => (cTake T K [61]).bind fun b => bif b then (kns T K m).val.bind fun y => (cWant T K [59]).bind fun _ => cAdd K (withK x 9 [y] s) (tFrom (tokAt K a))
   else (cWant T K [59]).bind fun _ => cAdd K (withK x 9 (nKids x) s) (tFrom (tokAt K a))) a d A) := by
  unfold Pm.bind
  refine EqH.bind (E_typed wf (n := n) (by omega) hi.a0 hi.a1 false) ?_
  rintro x a1 _ _ ⟨hx, ⟨g1, g2⟩, rfl, rfl⟩
  have hp1 : Post K a d A 1 a1 d A := ⟨hi.at (by omega) g2, g1, rfl, [], by simp⟩
  refine EqH.bind (E_name wf (n := n) (by omega) hp1.inv.a0 hp1.inv.a1) ?_
  rintro s _ _ _ ⟨hs, rfl, hlt, rfl, rfl⟩
  have hp2 := hp1.step hlt
  refine EqH.bind (E_take wf (n := n) (by omega) hp2.inv.a0 hp2.inv.a1) ?_
  rintro b _ _ _ ⟨hb, rfl, rfl⟩
  rcases hb with ⟨rfl, rfl, hlt3⟩ | ⟨rfl, rfl⟩
  ·have hp3 := hp2.step hlt3
   refine EqH.bind (hK.val n _ _ _ (by omega) (by omega) hp3.inv) ?_
   rintro y a4 d4 A4 ⟨hy, hp⟩
   have hp4 := hp3.trans hp (c := 1) (by omega)
   refine EqH.bind (E_want wf (n := n) (by omega) hp4.inv.a0 hp4.inv.a1) ?_
   rintro _ _ _ _ ⟨rfl, rfl, hlt5, rfl, rfl⟩
   exact E_addT wf (by omega) ((hp4.step hlt5).up (by omega)) (small_with hx.small (by simp))
  ·refine EqH.bind (E_want wf (n := n) (by omega) hp2.inv.a0 hp2.inv.a1) ?_
   rintro _ _ _ _ ⟨rfl, rfl, hlt5, rfl, rfl⟩
   exact E_addT wf (by omega) ((hp2.step hlt5).up (by omega)) (small_with hx.small (by rw [hx.kids]; simp))
 have hword : (tKind (tokAt K a) == 1) = true → EqH iI (QI K a d A 1) (((fns n).word T K a d A (say T (tokAt K a), ())).bind fun y14 a14 d14 A14 => bif y14.2.1 then ((fns n).add T K a14 d14 A14 (y14.1, tFrom (tokAt K a), ())).bind fun y a d A => .ok (y.1, ()) a d A
   else ((fns n).plainS T K a14 d14 A14 (tFrom (tokAt K a), ())).bind fun y a d A => .ok (y.1, ()) a d A)
   ((cWord T K (kns T K m) (say T (tokAt K a))).bind (fun w => bif w.2 then cAdd K w.1 (tFrom (tokAt K a)) else cPlain T K (kns T K m) (tFrom (tokAt K a))) a d A) := fun h1 => by
  have hk : tKind (tokAt K a) ≠ 0 := fun e => by rw [e] at h1; exact absurd h1 (by decide)
  unfold Pm.bind
  refine EqH.bind (E_word wf hK (n := n) (by omega) (by omega) hi hk _) ?_
  rintro ⟨x, b⟩ a2 d2 A2 ⟨hx, hp, hb⟩
  cases b with
  | true => exact E_addT wf (by omega) ⟨hp.inv, hb rfl, hp.eq, hp.pre⟩ hx
  | false =>
   have hle := hp.le
   exact EqH.mono (E_plain wf hK (n := n) (by omega) (by omega) hp.inv _).same fun _ _ _ _ g => ⟨g.1, hp.trans g.2 (by omega)⟩
 have hrest : EqH iI (QI K a d A 1) (((fns n).declares T K a d A ()).bind fun y10 a10 d10 A10 => bif y10.1 then ((fns n).typed T K a10 d10 A10 (false, ())).bind fun y14 a14 d14 A14 => ((fns n).name T K a14 d14 A14 ()).bind fun y18 a18 d18 A18 => ((fns n).take T K a18 d18 A18 ([61], ())).bind fun y22 a22 d22 A22 =>
   bif y22.1 then ((fns n).value T K a22 d22 A22 ()).bind fun y26 a26 d26 A26 => ((fns n).want T K a26 d26 A26 ([59], ())).bind fun _ a30 d30 A30 => ((fns n).add T K a30 d30 A30 (withK y14.1 9 [y26.1] y18.1, tFrom (tokAt K a), ())).bind fun y a d A => .ok (y.1, ()) a d A
   else ((fns n).want T K a22 d22 A22 ([59], ())).bind fun _ a26 d26 A26 => ((fns n).add T K a26 d26 A26 (withK y14.1 9 (nKids y14.1) y18.1, tFrom (tokAt K a), ())).bind fun y a d A => .ok (y.1, ()) a d A
   else bif tKind (tokAt K a) == 1 then ((fns n).word T K a10 d10 A10 (say T (tokAt K a), ())).bind fun y14 a14 d14 A14 => bif y14.2.1 then ((fns n).add T K a14 d14 A14 (y14.1, tFrom (tokAt K a), ())).bind fun y a d A => .ok (y.1, ()) a d A
   else ((fns n).plainS T K a14 d14 A14 (tFrom (tokAt K a), ())).bind fun y a d A => .ok (y.1, ()) a d A
   else ((fns n).plainS T K a10 d10 A10 (tFrom (tokAt K a), ())).bind fun y a d A => .ok (y.1, ()) a d A)
   ((cDeclares T K).bind (fun b => bif b then
  ((cTyped T K false).bind fun x => (cName T K).bind fun s => (cTake T K [61]).bind fun b => bif b then (kns T K m).val.bind fun y => (cWant T K [59]).bind fun _ => cAdd K (withK x 9 [y] s) (tFrom (tokAt K a))
   else (cWant T K [59]).bind fun _ => cAdd K (withK x 9 (nKids x) s) (tFrom (tokAt K a)))
  else bif tKind (tokAt K a) == 1 then (cWord T K (kns T K m) (say T (tokAt K a))).bind fun w => bif w.2 then cAdd K w.1 (tFrom (tokAt K a)) else cPlain T K (kns T K m) (tFrom (tokAt K a))
  else cPlain T K (kns T K m) (tFrom (tokAt K a))) a d A) := by
  refine hD fun b => ?_
  cases b with
  | true => exact hdecl
  | false =>
   cases h1 : tKind (tokAt K a) == 1 with
   | true => exact hword h1
   | false => exact hP
 show EqH iI _ (bif tKind (tokAt K a) == 5 then bif say T (tokAt K a) == [123] then _ else _ else _) ((bif tKind (tokAt K a) == 5 && say T (tokAt K a) == [123] then _ else _ : Pm Int) a d A)
 cases tKind (tokAt K a) == 5 with
 | false => exact hrest
 | true =>
  cases say T (tokAt K a) == [123] with
  | false => exact hrest
  | true => exact (hK.blk n _ _ _ (by omega) (by omega) hi).same
theorem E_blockL (wf : WF T K) (hK : KEq T K m) (hn : 40 * m + 10 ≤ n) (k f t : Int) : ∀ (N : Nat) (a d : Int) (A : List Nd) (L : List Int), (K.length : Int) - a + 1 ≤ N → 2 * ((K.length : Int) - a) + 2 ≤ m → Inv K a d A → 1 ≤ d → (L.length : Int) ≤ a →
  EqH iI (fun y a' d' A' => (0 ≤ y ∧ y < A'.length) ∧ Inv K a' d' A' ∧ a + 1 ≤ a' ∧ d' = d - 1 ∧ ∃ B, A' = A ++ B) (lF93 (fns n) T K N a d A k f t L) (cBlockL T K (kns T K m) f N L a d A)
 | 0, a, d, A, L, hN, hm, hi, hd, hL => by have := hi.a1; omega
 | N + 1, a, d, A, L, hN, hm, hi, hd, hL => by
  have hmost := wf.most
  have ha1 := hi.a1
  show EqH iI _ (sL93 (fns n) T K (lF93 (fns n) T K N) a d A k f t L) _
  unfold sL93 cBlockL Pm.bind
  refine EqH.bind (E_is wf (n := n) (by omega) hi.a0 hi.a1) ?_
  rintro b _ _ _ ⟨_, rfl, rfl, rfl⟩
  cases b with
  | true =>
   refine EqH.bind (E_want wf (n := n) (by omega) hi.a0 hi.a1) ?_
   rintro _ _ _ _ ⟨rfl, rfl, hlt, rfl, rfl⟩
   have hd1 := hi.d1
   have hw : IntKind.wrap .i64 (d - 1) = d - 1 := wf_wrap wf (by omega) (by omega)
   show EqH iI _ (((fns n).add T K (a + 1) (IntKind.wrap .i64 (d - 1)) A (nod 8 L [], f, ())).bind _) (cAdd K (nod 8 L []) f (a + 1) (d - 1) A)
   rw [hw]
   have hi2 : Inv K (a + 1) (d - 1) A := ⟨by have := hi.a0; omega, hlt, by omega, by omega, hi.len, hi.nd⟩
   exact EqH.mono (E_addT wf (n := n) (by omega) (Post.refl hi2) (small_nod (by omega))) fun y a' d' A' g => ⟨g.1, g.2.inv, by have := g.2.le; omega, g.2.eq, g.2.pre⟩
  | false =>
   refine EqH.bind (E_stat wf hK (n := n) (by omega) hm hi) ?_
   rintro x a2 d2 A2 ⟨hx, hp⟩
   have hle := hp.le
   have hdd := hp.eq
   show EqH iI _ (bif decide (L.length + [x].length < maxRoom) then _ else _) _
   rw [mr_small (by omega)]
   exact EqH.mono (E_blockL wf hK hn k f t N a2 d2 A2 (L ++ [x]) (by omega) (by omega) hp.inv (by omega) (by rw [List.length_append, List.length_singleton]; omega)) fun y a' d' A' g => by
    obtain ⟨B1, e1⟩ := hp.pre
    obtain ⟨g1, g2, g3, g4, B2, e2⟩ := g
    exact ⟨g1, g2, by omega, by omega, B1 ++ B2, by rw [e2, e1, List.append_assoc]⟩
theorem E_blockB (wf : WF T K) (hK : KEq T K m) (hn : 40 * m + 12 ≤ n) (hm : 2 * ((K.length : Int) - a) ≤ m) (hi : Inv K a d A) : EqH iI (QI K a d A 1) ((fns n).block T K a d A ()) (cBlock T K (kns T K m) a d A) := by
 obtain ⟨n, rfl, hn'⟩ := succ_of (k := 40 * m + 11) hn
 show EqH iI _ (sS93 (fns n) T K (lF93 (fns n) T K (K.length + 2)) a d A) _
 unfold sS93 cBlock Pm.bind
 refine EqH.bind (E_next wf (n := n) (by omega) hi.a0 hi.a1) ?_
 rintro _ _ _ _ ⟨rfl, rfl, rfl, rfl⟩
 refine EqH.bind (E_into wf (n := n) (by omega) hi.a0 hi.a1 hi.d0 hi.d1) ?_
 rintro _ _ _ _ ⟨rfl, rfl, hd, rfl⟩
 refine EqH.bind (E_want wf (n := n) (by omega) hi.a0 hi.a1) ?_
 rintro _ _ _ _ ⟨rfl, rfl, hlt, rfl, rfl⟩
 have h0 := hi.a0
 have hd0 := hi.d0
 have hi1 : Inv K (a + 1) (d + 1) A := ⟨by omega, hlt, by omega, hd, hi.len, hi.nd⟩
 exact EqH.mono (E_blockL wf hK (n := n) (by omega) _ _ _ (K.length + 2) (a + 1) (d + 1) A [] (by omega) (by omega) hi1 (by omega) (by simp; omega)) fun y a' d' A' g => ⟨g.1, g.2.1, by have := g.2.2.1; omega, by have := g.2.2.2.1; omega, g.2.2.2.2⟩
theorem kEq (wf : WF T K) : ∀ m, KEq T K m
 | 0 => ⟨fun n a d A hn hm hi => by have := hi.a1; omega, fun n a d A hn hm hi => by have := hi.a1; omega, fun n a d A hn hm hi => by have := hi.a1; omega⟩
 | m + 1 => by
  have hK := kEq wf m
  exact ⟨fun n a d A hn hm hi => E_valueB wf hK (by omega) (by omega) hi, fun n a d A hn hm hi => E_blockB wf hK (by omega) (by omega) hi, fun n a d A hn hm hi => E_unaryB wf hK (by omega) (by omega) hi⟩
end
end Go.Sx.Tryz
