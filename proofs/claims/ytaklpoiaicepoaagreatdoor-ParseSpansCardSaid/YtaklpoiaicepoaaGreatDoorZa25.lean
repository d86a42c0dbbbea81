/- A part of the proof: see the row's text. -/
import Derived.Test.YtaklpoiaicepoaaGreatDoorZa24
import Derived.Test.YtaklpoiaicepoaaGreatDoorZa22
import Derived.Test.YtaklpoiaicepoaaGreatDoorZa16
import Derived.Test.YtaklpoiaicepoaaGreatDoorRows
import Derived.PinnedBridge
import Derived.Lib.LaidIn
import Derived.Lib.LaidSlice
import Derived.ProofKit
import Derived.SizedLaws
import Derived.Handed
import Derived.HandedShaped
import Derived.Shelf.Vars
set_option linter.unusedVariables false
set_option linter.unusedSimpArgs false
noncomputable section
namespace Go.Sx.Tryz
open Go Go.Sx
set_option maxRecDepth 100000
section
variable {T : List UInt8} {K : List Tok} {n m : Nat} {a d : Int} {A : List Nd}
theorem E_paramsL (wf : WF T K) (hn : 8 ≤ n) : ∀ (N : Nat) (a d : Int) (A : List Nd) (L : List Int), (K.length : Int) - a + 1 ≤ N → Inv K a d A → L.length ≤ 64 →
  EqH iL (QL K a d A 1) (lF92 (fns n) T K N a d A L) (cParamsL T K N L a d A)
 | 0, a, d, A, L, hN, hi, hL => by have := hi.a1; omega
 | N + 1, a, d, A, L, hN, hi, hL => by
  show EqH iL _ (sL92 (fns n) T K (lF92 (fns n) T K N) a d A L) _
  unfold sL92 cParamsL Pm.bind
  refine EqH.bind (E_take wf (n := n) (by omega) hi.a0 hi.a1) ?_
  rintro b _ _ _ ⟨hb, rfl, rfl⟩
  rcases hb with ⟨rfl, rfl, hlt⟩ | ⟨rfl, rfl⟩
  ·exact ⟨rfl, hL, ⟨hi.step hlt, by omega, rfl, [], by simp⟩⟩
  ·have hl1 : IntKind.wrap .i64 ((L.length : Int) + 1) = (L.length : Int) + 1 := wf_wrap wf (by omega) (by omega)
   have go : ∀ (a1 : Int), a ≤ a1 → a1 < K.length → EqH iL (QL K a d A 1) (((fns n).few T K a1 d A (IntKind.wrap .i64 ((L.length : Int) + 1), ())).bind fun _ a16 d16 A16 => ((fns n).next T K a16 d16 A16 ()).bind fun y20 a20 d20 A20 =>
      ((fns n).typed T K a20 d20 A20 (false, ())).bind fun y24 a24 d24 A24 => ((fns n).name T K a24 d24 A24 ()).bind fun y28 a28 d28 A28 =>
       ((fns n).add T K a28 d28 A28 (withK y24.1 7 (nKids y24.1) y28.1, tFrom y20.1, ())).bind fun y32 a32 d32 A32 => bif decide (L.length + [y32.1].length < maxRoom) then lF92 (fns n) T K N a32 d32 A32 (L ++ ([y32.1] : List Int)) else .bad)
     ((cFew K ((L.length : Int) + 1)).bind (fun _ => (cNext T K).bind fun t => (cTyped T K false).bind fun x => (cName T K).bind fun s => (cAdd K (withK x 7 (nKids x) s) (tFrom t.1)).bind fun y => cParamsL T K N (L ++ [y])) a1 d A) := fun a1 g0 g1 => by
    have hi1 : Inv K a1 d A := hi.at (by have := hi.a0; omega) g1
    have h10 := hi1.a0
    rw [hl1]
    unfold Pm.bind
    refine EqH.bind (E_few wf (n := n) (by omega) hi1.a0 hi1.a1) ?_
    rintro _ _ _ _ ⟨rfl, rfl, rfl, h64⟩
    refine EqH.bind (E_next wf (n := n) (by omega) hi1.a0 hi1.a1) ?_
    rintro _ _ _ _ ⟨rfl, rfl, rfl, rfl⟩
    refine EqH.bind (E_typed wf (n := n) (by omega) hi1.a0 hi1.a1 false) ?_
    rintro x a2 _ _ ⟨hx, ⟨f1, f2⟩, rfl, rfl⟩
    have hp2 : Post K a d A 1 a2 d A := ⟨hi.at (by omega) f2, by omega, rfl, [], by simp⟩
    refine EqH.bind (E_name wf (n := n) (by omega) hp2.inv.a0 hp2.inv.a1) ?_
    rintro s _ _ _ ⟨hs, rfl, hlt, rfl, rfl⟩
    refine EqH.bind (E_addQ wf (n := n) (by omega) (hp2.step hlt) (small_with hx.small (by rw [hx.kids]; simp))) ?_
    rintro y a4 d4 A4 ⟨hy, hp⟩
    have hle := hp.le
    show EqH iL _ (bif decide (L.length + [y].length < maxRoom) then _ else _) _
    rw [mr_small (by omega)]
    exact EqH.mono (E_paramsL wf hn N a4 d4 A4 (L ++ [y]) (by omega) hp.inv (by rw [List.length_append, List.length_singleton]; omega)) fun _ _ _ _ h => ⟨h.1, hp.trans h.2 (by omega)⟩
   show EqH iL _ (bif decide ((L.length : Int) > 0) then _ else _) (PR.bind ((bif decide ((L.length : Int) > 0) then (cWant T K [44]).bind fun _ => .ret () else .ret () : Pm Unit) a d A) _)
   cases decide ((L.length : Int) > 0) with
   | false => exact go a (Int.le_refl _) hi.a1
   | true =>
    show EqH iL _ (PR.bind ((fns n).want T K a d A ([44], ())) _) (PR.bind (PR.bind (cWant T K [44] a d A) _) _)
    have hw := E_want wf (n := n) (a := a) (d := d) (A := A) (s := [44]) (by omega) hi.a0 hi.a1
    cases e : cWant T K [44] a d A with
    | bad => rw [e] at hw; exact hw.elim
    | fault c p =>
     rw [e] at hw
     have hw : (fns n).want T K a d A ([44], ()) = .fault c p := hw
     rw [hw]
     exact EqH.flt
    | ok y a1 d1 A1 =>
     rw [e] at hw
     obtain ⟨e1, rfl, rfl, hlt, rfl, rfl⟩ := hw
     rw [e1]
     exact go (a + 1) (by omega) hlt
theorem E_params (wf : WF T K) (hn : 9 ≤ n) (hi : Inv K a d A) : EqH iL (QL K a d A 2) ((fns n).params T K a d A ()) (cParams T K a d A) := by
 obtain ⟨n, rfl, hn'⟩ := succ_of (k := 8) hn
 show EqH iL _ (sS92 (fns n) T K (lF92 (fns n) T K (K.length + 2)) a d A) _
 unfold sS92 cParams Pm.bind
 refine EqH.bind (E_want wf (n := n) (by omega) hi.a0 hi.a1) ?_
 rintro _ _ _ _ ⟨rfl, rfl, hlt, rfl, rfl⟩
 have := hi.a0
 exact EqH.mono (E_paramsL wf (by omega) (K.length + 2) (a + 1) d A [] (by omega) (hi.step hlt) (by simp)) fun y a' d' A' h => ⟨h.1, h.2.up (by omega)⟩
theorem E_member (wf : WF T K) (hK : KEq T K m) (hn : 40 * m + 12 ≤ n) (hm : 2 * ((K.length : Int) - a) + 1 ≤ m) (hi : Inv K a d A) : EqH iI (QI K a d A 1) ((fns n).member T K a d A ()) (cMember T K (kns T K m) a d A) := by
 obtain ⟨n, rfl, hn'⟩ := succ_of (k := 40 * m + 11) hn
 have h0 := hi.a0
 have app : ∀ {l : List Int} {x : Int}, l.length ≤ 64 → (l ++ [x]).length ≤ 20000 := fun {l x} h => by rw [List.length_append, List.length_singleton]; omega
 show EqH iI _ (sp76 (fns n) T K a d A) _
 unfold sp76 cMember Pm.bind
 refine EqH.bind (E_next wf (n := n) (by omega) hi.a0 hi.a1) ?_
 rintro _ _ _ _ ⟨rfl, rfl, rfl, rfl⟩
 have hT : EqH iI (QI K a d A 1) (((fns n).typed T K a d A (true, ())).bind fun y10 a10 d10 A10 => ((fns n).name T K a10 d10 A10 ()).bind fun y14 a14 d14 A14 => ((fns n).isS T K a14 d14 A14 ([40], ())).bind fun y18 a18 d18 A18 =>
   bif y18.1 then ((fns n).params T K a18 d18 A18 ()).bind fun y22 a22 d22 A22 => ((fns n).block T K a22 d22 A22 ()).bind fun y26 a26 d26 A26 => bif decide (y22.1.length + [y26.1].length < maxRoom) then
     ((fns n).add T K a26 d26 A26 (withK y10.1 6 ((y22.1 : List Int) ++ ([y26.1] : List Int)) y14.1, tFrom (tokAt K a), ())).bind fun y a d A => .ok (y.1, ()) a d A else .bad
   else bif nBase y10.1 == 6 then .fault 80 (tFrom (tokAt K a)) else ((fns n).want T K a18 d18 A18 ([59], ())).bind fun _ a22 d22 A22 => ((fns n).add T K a22 d22 A22 (withK y10.1 4 (nKids y10.1) y14.1, tFrom (tokAt K a), ())).bind fun y a d A => .ok (y.1, ()) a d A)
   ((cTyped T K true).bind (fun x => (cName T K).bind fun s => (cIs T K [40]).bind fun b => bif b then
   ((cParams T K).bind fun l => (kns T K m).blk.bind fun b => cAdd K (withK x 6 (l ++ [b]) s) (tFrom (tokAt K a)))
  else bif nBase x == 6 then .flt 80 (tFrom (tokAt K a)) else (cWant T K [59]).bind fun _ => cAdd K (withK x 4 (nKids x) s) (tFrom (tokAt K a))) a d A) := by
  unfold Pm.bind
  refine EqH.bind (E_typed wf (n := n) (by omega) hi.a0 hi.a1 true) ?_
  rintro x a1 _ _ ⟨hx, ⟨g1, g2⟩, rfl, rfl⟩
  have hp1 : Post K a d A 1 a1 d A := ⟨hi.at (by omega) g2, g1, rfl, [], by simp⟩
  refine EqH.bind (E_name wf (n := n) (by omega) hp1.inv.a0 hp1.inv.a1) ?_
  rintro s _ _ _ ⟨hs, rfl, hlt, rfl, rfl⟩
  have hp2 := hp1.step hlt
  refine EqH.bind (E_is wf (n := n) (by omega) hp2.inv.a0 hp2.inv.a1) ?_
  rintro b _ _ _ ⟨_, rfl, rfl, rfl⟩
  cases b with
  | true =>
   refine EqH.bind (E_params wf (n := n) (by omega) hp2.inv) ?_
   rintro l a3 d3 A3 ⟨hl, hp⟩
   have hp3 := hp2.trans hp (c := 1) (by omega)
   have hle := hp.le
   refine EqH.bind (hK.blk n _ _ _ (by omega) (by omega) hp3.inv) ?_
   rintro y a4 d4 A4 ⟨hy, hp4⟩
   have hp5 := hp3.trans hp4 (c := 1) (by omega)
   show EqH iI _ (bif decide (l.length + [y].length < maxRoom) then _ else _) _
   rw [mr_small (by omega)]
   exact E_addT wf (by omega) hp5 (small_with hx.small (app hl))
  | false =>
   show EqH iI _ (bif nBase x == 6 then _ else _) ((bif nBase x == 6 then _ else _ : Pm Int) (a1 + 1) d A)
   cases nBase x == 6 with
   | true => exact EqH.flt
   | false =>
    refine EqH.bind (E_want wf (n := n) (by omega) hp2.inv.a0 hp2.inv.a1) ?_
    rintro _ _ _ _ ⟨rfl, rfl, hlt5, rfl, rfl⟩
    exact E_addT wf (by omega) ((hp2.step hlt5).up (by omega)) (small_with hx.small (by rw [hx.kids]; simp))
 show EqH iI _ (bif tKind (tokAt K a) == 1 then bif say T (tokAt K a) == [105, 110, 105, 116] then _ else _ else _) ((bif tKind (tokAt K a) == 1 && say T (tokAt K a) == [105, 110, 105, 116] then _ else _ : Pm Int) a d A)
 cases h1 : tKind (tokAt K a) == 1 with
 | false => exact hT
 | true =>
  have hk : tKind (tokAt K a) ≠ 0 := fun e => by rw [e] at h1; exact absurd h1 (by decide)
  have hlt := next_lt wf hi.a0 hi.a1 hk
  cases say T (tokAt K a) == [105, 110, 105, 116] with
  | false => exact hT
  | true =>
   have hp1 : Post K a d A 1 (a + 1) d A := (Post.refl hi).step hlt
   refine EqH.bind (E_skip wf (n := n) (by omega) hi.a0 hi.a1 hk) ?_
   rintro _ _ _ _ ⟨rfl, rfl, rfl, rfl⟩
   refine EqH.bind (E_params wf (n := n) (by omega) hp1.inv) ?_
   rintro l a3 d3 A3 ⟨hl, hp⟩
   have hp3 := hp1.trans hp (c := 1) (by omega)
   have hle := hp.le
   refine EqH.bind (hK.blk n _ _ _ (by omega) (by omega) hp3.inv) ?_
   rintro y a4 d4 A4 ⟨hy, hp4⟩
   have hp5 := hp3.trans hp4 (c := 1) (by omega)
   show EqH iI _ (bif decide (l.length + [y].length < maxRoom) then _ else _) _
   rw [mr_small (by omega)]
   exact E_addT wf (by omega) hp5 (small_nod (app hl))
theorem E_classL (wf : WF T K) (hK : KEq T K m) (hn : 40 * m + 12 ≤ n) (k f t : Int) (s : Str) : ∀ (N : Nat) (a d : Int) (A : List Nd) (L : List Int), (K.length : Int) - a + 1 ≤ N → 2 * ((K.length : Int) - a) + 1 ≤ m → Inv K a d A → L.length ≤ 65 →
  EqH iI (QI K a d A 1) (lF47 (fns n) T K N a d A k f t s L) (cClassL T K (kns T K m) f s N L a d A)
 | 0, a, d, A, L, hN, hm, hi, hL => by have := hi.a1; omega
 | N + 1, a, d, A, L, hN, hm, hi, hL => by
  show EqH iI _ (sL47 (fns n) T K (lF47 (fns n) T K N) a d A k f t s L) _
  unfold sL47 cClassL Pm.bind
  refine EqH.bind (E_is wf (n := n) (by omega) hi.a0 hi.a1) ?_
  rintro b _ _ _ ⟨_, rfl, rfl, rfl⟩
  cases b with
  | true =>
   refine EqH.bind (E_want wf (n := n) (by omega) hi.a0 hi.a1) ?_
   rintro _ _ _ _ ⟨rfl, rfl, hlt, rfl, rfl⟩
   exact E_addT wf (by omega) ((Post.refl hi).step hlt) (small_nod (by omega))
  | false =>
   have hl1 : IntKind.wrap .i64 ((L.length : Int) + 1) = (L.length : Int) + 1 := wf_wrap wf (by omega) (by omega)
   show EqH iI _ (PR.bind ((fns n).few T K a d A (IntKind.wrap .i64 ((L.length : Int) + 1), ())) _) _
   rw [hl1]
   refine EqH.bind (E_few wf (n := n) (by omega) hi.a0 hi.a1) ?_
   rintro _ _ _ _ ⟨rfl, rfl, rfl, h64⟩
   refine EqH.bind (E_member wf hK (n := n) (by omega) hm hi) ?_
   rintro x a2 d2 A2 ⟨hx, hp⟩
   have hle := hp.le
   show EqH iI _ (bif decide (L.length + [x].length < maxRoom) then _ else _) _
   rw [mr_small (by omega)]
   exact EqH.mono (E_classL wf hK hn k f t s N a2 d2 A2 (L ++ [x]) (by omega) (by omega) hp.inv (by rw [List.length_append, List.length_singleton]; omega)) fun _ _ _ _ h => ⟨h.1, hp.trans h.2 (by omega)⟩
theorem E_class (wf : WF T K) (hK : KEq T K m) (hn : 40 * m + 14 ≤ n) (hm : 2 * ((K.length : Int) - a) + 1 ≤ m) (hi : Inv K a d A) : EqH iI (QI K a d A 1) ((fns n).klass T K a d A ()) (cClass T K (kns T K m) a d A) := by
 obtain ⟨n, rfl, hn'⟩ := succ_of (k := 40 * m + 13) hn
 have h0 := hi.a0
 show EqH iI _ (sS47 (fns n) T K (lF47 (fns n) T K (K.length + 2)) a d A) _
 unfold sS47 cClass Pm.bind
 refine EqH.bind (E_next wf (n := n) (by omega) hi.a0 hi.a1) ?_
 rintro _ _ _ _ ⟨rfl, rfl, rfl, rfl⟩
 refine EqH.bind (E_want wf (n := n) (by omega) hi.a0 hi.a1) ?_
 rintro _ _ _ _ ⟨rfl, rfl, hlt, rfl, rfl⟩
 have hp1 : Post K a d A 1 (a + 1) d A := (Post.refl hi).step hlt
 refine EqH.bind (E_name wf (n := n) (by omega) hp1.inv.a0 hp1.inv.a1) ?_
 rintro s _ _ _ ⟨hs, rfl, hlt2, rfl, rfl⟩
 have hp2 := hp1.step hlt2
 refine EqH.bind (E_next wf (n := n) (by omega) hp2.inv.a0 hp2.inv.a1) ?_
 rintro _ _ _ _ ⟨rfl, rfl, rfl, rfl⟩
 refine EqH.bind (E_take wf (n := n) (by omega) hp2.inv.a0 hp2.inv.a1) ?_
 rintro b _ _ _ ⟨hb, rfl, rfl⟩
 rcases hb with ⟨rfl, rfl, hlt3⟩ | ⟨rfl, rfl⟩
 ·have hp3 := hp2.step hlt3
  refine EqH.bind (E_name wf (n := n) (by omega) hp3.inv.a0 hp3.inv.a1) ?_
  rintro e _ _ _ ⟨he, rfl, hlt4, rfl, rfl⟩
  refine EqH.bind (E_addQ wf (n := n) (by omega) (hp3.step hlt4) (small_nod (by simp))) ?_
  rintro y a5 d5 A5 ⟨hy, hp5⟩
  refine EqH.bind (E_want wf (n := n) (by omega) hp5.inv.a0 hp5.inv.a1) ?_
  rintro _ _ _ _ ⟨rfl, rfl, hlt6, rfl, rfl⟩
  have hp6 := hp5.step hlt6
  have hle := hp6.le
  exact EqH.mono (E_classL wf hK (n := n) (by omega) _ _ _ s (K.length + 2) (a5 + 1) d5 A5 [y] (by omega) (by omega) hp6.inv (by simp)) fun _ _ _ _ h => ⟨h.1, hp6.trans h.2 (by omega)⟩
 ·refine EqH.bind (E_want wf (n := n) (by omega) hp2.inv.a0 hp2.inv.a1) ?_
  rintro _ _ _ _ ⟨rfl, rfl, hlt6, rfl, rfl⟩
  have hp6 := hp2.step hlt6
  have hle := hp6.le
  exact EqH.mono (E_classL wf hK (n := n) (by omega) _ _ _ s (K.length + 2) (a + 1 + 1 + 1) d A [] (by omega) (by omega) hp6.inv (by simp)) fun _ _ _ _ h => ⟨h.1, hp6.trans h.2 (by omega)⟩
theorem E_programL (wf : WF T K) (hK : KEq T K m) (hn : 40 * m + 14 ≤ n) : ∀ (N : Nat) (a d : Int) (A : List Nd) (L : List Int), (K.length : Int) - a + 1 ≤ N → 2 * ((K.length : Int) - a) + 1 ≤ m → Inv K a d A → L.length ≤ 64 →
  EqH iU (fun _ a' d' A' => Post K a d A 0 a' d' A') (lF26 (fns n) T K N a d A L) (cProgramL T K (kns T K m) N L a d A)
 | 0, a, d, A, L, hN, hm, hi, hL => by have := hi.a1; omega
 | N + 1, a, d, A, L, hN, hm, hi, hL => by
  show EqH iU _ (sL26 (fns n) T K (lF26 (fns n) T K N) a d A L) _
  unfold sL26 cProgramL Pm.bind
  refine EqH.bind (E_next wf (n := n) (by omega) hi.a0 hi.a1) ?_
  rintro _ _ _ _ ⟨rfl, rfl, rfl, rfl⟩
  show EqH iU _ (bif tKind (tokAt K a) == 0 then _ else _) ((bif tKind (tokAt K a) == 0 then _ else _ : Pm Unit) a d A)
  cases tKind (tokAt K a) == 0 with
  | true =>
   refine EqH.bind (E_add wf (n := n) (by omega) hi (small_nod (by omega))) ?_
   rintro y a2 d2 A2 h
   exact ⟨rfl, h.2.2.1⟩
  | false =>
   have hl1 : IntKind.wrap .i64 ((L.length : Int) + 1) = (L.length : Int) + 1 := wf_wrap wf (by omega) (by omega)
   show EqH iU _ (PR.bind ((fns n).few T K a d A (IntKind.wrap .i64 ((L.length : Int) + 1), ())) _) _
   rw [hl1]
   refine EqH.bind (E_few wf (n := n) (by omega) hi.a0 hi.a1) ?_
   rintro _ _ _ _ ⟨rfl, rfl, rfl, h64⟩
   refine EqH.bind (E_class wf hK (n := n) (by omega) hm hi) ?_
   rintro x a2 d2 A2 ⟨hx, hp⟩
   have hle := hp.le
   show EqH iU _ (bif decide (L.length + [x].length < maxRoom) then _ else _) _
   rw [mr_small (by omega)]
   exact EqH.mono (E_programL wf hK hn N a2 d2 A2 (L ++ [x]) (by omega) (by omega) hp.inv (by rw [List.length_append, List.length_singleton]; omega)) fun _ _ _ _ h => hp.trans h (by omega)
theorem E_program (wf : WF T K) (hn : 40 * m + 14 ≤ n) (hm : 2 * K.length + 1 ≤ m) : EqH iU (fun _ a' d' A' => Post K 0 0 [] 0 a' d' A') (sp26 (fns n) T K 0 0 []) (cProgram T K (kns T K m) 0 0 []) := by
 show EqH iU _ (sS26 (fns n) T K (lF26 (fns n) T K (K.length + 2)) 0 0 []) _
 unfold sS26 cProgram
 have hp := wf.pos
 exact E_programL wf (kEq wf m) hn (K.length + 2) 0 0 [] [] (by omega) (by omega) ⟨by omega, by omega, by omega, by omega, by simp, fun x hx => by cases hx⟩ (by simp)
end
end Go.Sx.Tryz
namespace Go.Sx.Tryz
open Go Go.Sx Go.Proofs
open Go.RowKit
set_option maxRecDepth 100000
variable {G : Nat → Obj → Prop}
def lexC (T : List UInt8) : Int := (lexX (T, ())).2.1.1
def lexA (T : List UInt8) : Int := (lexX (T, ())).2.1.2.1
def lexK (T : List UInt8) : List Tok := (lexX (T, ())).1
def parseX (n : Nat) (T : List UInt8) : Dens rsP :=
 bif lexC T != 0 then ((([] : List Nd), (0 : Int), ()), (lexC T, lexA T, ()), ())
 else match sp26 (fns n) T (lexK T) 0 0 [] with
  | .ok _ _ _ A => ((A, IntKind.wrap .i64 ((A.length : Int) - 1), ()), ((0 : Int), (0 : Int), ()), ())
  | .fault c p => ((([] : List Nd), (0 : Int), ()), (c, p, ()), ())
  | .bad => ((([] : List Nd), (0 : Int), ()), ((0 : Int), (0 : Int), ()), ())
def parseOK (n : Nat) (T : List UInt8) : Bool := match sp26 (fns n) T (lexK T) 0 0 [] with
  | .ok _ _ _ A => okClone ((A, (0 : Int), ()), ())
  | .fault _ _ => true
  | .bad => false
theorem start10' (J : Jump R0) (T : List UInt8) : start (R := R0) E (tabI lib10) fi10 cut10 J [.str T] [] .ok =
  bif lexC T != 0 then .ok (.ret (.tup [.agg [.nils, .int .i64 0], .agg [.int .i64 (lexC T), .int .i64 (lexA T)]]), [])
  else J 0 (mk10' T (lexK T) (lexC T) (lexA T)) := start10 J T
theorem lib10_ok (ht : Tabs G) : IChk Tryz.prog G lib10 := .cons (specI_ok fun x _ => lexD_SA ht x) .nil
theorem place10 (Q : Go.Sx.Post) : place Tryz.prog [true, true, true, true] fi10.code Q = some (c31, Q) := rfl
theorem code10 : codeOk 28 fi10.code = true := by kernel_rfl
theorem parse_SA (ht : Tabs G) (hf : FltOK G) (n : Nat) (T : List UInt8) (hok : lexC T = 0 → parseOK n T = true) : SAD Tryz.prog G 10 sigS rsP (T, ()) (parseX n T) := by
 by_cases hlx : lexC T = 0
 ·have hpo := hok hlx
  intro D vals hG hm hs hv
  refine .inl ⟨fi_enter fc10 _ _, calls_of_wp_defers Tryz.func10 rfl ?_⟩
  classical
  let J : Jump R0 := fun j st => if j = 0 ∧ st = mk10' T (lexK T) (lexC T) (lexA T) then Rs.ok (.ret (retC rsP (parseX n T)), []) else .err 0
  have hst : start (R := R0) E (tabI lib10) fi10 cut10 J [.str T] [] .ok = .ok (.ret (retC rsP (parseX n T)), []) := by
   rw [start10', show (lexC T != 0) = false by simp [hlx]]
   exact if_pos ⟨rfl, rfl⟩
  have hev : ev E (tabI lib10) (cutsOf 0 cut10 0) J fi10.code 1 { tmps := argTmps 0 [.str T], blks := withIds 0 [], next := 0 } (finK E 0 fi10.results .ok) = .ok (.ret (retC rsP (parseX n T)), []) := hst
  have hfin := finK_ok (N := 28) (envOK []) hm (fn := Tryz.f10) (rs := fi10.results) rfl (k := Rs.ok) (r := (.ret (retC rsP (parseX n T)), []))
  have hKS : KS D 28 [] (finK E 0 fi10.results Rs.ok) (.ret (retC rsP (parseX n T)), []) (bodyPostD Tryz.prog Tryz.f10 (PostOf D (.ret (retC rsP (parseX n T)), []))) := {
   normal := fun st C a h hr hX => by
    obtain ⟨h1, v, h2, o', h3, h4⟩ := hfin.normal st C a h hr hX
    cases h3
    show Leaves _ _ _ _ a.defers .returning C.w
    rw [h1]
    exact ⟨v, h2, h4⟩
   exit := fun id st C a h hr hX => (hfin.exit id st C a h hr hX).elim
   ret := fun st C a h hr hX => by
    obtain ⟨h1, v, h2, o', h3, h4⟩ := hfin.ret st C a h hr hX
    cases h3
    show Leaves _ _ _ _ a.defers .returning C.w
    rw [h1]
    exact ⟨v, h2, h4⟩
   panic := fun v st a w ch h hp hd => by
    obtain ⟨h1, o', h3, h4⟩ := hfin.panic v st a w ch h hp hd
    cases h3
    show Leaves _ _ _ _ a.defers (.panicking ch) w
    rw [h1]
    exact h4 }
  have hlen : vals.length = 1 := hv.len.symm
  have hSt : StR D { tmps := vals.toArray ++ Array.replicate (28 - vals.toArray.size) undef, defers := [] } { tmps := argTmps 0 [.str T], blks := withIds 0 [], next := 0 } 28 [] := ⟨⟨hm, hs, enter_rel hv _⟩, fun k _ => rfl, by simp [hlen], rfl⟩
  have hCS : CS Tryz.prog (XJ Tryz.prog D 28 [] (cutsOf 0 cut10 0) J (.ret (retC rsP (parseX n T)), [])) fi10.code 1 (bodyPostD Tryz.prog Tryz.f10 (PostOf D (.ret (retC rsP (parseX n T)), []))) := by
   refine CS_of _ _ _ ?_
   intro d r c' Q' hp j f hc st C a hJ hr hX
   obtain ⟨c, _, hcn, hcp, _⟩ := cutsOf_get hc
   have hj0 : j = 0 := by
    have : J j st = .ok (.ret (retC rsP (parseX n T)), []) := hJ
    simp only [J] at this
    split at this
    ·rename_i h; exact h.1
    ·cases this
   subst hj0
   have hst : st = mk10' T (lexK T) (lexC T) (lexA T) := by
    have : J 0 st = .ok (.ret (retC rsP (parseX n T)), []) := hJ
    simp only [J] at this
    split at this
    ·rename_i h; exact h.2
    ·cases this
   subst hst
   cases hcn
   have hpath := num_inj _ [true, true, true, true] (d :: r) (Nat.le_refl _) hcp
   rw [← hpath, place10] at hp
   cases hp
   refine parse_tail ht hf n hG hm hs hr hX ?_
   have hb : (lexC T != 0) = false := by simp [hlx]
   unfold parseOK at hpo
   cases e : sp26 (fns n) T (lexK T) 0 0 [] with
   | ok z a' d' A' =>
    rw [e] at hpo
    refine .inr ⟨z, a', d', A', rfl, hpo, ?_⟩
    unfold parseX
    rw [hb, e]
    rfl
   | fault c p =>
    refine .inl ⟨c, p, rfl, ?_⟩
    unfold parseX
    rw [hb, e]
    rfl
   | bad =>
    rw [e] at hpo
    cases hpo
  exact ev_sound (envOK []) (tabI_ok (lib10_ok ht)) hG (turns_ok (bs := []) hm (.inl gen0_nil)) fi10.code 1 _ _ _ D _ code10 hCS hKS hev hSt (Ext.refl D)
 ·have h1 : start (R := R0) E (tabI lib10) fi10 cut10 noJump [.str T] [] .ok = .ok (.ret (.tup [.agg [.nils, .int .i64 0], .agg [.int .i64 (lexC T), .int .i64 (lexA T)]]), []) := by
   rw [start10', show (lexC T != 0) = true by simp [hlx]]
   rfl
  have h2 := start_ok (envOK []) (tabI_ok (lib10_ok ht)) fc10 (.inl gen0_nil) (n := 0) h1
  refine SA.data (rs := rsP) h2 (y := parseX n T) (m := []) ?_
  unfold parseX
  rw [show (lexC T != 0) = true by simp [hlx]]
  rfl
end Go.Sx.Tryz
namespace Go.Sx.Tryz
open Go Go.Sx
set_option maxRecDepth 100000
theorem oneS_kind {s : List UInt8} (h : (oneS s).2.1 = 0) : (oneS s).1 ≠ 0 := by
 unfold oneS at h ⊢
 cases hL : isLet (at8 s 0)
 ·rw [hL] at h
  simp only [cond_false] at h ⊢
  cases hD : isDig (at8 s 0)
  ·rw [hD] at h
   simp only [cond_false] at h ⊢
   cases hQ : at8 s 0 == 34
   ·simp
   ·rw [hQ] at h
    simp only [cond_true] at h ⊢
    cases hc : ((quoS s).2 == 0 && decide (((quoS s).1 : Int) > 256)) <;> simp
  ·rw [hD] at h
   simp only [cond_true] at h ⊢
   cases hc : (decide (((run8 isDig s : Nat) : Int) + 1 < s.length) && (at8 s (run8 isDig s) == 46 && isDig (at8 s (run8 isDig s + 1))))
   ·rw [hc] at h
    simp only [cond_false] at h ⊢
    cases hd : decide (((run8 isDig s : Nat) : Int) > 20)
    ·simp
    ·rw [hd] at h; simp at h
   ·rw [hc] at h
    simp only [cond_true] at h ⊢
    cases hd : decide (((run8 isDig s + 1 + run8 isDig (s.drop (run8 isDig s + 1)) : Nat) : Int) > 20)
    ·simp
    ·rw [hd] at h; simp at h
 ·rw [hL] at h
  simp only [cond_true] at h ⊢
  cases hd : decide (((run8 isWrd s : Nat) : Int) > 64)
  ·simp
  ·rw [hd] at h; simp at h
theorem lexF_ok (T : List UInt8) : ∀ (n : Nat) (a : Int) (k : Nat), 0 ≤ a → a ≤ T.length → (T.length : Int) - a < n → k ≤ 16384 → (lexF n T a k).1 = 0 →
  ∃ L, (lexF n T a k).2.2 = L ++ [tkn 0 T.length T.length] ∧ L.length + k ≤ 16384 ∧ ∀ t ∈ L, (0 ≤ tFrom t ∧ a ≤ tFrom t) ∧ tFrom t < tTo t ∧ tTo t ≤ T.length ∧ tKind t ≠ 0
 | 0, a, k, h0, h1, hn, hk, h => by omega
 | n + 1, a, k, h0, h1, hn, hk, h => by
  unfold lexF at h ⊢
  cases hlt : decide (a < (T.length : Int)) with
  | false => exact ⟨[], rfl, by simpa using hk, by simp⟩
  | true =>
   rw [hlt] at h
   have hlt := of_decide_eq_true hlt
   simp only [cond_true] at h ⊢
   cases h16 : decide ((k : Int) ≥ 16384) with
   | true => rw [h16] at h; simp at h
   | false =>
    rw [h16] at h
    have h16 := of_decide_eq_false h16
    simp only [cond_false] at h ⊢
    cases he : oneE T a != 0 with
    | true =>
     rw [he] at h
     simp only [cond_true] at h
     rw [h] at he
     exact absurd he (by decide)
    | false =>
     rw [he] at h
     simp only [cond_false] at h ⊢
     have he0 : oneE T a = 0 := by simpa [bne] using he
     obtain ⟨o1, o2⟩ := oneI_le h0 hlt
     have o3 := o2 he0
     obtain ⟨g1, g2⟩ := gapI_le (T := T) (a := oneI' T a) (by omega) o1
     obtain ⟨L, e1, e2, e3⟩ := lexF_ok T n (gapI T (oneI' T a)) (k + 1) (by omega) g2 (by omega) (by omega) h
     refine ⟨tkn (oneK T a) a (oneI' T a) :: L, by rw [e1]; rfl, by simp only [List.length_cons]; omega, fun t ht => ?_⟩
     rcases List.mem_cons.1 ht with rfl | ht
     ·exact ⟨⟨h0, Int.le_refl _⟩, o3, o1, oneS_kind he0⟩
     ·obtain ⟨f1, f2⟩ := e3 t ht
      exact ⟨⟨f1.1, by omega⟩, f2⟩
theorem lexC_eq (T : List UInt8) : lexC T = (lexS T).1 := by
 unfold lexC lexX
 cases h : (lexS T).1 == 0 with
 | true =>
  have : (lexS T).1 = 0 := by simpa using h
  rw [this]
  rfl
 | false => rfl
theorem lexK_eq {T : List UInt8} (h : lexC T = 0) : lexK T = (lexS T).2.2 := by
 rw [lexC_eq] at h
 unfold lexK lexX
 rw [h]
 rfl
theorem lex_toks {T : List UInt8} (h : lexC T = 0) : T.length ≤ 65536 ∧ ∃ L, lexK T = L ++ [tkn 0 T.length T.length] ∧ L.length ≤ 16384 ∧ ∀ t ∈ L, 0 ≤ tFrom t ∧ tFrom t < tTo t ∧ tTo t ≤ T.length ∧ tKind t ≠ 0 := by
 rw [lexK_eq h]
 rw [lexC_eq] at h
 unfold lexS at h ⊢
 cases h6 : decide ((T.length : Int) > 65536) with
 | true => rw [h6] at h; simp at h
 | false =>
  rw [h6] at h
  have h6 := of_decide_eq_false h6
  obtain ⟨g1, g2⟩ := gapI_le (T := T) (a := 0) (by omega) (by omega)
  obtain ⟨L, e1, e2, e3⟩ := lexF_ok T (T.length + 1) (gapI T 0) 0 (by omega) g2 (by omega) (by omega) h
  exact ⟨by omega, L, e1, by omega, fun t ht => ⟨(e3 t ht).1.1, (e3 t ht).2⟩⟩
theorem tokAt_mem {K : List Tok} {a : Int} (h0 : 0 ≤ a) (h1 : a < K.length) : tokAt K a ∈ K := by
 have : a.toNat < K.length := by omega
 unfold tokAt
 rw [List.getD_eq_getElem?_getD, List.getElem?_eq_getElem this]
 exact List.getElem_mem _
theorem tokAt_left {L R : List Tok} {a : Int} (h0 : 0 ≤ a) (h1 : a < L.length) : tokAt (L ++ R) a = tokAt L a := by
 unfold tokAt
 have : a.toNat < L.length := by omega
 rw [List.getD_eq_getElem?_getD, List.getD_eq_getElem?_getD, List.getElem?_append_left this]
theorem tokAt_last {L : List Tok} {t : Tok} : tokAt (L ++ [t]) L.length = t := by
 unfold tokAt
 simp [List.getD_eq_getElem?_getD]
theorem wf_of {T : List UInt8} {L : List Tok} (hT : T.length ≤ 65536) (hL : L.length ≤ 16384) (h : ∀ t ∈ L, 0 ≤ tFrom t ∧ tFrom t < tTo t ∧ tTo t ≤ T.length ∧ tKind t ≠ 0) : WF T (L ++ [tkn 0 T.length T.length]) := by
 have hlen : (L ++ [tkn 0 T.length T.length]).length = L.length + 1 := by simp
 have hcase : ∀ a : Int, 0 ≤ a → a < (L ++ [tkn 0 T.length T.length]).length → (a < L.length ∧ tokAt (L ++ [tkn 0 T.length T.length]) a ∈ L) ∨ (a = L.length ∧ tokAt (L ++ [tkn 0 T.length T.length]) a = tkn 0 T.length T.length) := fun a h0 h1 => by
  by_cases hl : a < L.length
  ·exact .inl ⟨hl, by rw [tokAt_left h0 hl]; exact tokAt_mem h0 hl⟩
  ·have e : a = L.length := by omega
   exact .inr ⟨e, by rw [e]; exact tokAt_last⟩
 exact {
  len := hT
  pos := by omega
  most := by omega
  span := fun a h0 h1 => by
   rcases hcase a h0 h1 with ⟨_, hm⟩ | ⟨_, e⟩
   ·obtain ⟨f1, f2, f3, _⟩ := h _ hm
    exact ⟨f1, by omega, f3⟩
   ·rw [e]
    show (0 : Int) ≤ T.length ∧ (T.length : Int) ≤ T.length ∧ (T.length : Int) ≤ T.length
    omega
  last := fun a h0 h1 => by
   rcases hcase a h0 h1 with ⟨hl, hm⟩ | ⟨e1, e⟩
   ·have := (h _ hm).2.2.2
    exact ⟨fun hk => absurd hk this, fun hk => by omega⟩
   ·rw [e]
    exact ⟨fun _ => by omega, fun _ => rfl⟩
  fin := fun a h0 h1 hk => by
   rcases hcase a h0 h1 with ⟨hl, hm⟩ | ⟨e1, e⟩
   ·exact absurd hk (h _ hm).2.2.2
   ·rw [e]
    show List.drop (Int.toNat (T.length : Int)) (List.take (Int.toNat (T.length : Int)) T) = []
    simp }
theorem lex_wf {T : List UInt8} (h : lexC T = 0) : WF T (lexK T) := by
 obtain ⟨h1, L, e, h2, h3⟩ := lex_toks h
 rw [e]
 exact wf_of h1 h2 h3
def deepK : Nat := 40000
def deepN : Nat := 1700000
def parseP (T : List UInt8) : PR Unit := cProgram T (lexK T) (kns T (lexK T) deepK) 0 0 []
theorem parse_all {T : List UInt8} (h : lexC T = 0) : EqH iU (fun _ a' d' A' => Post (lexK T) 0 0 [] 0 a' d' A') (sp26 (fns deepN) T (lexK T) 0 0 []) (parseP T) := by
 have wf := lex_wf h
 have := wf.most
 exact E_program wf (by unfold deepK deepN; omega) (by unfold deepK; omega)
def parseS (T : List UInt8) : Dens rsP :=
 bif lexC T != 0 then ((([] : List Nd), (0 : Int), ()), (lexC T, lexA T, ()), ())
 else match parseP T with
  | .ok _ _ _ A => ((A, (A.length : Int) - 1, ()), ((0 : Int), (0 : Int), ()), ())
  | .fault c p => ((([] : List Nd), (0 : Int), ()), (c, p, ()), ())
  | .bad => ((([] : List Nd), (0 : Int), ()), ((0 : Int), (0 : Int), ()), ())
theorem parseS_SA {G : Nat → Obj → Prop} (ht : Tabs G) (hf : FltOK G) (T : List UInt8) : SAD Go.Proofs.Tryz.prog G 10 sigS rsP (T, ()) (parseS T) := by
 have key : parseX deepN T = parseS T ∧ (lexC T = 0 → parseOK deepN T = true) := by
  unfold parseX parseS parseOK
  cases hc : lexC T != 0 with
  | true => exact ⟨rfl, fun h => by rw [h] at hc; exact absurd hc (by decide)⟩
  | false =>
   have h : lexC T = 0 := by simpa [bne] using hc
   have hE := parse_all h
   cases e : parseP T with
   | ok y a d A =>
    rw [e] at hE
    obtain ⟨h1, h2⟩ := hE
    rw [h1]
    have hl := h2.inv.len
    refine ⟨?_, fun _ => ?_⟩
    ·have hw : IntKind.wrap .i64 ((A.length : Int) - 1) = (A.length : Int) - 1 := wrap64 (by omega) (by omega)
     show ((A, IntKind.wrap .i64 ((A.length : Int) - 1), ()), ((0 : Int), (0 : Int), ()), ()) = ((A, (A.length : Int) - 1, ()), ((0 : Int), (0 : Int), ()), ())
     rw [hw]
    ·show (decide (A.length ≤ 20000) && A.all cloneN) = true
     rw [Bool.and_eq_true]
     refine ⟨decide_eq_true (by omega), List.all_eq_true.2 fun x hx => ?_⟩
     obtain ⟨n1, n2⟩ := h2.inv.nd x hx
     unfold cloneN
     rw [Bool.and_eq_true]
     exact ⟨decide_eq_true (by omega), decide_eq_true (by omega)⟩
   | fault c p =>
    rw [e] at hE
    have hE : sp26 (fns deepN) T (lexK T) 0 0 [] = .fault c p := hE
    rw [hE]
    exact ⟨rfl, fun _ => rfl⟩
   | bad =>
    rw [e] at hE
    exact hE.elim
 rw [← key.1]
 exact parse_SA ht hf deepN T key.2
end Go.Sx.Tryz
namespace Go.Sx.Tryz
open Go Go.Sx Go.Proofs
set_option maxRecDepth 100000
structure TabsW (w : World) : Prop where
 t : TabsAt w
 f : FltAt w
 pt : Lib.PrintTabsAt 4 5 6 7 Lib.goPrintTabs w
 u8 : Lib.Utf8Tabs 1 2 w
 p10 : Lib.TabIs Tryz.prog w "internal/strconv.uint64pow10" .u64 Lib.pow10Tab
theorem cell_old {w0 w : World} (h : ∀ (k : Nat) (o : Obj), w0.heap[k]? = some o → w.heap[k]? = some o) {a : Addr} {v : Value} (hc : w0.cell? a = some v) : w.cell? a = some v := by
 have key : ∀ o, w0.heap[a.block]? = some o → w.heap[a.block]? = w0.heap[a.block]? := fun o ho => by rw [h _ _ ho, ho]
 cases ho : w0.heap[a.block]? with
 | none => simp [World.cell?, ho] at hc
 | some o => rw [World.cell?_of_block (key o ho)]; exact hc
theorem TabsW.old {w0 w : World} (h : ∀ (k : Nat) (o : Obj), w0.heap[k]? = some o → w.heap[k]? = some o) (t : TabsW w0) : TabsW w where
 t := ⟨let ⟨m, hm⟩ := t.t.mx; ⟨m, cell_old h hm⟩, let ⟨v, hv, hk⟩ := t.t.er; ⟨v, cell_old h hv, hk⟩⟩
 f := ⟨cell_old h t.f.opt, cell_old h t.f.mb, let ⟨a, n, c, h1, h2, h3⟩ := t.f.pw; ⟨a, n, c, cell_old h h1, h2, fun i hi => cell_old h (h3 i hi)⟩⟩
 pt := by
  obtain ⟨⟨R1, o1, c1, a1, b1⟩, ⟨R2, o2, c2, a2, b2⟩, ⟨R3, o3, c3, a3, b3⟩, ⟨R4, o4, c4, a4, b4⟩, r⟩ := t.pt
  exact ⟨⟨R1, o1, c1, cell_old h a1, fun j hj => cell_old h (b1 j hj)⟩, ⟨R2, o2, c2, cell_old h a2, fun j hj => cell_old h (b2 j hj)⟩, ⟨R3, o3, c3, cell_old h a3, fun j hj => cell_old h (b3 j hj)⟩, ⟨R4, o4, c4, cell_old h a4, fun j hj => cell_old h (b4 j hj)⟩, r⟩
 u8 := ⟨fun c hc => cell_old h (t.u8.1 c hc), fun i hi => ⟨cell_old h (t.u8.2 i hi).1, cell_old h (t.u8.2 i hi).2⟩⟩
 p10 := by
  have := t.p10
  unfold Lib.TabIs World.var? at this ⊢
  cases hg : Tryz.prog.globalNamed "internal/strconv.uint64pow10" with
  | none => rw [hg] at this; cases this
  | some g =>
   rw [hg] at this
   simp only [Option.bind_some] at this ⊢
   cases ho : w0.heap[g]? with
   | none => rw [ho] at this; cases this
   | some o => rw [ho] at this; rw [h _ _ ho]; exact this
theorem TabsW.at {w0 : World} (t : TabsW w0) {D : Ctx} (hG : D.gl = GW w0) (hs : SRel D) : TabsW D.w :=
 t.old fun k o hk => (hs.gl k o (by rw [hG]; exact hk)).1
theorem TabsW.tabs {w0 : World} (t : TabsW w0) : Tabs (GW w0) := fun _ hG hs => (t.at hG hs).t
theorem TabsW.flt {w0 : World} (t : TabsW w0) : FltOK (GW w0) := flt_SA fun _ hG hs => (t.at hG hs).f
theorem grow_below (w : World) (k : Nat) (os : Array Obj) : RowKit.Below w.heap.size w (Sort.grow (w.drewN k) os) := by
 have h1 : RowKit.Below w.heap.size w (w.drewN k) := by
  refine ⟨rfl, rfl, rfl, Nat.le_refl _, fun _ _ => rfl⟩
 refine h1.trans ⟨rfl, rfl, rfl, by simp [Sort.grow], fun j hj => ?_⟩
 show (_ ++ os)[j]? = _
 rw [Array.getElem?_append_left]
 exact Nat.lt_of_lt_of_le hj h1.size
theorem fc52 : FIOK Tryz.prog 52 fi52 := ⟨⟨Tryz.f52, Tryz.func52, rfl, rfl, rfl, by kernel_rfl⟩, by kernel_rfl⟩
theorem fc54 : FIOK Tryz.prog 54 fi54 := ⟨⟨Tryz.f54, Tryz.func54, rfl, rfl, rfl, by kernel_rfl⟩, by kernel_rfl⟩
theorem quo_ok {w0 : World} (t : TabsW w0) : IntrOne Tryz.prog (GW w0) 52 (ofT 52 quoteT) := by
 refine ofT_ok ?_ (quoteT_D)
 exact quoteD_ok fc52 fun D hG hs s hlen => Any.strconv_Quote Tryz.lays177 (by kernel_rfl) Lib.goPrintTabs s D.w hlen (t.at hG hs).pt (t.at hG hs).u8
theorem fmt_ok {w0 : World} (t : TabsW w0) : IntrOne Tryz.prog (GW w0) 54 (ofT 54 formatT) := by
 refine ofT_ok ?_ (formatT_D)
 exact formatD_ok fc54 fun D hG hs n h0 h1 => Calls.mono (Any.strconv_FormatInt_10 Tryz.laysM173 n h0 h1 D.w (t.at hG hs).p10) fun e w' ⟨e1, k, os, e2⟩ => ⟨e1, by rw [e2]; exact grow_below _ _ _⟩
def parseC : Intr := specI 10 sigS rsP (fun _ => true) fun x => parseS x.1
theorem par_ok {w0 : World} (t : TabsW w0) : IntrOne Tryz.prog (GW w0) 10 parseC := specI_ok fun x _ => by
 obtain ⟨T, ⟨⟩⟩ := x
 exact parseS_SA t.tabs t.flt T
end Go.Sx.Tryz
namespace Go.Sx.Tryz
open Go Go.Sx Go.Proofs Go.Shelf Go.Lib
open Go.Proofs.YtaklpoiaicepoaaGreatDoor
set_option maxRecDepth 100000
section
variable {H : Type} {enc : TypeId × Value → H} {P : Program} {w : World} {base : Nat} {spare : Nat → Bool} {held : Bool} {fuel : Nat} {t : TypeId} {cs : List Value} {x : DataW H × List MemPlace}
theorem trod_float {k : FloatKind} (ht : P.underlying t = some (.float k)) (h : DataW.trod enc P w base spare held fuel t cs = some x) : ∃ n, cs = [.float k n] ∧ x = (.lit (.float k n), []) := by
 cases fuel with
 | zero => simp [DataW.trod] at h
 | succ n =>
  unfold DataW.trod at h
  rw [ht] at h
  split at h <;> simp_all
theorem trod_iface {m : Array (String × TypeId)} (ht : P.underlying t = some (.interface m)) (h : DataW.trod enc P w base spare held fuel t cs = some x) : cs = [.nilIface] ∨ ∃ u v, cs = [.iface u v] := by
 cases fuel with
 | zero => simp [DataW.trod] at h
 | succ n =>
  unfold DataW.trod at h
  rw [ht] at h
  split at h <;> simp_all
end
theorem fltSlice_of_reads {P : Program} {w : World} {name : String} {g : Nat} {t e : TypeId} {l : List Nat} (hn : P.globalNamed name = some g) (hy : (P.globals[g]?).map (·.type) = some t)
  (ht : P.underlying t = some (.slice e)) (he : P.underlying e = some (.float .f64)) (hc : P.cellsOf e = 1) (h : VarReads P w name (.slice (l.map fun x => .lit (.float .f64 x)) [])) :
  ∃ (a : Addr) (cap : Nat), w.cell? ⟨g, 0, none⟩ = some (.slice (some a) l.length cap) ∧ ∀ i, i < l.length → w.cell? (a.add i) = some (.float .f64 (l.getD i 0)) := by
 obtain ⟨g', t', cs, fuel, p, hg, hty, hvar, hd⟩ := h
 obtain rfl := Option.some.inj (hn.symm.trans hg)
 obtain rfl := Option.some.inj (hy.symm.trans hty)
 rcases DataW.trod_slice ht hd with ⟨_, hx⟩ | ⟨a, len, cap, el, rs, m, rfl, hcs, hx, _, hlc, _, hel, helem, hsp, _⟩
 ·cases hx
 have e0 := congrArg Prod.fst hx
 simp only [DataW.slice.injEq] at e0
 obtain ⟨eE, eR⟩ := e0
 have hlen : len = l.length := by
  have := congrArg List.length eE
  simp at this
  omega
 refine ⟨a, cap, ?_, fun i hi => ?_⟩
 ·rw [World.var?_cell hg hvar 0, ← Array.getElem?_toList, hcs, hlen]
  rfl
 ·have h1 := helem i (by omega)
  rw [hc] at h1
  obtain ⟨b, hb⟩ : ∃ b, el[i]? = some b := ⟨el[i]'(by omega), List.getElem?_eq_getElem (by omega)⟩
  rw [hb] at h1
  obtain ⟨ce, hce, hte⟩ := Option.bind_eq_some_iff.1 h1
  obtain ⟨z, hz, hbz⟩ := trod_float he hte
  have hb1 : b.1 = .lit (.float .f64 (l.getD i 0)) := by
   have := congrArg (·[i]?) eE
   simp [hb, hi, List.getD] at this
   have e2 : l.getD i 0 = l[i] := by simp [List.getD, List.getElem?_eq_getElem hi]
   rw [e2]
   exact this.symm
  rw [hbz] at hb1
  simp only [DataW.lit.injEq, Lit.float.injEq, true_and] at hb1
  obtain ⟨_, _, hcc⟩ := World.cells?_some hce
  have := hcc 0 (by omega)
  rw [hz] at this
  simp only [Nat.mul_one] at this
  have e1 : (a.add i).add 0 = a.add i := by simp [Addr.add]
  rw [e1] at this
  rw [this, ← hb1]
  rfl
def rowLaid : List (String × DataW Unit) := Rows.parseDeepRow.laid
theorem u64pow10_eq : (Rows.laid_internal_strconv_uint64pow10 : DataW Unit) = tabData .u64 Lib.pow10Tab := by kernel_rfl
def pow10All : List Nat := pow10F ++ [4831355200913801216, 4846369599423283200, 4861130398305394688, 4876203697187506176, 4891288408196988160, 4906019910204099648, 4921056587992461136, 4936209963552724370]
theorem f64pow10_eq : (Rows.laid_internal_strconv_float64pow10 : DataW Unit) = .slice (pow10All.map fun x => .lit (.float .f64 x)) [] := by kernel_rfl
theorem reads_of {w : World} (h : laidMet Tryz.prog rowLaid w) {n : String} {d : DataW Unit} (hm : (n, d) ∈ rowLaid) : VarReads Tryz.prog w n d := Lib.laidMet.reads h hm
end Go.Sx.Tryz
namespace Go.Sx.Tryz
open Go Go.Sx Go.Proofs Go.Shelf Go.Lib
open Go.Proofs.YtaklpoiaicepoaaGreatDoor
set_option maxRecDepth 100000
theorem und52 : ∃ m, Tryz.prog.underlying 52 = some (.interface m) := ⟨_, rfl⟩
theorem und4' : Tryz.prog.underlying 4 = some .bool := by kernel_rfl
theorem tabs_of_laid {w : World} (hsh : w.ShapedOpen Tryz.prog) (h : laidMet Tryz.prog rowLaid w) : TabsW w where
 t := {
  mx := cell_of_shapedOpen_int (P := Tryz.prog) (t := 3) (zero := #[.int .i64 0]) hsh (of_decide_eq_true (by kernel_rfl)) (by kernel_rfl) rfl (by kernel_rfl) (by kernel_rfl) (by kernel_rfl)
  er := by
   obtain ⟨g, t, cs, fuel, p, hg, hty, hvar, hd⟩ := reads_of h (n := "strconv.ErrRange") (d := Rows.laid_strconv_ErrRange) (by simp [rowLaid, Rows.parseDeepRow])
   obtain rfl := Option.some.inj ((show Tryz.prog.globalNamed "strconv.ErrRange" = some 13 by kernel_rfl).symm.trans hg)
   obtain rfl := Option.some.inj ((show (Tryz.prog.globals[13]?).map (·.type) = some 52 by kernel_rfl).symm.trans hty)
   obtain ⟨m, hm⟩ := und52
   have hc := World.var?_cell hg hvar 0
   rw [← Array.getElem?_toList] at hc
   rcases trod_iface hm hd with e | ⟨u, v, e⟩
   ·rw [e] at hc
    exact ⟨_, hc, .inl rfl⟩
   ·rw [e] at hc
    exact ⟨_, hc, .inr ⟨u, v, rfl⟩⟩ }
 f := {
  opt := by
   obtain ⟨g, t, cs, fuel, p, hg, hty, hvar, hd⟩ := reads_of h (n := "internal/strconv.optimize") (d := Rows.laid_internal_strconv_optimize) (by simp [rowLaid, Rows.parseDeepRow])
   obtain rfl := Option.some.inj ((show Tryz.prog.globalNamed "internal/strconv.optimize" = some 15 by kernel_rfl).symm.trans hg)
   obtain rfl := Option.some.inj ((show (Tryz.prog.globals[15]?).map (·.type) = some 4 by kernel_rfl).symm.trans hty)
   have hc := World.var?_cell hg hvar 0
   rw [← Array.getElem?_toList] at hc
   obtain ⟨b, e, hb⟩ := DataW.trod_bool und4' hd
   have hb := congrArg Prod.fst hb
   simp only [Rows.laid_internal_strconv_optimize, DataW.lit.injEq, Lit.bool.injEq] at hb
   rw [e, ← hb] at hc
   exact hc
  mb := by
   obtain ⟨g, t, cs, fuel, p, hg, hty, hvar, hd⟩ := reads_of h (n := "internal/strconv.float64info") (d := Rows.laid_internal_strconv_float64info) (by simp [rowLaid, Rows.parseDeepRow])
   obtain rfl := Option.some.inj ((show Tryz.prog.globalNamed "internal/strconv.float64info" = some 16 by kernel_rfl).symm.trans hg)
   obtain rfl := Option.some.inj ((show (Tryz.prog.globals[16]?).map (·.type) = some 218 by kernel_rfl).symm.trans hty)
   have hc := World.var?_cell hg hvar 0
   rw [← Array.getElem?_toList] at hc
   obtain ⟨fs, hfs, hf0⟩ : ∃ fs, Tryz.prog.underlying 218 = some (.struct fs) ∧ ∃ f0, fs[0]? = some f0 ∧ f0.type = 94 ∧ f0.offset = 0 := ⟨_, rfl, _, rfl, rfl, rfl⟩
   obtain ⟨f0, hf0, hft, hfo⟩ := hf0
   obtain ⟨xs, n, rfl, hx, hl, hxl, hall⟩ := DataW.trod_struct hfs hd
   have h1 := hall 0 f0 hf0
   have hx := congrArg Prod.fst hx
   simp only [Rows.laid_internal_strconv_float64info, DataW.agg.injEq] at hx
   cases hxs : xs with
   | nil => rw [hxs] at hx; cases hx
   | cons b r =>
    rw [hxs] at hx h1
    rw [hft, hfo, show Tryz.prog.cellsOf 94 = 1 by kernel_rfl] at h1
    obtain ⟨z, hz, hbz, _⟩ := DataW.trod_int (show Tryz.prog.underlying 94 = some (.int .u64) by kernel_rfl) h1
    simp only [List.map_cons, List.cons.injEq] at hx
    have h2 := hx.1
    have hb : b = (.lit (.int .u64 z), []) := hbz
    rw [hb] at h2
    simp only [DataW.lit.injEq, Lit.int.injEq, true_and] at h2
    have h3 : cs.toList[0]? = some (.int .u64 z) := by
     have := congrArg (·[0]?) hz
     simpa [List.getElem?_take, List.getElem?_drop] using this
    rw [h3, ← h2] at hc
    exact hc
  pw := by
   have hr := reads_of h (n := "internal/strconv.float64pow10") (d := Rows.laid_internal_strconv_float64pow10) (by simp [rowLaid, Rows.parseDeepRow])
   rw [f64pow10_eq] at hr
   obtain ⟨a, cap, h1, h2⟩ := fltSlice_of_reads (g := 19) (t := 247) (e := 184) (by kernel_rfl) (by kernel_rfl) (by kernel_rfl) (by kernel_rfl) (by kernel_rfl) hr
   refine ⟨a, _, cap, h1, by decide, fun i hi => ?_⟩
   rw [h2 i (Nat.lt_of_lt_of_le hi (by decide))]
   have : ∀ i, i < 15 → pow10All.getD i 0 = pow10F.getD i 0 := by decide
   rw [this i hi] }
 pt := printTabs_of_reads (ρ := Tryz.lays177_ren) { Tryz.lays177 with } ⟨by kernel_rfl, by kernel_rfl, by kernel_rfl, by kernel_rfl, by kernel_rfl, by kernel_rfl, by kernel_rfl, by kernel_rfl, by kernel_rfl, by kernel_rfl⟩
  (Pinned.isPrint16_eq ▸ reads_of h (n := "strconv.isPrint16") (d := Go.Pinned.isPrint16) (by simp only [rowLaid, Rows.parseDeepRow, Rows.laid_strconv_isPrint16]; simp))
  (Pinned.isNotPrint16_eq ▸ reads_of h (n := "strconv.isNotPrint16") (d := Go.Pinned.isNotPrint16) (by simp only [rowLaid, Rows.parseDeepRow, Rows.laid_strconv_isNotPrint16]; simp))
  (Pinned.isPrint32_eq ▸ reads_of h (n := "strconv.isPrint32") (d := Go.Pinned.isPrint32) (by simp only [rowLaid, Rows.parseDeepRow, Rows.laid_strconv_isPrint32]; simp))
  (Pinned.isNotPrint32_eq ▸ reads_of h (n := "strconv.isNotPrint32") (d := Go.Pinned.isNotPrint32) (by simp only [rowLaid, Rows.parseDeepRow, Rows.laid_strconv_isNotPrint32]; simp))
 u8 := utf8Tabs_of_readsT (ρ := Tryz.lays177_ren) (U8Types.of260 { Tryz.lays177 with }) ⟨by kernel_rfl, by kernel_rfl, by kernel_rfl, by kernel_rfl, by kernel_rfl, by kernel_rfl, by kernel_rfl⟩
  (Pinned.utf8First_eq ▸ reads_of h (n := "unicode/utf8.first") (d := Go.Pinned.utf8First) (by simp only [rowLaid, Rows.parseDeepRow, Rows.laid_unicode_utf8_first]; simp))
  ((show (Rows.laid_unicode_utf8_acceptRanges : DataW Unit) = Lib.acceptData by kernel_rfl) ▸ reads_of h (n := "unicode/utf8.acceptRanges") (d := Rows.laid_unicode_utf8_acceptRanges) (by simp [rowLaid, Rows.parseDeepRow]))
 p10 := by
  have hr : VarReads Tryz.prog w "internal/strconv.uint64pow10" Rows.laid_internal_strconv_uint64pow10 := reads_of h (by simp [rowLaid, Rows.parseDeepRow])
  rw [u64pow10_eq] at hr
  obtain ⟨g, t, cs, fuel, p, hg, hty, hvar, hd⟩ := hr
  obtain rfl := Option.some.inj ((show Tryz.prog.globalNamed "internal/strconv.uint64pow10" = some 3 by kernel_rfl).symm.trans hg)
  obtain rfl := Option.some.inj ((show (Tryz.prog.globals[3]?).map (·.type) = some 155 by kernel_rfl).symm.trans hty)
  have hcs := cells_of_tab (P := Tryz.prog) (e := 124) (n := 20) Tryz.underlying155 Tryz.underlying124 (by kernel_rfl) (by kernel_rfl) hd
  unfold Lib.TabIs
  rw [hvar]
  congr 1
  apply Array.ext'
  simpa using hcs
end Go.Sx.Tryz
