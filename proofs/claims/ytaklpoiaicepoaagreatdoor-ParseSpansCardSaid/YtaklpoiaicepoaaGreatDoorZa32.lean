/- A part of the proof: see the row's text. -/
import Derived.Test.YtaklpoiaicepoaaGreatDoorZa31
import Derived.Test.YtaklpoiaicepoaaGreatDoorZa30
import Derived.Test.YtaklpoiaicepoaaGreatDoorZa21
import Derived.Test.YtaklpoiaicepoaaGreatDoorZa00
set_option linter.unusedVariables false
set_option linter.unusedSimpArgs false
noncomputable section
namespace Go.Sx.Tryz
open Go Go.Sx
set_option maxRecDepth 100000
def tlS (s : List UInt8) : List UInt8 := s.dropWhile fun c => isBlk c.toNat
def qOK (T : List UInt8) (e : Int) : Bool := Lib.hasPrefix (tlS (rest8 T e)) [63] || Lib.contains (rest8 T e) [47, 47]
theorem tlS_eq : ∀ s : List UInt8, tlS s = s.drop (run8 isBlk s)
 | [] => rfl
 | c :: s => by
  have ih := tlS_eq s
  unfold tlS run8 at ih ⊢
  rw [List.dropWhile_cons, List.takeWhile_cons]
  cases isBlk (c.toNat : Int) with
  | true => simpa using ih
  | false => rfl
theorem con_of {s w : List UInt8} {b : Nat} (hb : b ≤ s.length) (h : Lib.hasPrefix (s.drop b) w = true) : Lib.contains s w = true := by
 unfold Lib.contains
 refine decide_eq_true ?_
 rcases Lib.index_spec s w with ⟨_, h2⟩ | ⟨i, h1, _⟩
 ·have h3 := h2 b hb
  unfold Lib.occAt at h3
  unfold Lib.hasPrefix at h
  rw [h] at h3
  cases h3
 ·rw [h1]
  omega
section
variable {T : List UInt8} {K : List Tok}
theorem q_gap (w : WS T K) {a : Int} (h0 : 0 ≤ a) (h1 : a + 1 < K.length) (hs : say T (tokAt K (a + 1)) = [63]) : qOK T (tTo (tokAt K a)) = true := by
 have hg := w.gap a h0 h1
 have sp := w.wf.span a h0 (by omega)
 have sp1 := w.wf.span (a + 1) (by omega) h1
 generalize he : tTo (tokAt K a) = e at hg sp
 have e0 : 0 ≤ e := by omega
 have hr : (rest8 T e).drop (gapS (rest8 T e)) = T.drop (tFrom (tokAt K (a + 1))).toNat := by
  rw [hg]
  unfold gapI rest8
  rw [List.drop_drop]
  congr 1
  omega
 have hq : ∃ u, (rest8 T e).drop (gapS (rest8 T e)) = 63 :: u := by
  rw [hr]
  unfold say at hs
  rw [List.drop_take] at hs
  cases hd : T.drop (tFrom (tokAt K (a + 1))).toNat with
  | nil => rw [hd] at hs; simp at hs
  | cons c u =>
   rw [hd] at hs
   cases hn : (tTo (tokAt K (a + 1))).toNat - (tFrom (tokAt K (a + 1))).toNat with
   | zero => rw [hn] at hs; simp at hs
   | succ n =>
    rw [hn, List.take_succ_cons] at hs
    exact ⟨u, by rw [(List.cons.inj hs).1]⟩
 obtain ⟨u, hu⟩ := hq
 unfold qOK
 rw [tlS_eq]
 generalize rest8 T e = s at hu
 unfold gapS at hu
 rw [gapF_succ] at hu
 cases hh : Lib.hasPrefix (s.drop (run8 isBlk s)) [47, 47] with
 | true => rw [con_of (run8_le isBlk s) hh, Bool.or_true]
 | false =>
  rw [hh] at hu
  simp only [cond_false] at hu
  rw [hu]
  rfl
def EndsE (T : List UInt8) : Int → List Int → List UInt8 → Int → Prop
 | a, [], [], l => a = l
 | a, e :: es, m :: ms, l => a < e ∧ (m = 63 → qOK T e = true) ∧ EndsE T e es ms l
 | _, [], _ :: _, _ => False
 | _, _ :: _, [], _ => False
theorem EndsE.snoc {e : Int} {m : UInt8} (hm : m = 63 → qOK T e = true) : ∀ {a l : Int} {es : List Int} {ms : List UInt8}, EndsE T a es ms l → l < e → EndsE T a (es ++ [e]) (ms ++ [m]) e
 | a, l, [], [], h, hl => by
  have h : a = l := h
  exact ⟨by omega, hm, rfl⟩
 | a, l, e' :: es, m' :: ms, h, hl => ⟨h.1, h.2.1, EndsE.snoc hm h.2.2 hl⟩
theorem EndsE.last {c : UInt8} : ∀ {a l : Int} {es : List Int} {ms : List UInt8}, EndsE T a es ms l → ms ≠ [] → (c = 63 → qOK T l = true) → EndsE T a es (ms.dropLast ++ [c]) l
 | a, l, [], [], h, hn, _ => absurd rfl hn
 | a, l, [e], [m], h, _, hc => by
  obtain ⟨h1, h2, h3⟩ := h
  have h3 : e = l := h3
  subst h3
  exact ⟨h1, hc, rfl⟩
 | a, l, e :: e2 :: es, m :: m2 :: ms, h, _, hc => ⟨h.1, h.2.1, EndsE.last h.2.2 (by simp) hc⟩
theorem EndsE.first {a a' l : Int} (ha : a' ≤ a) : ∀ {es : List Int} {ms : List UInt8}, EndsE T a es ms l → ms ≠ [] → EndsE T a' es ms l
 | [], [], _, hn => absurd rfl hn
 | e :: es, m :: ms, h, _ => ⟨by have := h.1; omega, h.2⟩
structure TyL (T : List UInt8) (K : List Tok) (a0 a : Int) (x : Nd) : Prop where
 lt : a0 < a
 inn : In K a
 w1 : nW1 x = tFrom (tokAt K a0)
 w2 : nW2 x = tTo (tokAt K (a - 1))
 d0 : 0 ≤ nDims x
 el : ((nEnds x).length : Int) = nDims x + 1
 ml : ((nMarks x).length : Int) = nDims x + 1
 es : ∃ l, EndsE T (nW1 x) (nEnds x) (nMarks x) l ∧ l ≤ nW2 x ∧ (markAt x (nDims x) = 32 → l = tTo (tokAt K (a - 1)))
 b0 : nBase x ≠ 0
theorem TyL.base (w : WS T K) {a0 : Int} (h0 : In K a0) (hz : Nz K a0) {b : Int} (hb : b ≠ 0) (nm : Str) {e : Int} (he : e = tTo (tokAt K a0)) : TyL T K a0 (a0 + 1) (nodT b nm (tFrom (tokAt K a0)) (tTo (tokAt K a0)) e) := by
 subst he
 have hl := w.lt a0 h0.1 h0.2 hz
 refine ⟨by omega, w.succ h0 hz, rfl, ?_, Int.le_refl 0, rfl, rfl, ⟨tTo (tokAt K a0), ⟨hl, fun h => absurd h (by decide), rfl⟩, Int.le_refl _, fun _ => ?_⟩, hb⟩ <;> rw [show a0 + 1 - 1 = a0 by omega]
 rfl
theorem TyL.mark (w : WS T K) {a0 a : Int} {x : Nd} (h0 : 0 ≤ a0) (h : TyL T K a0 a x) (hz : Nz K a) (hs : say T (tokAt K a) = [63]) (h32 : markAt x (nDims x) = 32) : TyL T K a0 (a + 1) (setMark x 63 (nW1 x) (tTo (tokAt K a))) := by
 obtain ⟨l, e1, e2, e3⟩ := h.es
 have e3 := e3 h32
 have h1 := h.lt
 have hq : qOK T l = true := by
  rw [e3]
  refine q_gap w (a := a - 1) (by omega) (by have := h.inn.2; omega) ?_
  rw [show a - 1 + 1 = a by omega]
  exact hs
 have hml := h.ml
 have hd := h.d0
 have hne : nMarks x ≠ [] := fun hh => by rw [hh] at hml; simp at hml; omega
 have htk : (nMarks x).take (nDims x).toNat = (nMarks x).dropLast := by
  rw [List.dropLast_eq_take]
  congr 1
  omega
 have hmm : markAt (setMark x 63 (nW1 x) (tTo (tokAt K a))) (nDims x) = 63 := by
  show (((((nMarks x).take (nDims x).toNat ++ [63]).getD (nDims x).toNat 0).toNat : Nat) : Int) = 63
  rw [List.getD_eq_getElem?_getD, List.getElem?_append_right (by rw [List.length_take]; omega), List.length_take, show (nDims x).toNat - min (nDims x).toNat (nMarks x).length = 0 by omega]
  rfl
 refine ⟨by omega, w.succ h.inn hz, h.w1, ?_, hd, h.el, ?_, ⟨l, ?_, ?_, fun h63 => ?_⟩, h.b0⟩
 ·rw [show a + 1 - 1 = a by omega]
  rfl
 ·show (((nMarks x).take (nDims x).toNat ++ [63]).length : Int) = nDims x + 1
  rw [List.length_append, List.length_take, List.length_singleton]
  omega
 ·show EndsE T (nW1 x) (nEnds x) ((nMarks x).take (nDims x).toNat ++ [63]) l
  rw [htk]
  exact EndsE.last e1 hne fun _ => hq
 ·show l ≤ tTo (tokAt K a)
  rw [e3]
  exact (w.le (a := a - 1) (b := a) (by omega) (by omega) h.inn.2).2
 ·have h63 : markAt (setMark x 63 (nW1 x) (tTo (tokAt K a))) (nDims x) = 32 := h63
  rw [hmm] at h63
  exact absurd h63 (by decide)
theorem TyL.dim (w : WS T K) {a0 a : Int} {x : Nd} (h0 : 0 ≤ a0) (h : TyL T K a0 a x) (hz : Nz K a) (hz2 : Nz K (a + 1)) : TyL T K a0 (a + 1 + 1) (addDim x (tTo (tokAt K (a + 1)))) := by
 obtain ⟨l, e1, e2, e3⟩ := h.es
 have h1 := h.lt
 have i1 := w.succ h.inn hz
 have i2 := w.succ i1 hz2
 have hl : l < tTo (tokAt K (a + 1)) := by
  have s1 := w.sep (a := a - 1) (b := a + 1) (by omega) (by omega) i1.2
  have s2 := w.lt (a + 1) (by omega) i1.2 hz2
  have := h.w2
  omega
 refine ⟨by omega, i2, h.w1, ?_, by show 0 ≤ nDims x + 1; have := h.d0; omega, ?_, ?_, ⟨tTo (tokAt K (a + 1)), EndsE.snoc (fun h => absurd h (by decide)) e1 hl, Int.le_refl _, fun _ => ?_⟩, h.b0⟩
 ·rw [show a + 1 + 1 - 1 = a + 1 by omega]
  rfl
 ·show ((nEnds x ++ [_]).length : Int) = nDims x + 1 + 1
  have := h.el
  rw [List.length_append, List.length_singleton]
  omega
 ·show ((nMarks x ++ [32]).length : Int) = nDims x + 1 + 1
  have := h.ml
  rw [List.length_append, List.length_singleton]
  omega
 ·rw [show a + 1 + 1 - 1 = a + 1 by omega]
theorem pp_base (w : WS T K) {a : Int} (h : In K a) : PP (cBase T K) a fun x a' => a' = a + 1 ∧ TyL T K a (a + 1) x := by
 refine PP.bind pp_next fun t a' h => ?_
 obtain ⟨rfl, rfl⟩ := h
 refine PP.bif (fun hk => ?_) fun _ => PP.flt
 have hz : Nz K a' := nz_of hk (by decide)
 have one : ∀ (b : Int) (nm : Str), b ≠ 0 → PP ((cSkip K).bind fun e => Pm.ret (nodT b nm (tFrom (tokAt K a')) (tTo (tokAt K a')) e)) a' fun x a'' => a'' = a' + 1 ∧ TyL T K a' (a' + 1) x := fun b nm hb =>
  PP.bind (pp_skip hz) fun e a'' h2 => PP.ret ⟨h2.1, TyL.base w h hz hb nm h2.2⟩
 exact PP.bif (fun _ => one 1 [] (by decide)) fun _ => PP.bif (fun _ => one 2 [] (by decide)) fun _ => PP.bif (fun _ => one 3 [] (by decide)) fun _ => PP.bif (fun _ => one 4 [] (by decide)) fun _ => PP.bif (fun _ => one 5 _ (by decide)) fun _ => PP.flt
theorem pp_innerL (w : WS T K) {a0 : Int} (h0 : 0 ≤ a0) : ∀ (n : Nat) (a : Int) (x : Nd), TyL T K a0 a x → PP (cInnerL T K n x) a fun y a' => TyL T K a0 a' y
 | 0, _, _, _ => PP.bad
 | n + 1, a, x, h => by
  refine PP.bind pp_next fun t a' h2 => ?_
  obtain ⟨rfl, rfl⟩ := h2
  refine PP.bind (pp_is _) fun b a'' h2 => ?_
  obtain ⟨rfl, h2⟩ := h2
  refine PP.bif (fun hb => PP.bif (fun _ => PP.flt) fun hc => ?_) fun _ => ?_
  ·obtain ⟨hz, hs⟩ := h2 hb
   rw [Bool.or_eq_false_iff] at hc
   have h32 : markAt x (nDims x) = 32 := by simpa [bne] using hc.2
   refine PP.bind (pp_skip hz) fun e a3 h3 => ?_
   obtain ⟨rfl, rfl⟩ := h3
   exact pp_innerL w h0 n _ _ (TyL.mark w h0 h hz hs h32)
  ·refine PP.bind pp_ahead fun z a3 h3 => ?_
   obtain ⟨rfl, h3⟩ := h3
   refine PP.bind (pp_is _) fun b a4 h4 => ?_
   obtain ⟨rfl, h4⟩ := h4
   refine PP.bif (fun hb => PP.bif (fun _ => PP.flt) fun _ => ?_) fun _ => PP.ret h
   rw [Bool.and_eq_true] at hb
   obtain ⟨hz, _⟩ := h4 hb.1
   have i1 := w.succ h.inn hz
   have hz2 : Nz K (a4 + 1) := fun h0 => by
    rcases h3 with h3 | ⟨_, h3⟩
    ·rw [h3] at hb
     exact absurd hb.2 (by decide)
    ·rw [h3, w.wf.fin (a4 + 1) i1.1 i1.2 h0] at hb
     exact absurd (show (([] : List UInt8) == [93]) = true from hb.2) (by decide)
   refine PP.bind (pp_skip hz) fun e a5 h5 => ?_
   obtain ⟨rfl, rfl⟩ := h5
   refine PP.bind (pp_skip hz2) fun e a6 h6 => ?_
   obtain ⟨rfl, rfl⟩ := h6
   exact pp_innerL w h0 n _ _ (TyL.dim w h0 h hz hz2)
theorem pp_inner (w : WS T K) {a : Int} (h : In K a) : PP (cInner T K) a fun x a' => TyL T K a a' x :=
 PP.bind (pp_base w h) fun x a' h2 => by
  obtain ⟨rfl, h2⟩ := h2
  exact pp_innerL w h.1 _ _ x h2
structure TyQ (T : List UInt8) (K : List Tok) (a0 a : Int) (x : Nd) : Prop where
 lt : a0 < a
 inn : In K a
 w1 : tFrom (tokAt K a0) ≤ nW1 x
 w2 : nW2 x ≤ tTo (tokAt K (a - 1))
 d0 : 0 ≤ nDims x
 el : ((nEnds x).length : Int) = nDims x + 1
 ml : ((nMarks x).length : Int) = nDims x + 1
 es : ∃ l, EndsE T (nW1 x) (nEnds x) (nMarks x) l ∧ l ≤ nW2 x
 b0 : nBase x ≠ 0
theorem TyL.q {a0 a : Int} {x : Nd} (h : TyL T K a0 a x) : TyQ T K a0 a x := by
 obtain ⟨l, e1, e2, _⟩ := h.es
 exact ⟨h.lt, h.inn, Int.le_of_eq h.w1.symm, Int.le_of_eq h.w2, h.d0, h.el, h.ml, ⟨l, e1, e2⟩, h.b0⟩
theorem pp_typed (w : WS T K) (v : Bool) {a : Int} (h : In K a) : PP (cTyped T K v) a fun x a' => TyQ T K a a' x := by
 refine PP.bind pp_next fun t a' h2 => ?_
 obtain ⟨rfl, rfl⟩ := h2
 refine PP.bif (fun hk => ?_) fun _ => PP.bif (fun hk => ?_) fun _ => fun d A => ?_
 ·rw [Bool.and_eq_true] at hk
  have hz : Nz K a' := nz_of hk.2 (by decide)
  have i1 := w.succ h hz
  refine PP.bind (pp_skip hz) fun e a2 h2 => ?_
  obtain ⟨rfl, rfl⟩ := h2
  refine PP.bind (pp_want _) fun e a3 h3 => ?_
  obtain ⟨rfl, rfl, hz1⟩ := h3
  have i2 := w.succ i1 hz1
  refine PP.bind (pp_inner w i2) fun x a4 h4 => ?_
  refine PP.bind (pp_want _) fun e a5 h5 => ?_
  obtain ⟨rfl, rfl, hz4⟩ := h5
  refine PP.bif (fun _ => PP.flt) fun hc => PP.ret ?_
  obtain ⟨l, e1, e2, _⟩ := h4.es
  have l1 := h4.lt
  have hml := h4.ml
  have hd := h4.d0
  have hne : nMarks x ≠ [] := fun hh => by rw [hh] at hml; simp at hml; omega
  have htk : (nMarks x).take (nDims x).toNat = (nMarks x).dropLast := by
   rw [List.dropLast_eq_take]
   congr 1
   omega
  have s1 := (w.le (a := a') (b := a' + 1 + 1) h.1 (by omega) i2.2).1
  refine ⟨by omega, w.succ h4.inn hz4, Int.le_refl _, ?_, hd, h4.el, ?_, ⟨l, ?_, ?_⟩, h4.b0⟩
  ·rw [show a4 + 1 - 1 = a4 by omega]
   exact Int.le_refl _
  ·show (((nMarks x).take (nDims x).toNat ++ [111]).length : Int) = nDims x + 1
   rw [List.length_append, List.length_take, List.length_singleton]
   omega
  ·show EndsE T (tFrom (tokAt K a')) (nEnds x) ((nMarks x).take (nDims x).toNat ++ [111]) l
   rw [htk]
   refine EndsE.first (a := nW1 x) ?_ (EndsE.last e1 hne fun h => absurd h (by decide)) (by simp)
   rw [h4.w1]
   exact s1
  ·show l ≤ tTo (tokAt K a4)
   have := h4.w2
   have ha := h.1
   have s2 := (w.le (a := a4 - 1) (b := a4) (by omega) (by omega) h4.inn.2).2
   omega
 ·rw [Bool.and_eq_true, Bool.and_eq_true] at hk
  have hz : Nz K a' := nz_of hk.2.1 (by decide)
  refine PP.bind (pp_skip hz) fun e a2 h2 => PP.ret ?_
  obtain ⟨rfl, rfl⟩ := h2
  exact (TyL.base w h hz (by decide) [] rfl).q
 ·have := pp_inner w h d A
  revert this
  cases cInner T K a' d A with
  | ok y a2 d2 A2 => exact fun h => TyL.q h
  | fault c p => exact fun _ => trivial
  | bad => exact fun _ => trivial
end
end Go.Sx.Tryz
namespace Go.Sx.Tryz
open Go Go.Sx
set_option maxRecDepth 100000
def OrdE : Int → List Tn → Int → Prop
 | at_, [], e => at_ ≤ e
 | at_, k :: ks, e => at_ ≤ nAt k.data ∧ nAt k.data ≤ nTo k.data ∧ OrdE (nTo k.data) ks e
def Wd (T : List UInt8) (x : Nd) : Prop := (nBase x = 0 ∧ nName x = [] ∧ nDims x = 0 ∧ nMarks x = [] ∧ nEnds x = []) ∨
 (nBase x ≠ 0 ∧ nAt x ≤ nW1 x ∧ nW2 x ≤ nTo x ∧ ((nEnds x).length : Int) = nDims x + 1 ∧ ((nMarks x).length : Int) = nDims x + 1 ∧ ∃ l, EndsE T (nW1 x) (nEnds x) (nMarks x) l ∧ l ≤ nW2 x)
mutual
def Gs (T : List UInt8) : Tn → Prop
 | .mk x ks => (0 ≤ nAt x ∧ nAt x ≤ nTo x ∧ nTo x ≤ T.length) ∧ OrdE (nAt x) ks (nTo x) ∧ Wd T x ∧ GsL T ks
def GsL (T : List UInt8) : List Tn → Prop
 | [] => True
 | t :: ts => Gs T t ∧ GsL T ts
end
theorem Gs.pos {T : List UInt8} {t : Tn} (h : Gs T t) : 0 ≤ nAt t.data ∧ nAt t.data ≤ nTo t.data ∧ nTo t.data ≤ T.length := by
 obtain ⟨x, ks⟩ := t
 unfold Gs at h
 exact h.1
theorem GsL.app {T : List UInt8} : ∀ {a b : List Tn}, GsL T a → GsL T b → GsL T (a ++ b)
 | [], _, _, h => h
 | t :: a, b, h, h' => by
  unfold GsL at h
  show GsL T (t :: (a ++ b))
  unfold GsL
  exact ⟨h.1, GsL.app h.2 h'⟩
theorem OrdE.app : ∀ {a e f g : Int} {ks ls : List Tn}, OrdE a ks e → e ≤ f → OrdE f ls g → OrdE a (ks ++ ls) g
 | a, e, f, g, [], [], h, h1, h2 => by
  have h : a ≤ e := h
  have h2 : f ≤ g := h2
  show a ≤ g
  omega
 | a, e, f, g, [], l :: ls, h, h1, h2 => by
  have h : a ≤ e := h
  exact ⟨by have := h2.1; omega, h2.2⟩
 | a, e, f, g, k :: ks, ls, h, h1, h2 => ⟨h.1, h.2.1, OrdE.app h.2.2 h1 h2⟩
theorem OrdE.up {e e' : Int} (h : e ≤ e') : ∀ {a : Int} {ks : List Tn}, OrdE a ks e → OrdE a ks e'
 | a, [], h1 => by
  have h1 : a ≤ e := h1
  show a ≤ e'
  omega
 | a, k :: ks, h1 => ⟨h1.1, h1.2.1, OrdE.up h h1.2.2⟩
section
variable {T : List UInt8} {K : List Tok}
structure Sp (T : List UInt8) (K : List Tok) (a a' : Int) (t : Tn) : Prop where
 lt : a < a'
 inn : In K a'
 fr : tFrom (tokAt K a) ≤ nAt t.data
 tz : nTo t.data ≤ tTo (tokAt K (a' - 1))
 gs : Gs T t
structure Cx (T : List UInt8) (K : List Tok) (a0 a : Int) (ks : List Tn) : Prop where
 le : a0 ≤ a
 inn : In K a
 nn : 0 ≤ a0
 gs : GsL T ks
 ord : ks = [] ∨ (a0 < a ∧ OrdE (tFrom (tokAt K a0)) ks (tTo (tokAt K (a - 1))))
theorem Cx.nil {a : Int} (h : In K a) : Cx T K a a [] := ⟨Int.le_refl _, h, h.1, trivial, .inl rfl⟩
theorem Cx.step (w : WS T K) {a0 a : Int} {ks : List Tn} (h : Cx T K a0 a ks) (hz : Nz K a) : Cx T K a0 (a + 1) ks := by
 have i1 := w.succ h.inn hz
 have h0 := h.nn
 have h1 := h.le
 refine ⟨by omega, i1, h0, h.gs, ?_⟩
 rcases h.ord with e | ⟨h2, h3⟩
 ·exact .inl e
 ·refine .inr ⟨by omega, OrdE.up ?_ h3⟩
  rw [show a + 1 - 1 = a by omega]
  exact (w.le (a := a - 1) (b := a) (by omega) (by omega) h.inn.2).2
theorem Sp.weaken (w : WS T K) {a b c c' : Int} {t : Tn} (h : Sp T K b c t) (h0 : 0 ≤ a) (h1 : a ≤ b) (h2 : c ≤ c') (h3 : In K c') : Sp T K a c' t := by
 have hl := h.lt
 have hi := h.inn
 refine ⟨by omega, h3, ?_, ?_, h.gs⟩
 ·have := (w.le (a := a) (b := b) h0 h1 (by have := hi.2; omega)).1
  have := h.fr
  omega
 ·have := (w.le (a := c - 1) (b := c' - 1) (by omega) (by omega) (by have := h3.2; omega)).2
  have := h.tz
  omega
theorem Cx.one {a0 a : Int} {t : Tn} (h0 : 0 ≤ a0) (h : Sp T K a0 a t) : Cx T K a0 a [t] := by
 have hl := h.lt
 refine ⟨by omega, h.inn, h0, ?_, .inr ⟨hl, h.fr, h.gs.pos.2.1, h.tz⟩⟩
 unfold GsL
 exact ⟨h.gs, trivial⟩
theorem Cx.list (w : WS T K) {a0 a a' : Int} {ks ls : List Tn} (h : Cx T K a0 a ks) (h2 : Cx T K a a' ls) : Cx T K a0 a' (ks ++ ls) := by
 have l1 := h.le
 have l2 := h2.le
 have h0 := h.nn
 refine ⟨by omega, h2.inn, h0, h.gs.app h2.gs, ?_⟩
 rcases h.ord with e | ⟨h3, h4⟩
 ·subst e
  rcases h2.ord with e | ⟨h5, h6⟩
  ·exact .inl e
  ·refine .inr ⟨by omega, ?_⟩
   have := (w.le (a := a0) (b := a) h0 l1 h.inn.2).1
   exact OrdE.app (ks := []) (e := tFrom (tokAt K a0)) (Int.le_refl _) this h6
 ·refine .inr ⟨by omega, ?_⟩
  rcases h2.ord with e | ⟨h5, h6⟩
  ·subst e
   rw [List.append_nil]
   exact OrdE.up (w.le (a := a - 1) (b := a' - 1) (by omega) (by omega) (by have := h2.inn.2; omega)).2 h4
  ·exact OrdE.app h4 (w.sep (a := a - 1) (b := a) (by omega) (by omega) h.inn.2) h6
theorem Cx.kid (w : WS T K) {a0 a a' : Int} {ks : List Tn} {t : Tn} (h : Cx T K a0 a ks) (h2 : Sp T K a a' t) : Cx T K a0 a' (ks ++ [t]) := h.list w (Cx.one h.inn.1 h2)
theorem nz_lt (w : WS T K) {a b : Int} (h0 : 0 ≤ a) (h : a < b) (hb : In K b) : Nz K a := fun e => by
 have h1 := hb.2
 have := (w.wf.last a h0 (by omega)).1 e
 omega
theorem lastTo_eq (w : WS T K) {a0 a : Int} (h0 : 0 ≤ a0) (h : a0 < a) (hi : In K a) : lastTo K a (tFrom (tokAt K a0)) = tTo (tokAt K (a - 1)) ∧ tFrom (tokAt K a0) < tTo (tokAt K (a - 1)) := by
 have h1 := w.lt a0 h0 (by have := hi.2; omega) (nz_lt w h0 h hi)
 have h2 := (w.le (a := a0) (b := a - 1) h0 (by omega) (by have := hi.2; omega)).2
 have h3 : tFrom (tokAt K a0) < tTo (tokAt K (a - 1)) := by omega
 refine ⟨?_, h3⟩
 unfold lastTo
 rw [decide_eq_true (by omega : a > 0), decide_eq_true h3]
 rfl
theorem Cx.add (w : WS T K) {a0 a : Int} {ks : List Tn} {x : Nd} (h : Cx T K a0 a ks) (hl : a0 < a) (hw : Wd T (spanned x (tFrom (tokAt K a0)) (tTo (tokAt K (a - 1))))) : Sp T K a0 a (.mk (spanned x (tFrom (tokAt K a0)) (lastTo K a (tFrom (tokAt K a0)))) ks) := by
 obtain ⟨e1, e2⟩ := lastTo_eq w h.nn hl h.inn
 have h0 := h.nn
 have h1 := h.inn
 rw [e1]
 refine ⟨hl, h1, Int.le_refl _, Int.le_refl _, ?_⟩
 unfold Gs
 have s1 := w.wf.span a0 h0 (by have := h1.2; omega)
 have s2 := w.wf.span (a - 1) (by omega) (by have := h1.2; omega)
 refine ⟨⟨s1.1, ?_, s2.2.2⟩, ?_, hw, h.gs⟩
 ·show tFrom (tokAt K a0) ≤ tTo (tokAt K (a - 1))
  omega
 ·show OrdE (tFrom (tokAt K a0)) ks (tTo (tokAt K (a - 1)))
  rcases h.ord with e | ⟨_, h3⟩
  ·subst e
   show tFrom (tokAt K a0) ≤ tTo (tokAt K (a - 1))
   omega
  ·exact h3
theorem wd_nod {k f t : Int} {w : Str} : Wd T (spanned (nod k [] w) f t) := .inl ⟨rfl, rfl, rfl, rfl, rfl⟩
theorem wd_nodV {k n f t : Int} {w : Str} : Wd T (spanned (nodV k n w) f t) := .inl ⟨rfl, rfl, rfl, rfl, rfl⟩
theorem wd_ty (w : WS T K) {a0 a b c k : Int} {y : Nd} {s : Str} (h : TyQ T K b c y) (h0 : 0 ≤ a0) (h1 : a0 ≤ b) (h2 : c ≤ a) (ha : In K a) : Wd T (spanned (withK y k [] s) (tFrom (tokAt K a0)) (tTo (tokAt K (a - 1)))) := by
 have hl := h.lt
 refine .inr ⟨h.b0, ?_, ?_, h.el, h.ml, h.es⟩
 ·have := (w.le (a := a0) (b := b) h0 h1 (by have := h.inn.2; omega)).1
  have := h.w1
  show tFrom (tokAt K a0) ≤ nW1 y
  omega
 ·have := (w.le (a := c - 1) (b := a - 1) (by omega) (by omega) (by have := ha.2; omega)).2
  have := h.w2
  show nW2 y ≤ tTo (tokAt K (a - 1))
  omega
theorem tp_add (w : WS T K) {a0 a : Int} {ks : List Tn} {x : Nd} (h : Cx T K a0 a ks) (hl : a0 < a) (hw : Wd T (spanned x (tFrom (tokAt K a0)) (tTo (tokAt K (a - 1))))) : TP (tAdd K x (tFrom (tokAt K a0)) ks) a fun t a' => a' = a ∧ Sp T K a0 a t := fun d n => by
 unfold tAdd
 cases decide ((n : Int) ≥ 8192)
 ·exact ⟨rfl, h.add w hl hw⟩
 ·trivial
def VP (T : List UInt8) (K : List Tok) (m : Tm Tn) : Prop := ∀ a, In K a → TP m a fun t a' => Sp T K a a' t
structure VK (T : List UInt8) (K : List Tok) (p : Kt) : Prop where
 val : VP T K p.val
 blk : VP T K p.blk
 un : VP T K p.un
variable {p : Kt}
theorem tp_sp {α : Type} {m : Tm Tn} {a : Int} {Q : Tn → Int → Prop} (h : TP m a fun t a' => a' = a ∧ Q t a) : TP m a Q := h.mono fun y a' h => by
 obtain ⟨rfl, h⟩ := h
 exact h
theorem s_bracket (w : WS T K) (h : VK T K p) : VP T K (tBracket T K p) := fun a ha => by
 refine TP.bind (PP.lft (pp_want _)) fun _ a1 h1 => ?_
 obtain ⟨rfl, _, hz⟩ := h1
 refine TP.bind (h.val _ (w.succ ha hz)) fun x a2 h2 => ?_
 refine TP.bind (PP.lft (pp_want _)) fun _ a3 h3 => ?_
 obtain ⟨rfl, _, hz2⟩ := h3
 exact TP.ret (h2.weaken w ha.1 (by omega) (by omega) (w.succ h2.inn hz2))
theorem s_argsL (w : WS T K) (h : VK T K p) (a0 : Int) : ∀ (n : Nat) (a : Int) (ks : List Tn), Cx T K a0 a ks → TP (tArgsL T K p n ks) a fun ls a' => Cx T K a0 a' ls ∧ a < a'
 | 0, _, _, _ => TP.bad
 | n + 1, a, ks, hc => by
  refine TP.bind (PP.lft (pp_take _)) fun b a1 h1 => ?_
  refine TP.bif (fun hb => TP.ret ?_) fun hb => ?_
  ·rcases h1 with ⟨_, rfl, hz⟩ | ⟨hb', _⟩
   ·exact ⟨hc.step w hz, by omega⟩
   ·rw [hb] at hb'; cases hb'
  ·have e : a1 = a := by
    rcases h1 with ⟨hb', _⟩ | ⟨_, h⟩
    ·rw [hb] at hb'; cases hb'
    ·exact h
   subst e
   refine TP.bind (PP.lft (pp_comma _)) fun _ a2 h2 => ?_
   have hc2 : Cx T K a0 a2 ks ∧ a1 ≤ a2 := by
    rcases h2 with rfl | ⟨rfl, hz⟩
    ·exact ⟨hc, Int.le_refl _⟩
    ·exact ⟨hc.step w hz, by omega⟩
   refine TP.bind (PP.lft pp_few) fun _ a3 h3 => ?_
   subst h3
   refine TP.bind (h.val _ hc2.1.inn) fun x a4 h4 => ?_
   have := h4.lt
   exact (s_argsL w h a0 n a4 _ (hc2.1.kid w h4)).mono fun ls a' h => ⟨h.1, by omega⟩
theorem s_args (w : WS T K) (h : VK T K p) {a : Int} (ha : In K a) : TP (tArgs T K p) a fun ls a' => Cx T K a a' ls ∧ a < a' := by
 refine TP.bind (PP.lft (pp_want _)) fun _ a1 h1 => ?_
 obtain ⟨rfl, _, hz⟩ := h1
 exact (s_argsL w h a _ _ [] ((Cx.nil ha).step w hz)).mono fun ls a' h => ⟨h.1, by omega⟩
theorem s_lit (w : WS T K) {a : Int} (ha : In K a) (hz : Nz K a) {x : Nd} {e : Int} (hw : Wd T (spanned x (tFrom (tokAt K a)) (tTo (tokAt K (a + 1 - 1))))) : TP (tLit T K x e) a fun t a' => Sp T K a a' t := by
 refine TP.bind (PP.lft pp_next) fun t a1 h1 => ?_
 obtain ⟨rfl, rfl⟩ := h1
 refine TP.bif (fun _ => TP.flt) fun _ => TP.bind (PP.lft (pp_skip hz)) fun _ a2 h2 => ?_
 obtain ⟨rfl, _⟩ := h2
 exact tp_sp (α := Unit) (tp_add w ((Cx.nil ha).step w hz) (by omega) hw)
def MQ (T : List UInt8) (K : List Tok) (a0 a : Int) (x : Nd × List Tn) : Prop := ∃ y k s c, x.1 = withK y k [] s ∧ TyQ T K a0 c y ∧ c ≤ a ∧ Cx T K a0 a x.2 ∧ a0 < a
theorem Cx.ty (w : WS T K) {a a1 : Int} {y : Nd} (ha : In K a) (h : TyQ T K a a1 y) : Cx T K a a1 [] := by
 have := h.lt
 exact ⟨by omega, h.inn, ha.1, trivial, .inl rfl⟩
theorem s_made (w : WS T K) (h : VK T K p) {a : Int} (ha : In K a) : TP (tMade T K p) a fun x a' => MQ T K a a' x := by
 refine TP.bind (PP.lft (pp_inner w ha)) fun y a1 h1 => ?_
 have h1 := h1.q
 have l1 := h1.lt
 refine TP.bind (PP.lft (pp_is _)) fun b a2 h2 => ?_
 obtain ⟨rfl, h2⟩ := h2
 refine TP.bif (fun _ => TP.bif (fun _ => TP.flt) fun _ => TP.bind (s_args w h h1.inn) fun l a3 h3 => TP.ret ?_) fun _ => ?_
 ·exact ⟨y, 30, nText y, a2, rfl, h1, by omega, (Cx.ty w ha h1).list w h3.1, by omega⟩
 refine TP.bind (PP.lft (pp_want _)) fun _ a3 h3 => ?_
 obtain ⟨rfl, _, hz⟩ := h3
 have hc := (Cx.ty w ha h1).step w hz
 refine TP.bind (h.val _ hc.inn) fun v a4 h4 => ?_
 have l4 := h4.lt
 refine TP.bind (PP.lft (pp_want _)) fun _ a5 h5 => ?_
 obtain ⟨rfl, _, hz5⟩ := h5
 exact TP.ret ⟨y, 31, nText y, a2, rfl, h1, by omega, (hc.kid w h4).step w hz5, by omega⟩
theorem s_kept (w : WS T K) (h : VK T K p) {a : Int} (ha : In K a) (hz : Nz K a) (s : Str) : TP (tKept T K p (tokAt K a) s) a fun t a' => Sp T K a a' t := by
 have hc1 := (Cx.nil (T := T) ha).step w hz
 have i1 := w.succ ha hz
 refine TP.bif (fun _ => s_lit w ha hz wd_nodV) fun _ => TP.bif (fun _ => s_lit w ha hz wd_nodV) fun _ => TP.bif (fun _ => s_lit w ha hz wd_nodV) fun _ => TP.bif (fun _ => s_lit w ha hz wd_nodV) fun _ => TP.bif (fun _ => s_lit w ha hz wd_nodV) fun _ => ?_
 refine TP.bif (fun _ => TP.bind (PP.lft (pp_skip hz)) fun _ a1 h1 => ?_) fun _ => TP.bif (fun _ => TP.bind (PP.lft (pp_skip hz)) fun _ a1 h1 => ?_) fun _ => TP.bif (fun _ => TP.bind (PP.lft (pp_skip hz)) fun _ a1 h1 => ?_) fun _ => TP.bif (fun _ => TP.bind (PP.lft (pp_skip hz)) fun _ a1 h1 => ?_) fun _ => TP.flt
 ·obtain ⟨rfl, _⟩ := h1
  refine TP.bind (PP.lft (pp_want _)) fun _ a2 h2 => ?_
  obtain ⟨rfl, _, hz2⟩ := h2
  refine TP.bind (PP.lft (pp_want _)) fun _ a3 h3 => ?_
  obtain ⟨rfl, _, hz3⟩ := h3
  exact tp_sp (α := Unit) (tp_add w ((hc1.step w hz2).step w hz3) (by omega) wd_nod)
 ·obtain ⟨rfl, _⟩ := h1
  refine TP.bind (s_bracket w h _ i1) fun x a2 h2 => ?_
  have := h2.lt
  exact tp_sp (α := Unit) (tp_add w (hc1.kid w h2) (by omega) wd_nod)
 ·obtain ⟨rfl, _⟩ := h1
  refine TP.bind (PP.lft (pp_want _)) fun _ a2 h2 => ?_
  obtain ⟨rfl, _, hz2⟩ := h2
  have hc2 := hc1.step w hz2
  refine TP.bind (PP.lft (pp_typed w _ hc2.inn)) fun y a3 h3 => ?_
  have l3 := h3.lt
  have hc3 := hc2.list w (Cx.ty w hc2.inn h3)
  refine TP.bind (PP.lft (pp_want _)) fun _ a4 h4 => ?_
  obtain ⟨rfl, _, hz4⟩ := h4
  have hc4 := hc3.step w hz4
  refine TP.bind (s_bracket w h _ hc4.inn) fun x a5 h5 => ?_
  have l5 := h5.lt
  exact tp_sp (α := Unit) (tp_add w (hc4.kid w h5) (by omega) (wd_ty w h3 ha.1 (by omega) (by omega) h5.inn))
 ·obtain ⟨rfl, _⟩ := h1
  refine TP.bind (s_made w h i1) fun x a2 h2 => ?_
  obtain ⟨y, k, s, c, e, q1, q2, q3, q4⟩ := h2
  rw [e]
  exact tp_sp (α := Unit) (tp_add w (hc1.list w q3) (by omega) (wd_ty w q1 ha.1 (by omega) q2 q3.inn))
theorem s_primary (w : WS T K) (h : VK T K p) : VP T K (tPrimary T K p) := fun a ha => by
 refine TP.bind (PP.lft pp_next) fun t a1 h1 => ?_
 obtain ⟨rfl, rfl⟩ := h1
 refine TP.bif (fun hk => s_lit w ha (nz_of hk (by decide)) wd_nodV) fun _ => TP.bif (fun hk => s_lit w ha (nz_of hk (by decide)) wd_nodV) fun _ => TP.bif (fun hk => s_lit w ha (nz_of hk (by decide)) wd_nodV) fun _ => ?_
 exact TP.bif (fun _ => TP.bif (fun _ => s_bracket w h _ ha) fun _ => TP.flt) fun _ => TP.bif (fun hk => TP.bif (fun _ => s_lit w ha (nz_of hk (by decide)) wd_nodV) fun _ => s_kept w h ha (nz_of hk (by decide)) _) fun _ => TP.flt
theorem take_cx {a0 a a1 : Int} {ks : List Tn} {b : Bool} (w : WS T K) (hc : Cx T K a0 a ks) (h : (b = true ∧ a1 = a + 1 ∧ Nz K a) ∨ (b = false ∧ a1 = a)) : Cx T K a0 a1 ks ∧ a ≤ a1 := by
 rcases h with ⟨_, rfl, hz⟩ | ⟨_, rfl⟩
 ·exact ⟨hc.step w hz, by omega⟩
 ·exact ⟨hc, Int.le_refl _⟩
theorem s_part (w : WS T K) (h : VK T K p) {a0 a : Int} {x : Tn} (hx : Cx T K a0 a [x]) (hl : a0 < a) : TP (tPart T K p x (tFrom (tokAt K a0))) a fun t a' => Sp T K a0 a' t := by
 refine TP.bind (PP.lft (pp_take _)) fun b a1 h1 => ?_
 obtain ⟨hc1, l1⟩ := take_cx w hx h1
 refine TP.bif (fun _ => tp_sp (α := Unit) (tp_add w hc1 (by omega) wd_nod)) fun _ => TP.bind (PP.lft (pp_take _)) fun b a2 h2 => ?_
 obtain ⟨hc2, l2⟩ := take_cx w hc1 h2
 refine TP.bif (fun _ => tp_sp (α := Unit) (tp_add w hc2 (by omega) wd_nod)) fun _ => TP.bind (PP.lft pp_name) fun s a3 h3 => ?_
 obtain ⟨rfl, hz3, _⟩ := h3
 have hc3 := hc2.step w hz3
 refine TP.bind (PP.lft (pp_is _)) fun b a4 h4 => ?_
 obtain ⟨rfl, _⟩ := h4
 refine TP.bif (fun _ => TP.bind (s_args w h hc3.inn) fun l a5 h5 => ?_) fun _ => tp_sp (α := Unit) (tp_add w hc3 (by omega) wd_nod)
 have l5 := h5.2
 exact tp_sp (α := Unit) (tp_add w (ks := [x] ++ l) (hc3.list w h5.1) (by omega) wd_nod)
theorem s_behindL (w : WS T K) (h : VK T K p) {a0 : Int} (h0 : 0 ≤ a0) : ∀ (n : Nat) (a : Int) (x : Tn), Sp T K a0 a x → TP (tBehindL T K p (tFrom (tokAt K a0)) n x) a fun t a' => Sp T K a0 a' t
 | 0, _, _, _ => TP.bad
 | n + 1, a, x, hx => by
  have lx := hx.lt
  have hc := Cx.one h0 hx
  refine TP.bind (PP.lft (pp_take _)) fun b a1 h1 => ?_
  obtain ⟨hc1, l1⟩ := take_cx w hc h1
  refine TP.bif (fun _ => TP.bind (tp_add w hc1 (by omega) wd_nod) fun y a2 h2 => ?_) fun hb => ?_
  ·obtain ⟨rfl, h2⟩ := h2
   exact s_behindL w h h0 n _ _ h2
  have e1 : a1 = a := by
   rcases h1 with ⟨hb', _⟩ | ⟨_, h⟩
   ·rw [hb] at hb'; cases hb'
   ·exact h
  subst e1
  refine TP.bind (PP.lft (pp_take _)) fun b a2 h2 => ?_
  obtain ⟨hc2, l2⟩ := take_cx w hc h2
  refine TP.bif (fun _ => TP.bind (h.val _ hc2.inn) fun y a3 h3 => ?_) fun hb2 => ?_
  ·have l3 := h3.lt
   refine TP.bind (PP.lft (pp_want _)) fun _ a4 h4 => ?_
   obtain ⟨rfl, _, hz4⟩ := h4
   refine TP.bind (tp_add w (ks := [x] ++ [y]) ((hc2.kid w h3).step w hz4) (by omega) wd_nod) fun z a5 h5 => ?_
   obtain ⟨rfl, h5⟩ := h5
   exact s_behindL w h h0 n _ _ h5
  have e2 : a2 = a1 := by
   rcases h2 with ⟨hb', _⟩ | ⟨_, h⟩
   ·rw [hb2] at hb'; cases hb'
   ·exact h
  subst e2
  refine TP.bind (PP.lft (pp_take _)) fun b a3 h3 => ?_
  obtain ⟨hc3, l3⟩ := take_cx w hc h3
  refine TP.bif (fun _ => TP.bind (s_part w h hc3 (by omega)) fun y a4 h4 => s_behindL w h h0 n _ _ h4) fun hb3 => ?_
  have e3 : a3 = a2 := by
   rcases h3 with ⟨hb', _⟩ | ⟨_, h⟩
   ·rw [hb3] at hb'; cases hb'
   ·exact h
  subst e3
  exact TP.ret hx
theorem s_behind (w : WS T K) (h : VK T K p) : VP T K (tBehind T K p) := fun a ha => by
 refine TP.bind (PP.lft pp_next) fun t a1 h1 => ?_
 obtain ⟨rfl, rfl⟩ := h1
 exact TP.bind (s_primary w h _ ha) fun x a2 h2 => s_behindL w h ha.1 _ _ _ h2
theorem s_unary (w : WS T K) (h : VK T K p) : VP T K (tUnary T K p) := fun a ha => by
 refine TP.bind (PP.lft pp_next) fun t a1 h1 => ?_
 obtain ⟨rfl, rfl⟩ := h1
 refine TP.bif (fun hk => ?_) fun _ => s_behind w h _ ha
 rw [Bool.and_eq_true] at hk
 have hz : Nz K a1 := nz_of hk.1 (by decide)
 refine TP.bind (PP.lft pp_into) fun _ a2 h2 => ?_
 subst h2
 refine TP.bind (PP.lft (pp_skip hz)) fun _ a3 h3 => ?_
 obtain ⟨rfl, _⟩ := h3
 have hc := (Cx.nil (T := T) ha).step w hz
 refine TP.bind (h.un _ hc.inn) fun x a4 h4 => ?_
 have l4 := h4.lt
 refine TP.bind (PP.lft pp_out) fun _ a5 h5 => ?_
 subst h5
 exact tp_sp (α := Unit) (tp_add w (hc.kid w h4) (by omega) wd_nod)
theorem s_chainL (w : WS T K) {sub : Tm Tn} (hs : VP T K sub) (least : Int) {a0 : Int} (h0 : 0 ≤ a0) : ∀ (n : Nat) (a : Int) (x : Tn), Sp T K a0 a x → TP (tChainL T K least (tFrom (tokAt K a0)) sub n x) a fun t a' => Sp T K a0 a' t
 | 0, _, _, _ => TP.bad
 | n + 1, a, x, hx => by
  have lx := hx.lt
  have hc := Cx.one h0 hx
  refine TP.bind (PP.lft pp_next) fun t a1 h1 => ?_
  obtain ⟨rfl, rfl⟩ := h1
  refine TP.bif (fun hk => ?_) fun _ => TP.bif (fun _ => ?_) fun _ => TP.ret hx
  ·rw [Bool.and_eq_true] at hk
   have hz : Nz K a1 := nz_of hk.1 (by decide)
   refine TP.bind (PP.lft (pp_skip hz)) fun _ a3 h3 => ?_
   obtain ⟨rfl, _⟩ := h3
   have hc2 := hc.step w hz
   refine TP.bind (hs _ hc2.inn) fun y a4 h4 => ?_
   have l4 := h4.lt
   refine TP.bind (tp_add w (ks := [x] ++ [y]) (hc2.kid w h4) (by omega) wd_nod) fun z a5 h5 => ?_
   obtain ⟨rfl, h5⟩ := h5
   exact s_chainL w hs least h0 n _ _ h5
  ·refine TP.bind (PP.lft (pp_take _)) fun b a2 h2 => ?_
   obtain ⟨hc2, l2⟩ := take_cx w hc h2
   refine TP.bif (fun _ => TP.bind (PP.lft (pp_take _)) fun b a3 h3 => ?_) fun hb => ?_
   ·obtain ⟨hc3, l3⟩ := take_cx w hc2 h3
    refine TP.bif (fun _ => TP.bind (tp_add w hc3 (by omega) wd_nod) fun y a4 h4 => ?_) fun _ => TP.bind (PP.lft (pp_want _)) fun _ a4 h4 => ?_
    ·obtain ⟨rfl, h4⟩ := h4
     exact s_chainL w hs least h0 n _ _ h4
    ·obtain ⟨rfl, _, hz4⟩ := h4
     refine TP.bind (tp_add w (hc3.step w hz4) (by omega) wd_nod) fun y a5 h5 => ?_
     obtain ⟨rfl, h5⟩ := h5
     exact s_chainL w hs least h0 n _ _ h5
   ·have e2 : a2 = a1 := by
     rcases h2 with ⟨hb', _⟩ | ⟨_, h⟩
     ·rw [hb] at hb'; cases hb'
     ·exact h
    subst e2
    exact TP.ret hx
theorem s_chain (w : WS T K) (h : VK T K p) : ∀ j : Nat, VP T K (tChain T K p j)
 | 0 => fun a ha => by
  refine TP.bind (PP.lft pp_next) fun t a1 h1 => ?_
  obtain ⟨rfl, rfl⟩ := h1
  exact h.un _ ha
 | j + 1 => fun a ha => by
  refine TP.bind (PP.lft pp_next) fun t a1 h1 => ?_
  obtain ⟨rfl, rfl⟩ := h1
  exact TP.bind (s_chain w h j _ ha) fun x a2 h2 => s_chainL w (s_chain w h j) _ ha.1 _ _ _ h2
theorem s_value (w : WS T K) (h : VK T K p) : VP T K (tValue T K p) := fun a ha => by
 refine TP.bind (PP.lft pp_into) fun _ a2 h2 => ?_
 subst h2
 refine TP.bind (s_chain w h 6 _ ha) fun x a3 h3 => TP.bind (PP.lft pp_out) fun _ a4 h4 => ?_
 subst h4
 exact TP.ret h3
end
end Go.Sx.Tryz
namespace Go.Sx.Tryz
open Go Go.Sx
set_option maxRecDepth 100000
section
variable {T : List UInt8} {K : List Tok} {p : Kt}
def WQ (T : List UInt8) (K : List Tok) (a0 a : Int) (x : (Nd × List Tn) × Bool) : Prop := (x.2 = true → (∃ k, x.1.1 = nod k [] []) ∧ Cx T K a0 a x.1.2 ∧ a0 < a) ∧ (x.2 = false → a = a0)
theorem wq_yes {a0 a k : Int} {ks : List Tn} (h : Cx T K a0 a ks) (hl : a0 < a) : WQ T K a0 a ((nod k [] [], ks), true) := ⟨fun _ => ⟨⟨k, rfl⟩, h, hl⟩, fun h => by cases h⟩
theorem s_word (w : WS T K) (h : VK T K p) {a : Int} (ha : In K a) (hz : Nz K a) (s : Str) : TP (tWord T K p s) a fun x a' => WQ T K a a' x := by
 have hc1 := (Cx.nil (T := T) ha).step w hz
 have i1 := w.succ ha hz
 refine TP.bif (fun _ => TP.bind (PP.lft (pp_skip hz)) fun _ a1 h1 => ?_) fun _ => TP.bif (fun _ => TP.bind (PP.lft (pp_skip hz)) fun _ a1 h1 => ?_) fun _ => TP.bif (fun _ => TP.bind (PP.lft (pp_skip hz)) fun _ a1 h1 => ?_) fun _ => TP.bif (fun _ => TP.bind (PP.lft (pp_skip hz)) fun _ a1 h1 => ?_) fun _ => TP.bif (fun _ => TP.bind (PP.lft (pp_skip hz)) fun _ a1 h1 => ?_) fun _ => TP.bif (fun _ => TP.bind (PP.lft (pp_skip hz)) fun _ a1 h1 => ?_) fun _ => TP.bif (fun _ => TP.bind (PP.lft (pp_skip hz)) fun _ a1 h1 => ?_) fun _ => TP.ret ⟨fun h => (by cases h), fun _ => rfl⟩
 ·obtain ⟨rfl, _⟩ := h1
  refine TP.bind (s_bracket w h _ i1) fun x a2 h2 => ?_
  have l2 := h2.lt
  have hc2 := hc1.kid w h2
  refine TP.bind (h.blk _ hc2.inn) fun y a3 h3 => ?_
  have l3 := h3.lt
  have hc3 := hc2.kid w h3
  refine TP.bind (PP.lft (pp_take _)) fun b a4 h4 => ?_
  obtain ⟨hc4, l4⟩ := take_cx w hc3 h4
  refine TP.bif (fun _ => TP.bind (h.blk _ hc4.inn) fun z a5 h5 => TP.ret ?_) fun _ => TP.ret (wq_yes hc4 (by omega))
  have l5 := h5.lt
  exact wq_yes (hc4.kid w h5) (by omega)
 ·obtain ⟨rfl, _⟩ := h1
  refine TP.bind (s_bracket w h _ i1) fun x a2 h2 => ?_
  have l2 := h2.lt
  have hc2 := hc1.kid w h2
  refine TP.bind (h.blk _ hc2.inn) fun y a3 h3 => ?_
  have l3 := h3.lt
  exact TP.ret (wq_yes (hc2.kid w h3) (by omega))
 ·obtain ⟨rfl, _⟩ := h1
  refine TP.bind (PP.lft (pp_want _)) fun _ a2 h2 => ?_
  obtain ⟨rfl, _, hz2⟩ := h2
  exact TP.ret (wq_yes (hc1.step w hz2) (by omega))
 ·obtain ⟨rfl, _⟩ := h1
  refine TP.bind (PP.lft (pp_want _)) fun _ a2 h2 => ?_
  obtain ⟨rfl, _, hz2⟩ := h2
  exact TP.ret (wq_yes (hc1.step w hz2) (by omega))
 ·obtain ⟨rfl, _⟩ := h1
  refine TP.bind (PP.lft (pp_is _)) fun b a2 h2 => ?_
  obtain ⟨rfl, _⟩ := h2
  refine TP.bif (fun _ => TP.bind (PP.lft (pp_want _)) fun _ a3 h3 => ?_) fun _ => TP.bind (h.val _ i1) fun x a3 h3 => TP.bind (PP.lft (pp_want _)) fun _ a4 h4 => ?_
  ·obtain ⟨rfl, _, hz3⟩ := h3
   exact TP.ret (wq_yes (hc1.step w hz3) (by omega))
  ·have l3 := h3.lt
   obtain ⟨rfl, _, hz4⟩ := h4
   exact TP.ret (wq_yes ((hc1.kid w h3).step w hz4) (by omega))
 ·obtain ⟨rfl, _⟩ := h1
  refine TP.bind (s_bracket w h _ i1) fun x a2 h2 => ?_
  have l2 := h2.lt
  refine TP.bind (PP.lft (pp_want _)) fun _ a3 h3 => ?_
  obtain ⟨rfl, _, hz3⟩ := h3
  exact TP.ret (wq_yes ((hc1.kid w h2).step w hz3) (by omega))
 ·obtain ⟨rfl, _⟩ := h1
  refine TP.bind (s_args w h i1) fun l a2 h2 => ?_
  have l2 := h2.2
  refine TP.bind (PP.lft (pp_want _)) fun _ a3 h3 => ?_
  obtain ⟨rfl, _, hz3⟩ := h3
  exact TP.ret (wq_yes ((hc1.list w h2.1).step w hz3) (by omega))
theorem s_plain (w : WS T K) (h : VK T K p) {a : Int} (ha : In K a) : TP (tPlain T K p (tFrom (tokAt K a))) a fun t a' => Sp T K a a' t := by
 have hc0 := Cx.nil (T := T) ha
 refine TP.bind (h.val _ ha) fun x a1 h1 => ?_
 have l1 := h1.lt
 have hc1 := hc0.kid w h1
 refine TP.bind (PP.lft pp_next) fun t a2 h2 => ?_
 obtain ⟨rfl, rfl⟩ := h2
 refine TP.bind (PP.lft (pp_take _)) fun b a3 h3 => ?_
 obtain ⟨hc3, l3⟩ := take_cx w hc1 h3
 refine TP.bif (fun _ => TP.bif (fun _ => TP.bind (h.val _ hc3.inn) fun y a4 h4 => ?_) fun _ => TP.flt) fun _ => TP.bif (fun _ => TP.bind (PP.lft (pp_want _)) fun _ a4 h4 => ?_) fun _ => TP.flt
 ·have l4 := h4.lt
  refine TP.bind (PP.lft (pp_want _)) fun _ a5 h5 => ?_
  obtain ⟨rfl, _, hz5⟩ := h5
  exact tp_sp (α := Unit) (tp_add w (ks := [x] ++ [y]) ((hc3.kid w h4).step w hz5) (by omega) wd_nod)
 ·obtain ⟨rfl, _, hz4⟩ := h4
  exact tp_sp (α := Unit) (tp_add w (ks := [x]) (hc3.step w hz4) (by omega) wd_nod)
theorem s_stat (w : WS T K) (h : VK T K p) : VP T K (tStat T K p) := fun a ha => by
 refine TP.bind (PP.lft pp_next) fun t a1 h1 => ?_
 obtain ⟨rfl, rfl⟩ := h1
 refine TP.bif (fun _ => h.blk _ ha) fun _ => TP.bind (PP.lft pp_declares) fun b a2 h2 => ?_
 subst h2
 refine TP.bif (fun _ => TP.bind (PP.lft (pp_typed w _ ha)) fun y a3 h3 => ?_) fun _ => TP.bif (fun hk => ?_) fun _ => s_plain w h ha
 ·have l3 := h3.lt
  have hc3 := Cx.ty (T := T) w ha h3
  refine TP.bind (PP.lft pp_name) fun s a4 h4 => ?_
  obtain ⟨rfl, hz4, _⟩ := h4
  have hc4 := hc3.step w hz4
  refine TP.bind (PP.lft (pp_take _)) fun b a5 h5 => ?_
  obtain ⟨hc5, l5⟩ := take_cx w hc4 h5
  refine TP.bif (fun _ => TP.bind (h.val _ hc5.inn) fun x a6 h6 => TP.bind (PP.lft (pp_want _)) fun _ a7 h7 => ?_) fun _ => TP.bind (PP.lft (pp_want _)) fun _ a6 h6 => ?_
  ·have l6 := h6.lt
   obtain ⟨rfl, _, hz7⟩ := h7
   have hc7 := (hc5.kid w h6).step w hz7
   exact tp_sp (α := Unit) (tp_add w (ks := [x]) hc7 (by omega) (wd_ty w h3 ha.1 (by omega) (by omega) hc7.inn))
  ·obtain ⟨rfl, _, hz6⟩ := h6
   have hc6 := hc5.step w hz6
   exact tp_sp (α := Unit) (tp_add w hc6 (by omega) (wd_ty w h3 ha.1 (by omega) (by omega) hc6.inn))
 ·refine TP.bind (s_word w h ha (nz_of hk (by decide)) _) fun x a3 h3 => TP.bif (fun hb => ?_) fun hb => ?_
  ·obtain ⟨⟨k, e⟩, hc, hl⟩ := h3.1 hb
   rw [e]
   exact tp_sp (α := Unit) (tp_add w hc hl wd_nod)
  ·have e := h3.2 hb
   subst e
   exact s_plain w h ha
theorem s_blockL (w : WS T K) (h : VK T K p) {a0 : Int} : ∀ (n : Nat) (a : Int) (ks : List Tn), Cx T K a0 a ks → TP (tBlockL T K p (tFrom (tokAt K a0)) n ks) a fun t a' => Sp T K a0 a' t
 | 0, _, _, _ => TP.bad
 | n + 1, a, ks, hc => by
  refine TP.bind (PP.lft (pp_is _)) fun b a1 h1 => ?_
  obtain ⟨rfl, _⟩ := h1
  refine TP.bif (fun _ => TP.bind (PP.lft (pp_want _)) fun _ a2 h2 => ?_) fun _ => TP.bind (s_stat w h _ hc.inn) fun x a2 h2 => s_blockL w h n a2 _ (hc.kid w h2)
  obtain ⟨rfl, _, hz2⟩ := h2
  have hc2 := hc.step w hz2
  have := hc.le
  refine TP.bind (PP.lft pp_out) fun _ a3 h3 => ?_
  subst h3
  exact tp_sp (α := Unit) (tp_add w hc2 (by omega) wd_nod)
theorem s_block (w : WS T K) (h : VK T K p) : VP T K (tBlock T K p) := fun a ha => by
 refine TP.bind (PP.lft pp_next) fun t a1 h1 => ?_
 obtain ⟨rfl, rfl⟩ := h1
 refine TP.bind (PP.lft pp_into) fun _ a2 h2 => ?_
 subst h2
 refine TP.bind (PP.lft (pp_want _)) fun _ a3 h3 => ?_
 obtain ⟨rfl, _, hz⟩ := h3
 exact s_blockL w h _ _ [] ((Cx.nil ha).step w hz)
theorem vk_all (w : WS T K) : ∀ n, VK T K (knt T K n)
 | 0 => ⟨fun _ _ => TP.bad, fun _ _ => TP.bad, fun _ _ => TP.bad⟩
 | n + 1 => ⟨s_value w (vk_all w n), s_block w (vk_all w n), s_unary w (vk_all w n)⟩
theorem s_paramsL (w : WS T K) (a0 : Int) : ∀ (n : Nat) (a : Int) (ks : List Tn), Cx T K a0 a ks → TP (tParamsL T K n ks) a fun ls a' => Cx T K a0 a' ls ∧ a < a'
 | 0, _, _, _ => TP.bad
 | n + 1, a, ks, hc => by
  refine TP.bind (PP.lft (pp_take _)) fun b a1 h1 => ?_
  refine TP.bif (fun hb => TP.ret ?_) fun hb => ?_
  ·rcases h1 with ⟨_, rfl, hz⟩ | ⟨hb', _⟩
   ·exact ⟨hc.step w hz, by omega⟩
   ·rw [hb] at hb'; cases hb'
  ·have e : a1 = a := by
    rcases h1 with ⟨hb', _⟩ | ⟨_, h⟩
    ·rw [hb] at hb'; cases hb'
    ·exact h
   subst e
   refine TP.bind (PP.lft (pp_comma _)) fun _ a2 h2 => ?_
   have hc2 : Cx T K a0 a2 ks ∧ a1 ≤ a2 := by
    rcases h2 with rfl | ⟨rfl, hz⟩
    ·exact ⟨hc, Int.le_refl _⟩
    ·exact ⟨hc.step w hz, by omega⟩
   refine TP.bind (PP.lft pp_few) fun _ a3 h3 => ?_
   subst h3
   have i2 := hc2.1.inn
   refine TP.bind (PP.lft pp_next) fun t a4 h4 => ?_
   obtain ⟨rfl, rfl⟩ := h4
   refine TP.bind (PP.lft (pp_typed w _ i2)) fun y a5 h5 => ?_
   have l5 := h5.lt
   refine TP.bind (PP.lft pp_name) fun s a6 h6 => ?_
   obtain ⟨rfl, hz6, _⟩ := h6
   have hp := (Cx.ty (T := T) w i2 h5).step w hz6
   refine TP.bind (tp_add w hp (by omega) (wd_ty w h5 i2.1 (by omega) (by omega) hp.inn)) fun z a7 h7 => ?_
   obtain ⟨rfl, h7⟩ := h7
   have := h7.lt
   exact (s_paramsL w a0 n _ _ (hc2.1.kid w h7)).mono fun ls a' h => ⟨h.1, by omega⟩
theorem s_params (w : WS T K) {a : Int} (ha : In K a) : TP (tParams T K) a fun ls a' => Cx T K a a' ls ∧ a < a' := by
 refine TP.bind (PP.lft (pp_want _)) fun _ a1 h1 => ?_
 obtain ⟨rfl, _, hz⟩ := h1
 exact (s_paramsL w _ _ _ [] ((Cx.nil ha).step w hz)).mono fun ls a' h => ⟨h.1, by omega⟩
theorem s_member (w : WS T K) (h : VK T K p) : VP T K (tMember T K p) := fun a ha => by
 refine TP.bind (PP.lft pp_next) fun t a1 h1 => ?_
 obtain ⟨rfl, rfl⟩ := h1
 refine TP.bif (fun hk => ?_) fun _ => TP.bind (PP.lft (pp_typed w _ ha)) fun y a3 h3 => ?_
 ·rw [Bool.and_eq_true] at hk
  have hz : Nz K a1 := nz_of hk.1 (by decide)
  have hc1 := (Cx.nil (T := T) ha).step w hz
  refine TP.bind (PP.lft (pp_skip hz)) fun _ a2 h2 => ?_
  obtain ⟨rfl, _⟩ := h2
  refine TP.bind (s_params w hc1.inn) fun l a3 h3 => ?_
  have l3 := h3.2
  have hc3 := hc1.list w h3.1
  refine TP.bind (h.blk _ hc3.inn) fun b a4 h4 => ?_
  have l4 := h4.lt
  exact tp_sp (α := Unit) (tp_add w (ks := l ++ [b]) (hc3.kid w h4) (by omega) wd_nod)
 ·have l3 := h3.lt
  have hc3 := Cx.ty (T := T) w ha h3
  refine TP.bind (PP.lft pp_name) fun s a4 h4 => ?_
  obtain ⟨rfl, hz4, _⟩ := h4
  have hc4 := hc3.step w hz4
  refine TP.bind (PP.lft (pp_is _)) fun b a5 h5 => ?_
  obtain ⟨rfl, _⟩ := h5
  refine TP.bif (fun _ => TP.bind (s_params w hc4.inn) fun l a6 h6 => ?_) fun _ => TP.bif (fun _ => TP.flt) fun _ => TP.bind (PP.lft (pp_want _)) fun _ a6 h6 => ?_
  ·have l6 := h6.2
   have hc6 := hc4.list w h6.1
   refine TP.bind (h.blk _ hc6.inn) fun b a7 h7 => ?_
   have l7 := h7.lt
   have hc7 := hc6.kid w h7
   exact tp_sp (α := Unit) (tp_add w (ks := l ++ [b]) hc7 (by omega) (wd_ty w h3 ha.1 (by omega) (by omega) hc7.inn))
  ·obtain ⟨rfl, _, hz6⟩ := h6
   have hc6 := hc4.step w hz6
   exact tp_sp (α := Unit) (tp_add w hc6 (by omega) (wd_ty w h3 ha.1 (by omega) (by omega) hc6.inn))
theorem s_classL (w : WS T K) (h : VK T K p) {a0 : Int} (s : Str) : ∀ (n : Nat) (a : Int) (ks : List Tn), Cx T K a0 a ks → TP (tClassL T K p (tFrom (tokAt K a0)) s n ks) a fun t a' => Sp T K a0 a' t
 | 0, _, _, _ => TP.bad
 | n + 1, a, ks, hc => by
  refine TP.bind (PP.lft (pp_is _)) fun b a1 h1 => ?_
  obtain ⟨rfl, _⟩ := h1
  refine TP.bif (fun _ => TP.bind (PP.lft (pp_want _)) fun _ a2 h2 => ?_) fun _ => TP.bind (PP.lft pp_few) fun _ a2 h2 => ?_
  ·obtain ⟨rfl, _, hz2⟩ := h2
   have := hc.le
   exact tp_sp (α := Unit) (tp_add w (hc.step w hz2) (by omega) wd_nod)
  ·subst h2
   exact TP.bind (s_member w h _ hc.inn) fun x a2 h2 => s_classL w h s n a2 _ (hc.kid w h2)
theorem s_class (w : WS T K) (h : VK T K p) : VP T K (tClass T K p) := fun a ha => by
 refine TP.bind (PP.lft pp_next) fun t a1 h1 => ?_
 obtain ⟨rfl, rfl⟩ := h1
 refine TP.bind (PP.lft (pp_want _)) fun _ a2 h2 => ?_
 obtain ⟨rfl, _, hz⟩ := h2
 have hc1 := (Cx.nil (T := T) ha).step w hz
 refine TP.bind (PP.lft pp_name) fun s a3 h3 => ?_
 obtain ⟨rfl, hz3, _⟩ := h3
 have hc3 := hc1.step w hz3
 refine TP.bind (PP.lft pp_next) fun u a4 h4 => ?_
 obtain ⟨rfl, rfl⟩ := h4
 refine TP.bind (PP.lft (pp_take _)) fun b a5 h5 => ?_
 refine TP.bif (fun hb => TP.bind (PP.lft pp_name) fun e a6 h6 => ?_) fun hb => TP.bind (PP.lft (pp_want _)) fun _ a6 h6 => ?_
 ·obtain ⟨rfl, hz6, _⟩ := h6
  have hz5 : Nz K (a1 + 1 + 1) ∧ a5 = a1 + 1 + 1 + 1 := by
   rcases h5 with ⟨_, e, hz⟩ | ⟨hb', _⟩
   ·exact ⟨hz, e⟩
   ·rw [hb] at hb'; cases hb'
  obtain ⟨hz5, rfl⟩ := hz5
  have hq := ((Cx.nil (T := T) hc3.inn).step w hz5).step w hz6
  refine TP.bind (tp_add w hq (by omega) wd_nod) fun y a7 h7 => ?_
  obtain ⟨rfl, h7⟩ := h7
  have hc7 := hc3.kid w h7
  refine TP.bind (PP.lft (pp_want _)) fun _ a8 h8 => ?_
  obtain ⟨rfl, _, hz8⟩ := h8
  exact s_classL w h _ _ _ _ (hc7.step w hz8)
 ·obtain ⟨hc5, _⟩ := take_cx w hc3 h5
  obtain ⟨rfl, _, hz6⟩ := h6
  exact s_classL w h _ _ _ _ (hc5.step w hz6)
theorem s_programL (w : WS T K) (h : VK T K p) : ∀ (n : Nat) (a : Int) (ks : List Tn), Cx T K 0 a ks → TP (tProgramL T K p n ks) a fun t _ => Gs T t
 | 0, _, _, _ => TP.bad
 | n + 1, a, ks, hc => by
  refine TP.bind (PP.lft pp_next) fun t a1 h1 => ?_
  obtain ⟨rfl, rfl⟩ := h1
  refine TP.bif (fun _ => fun d m => ?_) fun _ => TP.bind (PP.lft pp_few) fun _ a2 h2 => ?_
  ·unfold tAdd
   cases decide ((m : Int) ≥ 8192)
   ·show Gs T (.mk (spanned (nod 1 [] []) 0 (lastTo K a1 0)) ks)
    have hi := hc.inn
    have hle := hc.le
    have key : 0 ≤ lastTo K a1 0 ∧ lastTo K a1 0 ≤ T.length ∧ OrdE 0 ks (lastTo K a1 0) := by
     by_cases h0 : a1 = 0
     ·have e : lastTo K a1 0 = 0 := by
       unfold lastTo
       rw [decide_eq_false (by omega : ¬ a1 > 0)]
       rfl
      rw [e]
      refine ⟨Int.le_refl _, by omega, ?_⟩
      rcases hc.ord with e2 | ⟨h2, _⟩
      ·subst e2
       exact Int.le_refl _
      ·omega
     ·have hz := nz_lt w (a := a1 - 1) (by omega) (by omega) hi
      have h2 := w.lt (a1 - 1) (by omega) (by have := hi.2; omega) hz
      have h3 := w.wf.span (a1 - 1) (by omega) (by have := hi.2; omega)
      have e : lastTo K a1 0 = tTo (tokAt K (a1 - 1)) := by
       unfold lastTo
       rw [decide_eq_true (by omega : a1 > 0), decide_eq_true (by omega : 0 < tTo (tokAt K (a1 - 1)))]
       rfl
      rw [e]
      refine ⟨by omega, h3.2.2, ?_⟩
      rcases hc.ord with e2 | ⟨_, h4⟩
      ·subst e2
       show (0 : Int) ≤ _
       omega
      ·have h5 := w.wf.span 0 (by omega) (by have := w.wf.pos; omega)
       exact OrdE.app (ks := []) (e := 0) (Int.le_refl _) h5.1 h4
    unfold Gs
    exact ⟨⟨Int.le_refl _, key.1, key.2.1⟩, key.2.2, wd_nod, hc.gs⟩
   ·trivial
  ·subst h2
   exact TP.bind (s_class w h _ hc.inn) fun x a2 h2 => s_programL w h n a2 _ (hc.kid w h2)
end
def parseT (T : List UInt8) : TR Tn := tProgram T (lexK T) (knt T (lexK T) deepK) 0 0 0
theorem parse_tree (T : List UInt8) : RX [] eU gT (parseP T) (parseT T) := H_program (hk_all T (lexK T) deepK) 0 0 [] 0 rfl
theorem parse_gs {T : List UInt8} (h : lexC T = 0) {t : Tn} {a d : Int} {n : Nat} (ht : parseT T = .ok t a d n) : Gs T t := by
 have w := lex_ws h
 have h0 : In (lexK T) 0 := ⟨Int.le_refl _, by have := w.wf.pos; omega⟩
 have := s_programL w (vk_all w deepK) ((lexK T).length + 2) 0 [] (Cx.nil h0) 0 0
 have e : tProgramL T (lexK T) (knt T (lexK T) deepK) ((lexK T).length + 2) [] 0 0 0 = .ok t a d n := ht
 rw [e] at this
 exact this
end Go.Sx.Tryz
namespace Go.Sx.Tryz
open Go Go.Sx Go.Proofs
set_option maxRecDepth 100000
def g9 : List AV → Bool × AV
 | [] => (true, .bool true)
 | _ => (false, .nili)
theorem d9 {w0 : World} (t : TabsW w0) : IntrOne Tryz.prog (GW w0) 9 (detI 9 g9) := detI_ok fun args h => by
 unfold g9 at h ⊢
 split at h
 ·exact reads_SA t
 ·cases h
def tlP (x : Dens sigSS) : Bool := x.2.1 == [32, 9, 13, 10]
def tlX (x : Dens sigSS) : Dens sigS := (tlS x.1, ())
def lib4 : List (Nat × Intr) := [(9, detI 9 g9), (10, parseC), (12, specI 12 sigSS sigB (fun _ => true) hpX), (13, specI 13 sigSS sigS tlP tlX), (14, specI 14 sigSS sigB conP conX)]
def cut4 : List Cut := [⟨[true, true, true, true, true, false, true, false, false], some ⟨[(0, []), (3, []), (27, [.sl nodeTy]), (28, []), (29, [])], [[]]⟩⟩,
 ⟨[true, true, true, true, true, false, true, false, false, true, true, false, false, true, true, true, false, true, false, false], some ⟨[(0, []), (3, []), (6, []), (7, []), (27, [.sl nodeTy]), (28, []), (29, []), (58, [.sl (.int .i64)]), (59, []), (60, [])], [[], []]⟩⟩,
 ⟨[true, true, true, true, true, false, true, false, false, true, true, false, false, true, true, true, true, true, true, true, true, false, false], some ⟨[(0, []), (3, []), (6, []), (7, []), (27, [.sl nodeTy]), (28, []), (29, []), (125, [.sl (.int .i64)]), (126, []), (127, [])], [[], []]⟩⟩]
def ndC (x : Nd) : List AV := [.int .i64 (nKind x), .int .i64 (nAt x), .int .i64 (nTo x), .sl (.int .i64) (nKids x), .str (nText x), .int .i64 (nBase x), .str (nName x), .int .i64 (nDims x), .str (nMarks x), .int .i64 (nN x), .int .i64 (nW1 x), .int .i64 (nW2 x), .sl (.int .i64) (nEnds x)]
def mk4a (T : List UInt8) (L : List Nd) (r l i : Int) : St := { tmps := [(0, .str T), (3, .ref 0 0), (27, .sl nodeTy L), (28, .int .i64 l), (29, .int .i64 i)], blks := [(0, .cells 25 (trC L r))], next := 1 }
def mk4b (T : List UInt8) (L : List Nd) (r l i : Int) (x : Nd) (at_ : Int) (K : List Int) (m k : Int) : St := { tmps := [(0, .str T), (3, .ref 0 0), (6, .ref 1 0), (7, .int .i64 at_), (27, .sl nodeTy L), (28, .int .i64 l), (29, .int .i64 i), (58, .sl (.int .i64) K), (59, .int .i64 m), (60, .int .i64 k)], blks := [(0, .cells 25 (trC L r)), (1, .cells 37 (ndC x))], next := 2 }
def mk4c (T : List UInt8) (L : List Nd) (r l i : Int) (x : Nd) (at_ : Int) (K : List Int) (m k : Int) : St := { tmps := [(0, .str T), (3, .ref 0 0), (6, .ref 1 0), (7, .int .i64 at_), (27, .sl nodeTy L), (28, .int .i64 l), (29, .int .i64 i), (125, .sl (.int .i64) K), (126, .int .i64 m), (127, .int .i64 k)], blks := [(0, .cells 25 (trC L r)), (1, .cells 37 (ndC x))], next := 2 }
theorem start4 (J : Jump R0) (T : List UInt8) : start (R := R0) E (tabI lib4) fi4 cut4 J [.str T] [] .ok = bif decide ((T.length : Int) > 2000) then .ok (.ret (.bool true), []) else bif (parseS T).2.1.1 != 0 then .ok (.ret (.bool true), []) else J 0 (mk4a T (parseS T).1.1 (parseS T).1.2.1 (parseS T).1.1.length 0) := by kernel_rfl
theorem loop4a (J : Jump R0) (T : List UInt8) (L : List Nd) (r l i : Int) : resume (R := R0) E (tabI lib4) (cutsOf 0 cut4 0) J [true, true, true, true, true, false, true, false, false] fi4.code 1 (mk4a T L r l i) (finK E 0 fi4.results .ok) = bif decide (i < l) then bif inI i L.length then bif decide (nAt (getN L i.toNat) < 0) then .ok (.ret (.bool false), []) else bif decide (nTo (getN L i.toNat) < nAt (getN L i.toNat)) then .ok (.ret (.bool false), []) else bif decide (nTo (getN L i.toNat) > (T.length : Int)) then .ok (.ret (.bool false), []) else J 1 (mk4b T L r l i (getN L i.toNat) (nAt (getN L i.toNat)) (nKids (getN L i.toNat)) (nKids (getN L i.toNat)).length 0) else .err 1000 else .ok (.ret (.bool true), []) := by kernel_rfl
theorem loop4b (J : Jump R0) (T : List UInt8) (L : List Nd) (r l i : Int) (x : Nd) (at_ : Int) (K : List Int) (m k : Int) : resume (R := R0) E (tabI lib4) (cutsOf 0 cut4 0) J [true, true, true, true, true, false, true, false, false, true, true, false, false, true, true, true, false, true, false, false] fi4.code 1 (mk4b T L r l i x at_ K m k) (finK E 0 fi4.results .ok) = bif decide (k < m) then bif inI k K.length then bif inI (getI K k.toNat) L.length then bif decide (nAt (getN L (getI K k.toNat).toNat) < at_) then .ok (.ret (.bool false), []) else bif decide (nTo (getN L (getI K k.toNat).toNat) > nTo x) then .ok (.ret (.bool false), []) else J 1 (mk4b T L r l i x (nTo (getN L (getI K k.toNat).toNat)) K m (IntKind.wrap .i64 (k + 1))) else .err 1703 else .err 1600 else bif nBase x == 0 && (nName x == [] && (nDims x == 0 && nMarks x == [])) then bif decide (((nEnds x).length : Int) > 0) then .ok (.ret (.bool false), []) else J 0 (mk4a T L r l (IntKind.wrap .i64 (i + 1))) else bif decide (nW1 x < nAt x) then .ok (.ret (.bool false), []) else bif decide (nW2 x > nTo x) then .ok (.ret (.bool false), []) else bif ((nEnds x).length : Int) != IntKind.wrap .i64 (nDims x + 1) then .ok (.ret (.bool false), []) else J 2 (mk4c T L r l i x (nW1 x) (nEnds x) (nEnds x).length 0) := by kernel_rfl
def cutT (T : List UInt8) (e : Int) : List UInt8 := (T.take (T.length : Int).toNat).drop e.toNat
theorem loop4c (J : Jump R0) (T : List UInt8) (L : List Nd) (r l i : Int) (x : Nd) (at_ : Int) (K : List Int) (m k : Int) : resume (R := R0) E (tabI lib4) (cutsOf 0 cut4 0) J [true, true, true, true, true, false, true, false, false, true, true, false, false, true, true, true, true, true, true, true, true, false, false] fi4.code 1 (mk4c T L r l i x at_ K m k) (finK E 0 fi4.results .ok) = bif decide (k < m) then bif inI k K.length then bif decide (getI K k.toNat ≤ at_) then .ok (.ret (.bool false), []) else bif decide (getI K k.toNat > nW2 x) then .ok (.ret (.bool false), []) else bif inI k (nMarks x).length then bif ((((nMarks x).getD k.toNat 0).toNat : Nat) : Int) == 63 then bif inB (getI K k.toNat) (T.length : Int) T.length then bif !Lib.hasPrefix (tlS (cutT T (getI K k.toNat))) [63] then bif inB (getI K k.toNat) (T.length : Int) T.length then bif conP (cutT T (getI K k.toNat), [47, 47], ()) then bif !Lib.contains (cutT T (getI K k.toNat)) [47, 47] then .ok (.ret (.bool false), []) else J 2 (mk4c T L r l i x (getI K k.toNat) K m (IntKind.wrap .i64 (k + 1))) else .err 3000014 else .err 3128 else J 2 (mk4c T L r l i x (getI K k.toNat) K m (IntKind.wrap .i64 (k + 1))) else .err 3120 else J 2 (mk4c T L r l i x (getI K k.toNat) K m (IntKind.wrap .i64 (k + 1))) else .err 3115 else .err 3001 else J 0 (mk4a T L r l (IntKind.wrap .i64 (i + 1))) := by kernel_rfl
end Go.Sx.Tryz
namespace Go.Sx.Tryz
theorem bt {α : Type} {b : Bool} {x y : α} (h : b = true) : (bif b then x else y) = x := by rw [h]; rfl
theorem bn {α : Type} {b : Bool} {x y : α} (h : b = false) : (bif b then x else y) = y := by rw [h]; rfl
end Go.Sx.Tryz
