/- A part of the proof: see the row's text. -/
import Derived.Test.YtaklpoiaicepoaaGreatDoorZa25
set_option linter.unusedVariables false
set_option linter.unusedSimpArgs false
noncomputable section
namespace Go.Sx.Tryz
open Go Go.Sx
set_option maxRecDepth 100000
inductive Tn where
 | mk (x : Nd) (ks : List Tn)
def setK (x : Nd) (l : List Int) : Nd := mkN (nKind x) (nAt x) (nTo x) l (nText x) (nBase x) (nName x) (nDims x) (nMarks x) (nN x) (nW1 x) (nW2 x) (nEnds x)
mutual
def Tn.size : Tn → Nat
 | .mk _ ks => Tn.sizes ks + 1
def Tn.sizes : List Tn → Nat
 | [] => 0
 | t :: ts => t.size + Tn.sizes ts
end
def roots : Nat → List Tn → List Int
 | _, [] => []
 | o, t :: ts => (((o + t.size : Nat) : Int) - 1) :: roots (o + t.size) ts
mutual
def Tn.flat : Nat → Tn → List Nd
 | o, .mk x ks => Tn.flats o ks ++ [setK x (roots o ks)]
def Tn.flats : Nat → List Tn → List Nd
 | _, [] => []
 | o, t :: ts => t.flat o ++ Tn.flats (o + t.size) ts
end
mutual
theorem Tn.flat_len : ∀ (o : Nat) (t : Tn), (t.flat o).length = t.size
 | o, .mk x ks => by
  unfold Tn.flat Tn.size
  rw [List.length_append, Tn.flats_len o ks]
  rfl
theorem Tn.flats_len : ∀ (o : Nat) (ts : List Tn), (Tn.flats o ts).length = Tn.sizes ts
 | _, [] => rfl
 | o, t :: ts => by
  unfold Tn.flats Tn.sizes
  rw [List.length_append, Tn.flat_len o t, Tn.flats_len _ ts]
end
theorem Tn.flats_app : ∀ (o : Nat) (a b : List Tn), Tn.flats o (a ++ b) = Tn.flats o a ++ Tn.flats (o + Tn.sizes a) b
 | o, [], b => by simp [Tn.flats, Tn.sizes]
 | o, t :: a, b => by
  show Tn.flats o (t :: (a ++ b)) = _
  rw [Tn.flats, Tn.flats_app _ a b, Tn.flats, Tn.sizes, List.append_assoc, Nat.add_assoc]
theorem roots_app : ∀ (o : Nat) (a b : List Tn), roots o (a ++ b) = roots o a ++ roots (o + Tn.sizes a) b
 | o, [], b => by simp [roots, Tn.sizes]
 | o, t :: a, b => by
  show roots o (t :: (a ++ b)) = _
  rw [roots, roots_app _ a b, roots, Tn.sizes, Nat.add_assoc]
  rfl
theorem roots_len : ∀ (o : Nat) (a : List Tn), (roots o a).length = a.length
 | _, [] => rfl
 | o, t :: a => by simp [roots, roots_len _ a]
theorem Tn.flats_one (o : Nat) (t : Tn) : Tn.flats o [t] = t.flat o := by simp [Tn.flats]
theorem Tn.sizes_one (t : Tn) : Tn.sizes [t] = t.size := by simp [Tn.sizes]
def Tn.data : Tn → Nd
 | .mk x _ => x
def Tn.kids : Tn → List Tn
 | .mk _ ks => ks
inductive TR (α : Type) where
 | ok (y : α) (a d : Int) (n : Nat)
 | fault (c p : Int)
 | bad
def TR.bind {α β : Type} (r : TR α) (k : α → Int → Int → Nat → TR β) : TR β := match r with
 | .ok y a d n => k y a d n
 | .fault c p => .fault c p
 | .bad => .bad
abbrev Tm (α : Type) : Type := Int → Int → Nat → TR α
def Tm.bind {α β : Type} (m : Tm α) (k : α → Tm β) : Tm β := fun a d n => (m a d n).bind fun y a d n => k y a d n
def Tm.ret {α : Type} (y : α) : Tm α := fun a d n => .ok y a d n
def Tm.flt {α : Type} (c p : Int) : Tm α := fun _ _ _ => .fault c p
def Tm.bad {α : Type} : Tm α := fun _ _ _ => .bad
def lft {α : Type} (m : Pm α) : Tm α := fun a d n => match m a d [] with
 | .ok y a d _ => .ok y a d n
 | .fault c p => .fault c p
 | .bad => .bad
def Sf (A : List Nd) (ks : List Tn) : List Nd := A ++ Tn.flats A.length ks
theorem Sf_nil (A : List Nd) : Sf A [] = A := by simp [Sf, Tn.flats]
theorem Sf_len (A : List Nd) (ks : List Tn) : (Sf A ks).length = A.length + Tn.sizes ks := by rw [Sf, List.length_append, Tn.flats_len]
theorem Sf_app (A : List Nd) (ks ls : List Tn) : Sf (Sf A ks) ls = Sf A (ks ++ ls) := by
 rw [Sf, Sf_len, Sf, Sf, Tn.flats_app, List.append_assoc]
theorem roots_Sf (A : List Nd) (ks ls : List Tn) : roots A.length (ks ++ ls) = roots A.length ks ++ roots (Sf A ks).length ls := by rw [roots_app, Sf_len]
def RX {α γ : Type} (A : List Nd) (e : Nat → γ → α) (g : γ → List Tn) (r : PR α) (s : TR γ) : Prop := match s with
 | .ok y a d n => n = (Sf A (g y)).length ∧ r = .ok (e A.length y) a d (Sf A (g y))
 | .fault c p => r = .fault c p
 | .bad => r = .bad
def eI {α : Type} : Nat → α → α := fun _ y => y
def gI {α : Type} : α → List Tn := fun _ => []
def eT : Nat → Tn → Int := fun o t => ((o + t.size : Nat) : Int) - 1
def gT : Tn → List Tn := fun t => [t]
def eL : Nat → List Tn → List Int := roots
def gL : List Tn → List Tn := fun l => l
def eM : Nat → Nd × List Tn → Nd := fun o x => setK x.1 (roots o x.2)
def gM : Nd × List Tn → List Tn := fun x => x.2
def H {α γ : Type} (e : Nat → γ → α) (g : γ → List Tn) (c : Pm α) (t : Tm γ) : Prop := ∀ a d A n, n = A.length → RX A e g (c a d A) (t a d n)
def HA {α γ : Type} (A : List Nd) (ks : List Tn) (e : Nat → γ → α) (g : γ → List Tn) (c : Pm α) (t : Tm γ) : Prop := ∀ a d n, n = (Sf A ks).length → RX A e g (c a d (Sf A ks)) (t a d n)
theorem H.of {α γ : Type} {e : Nat → γ → α} {g : γ → List Tn} {c : Pm α} {t : Tm γ} (h : ∀ A, HA A [] e g c t) : H e g c t := fun a d A n hn => by
 have := h A a d n (by rw [Sf_nil]; exact hn)
 rwa [Sf_nil] at this
theorem H.at {α γ : Type} {e : Nat → γ → α} {g : γ → List Tn} {c : Pm α} {t : Tm γ} (h : H e g c t) (A : List Nd) : HA A [] e g c t := fun a d n hn => by
 rw [Sf_nil] at hn ⊢
 exact h a d A n hn
theorem RX.bind {α β γ δ : Type} {A B : List Nd} {e : Nat → γ → α} {g : γ → List Tn} {r : PR α} {s : TR γ} {e' : Nat → δ → β} {g' : δ → List Tn} {k : α → Int → Int → List Nd → PR β} {k' : γ → Int → Int → Nat → TR δ} (h : RX B e g r s)
  (hk : ∀ y a d n, n = (Sf B (g y)).length → RX A e' g' (k (e B.length y) a d (Sf B (g y))) (k' y a d n)) : RX A e' g' (r.bind k) (s.bind k') := by
 cases s with
 | ok y a d n =>
  obtain ⟨h1, h2⟩ := h
  rw [h2]
  exact hk y a d n h1
 | fault c p =>
  have h : r = .fault c p := h
  rw [h]
  exact (rfl : PR.fault c p = PR.fault c p)
 | bad =>
  have h : r = .bad := h
  rw [h]
  exact (rfl : (PR.bad : PR β) = PR.bad)
section
variable {α β γ δ : Type} {A : List Nd} {ks : List Tn} {e : Nat → γ → α} {g : γ → List Tn} {e' : Nat → δ → β} {g' : δ → List Tn}
theorem HA.bind {c : Pm α} {t : Tm γ} {k : α → Pm β} {k' : γ → Tm δ} (h : H e g c t) (hk : ∀ y, HA A (ks ++ g y) e' g' (k (e (Sf A ks).length y)) (k' y)) : HA A ks e' g' (c.bind k) (t.bind k') := fun a d n hn =>
 RX.bind (h a d _ n hn) fun y a d n hn => by
  rw [Sf_app] at hn ⊢
  exact hk y a d n hn
theorem HA.bif {b : Bool} {c c' : Pm α} {t t' : Tm γ} (h : b = true → HA A ks e g c t) (h' : b = false → HA A ks e g c' t') : HA A ks e g (bif b then c else c') (bif b then t else t') := by
 cases b
 ·exact h' rfl
 ·exact h rfl
theorem HA.ret {v : α} {y : γ} (h : v = e A.length y) (h' : g y = ks) : HA A ks e g (.ret v) (.ret y) := fun a d n hn => by
 subst h h'
 exact ⟨hn, rfl⟩
theorem HA.flt {c p : Int} : HA A ks e g (.flt c p : Pm α) (.flt c p : Tm γ) := fun _ _ _ _ => (rfl : (PR.fault c p : PR α) = .fault c p)
theorem HA.bad : HA A ks e g (.bad : Pm α) (.bad : Tm γ) := fun _ _ _ _ => (rfl : (PR.bad : PR α) = .bad)
end
def Fre {α : Type} (m : Pm α) : Prop := ∀ a d A, m a d A = match m a d [] with
 | .ok y a d _ => .ok y a d A
 | .fault c p => .fault c p
 | .bad => .bad
theorem Fre.h {α : Type} {m : Pm α} (h : Fre m) : H eI gI m (lft m) := fun a d A n hn => by
 subst hn
 rw [h a d A]
 unfold lft
 cases m a d [] with
 | ok y a d _ => exact ⟨by rw [gI, Sf_nil], by rw [gI, Sf_nil, eI]⟩
 | fault c p => exact (rfl : PR.fault c p = PR.fault c p)
 | bad => exact (rfl : (PR.bad : PR α) = PR.bad)
theorem HA.free {α β δ : Type} {A : List Nd} {ks : List Tn} {e' : Nat → δ → β} {g' : δ → List Tn} {m : Pm α} {k : α → Pm β} {k' : α → Tm δ} (h : Fre m) (hk : ∀ y, HA A ks e' g' (k y) (k' y)) : HA A ks e' g' (m.bind k) ((lft m).bind k') :=
 HA.bind h.h fun y => by
  have := hk y
  rwa [show ks ++ gI y = ks from List.append_nil ks]
theorem Fre.bind {α β : Type} {m : Pm α} {k : α → Pm β} (h : Fre m) (hk : ∀ y, Fre (k y)) : Fre (m.bind k) := fun a d A => by
 unfold Pm.bind
 rw [h a d A]
 cases m a d [] with
 | ok y a' d' A' =>
  simp only [PR.bind]
  rw [hk y a' d' A, hk y a' d' A']
  cases k y a' d' [] <;> rfl
 | fault c p => rfl
 | bad => rfl
theorem Fre.ret {α : Type} {y : α} : Fre (.ret y : Pm α) := fun _ _ _ => rfl
theorem Fre.flt {α : Type} {c p : Int} : Fre (.flt c p : Pm α) := fun _ _ _ => rfl
theorem Fre.bad {α : Type} : Fre (.bad : Pm α) := fun _ _ _ => rfl
theorem Fre.bif {α : Type} {c : Bool} {m m' : Pm α} (h : Fre m) (h' : Fre m') : Fre (bif c then m else m') := by cases c <;> assumption
section
variable (T : List UInt8) (K : List Tok)
theorem fr_next : Fre (cNext T K) := fun _ _ _ => rfl
theorem fr_ahead (n : Int) : Fre (cAhead T K n) := fun a d A => by
 unfold cAhead
 cases decide (a + n ≥ (K.length : Int)) <;> rfl
theorem fr_skip : Fre (cSkip K) := fun a d A => by
 unfold cSkip
 cases tKind (tokAt K a) != 0 <;> rfl
theorem fr_is (s : Str) : Fre (cIs T K s) := (fr_next T K).bind fun _ => .ret
theorem fr_take (s : Str) : Fre (cTake T K s) := (fr_is T K s).bind fun _ => .bif ((fr_skip K).bind fun _ => .ret) .ret
theorem fr_want (s : Str) : Fre (cWant T K s) := (fr_is T K s).bind fun _ => .bif (fr_skip K) ((fr_next T K).bind fun _ => .flt)
theorem fr_name : Fre (cName T K) := (fr_next T K).bind fun _ => .bif ((fr_skip K).bind fun _ => .ret) .flt
theorem fr_into : Fre (cInto K) := fun a d A => by
 unfold cInto
 cases decide (d + 1 > 60) <;> rfl
theorem fr_out : Fre cOut := fun _ _ _ => rfl
theorem fr_few (n : Int) : Fre (cFew K n) := fun a d A => by
 unfold cFew
 cases decide (n > 64) <;> rfl
theorem fr_base : Fre (cBase T K) := (fr_next T K).bind fun _ => .bif
 (.bif ((fr_skip K).bind fun _ => .ret) (.bif ((fr_skip K).bind fun _ => .ret) (.bif ((fr_skip K).bind fun _ => .ret) (.bif ((fr_skip K).bind fun _ => .ret) (.bif ((fr_skip K).bind fun _ => .ret) .flt))))) .flt
theorem fr_innerL : ∀ (n : Nat) (x : Nd), Fre (cInnerL T K n x)
 | 0, _ => .bad
 | n + 1, x => (fr_next T K).bind fun _ => (fr_is T K _).bind fun _ => .bif (.bif .flt ((fr_skip K).bind fun _ => fr_innerL n _))
  ((fr_ahead T K _).bind fun _ => (fr_is T K _).bind fun _ => .bif (.bif .flt ((fr_skip K).bind fun _ => (fr_skip K).bind fun _ => fr_innerL n _)) .ret)
theorem fr_inner : Fre (cInner T K) := (fr_base T K).bind fun _ => fr_innerL T K _ _
theorem fr_typed (v : Bool) : Fre (cTyped T K v) := (fr_next T K).bind fun _ => .bif
 ((fr_skip K).bind fun _ => (fr_want T K _).bind fun _ => (fr_inner T K).bind fun _ => (fr_want T K _).bind fun _ => .bif .flt .ret)
 (.bif ((fr_skip K).bind fun _ => .ret) (fr_inner T K))
theorem fr_declares : Fre (cDeclares T K) := (fr_ahead T K _).bind fun _ => .bif .ret (.bif ((fr_ahead T K _).bind fun _ => (fr_ahead T K _).bind fun _ => .ret) .ret)
def tAdd (x : Nd) (f : Int) (ks : List Tn) : Tm Tn := fun a d n => bif decide ((n : Int) ≥ 8192) then .fault 2 f else .ok (.mk (spanned x f (lastTo K a f)) ks) a d (n + 1)
variable {K}
theorem add_flat (A : List Nd) (x : Nd) (ks : List Tn) : Sf A [.mk x ks] = Sf A ks ++ [setK x (roots A.length ks)] := by
 rw [Sf, Tn.flats_one, Tn.flat, Sf, List.append_assoc]
theorem HA.add {A : List Nd} {ks : List Tn} {X x : Nd} {f : Int} (hX : X = setK x (roots A.length ks)) : HA A ks eT gT (cAdd K X f) (tAdd K x f ks) := fun a d n hn => by
 subst hX
 unfold cAdd tAdd
 rw [← hn]
 cases decide ((n : Int) ≥ 8192)
 ·refine ⟨?_, ?_⟩
  ·rw [gT, add_flat, List.length_append, ← hn]
   rfl
  ·show PR.ok _ _ _ _ = PR.ok _ _ _ _
   rw [gT, add_flat, eT, hn, Sf_len]
   have : ((A.length + (Tn.mk (spanned x f (lastTo K a f)) ks).size : Nat) : Int) - 1 = ((A.length + Tn.sizes ks : Nat) : Int) := by
    rw [Tn.size]
    omega
   rw [this]
   rfl
 ·exact (rfl : PR.fault 2 f = PR.fault 2 f)
theorem HA.addBind {β δ : Type} {A : List Nd} {ks : List Tn} {e' : Nat → δ → β} {g' : δ → List Tn} {X x : Nd} {f : Int} {k : Int → Pm β} {k' : Tn → Tm δ} (hX : X = setK x (roots A.length ks)) (hk : ∀ z, HA A [z] e' g' (k (eT A.length z)) (k' z)) :
  HA A ks e' g' ((cAdd K X f).bind k) ((tAdd K x f ks).bind k') := fun a d n hn => RX.bind (HA.add hX a d n hn) fun y a d n hn => hk y a d n hn
theorem H.add {X x : Nd} {f : Int} (hX : X = setK x []) : H eT gT (cAdd K X f) (tAdd K x f []) := H.of fun _ => HA.add hX
theorem rt2 (A : List Nd) (x y : Tn) : [eT A.length x, eT (Sf A [x]).length y] = roots A.length [x, y] := by
 rw [Sf_len, Tn.sizes_one]
 rfl
theorem rt3 (A : List Nd) (x y z : Tn) : [eT A.length x, eT (Sf A [x]).length y, eT (Sf A [x, y]).length z] = roots A.length [x, y, z] := by
 have e1 : Tn.sizes [x] = x.size := Tn.sizes_one x
 have e2 : Tn.sizes [x, y] = x.size + y.size := by simp [Tn.sizes]
 rw [Sf_len, Sf_len, e1, e2, ← Nat.add_assoc]
 rfl
theorem rtS (A : List Nd) (ks : List Tn) (y : Tn) : roots A.length ks ++ [eT (Sf A ks).length y] = roots A.length (ks ++ [y]) := by
 rw [roots_Sf]
 rfl
end
end Go.Sx.Tryz
namespace Go.Sx.Tryz
open Go Go.Sx
set_option maxRecDepth 100000
structure Kt where
 val : Tm Tn
 blk : Tm Tn
 un : Tm Tn
section
variable (T : List UInt8) (K : List Tok) (q : Kt)
def tBracket : Tm Tn := (lft (cWant T K [40])).bind fun _ => q.val.bind fun x => (lft (cWant T K [41])).bind fun _ => .ret x
def comma (l : Nat) : Pm Unit := bif decide ((l : Int) > 0) then (cWant T K [44]).bind fun _ => .ret () else .ret ()
def tArgsL : Nat → List Tn → Tm (List Tn)
 | 0, _ => .bad
 | n + 1, L => (lft (cTake T K [41])).bind fun b => bif b then .ret L
  else (lft (comma T K L.length)).bind fun _ => (lft (cFew K ((L.length : Int) + 1))).bind fun _ => q.val.bind fun x => tArgsL n (L ++ [x])
def tArgs : Tm (List Tn) := (lft (cWant T K [40])).bind fun _ => tArgsL T K q (K.length + 2) []
def tLit (x : Nd) (e : Int) : Tm Tn := (lft (cNext T K)).bind fun t => bif e != 0 then .flt e (tFrom t.1) else (lft (cSkip K)).bind fun _ => tAdd K x (tFrom t.1) []
def tMade : Tm (Nd × List Tn) := (lft (cInner T K)).bind fun x => (lft (cIs T K [40])).bind fun b => bif b then
  (bif nBase x != 5 || (decide (nDims x > 0) || !Lib.trimB (nMarks x) 32 == []) then .flt 5 (nW1 x) else (tArgs T K q).bind fun l => .ret (withK x 30 [] (nText x), l))
 else (lft (cWant T K [91])).bind fun _ => q.val.bind fun y => (lft (cWant T K [93])).bind fun _ => .ret (withK x 31 [] (nText x), [y])
def tKept (t : Tok) (s : Str) : Tm Tn :=
 bif s == [116, 114, 117, 101] then tLit T K (nodV 21 1 []) 0
 else bif s == [102, 97, 108, 115, 101] then tLit T K (nodV 21 0 []) 0
 else bif s == [110, 117, 108, 108] then tLit T K (nodV 23 0 []) 0
 else bif s == [110, 111, 110, 101] then tLit T K (nodV 42 0 []) 0
 else bif s == [116, 104, 105, 115] then tLit T K (nodV 24 0 []) 0
 else bif s == [105, 110, 112, 117, 116] then (lft (cSkip K)).bind fun _ => (lft (cWant T K [40])).bind fun _ => (lft (cWant T K [41])).bind fun _ => tAdd K (nod 38 [] []) (tFrom t) []
 else bif isWrap s then (lft (cSkip K)).bind fun _ => (tBracket T K q).bind fun x => tAdd K (nod (wrapK s) [] []) (tFrom t) [x]
 else bif s == [99, 97, 115, 116] then (lft (cSkip K)).bind fun _ => (lft (cWant T K [60])).bind fun _ => (lft (cTyped T K false)).bind fun x => (lft (cWant T K [62])).bind fun _ => (tBracket T K q).bind fun y => tAdd K (withK x 35 [] (nText x)) (tFrom t) [y]
 else bif s == [110, 101, 119] then (lft (cSkip K)).bind fun _ => (tMade T K q).bind fun x => tAdd K x.1 (tFrom t) x.2
 else .flt 80 (tFrom t)
def tPrimary : Tm Tn := (lft (cNext T K)).bind fun t =>
 bif tKind t.1 == 2 then tLit T K (nodV 19 (intS t.2).1 []) (intS t.2).2
 else bif tKind t.1 == 3 then tLit T K (nodV 20 (IntKind.wrap .i64 (fltS t.2).1) t.2) (fltS t.2).2
 else bif tKind t.1 == 4 then tLit T K (nodV 22 0 (unqS t.2).1) (unqS t.2).2
 else bif tKind t.1 == 5 then (bif t.2 == [40] then tBracket T K q else .flt 80 (tFrom t.1))
 else bif tKind t.1 == 1 then (bif nameS t.2 then tLit T K (nodV 25 0 t.2) 0 else tKept T K q t.1 t.2)
 else .flt 80 (tFrom t.1)
def tPart (x : Tn) (f : Int) : Tm Tn := (lft (cTake T K [108, 101, 110, 103, 116, 104])).bind fun b => bif b then tAdd K (nod 28 [] []) f [x]
 else (lft (cTake T K [118, 97, 108])).bind fun b => bif b then tAdd K (nod 45 [] []) f [x]
 else (lft (cName T K)).bind fun s => (lft (cIs T K [40])).bind fun b => bif b then (tArgs T K q).bind fun l => tAdd K (nod 29 [] s) f (x :: l) else tAdd K (nod 26 [] s) f [x]
def tBehindL (f : Int) : Nat → Tn → Tm Tn
 | 0, _ => .bad
 | n + 1, x => (lft (cTake T K [33])).bind fun b => bif b then (tAdd K (nod 40 [] []) f [x]).bind fun y => tBehindL f n y
  else (lft (cTake T K [91])).bind fun b => bif b then q.val.bind fun y => (lft (cWant T K [93])).bind fun _ => (tAdd K (nod 27 [] []) f [x, y]).bind fun y => tBehindL f n y
  else (lft (cTake T K [46])).bind fun b => bif b then (tPart T K q x f).bind fun y => tBehindL f n y
  else .ret x
def tBehind : Tm Tn := (lft (cNext T K)).bind fun t => (tPrimary T K q).bind fun x => tBehindL T K q (tFrom t.1) (K.length + 2) x
def tUnary : Tm Tn := (lft (cNext T K)).bind fun t => bif tKind t.1 == 5 && (t.2 == [33] || t.2 == [45]) then
  ((lft (cInto K)).bind fun _ => (lft (cSkip K)).bind fun _ => q.un.bind fun x => (lft cOut).bind fun _ => tAdd K (nod (bif t.2 == [45] then 32 else 33) [] []) (tFrom t.1) [x])
 else tBehind T K q
def tChainL (least f : Int) (sub : Tm Tn) : Nat → Tn → Tm Tn
 | 0, _ => .bad
 | n + 1, x => (lft (cNext T K)).bind fun t => bif tKind t.1 == 5 && bindsS t.2 == least then
   ((lft (cSkip K)).bind fun _ => sub.bind fun y => (tAdd K (nod 34 [] t.2) f [x, y]).bind fun z => tChainL least f sub n z)
  else bif least == 3 then ((lft (cTake T K [105, 115])).bind fun b => bif b then
    ((lft (cTake T K [115, 111, 109, 101])).bind fun b => bif b then (tAdd K (nod 43 [] []) f [x]).bind fun z => tChainL least f sub n z
     else (lft (cWant T K [110, 111, 110, 101])).bind fun _ => (tAdd K (nod 44 [] []) f [x]).bind fun z => tChainL least f sub n z)
    else .ret x)
  else .ret x
def tChain : Nat → Tm Tn
 | 0 => (lft (cNext T K)).bind fun _ => q.un
 | j + 1 => (lft (cNext T K)).bind fun t => (tChain j).bind fun x => tChainL T K (5 - (j : Int)) (tFrom t.1) (tChain j) (K.length + 2) x
def tValue : Tm Tn := (lft (cInto K)).bind fun _ => (tChain T K q 6).bind fun x => (lft cOut).bind fun _ => .ret x
def tWord (s : Str) : Tm ((Nd × List Tn) × Bool) :=
 bif s == [105, 102] then (lft (cSkip K)).bind fun _ => (tBracket T K q).bind fun x => q.blk.bind fun y => (lft (cTake T K [101, 108, 115, 101])).bind fun b => bif b then q.blk.bind fun z => .ret ((nod 11 [] [], [x, y, z]), true) else .ret ((nod 11 [] [], [x, y]), true)
 else bif s == [119, 104, 105, 108, 101] then (lft (cSkip K)).bind fun _ => (tBracket T K q).bind fun x => q.blk.bind fun y => .ret ((nod 12 [] [], [x, y]), true)
 else bif s == [98, 114, 101, 97, 107] then (lft (cSkip K)).bind fun _ => (lft (cWant T K [59])).bind fun _ => .ret ((nod 13 [] [], []), true)
 else bif s == [99, 111, 110, 116, 105, 110, 117, 101] then (lft (cSkip K)).bind fun _ => (lft (cWant T K [59])).bind fun _ => .ret ((nod 14 [] [], []), true)
 else bif s == [114, 101, 116, 117, 114, 110] then (lft (cSkip K)).bind fun _ => (lft (cIs T K [59])).bind fun b => bif b then (lft (cWant T K [59])).bind fun _ => .ret ((nod 15 [] [], []), true) else q.val.bind fun x => (lft (cWant T K [59])).bind fun _ => .ret ((nod 15 [] [], [x]), true)
 else bif s == [112, 114, 105, 110, 116] then (lft (cSkip K)).bind fun _ => (tBracket T K q).bind fun x => (lft (cWant T K [59])).bind fun _ => .ret ((nod 16 [] [], [x]), true)
 else bif s == [115, 117, 112, 101, 114] then (lft (cSkip K)).bind fun _ => (tArgs T K q).bind fun l => (lft (cWant T K [59])).bind fun _ => .ret ((nod 17 [] [], l), true)
 else .ret ((nod 0 [] [], []), false)
def tPlain (f : Int) : Tm Tn := q.val.bind fun x => (lft (cNext T K)).bind fun t => (lft (cTake T K [61])).bind fun b => bif b then
  (bif nKind x.data == 25 || (nKind x.data == 26 || nKind x.data == 27) then q.val.bind fun y => (lft (cWant T K [59])).bind fun _ => tAdd K (nod 10 [] []) f [x, y] else .flt 132 (tFrom t.1))
 else bif nKind x.data == 29 || nKind x.data == 30 then (lft (cWant T K [59])).bind fun _ => tAdd K (nod 18 [] []) f [x] else .flt 132 f
def tStat : Tm Tn := (lft (cNext T K)).bind fun t => bif tKind t.1 == 5 && t.2 == [123] then q.blk
 else (lft (cDeclares T K)).bind fun b => bif b then
  ((lft (cTyped T K false)).bind fun x => (lft (cName T K)).bind fun s => (lft (cTake T K [61])).bind fun b => bif b then q.val.bind fun y => (lft (cWant T K [59])).bind fun _ => tAdd K (withK x 9 [] s) (tFrom t.1) [y]
   else (lft (cWant T K [59])).bind fun _ => tAdd K (withK x 9 [] s) (tFrom t.1) [])
 else bif tKind t.1 == 1 then (tWord T K q t.2).bind fun w => bif w.2 then tAdd K w.1.1 (tFrom t.1) w.1.2 else tPlain T K q (tFrom t.1)
 else tPlain T K q (tFrom t.1)
def tBlockL (f : Int) : Nat → List Tn → Tm Tn
 | 0, _ => .bad
 | n + 1, L => (lft (cIs T K [125])).bind fun b => bif b then (lft (cWant T K [125])).bind fun _ => (lft cOut).bind fun _ => tAdd K (nod 8 [] []) f L
  else (tStat T K q).bind fun x => tBlockL f n (L ++ [x])
def tBlock : Tm Tn := (lft (cNext T K)).bind fun t => (lft (cInto K)).bind fun _ => (lft (cWant T K [123])).bind fun _ => tBlockL T K q (tFrom t.1) (K.length + 2) []
end
def knt (T : List UInt8) (K : List Tok) : Nat → Kt
 | 0 => ⟨.bad, .bad, .bad⟩
 | n + 1 => ⟨tValue T K (knt T K n), tBlock T K (knt T K n), tUnary T K (knt T K n)⟩
section
variable (T : List UInt8) (K : List Tok) (q : Kt)
def tParamsL : Nat → List Tn → Tm (List Tn)
 | 0, _ => .bad
 | n + 1, L => (lft (cTake T K [41])).bind fun b => bif b then .ret L
  else (lft (comma T K L.length)).bind fun _ => (lft (cFew K ((L.length : Int) + 1))).bind fun _ => (lft (cNext T K)).bind fun t => (lft (cTyped T K false)).bind fun x => (lft (cName T K)).bind fun s => (tAdd K (withK x 7 [] s) (tFrom t.1) []).bind fun y => tParamsL n (L ++ [y])
def tParams : Tm (List Tn) := (lft (cWant T K [40])).bind fun _ => tParamsL T K (K.length + 2) []
def tMember : Tm Tn := (lft (cNext T K)).bind fun t => bif tKind t.1 == 1 && t.2 == [105, 110, 105, 116] then
  ((lft (cSkip K)).bind fun _ => (tParams T K).bind fun l => q.blk.bind fun b => tAdd K (nod 5 [] []) (tFrom t.1) (l ++ [b]))
 else (lft (cTyped T K true)).bind fun x => (lft (cName T K)).bind fun s => (lft (cIs T K [40])).bind fun b => bif b then
   ((tParams T K).bind fun l => q.blk.bind fun b => tAdd K (withK x 6 [] s) (tFrom t.1) (l ++ [b]))
  else bif nBase x == 6 then .flt 80 (tFrom t.1) else (lft (cWant T K [59])).bind fun _ => tAdd K (withK x 4 [] s) (tFrom t.1) []
def tClassL (f : Int) (s : Str) : Nat → List Tn → Tm Tn
 | 0, _ => .bad
 | n + 1, L => (lft (cIs T K [125])).bind fun b => bif b then (lft (cWant T K [125])).bind fun _ => tAdd K (nod 2 [] s) f L
  else (lft (cFew K ((L.length : Int) + 1))).bind fun _ => (tMember T K q).bind fun x => tClassL f s n (L ++ [x])
def tClass : Tm Tn := (lft (cNext T K)).bind fun t => (lft (cWant T K [99, 108, 97, 115, 115])).bind fun _ => (lft (cName T K)).bind fun s => (lft (cNext T K)).bind fun u => (lft (cTake T K [101, 120, 116, 101, 110, 100, 115])).bind fun b => bif b then
  ((lft (cName T K)).bind fun e => (tAdd K (nod 3 [] e) (tFrom u.1) []).bind fun y => (lft (cWant T K [123])).bind fun _ => tClassL T K q (tFrom t.1) s (K.length + 2) [y])
 else (lft (cWant T K [123])).bind fun _ => tClassL T K q (tFrom t.1) s (K.length + 2) []
def tProgramL : Nat → List Tn → Tm Tn
 | 0, _ => .bad
 | n + 1, L => (lft (cNext T K)).bind fun t => bif tKind t.1 == 0 then tAdd K (nod 1 [] []) 0 L
  else (lft (cFew K ((L.length : Int) + 1))).bind fun _ => (tClass T K q).bind fun x => tProgramL n (L ++ [x])
def tProgram : Tm Tn := tProgramL T K q (K.length + 2) []
end
end Go.Sx.Tryz
namespace Go.Sx.Tryz
open Go Go.Sx
set_option maxRecDepth 100000
variable {T : List UInt8} {K : List Tok} {q : Kn} {p : Kt}
structure HK (q : Kn) (p : Kt) : Prop where
 val : H eT gT q.val p.val
 blk : H eT gT q.blk p.blk
 un : H eT gT q.un p.un
theorem fr_comma (l : Nat) : Fre (comma T K l) := .bif ((fr_want T K _).bind fun _ => .ret) .ret
def Ens {α : Type} (m : Pm α) (Q : α → Prop) : Prop := ∀ a d A, match m a d A with
 | .ok y _ _ _ => Q y
 | _ => True
theorem Ens.bind {α β : Type} {m : Pm α} {k : α → Pm β} {Q : α → Prop} {Q' : β → Prop} (h : Ens m Q) (hk : ∀ y, Q y → Ens (k y) Q') : Ens (m.bind k) Q' := fun a d A => by
 have := h a d A
 unfold Pm.bind
 cases e : m a d A with
 | ok y a' d' A' =>
  rw [e] at this
  exact hk y this a' d' A'
 | fault c p => trivial
 | bad => trivial
theorem Ens.any {α : Type} (m : Pm α) : Ens m fun _ => True := fun a d A => by cases m a d A <;> trivial
theorem Ens.ret {α : Type} {y : α} {Q : α → Prop} (h : Q y) : Ens (.ret y : Pm α) Q := fun _ _ _ => h
theorem Ens.flt {α : Type} {c p : Int} {Q : α → Prop} : Ens (.flt c p : Pm α) Q := fun _ _ _ => trivial
theorem Ens.bad {α : Type} {Q : α → Prop} : Ens (.bad : Pm α) Q := fun _ _ _ => trivial
theorem Ens.bif {α : Type} {c : Bool} {m m' : Pm α} {Q : α → Prop} (h : c = true → Ens m Q) (h' : c = false → Ens m' Q) : Ens (bif c then m else m') Q := by
 cases c
 ·exact h' rfl
 ·exact h rfl
theorem Ens.then {α β : Type} {m : Pm α} {k : α → Pm β} {Q' : β → Prop} (hk : ∀ y, Ens (k y) Q') : Ens (m.bind k) Q' := Ens.bind (Ens.any m) fun y _ => hk y
theorem HA.freeQ {α β δ : Type} {A : List Nd} {ks : List Tn} {e' : Nat → δ → β} {g' : δ → List Tn} {m : Pm α} {Q : α → Prop} {k : α → Pm β} {k' : α → Tm δ} (h : Fre m) (hq : Ens m Q) (hk : ∀ y, Q y → HA A ks e' g' (k y) (k' y)) : HA A ks e' g' (m.bind k) ((lft m).bind k') := fun a d n hn => by
 subst hn
 have hq := hq a d []
 show RX A e' g' ((m a d (Sf A ks)).bind _) ((lft m a d _).bind _)
 rw [h a d (Sf A ks)]
 unfold lft
 cases e : m a d [] with
 | ok y a' d' A' =>
  rw [e] at hq
  exact hk y hq a' d' _ rfl
 | fault c p => exact (rfl : (PR.fault c p : PR β) = .fault c p)
 | bad => exact (rfl : (PR.bad : PR β) = .bad)
def TEns {α : Type} (m : Tm α) (Q : α → Prop) : Prop := ∀ a d n, match m a d n with
 | .ok y _ _ _ => Q y
 | _ => True
theorem TEns.bind {α β : Type} {m : Tm α} {k : α → Tm β} {Q : α → Prop} {Q' : β → Prop} (h : TEns m Q) (hk : ∀ y, Q y → TEns (k y) Q') : TEns (m.bind k) Q' := fun a d n => by
 have := h a d n
 unfold Tm.bind
 cases e : m a d n with
 | ok y a' d' n' =>
  rw [e] at this
  exact hk y this a' d' n'
 | fault c p => trivial
 | bad => trivial
theorem TEns.any {α : Type} (m : Tm α) : TEns m fun _ => True := fun a d n => by cases m a d n <;> trivial
theorem TEns.ret {α : Type} {y : α} {Q : α → Prop} (h : Q y) : TEns (.ret y : Tm α) Q := fun _ _ _ => h
theorem TEns.flt {α : Type} {c p : Int} {Q : α → Prop} : TEns (.flt c p : Tm α) Q := fun _ _ _ => trivial
theorem TEns.bad {α : Type} {Q : α → Prop} : TEns (.bad : Tm α) Q := fun _ _ _ => trivial
theorem TEns.bif {α : Type} {c : Bool} {m m' : Tm α} {Q : α → Prop} (h : c = true → TEns m Q) (h' : c = false → TEns m' Q) : TEns (bif c then m else m') Q := by
 cases c
 ·exact h' rfl
 ·exact h rfl
theorem TEns.then {α β : Type} {m : Tm α} {k : α → Tm β} {Q' : β → Prop} (hk : ∀ y, TEns (k y) Q') : TEns (m.bind k) Q' := TEns.bind (TEns.any m) fun y _ => hk y
theorem HA.bindQ {α β γ δ : Type} {A : List Nd} {ks : List Tn} {e : Nat → γ → α} {g : γ → List Tn} {e' : Nat → δ → β} {g' : δ → List Tn} {c : Pm α} {t : Tm γ} {Q : γ → Prop} {k : α → Pm β} {k' : γ → Tm δ} (h : H e g c t) (hq : TEns t Q) (hk : ∀ y, Q y → HA A (ks ++ g y) e' g' (k (e (Sf A ks).length y)) (k' y)) : HA A ks e' g' (c.bind k) (t.bind k') := fun a d n hn => by
 have h1 := h a d _ n hn
 have h2 := hq a d n
 show RX A e' g' ((c a d (Sf A ks)).bind _) ((t a d n).bind _)
 cases et : t a d n with
 | ok y a' d' n' =>
  rw [et] at h1 h2
  obtain ⟨h3, h4⟩ := h1
  rw [h4, Sf_app]
  rw [Sf_app] at h3
  exact hk y h2 a' d' n' h3
 | fault c' p =>
  rw [et] at h1
  have h1 : c a d (Sf A ks) = .fault c' p := h1
  rw [h1]
  exact (rfl : (PR.fault c' p : PR β) = .fault c' p)
 | bad =>
  rw [et] at h1
  have h1 : c a d (Sf A ks) = .bad := h1
  rw [h1]
  exact (rfl : (PR.bad : PR β) = .bad)
def k0 (x : Nd) : Prop := nKids x = []
theorem en_base : Ens (cBase T K) k0 := .then fun t => .bif (fun _ => .bif (fun _ => .then fun _ => .ret rfl) fun _ => .bif (fun _ => .then fun _ => .ret rfl) fun _ => .bif (fun _ => .then fun _ => .ret rfl) fun _ => .bif (fun _ => .then fun _ => .ret rfl) fun _ => .bif (fun _ => .then fun _ => .ret rfl) fun _ => .flt) fun _ => .flt
theorem en_innerL : ∀ (n : Nat) (x : Nd), k0 x → Ens (cInnerL T K n x) k0
 | 0, _, _ => .bad
 | n + 1, x, h => .then fun _ => .then fun _ => .bif (fun _ => .bif (fun _ => .flt) fun _ => .then fun _ => en_innerL n _ h) fun _ => .then fun _ => .then fun _ => .bif (fun _ => .bif (fun _ => .flt) fun _ => .then fun _ => .then fun _ => en_innerL n _ h) fun _ => .ret h
theorem en_inner : Ens (cInner T K) k0 := .bind en_base fun x h => en_innerL _ x h
theorem en_typed (v : Bool) : Ens (cTyped T K v) k0 := .then fun _ => .bif (fun _ => .then fun _ => .then fun _ => .bind en_inner fun x h => .then fun _ => .bif (fun _ => .flt) fun _ => .ret h) fun _ => .bif (fun _ => .then fun _ => .ret rfl) fun _ => en_inner
theorem withK0 {x : Nd} (h : k0 x) (k : Int) (s : Str) : withK x k (nKids x) s = setK (withK x k [] s) [] := by
 rw [h]
 rfl
theorem r1 {A : List Nd} {x : Tn} {k : Int} {w : Str} : nod k [eT A.length x] w = setK (nod k [] w) (roots A.length [x]) := rfl
theorem H_bracket (h : HK q p) : H eT gT (cBracket T K q) (tBracket T K p) := H.of fun A =>
 HA.free (fr_want T K _) fun _ => HA.bind h.val fun x => HA.free (fr_want T K _) fun _ => HA.ret (by rw [Sf_nil]) rfl
theorem H_argsL (h : HK q p) (A : List Nd) : ∀ (n : Nat) (ks : List Tn), HA A ks eL gL (cArgsL T K q n (roots A.length ks)) (tArgsL T K p n ks)
 | 0, _ => HA.bad
 | n + 1, ks => by
  have e : (roots A.length ks).length = ks.length := roots_len _ _
  refine HA.free (fr_take T K _) fun b => HA.bif (fun _ => HA.ret rfl rfl) fun _ => ?_
  rw [e]
  refine HA.free (fr_comma _) fun _ => HA.free (fr_few K _) fun _ => HA.bind h.val fun x => ?_
  rw [rtS]
  exact H_argsL h A n (ks ++ [x])
theorem H_args (h : HK q p) : H eL gL (cArgs T K q) (tArgs T K p) := H.of fun A => HA.free (fr_want T K _) fun _ => H_argsL h A _ []
theorem H_lit {X x : Nd} {e : Int} (hX : X = setK x []) : H eT gT (cLit T K X e) (tLit T K x e) := H.of fun A =>
 HA.free (fr_next T K) fun _ => HA.bif (fun _ => HA.flt) fun _ => HA.free (fr_skip K) fun _ => HA.add hX
theorem H_made (h : HK q p) : H eM gM (cMade T K q) (tMade T K p) := H.of fun A => by
 refine HA.free (fr_inner T K) fun x => HA.free (fr_is T K _) fun b => HA.bif (fun _ => HA.bif (fun _ => HA.flt) fun _ => HA.bind (H_args h) fun l => HA.ret ?_ rfl) fun _ => HA.free (fr_want T K _) fun _ => HA.bind h.val fun y => HA.free (fr_want T K _) fun _ => HA.ret ?_ rfl
 ·rw [Sf_nil]; rfl
 ·rw [Sf_nil]; rfl
theorem H_kept (h : HK q p) (t : Tok) (s : Str) : H eT gT (cKept T K q t s) (tKept T K p t s) := H.of fun A => by
 refine HA.bif (fun _ => (H_lit rfl).at A) fun _ => HA.bif (fun _ => (H_lit rfl).at A) fun _ => HA.bif (fun _ => (H_lit rfl).at A) fun _ => HA.bif (fun _ => (H_lit rfl).at A) fun _ => HA.bif (fun _ => (H_lit rfl).at A) fun _ => ?_
 refine HA.bif (fun _ => HA.free (fr_skip K) fun _ => HA.free (fr_want T K _) fun _ => HA.free (fr_want T K _) fun _ => HA.add rfl) fun _ => ?_
 refine HA.bif (fun _ => HA.free (fr_skip K) fun _ => HA.bind (H_bracket h) fun x => HA.add (by rw [Sf_nil]; rfl)) fun _ => ?_
 refine HA.bif (fun _ => HA.free (fr_skip K) fun _ => HA.free (fr_want T K _) fun _ => HA.free (fr_typed T K _) fun _ => HA.free (fr_want T K _) fun _ => HA.bind (H_bracket h) fun x => HA.add (by rw [Sf_nil]; rfl)) fun _ => ?_
 exact HA.bif (fun _ => HA.free (fr_skip K) fun _ => HA.bind (H_made h) fun x => HA.add (by rw [Sf_nil]; rfl)) fun _ => HA.flt
theorem H_primary (h : HK q p) : H eT gT (cPrimary T K q) (tPrimary T K p) := H.of fun A =>
 HA.free (fr_next T K) fun _ => HA.bif (fun _ => (H_lit rfl).at A) fun _ => HA.bif (fun _ => (H_lit rfl).at A) fun _ => HA.bif (fun _ => (H_lit rfl).at A) fun _ =>
  HA.bif (fun _ => HA.bif (fun _ => (H_bracket h).at A) fun _ => HA.flt) fun _ => HA.bif (fun _ => HA.bif (fun _ => (H_lit rfl).at A) fun _ => (H_kept h _ _).at A) fun _ => HA.flt
theorem H_part (h : HK q p) (A : List Nd) (x : Tn) (f : Int) : HA A [x] eT gT (cPart T K q (eT A.length x) f) (tPart T K p x f) := by
 refine HA.free (fr_take T K _) fun _ => HA.bif (fun _ => HA.add rfl) fun _ => HA.free (fr_take T K _) fun _ => HA.bif (fun _ => HA.add rfl) fun _ => ?_
 refine HA.free (fr_name T K) fun s => HA.free (fr_is T K _) fun _ => HA.bif (fun _ => HA.bind (H_args h) fun l => HA.add ?_) fun _ => HA.add rfl
 show nod 29 ([eT A.length x] ++ roots (Sf A [x]).length l) s = setK (nod 29 [] s) (roots A.length ([x] ++ l))
 rw [roots_Sf]
 rfl
theorem H_behindL (h : HK q p) (f : Int) (A : List Nd) : ∀ (n : Nat) (x : Tn), HA A [x] eT gT (cBehindL T K q f n (eT A.length x)) (tBehindL T K p f n x)
 | 0, _ => HA.bad
 | n + 1, x => by
  refine HA.free (fr_take T K _) fun _ => HA.bif (fun _ => HA.addBind rfl fun z => H_behindL h f A n z) fun _ => ?_
  refine HA.free (fr_take T K _) fun _ => HA.bif (fun _ => HA.bind h.val fun y => HA.free (fr_want T K _) fun _ => HA.addBind ?_ fun z => H_behindL h f A n z) fun _ => ?_
  ·show nod 27 [eT A.length x, eT (Sf A [x]).length y] [] = _
   rw [rt2]
   rfl
  refine HA.free (fr_take T K _) fun _ => HA.bif (fun _ => fun a d n' hn => ?_) fun _ => HA.ret rfl rfl
  exact RX.bind (H_part h A x f a d n' hn) fun y a d n' hn => H_behindL h f A n y a d n' hn
theorem H_behind (h : HK q p) : H eT gT (cBehind T K q) (tBehind T K p) := H.of fun A =>
 HA.free (fr_next T K) fun _ => HA.bind (H_primary h) fun x => by
  rw [Sf_nil]
  exact H_behindL h _ A _ x
theorem H_unary (h : HK q p) : H eT gT (cUnary T K q) (tUnary T K p) := H.of fun A =>
 HA.free (fr_next T K) fun _ => HA.bif (fun _ => HA.free (fr_into K) fun _ => HA.free (fr_skip K) fun _ => HA.bind h.un fun x => HA.free fr_out fun _ => HA.add (by rw [Sf_nil]; rfl)) fun _ => (H_behind h).at A
theorem H_chainL {sub : Pm Int} {sut : Tm Tn} (hs : H eT gT sub sut) (least f : Int) (A : List Nd) : ∀ (n : Nat) (x : Tn), HA A [x] eT gT (cChainL T K least f sub n (eT A.length x)) (tChainL T K least f sut n x)
 | 0, _ => HA.bad
 | n + 1, x => by
  refine HA.free (fr_next T K) fun t => HA.bif (fun _ => HA.free (fr_skip K) fun _ => HA.bind hs fun y => HA.addBind ?_ fun z => H_chainL hs least f A n z) fun _ => ?_
  ·show nod 34 [eT A.length x, eT (Sf A [x]).length y] t.2 = _
   rw [rt2]
   rfl
  refine HA.bif (fun _ => HA.free (fr_take T K _) fun _ => HA.bif (fun _ => HA.free (fr_take T K _) fun _ => HA.bif (fun _ => HA.addBind rfl fun z => H_chainL hs least f A n z) fun _ => ?_) fun _ => HA.ret rfl rfl) fun _ => HA.ret rfl rfl
  exact HA.free (fr_want T K _) fun _ => HA.addBind rfl fun z => H_chainL hs least f A n z
theorem H_chain (h : HK q p) : ∀ j : Nat, H eT gT (cChain T K q j) (tChain T K p j)
 | 0 => H.of fun A => HA.free (fr_next T K) fun _ => h.un.at A
 | j + 1 => H.of fun A => HA.free (fr_next T K) fun _ => HA.bind (H_chain h j) fun x => by
  rw [Sf_nil]
  exact H_chainL (H_chain h j) _ _ A _ x
theorem H_value (h : HK q p) : H eT gT (cValue T K q) (tValue T K p) := H.of fun A =>
 HA.free (fr_into K) fun _ => HA.bind (H_chain h 6) fun x => HA.free fr_out fun _ => HA.ret (by rw [Sf_nil]) rfl
def eW : Nat → (Nd × List Tn) × Bool → Nd × Bool := fun o w => (eM o w.1, w.2)
def gW : (Nd × List Tn) × Bool → List Tn := fun w => w.1.2
theorem H_word (h : HK q p) (s : Str) : H eW gW (cWord T K q s) (tWord T K p s) := H.of fun A => by
 refine HA.bif (fun _ => HA.free (fr_skip K) fun _ => HA.bind (H_bracket h) fun x => HA.bind h.blk fun y => HA.free (fr_take T K _) fun _ => HA.bif (fun _ => HA.bind h.blk fun z => HA.ret ?_ rfl) fun _ => HA.ret ?_ rfl) fun _ => ?_
 ·show (nod 11 [eT (Sf A []).length x, eT (Sf A [x]).length y, eT (Sf A [x, y]).length z] [], true) = _
  rw [Sf_nil, rt3]
  rfl
 ·show (nod 11 [eT (Sf A []).length x, eT (Sf A [x]).length y] [], true) = _
  rw [Sf_nil, rt2]
  rfl
 refine HA.bif (fun _ => HA.free (fr_skip K) fun _ => HA.bind (H_bracket h) fun x => HA.bind h.blk fun y => HA.ret ?_ rfl) fun _ => ?_
 ·show (nod 12 [eT (Sf A []).length x, eT (Sf A [x]).length y] [], true) = _
  rw [Sf_nil, rt2]
  rfl
 refine HA.bif (fun _ => HA.free (fr_skip K) fun _ => HA.free (fr_want T K _) fun _ => HA.ret rfl rfl) fun _ => ?_
 refine HA.bif (fun _ => HA.free (fr_skip K) fun _ => HA.free (fr_want T K _) fun _ => HA.ret rfl rfl) fun _ => ?_
 refine HA.bif (fun _ => HA.free (fr_skip K) fun _ => HA.free (fr_is T K _) fun _ => HA.bif (fun _ => HA.free (fr_want T K _) fun _ => HA.ret rfl rfl) fun _ => HA.bind h.val fun x => HA.free (fr_want T K _) fun _ => HA.ret (by rw [Sf_nil]; rfl) rfl) fun _ => ?_
 refine HA.bif (fun _ => HA.free (fr_skip K) fun _ => HA.bind (H_bracket h) fun x => HA.free (fr_want T K _) fun _ => HA.ret (by rw [Sf_nil]; rfl) rfl) fun _ => ?_
 refine HA.bif (fun _ => HA.free (fr_skip K) fun _ => HA.bind (H_args h) fun l => HA.free (fr_want T K _) fun _ => HA.ret (by rw [Sf_nil]; rfl) rfl) fun _ => ?_
 exact HA.ret rfl rfl
theorem kind_root (A : List Nd) (x : Tn) (ks : List Tn) : nKind (getN (Sf A (x :: ks)) (eT A.length x).toNat) = nKind x.data := by
 obtain ⟨d, l⟩ := x
 have e : Sf A (.mk d l :: ks) = (Sf A l ++ [setK d (roots A.length l)]) ++ Tn.flats (A.length + (Tn.mk d l).size) ks := by
  rw [← add_flat, Sf, Sf, Tn.flats, Tn.flats_one, List.append_assoc]
 have e2 : (eT A.length (.mk d l)).toNat = (Sf A l).length := by
  rw [eT, Sf_len, Tn.size]
  omega
 rw [e, e2]
 unfold getN
 rw [List.getD_eq_getElem?_getD, List.append_assoc, List.getElem?_append_right (Nat.le_refl _), Nat.sub_self]
 rfl
theorem H_plain (h : HK q p) (f : Int) : H eT gT (cPlain T K q f) (tPlain T K p f) := H.of fun A => by
 refine HA.bind h.val fun x => HA.free (fr_next T K) fun t => ?_
 rw [Sf_nil]
 have key : ∀ (k' : Tm Tn) (k : Int → Pm Int), HA A [x] eT gT (k (nKind x.data)) k' → HA A [x] eT gT ((cKindAt (eT A.length x)).bind k) k' := fun k' k hk a d n hn => by
  show RX A eT gT (k (nKind (getN (Sf A [x]) (eT A.length x).toNat)) a d (Sf A [x])) _
  rw [kind_root]
  exact hk a d n hn
 refine key _ _ (HA.free (fr_take T K _) fun b => HA.bif (fun _ => HA.bif (fun _ => HA.bind h.val fun y => HA.free (fr_want T K _) fun _ => HA.add ?_) fun _ => HA.flt) fun _ => HA.bif (fun _ => HA.free (fr_want T K _) fun _ => HA.add rfl) fun _ => HA.flt)
 show nod 10 [eT A.length x, eT (Sf A [x]).length y] [] = _
 rw [rt2]
 rfl
theorem te_word (s : Str) : TEns (tWord T K p s) fun w => w.2 = false → w.1.2 = [] := by
 refine .bif (fun _ => .then fun _ => .then fun _ => .then fun _ => .then fun _ => .bif (fun _ => .then fun _ => .ret (fun h => by cases h)) fun _ => .ret (fun h => by cases h)) fun _ => ?_
 refine .bif (fun _ => .then fun _ => .then fun _ => .then fun _ => .ret (fun h => by cases h)) fun _ => ?_
 refine .bif (fun _ => .then fun _ => .then fun _ => .ret (fun h => by cases h)) fun _ => ?_
 refine .bif (fun _ => .then fun _ => .then fun _ => .ret (fun h => by cases h)) fun _ => ?_
 refine .bif (fun _ => .then fun _ => .then fun _ => .bif (fun _ => .then fun _ => .ret (fun h => by cases h)) fun _ => .then fun _ => .then fun _ => .ret (fun h => by cases h)) fun _ => ?_
 refine .bif (fun _ => .then fun _ => .then fun _ => .then fun _ => .ret (fun h => by cases h)) fun _ => ?_
 refine .bif (fun _ => .then fun _ => .then fun _ => .then fun _ => .ret (fun h => by cases h)) fun _ => ?_
 exact .ret fun _ => rfl
theorem H_stat (h : HK q p) : H eT gT (cStat T K q) (tStat T K p) := H.of fun A => by
 refine HA.free (fr_next T K) fun t => HA.bif (fun _ => h.blk.at A) fun _ => HA.free (fr_declares T K) fun b => HA.bif (fun _ => ?_) fun _ => HA.bif (fun _ => ?_) fun _ => (H_plain h _).at A
 ·exact HA.freeQ (fr_typed T K _) (en_typed _) fun x hx => HA.free (fr_name T K) fun s => HA.free (fr_take T K _) fun b => HA.bif (fun _ => HA.bind h.val fun y => HA.free (fr_want T K _) fun _ => HA.add (by rw [Sf_nil]; rfl)) fun _ => HA.free (fr_want T K _) fun _ => HA.add (withK0 hx _ _)
 ·refine HA.bindQ (H_word h _) (te_word _) fun w hq => HA.bif (fun _ => HA.add (by rw [Sf_nil]; rfl)) fun hw => ?_
  have e : [] ++ gW w = [] := hq hw
  rw [e]
  exact (H_plain h _).at A
theorem H_blockL (h : HK q p) (f : Int) (A : List Nd) : ∀ (n : Nat) (ks : List Tn), HA A ks eT gT (cBlockL T K q f n (roots A.length ks)) (tBlockL T K p f n ks)
 | 0, _ => HA.bad
 | n + 1, ks => by
  refine HA.free (fr_is T K _) fun _ => HA.bif (fun _ => HA.free (fr_want T K _) fun _ => HA.free fr_out fun _ => HA.add rfl) fun _ => HA.bind (H_stat h) fun x => ?_
  rw [rtS]
  exact H_blockL h f A n (ks ++ [x])
theorem H_block (h : HK q p) : H eT gT (cBlock T K q) (tBlock T K p) := H.of fun A => HA.free (fr_next T K) fun _ => HA.free (fr_into K) fun _ => HA.free (fr_want T K _) fun _ => H_blockL h _ A _ []
theorem H_bad : H eT gT (.bad : Pm Int) (.bad : Tm Tn) := H.of fun _ => HA.bad
theorem hk_all (T : List UInt8) (K : List Tok) : ∀ n, HK (kns T K n) (knt T K n)
 | 0 => ⟨H_bad, H_bad, H_bad⟩
 | n + 1 => ⟨H_value (hk_all T K n), H_block (hk_all T K n), H_unary (hk_all T K n)⟩
theorem H_paramsL (A : List Nd) : ∀ (n : Nat) (ks : List Tn), HA A ks eL gL (cParamsL T K n (roots A.length ks)) (tParamsL T K n ks)
 | 0, _ => HA.bad
 | n + 1, ks => by
  have e : (roots A.length ks).length = ks.length := roots_len _ _
  refine HA.free (fr_take T K _) fun b => HA.bif (fun _ => HA.ret rfl rfl) fun _ => ?_
  rw [e]
  refine HA.free (fr_comma _) fun _ => HA.free (fr_few K _) fun _ => HA.free (fr_next T K) fun t => HA.freeQ (fr_typed T K _) (en_typed _) fun x hx => HA.free (fr_name T K) fun s => HA.bind (H.add (withK0 hx _ _)) fun y => ?_
  rw [rtS]
  exact H_paramsL A n (ks ++ [y])
theorem H_params : H eL gL (cParams T K) (tParams T K) := H.of fun A => HA.free (fr_want T K _) fun _ => H_paramsL A _ []
theorem H_member (h : HK q p) : H eT gT (cMember T K q) (tMember T K p) := H.of fun A => by
 refine HA.free (fr_next T K) fun t => HA.bif (fun _ => HA.free (fr_skip K) fun _ => HA.bind H_params fun l => HA.bind h.blk fun b => HA.add ?_) fun _ => HA.freeQ (fr_typed T K _) (en_typed _) fun x hx => HA.free (fr_name T K) fun s => HA.free (fr_is T K _) fun _ => HA.bif (fun _ => HA.bind H_params fun l => HA.bind h.blk fun b => HA.add ?_) fun _ => HA.bif (fun _ => HA.flt) fun _ => HA.free (fr_want T K _) fun _ => HA.add (withK0 hx _ _)
 ·show nod 5 (roots (Sf A []).length l ++ [eT (Sf A l).length b]) [] = setK (nod 5 [] []) (roots A.length (l ++ [b]))
  rw [Sf_nil, rtS]
  rfl
 ·show withK x 6 (roots (Sf A []).length l ++ [eT (Sf A l).length b]) s = setK (withK x 6 [] s) (roots A.length (l ++ [b]))
  rw [Sf_nil, rtS]
  rfl
theorem H_classL (h : HK q p) (f : Int) (s : Str) (A : List Nd) : ∀ (n : Nat) (ks : List Tn), HA A ks eT gT (cClassL T K q f s n (roots A.length ks)) (tClassL T K p f s n ks)
 | 0, _ => HA.bad
 | n + 1, ks => by
  have e : (roots A.length ks).length = ks.length := roots_len _ _
  refine HA.free (fr_is T K _) fun _ => HA.bif (fun _ => HA.free (fr_want T K _) fun _ => HA.add rfl) fun _ => ?_
  rw [e]
  refine HA.free (fr_few K _) fun _ => HA.bind (H_member h) fun x => ?_
  rw [rtS]
  exact H_classL h f s A n (ks ++ [x])
theorem H_class (h : HK q p) : H eT gT (cClass T K q) (tClass T K p) := H.of fun A => by
 refine HA.free (fr_next T K) fun t => HA.free (fr_want T K _) fun _ => HA.free (fr_name T K) fun s => HA.free (fr_next T K) fun u => HA.free (fr_take T K _) fun b => HA.bif (fun _ => ?_) fun _ => HA.free (fr_want T K _) fun _ => H_classL h _ _ A _ []
 refine HA.free (fr_name T K) fun e => HA.addBind rfl fun y => HA.free (fr_want T K _) fun _ => ?_
 exact H_classL h _ _ A _ [y]
def eU : Nat → Tn → Unit := fun _ _ => ()
theorem H_programL (h : HK q p) (A : List Nd) : ∀ (n : Nat) (ks : List Tn), HA A ks eU gT (cProgramL T K q n (roots A.length ks)) (tProgramL T K p n ks)
 | 0, _ => HA.bad
 | n + 1, ks => by
  have e : (roots A.length ks).length = ks.length := roots_len _ _
  refine HA.free (fr_next T K) fun t => HA.bif (fun _ => fun a d n' hn => ?_) fun _ => ?_
  ·have := HA.add (A := A) (ks := ks) (x := nod 1 [] []) (f := 0) (K := K) rfl a d n' hn
   show RX A eU gT ((cAdd K (setK (nod 1 [] []) (roots A.length ks)) 0 a d (Sf A ks)).bind _) _
   revert this
   cases tAdd K (nod 1 [] []) 0 ks a d n' with
   | ok y a' d' n'' =>
    rintro ⟨h1, h2⟩
    refine ⟨h1, ?_⟩
    rw [h2]
    rfl
   | fault c p =>
    intro h
    have h : cAdd K (setK (nod 1 [] []) (roots A.length ks)) 0 a d (Sf A ks) = .fault c p := h
    rw [h]
    exact (rfl : (PR.fault c p : PR Unit) = .fault c p)
   | bad =>
    intro h
    have h : cAdd K (setK (nod 1 [] []) (roots A.length ks)) 0 a d (Sf A ks) = .bad := h
    rw [h]
    exact (rfl : (PR.bad : PR Unit) = .bad)
  rw [e]
  refine HA.free (fr_few K _) fun _ => HA.bind (H_class h) fun x => ?_
  rw [rtS]
  exact H_programL h A n (ks ++ [x])
theorem H_program (h : HK q p) : H eU gT (cProgram T K q) (tProgram T K p) := H.of fun A => H_programL h A _ []
end Go.Sx.Tryz
namespace Go.Sx.Tryz
open Go Go.Sx
set_option maxRecDepth 100000
def ChL (T : List UInt8) : Int → List Tok → Prop
 | _, [] => True
 | a, t :: ts => tFrom t = a ∧ ChL T (gapI T (tTo t)) ts
theorem lexF_ch (T : List UInt8) : ∀ (n : Nat) (a : Int) (k : Nat), 0 ≤ a → a ≤ T.length → (T.length : Int) - a < n → (lexF n T a k).1 = 0 → ChL T a (lexF n T a k).2.2
 | 0, a, k, h0, h1, hn, h => by omega
 | n + 1, a, k, h0, h1, hn, h => by
  unfold lexF at h ⊢
  cases hlt : decide (a < (T.length : Int)) with
  | false =>
   have := of_decide_eq_false hlt
   refine ⟨?_, trivial⟩
   show (T.length : Int) = a
   omega
  | true =>
   rw [hlt] at h
   have hlt := of_decide_eq_true hlt
   simp only [cond_true] at h ⊢
   cases h16 : decide ((k : Int) ≥ 16384) with
   | true => rw [h16] at h; simp at h
   | false =>
    rw [h16] at h
    simp only [cond_false] at h ⊢
    cases he : oneE T a != 0 with
    | true =>
     rw [he] at h
     simp only [cond_true] at h
     rw [h] at he
     exact absurd he (by decide)
    | false =>
     rw [he] at h
     simp only [cond_false] at h ⊢
     have he0 : oneE T a = 0 := by simpa [bne] using he
     obtain ⟨o1, o2⟩ := oneI_le h0 hlt
     have o3 := o2 he0
     obtain ⟨g1, g2⟩ := gapI_le (T := T) (a := oneI' T a) (by omega) o1
     exact ⟨rfl, lexF_ch T n (gapI T (oneI' T a)) (k + 1) (by omega) g2 (by omega) h⟩
theorem ch_get {T : List UInt8} : ∀ (K : List Tok) (a : Int) (i : Nat), ChL T a K → i + 1 < K.length → tFrom (K.getD (i + 1) (Ty.dflt tokTy)) = gapI T (tTo (K.getD i (Ty.dflt tokTy)))
 | [], _, _, _, h => by simp at h
 | [_], _, _, _, h => by simp at h
 | t :: u :: K, a, 0, hc, _ => hc.2.1
 | t :: u :: K, a, i + 1, hc, h => by
  have := ch_get (u :: K) _ i hc.2 (by simpa using h)
  simpa using this
structure WS (T : List UInt8) (K : List Tok) : Prop where
 wf : WF T K
 gap : ∀ a : Int, 0 ≤ a → a + 1 < K.length → tFrom (tokAt K (a + 1)) = gapI T (tTo (tokAt K a))
 lt : ∀ a : Int, 0 ≤ a → a < K.length → tKind (tokAt K a) ≠ 0 → tFrom (tokAt K a) < tTo (tokAt K a)
theorem lex_ws {T : List UInt8} (h : lexC T = 0) : WS T (lexK T) := by
 refine ⟨lex_wf h, fun a h0 h1 => ?_, fun a h0 h1 hk => ?_⟩
 ·have hc : ChL T (gapI T 0) (lexK T) := by
   obtain ⟨hT, _⟩ := lex_toks h
   rw [lexK_eq h]
   rw [lexC_eq] at h
   unfold lexS at h ⊢
   rw [show decide ((T.length : Int) > 65536) = false from decide_eq_false (by omega)] at h ⊢
   obtain ⟨g1, g2⟩ := gapI_le (T := T) (a := 0) (by omega) (by omega)
   exact lexF_ch T (T.length + 1) (gapI T 0) 0 (by omega) g2 (by omega) h
  have := ch_get (lexK T) _ a.toNat hc (by omega)
  unfold tokAt
  rw [show (a + 1).toNat = a.toNat + 1 by omega]
  exact this
 ·obtain ⟨_, L, e, _, h3⟩ := lex_toks h
  rw [e] at h1 hk ⊢
  by_cases hl : a < L.length
  ·rw [tokAt_left h0 hl]
   exact (h3 _ (tokAt_mem h0 hl)).2.1
  ·have e2 : a = L.length := by simp at h1; omega
   rw [e2, tokAt_last] at hk
   exact absurd rfl hk
section
variable {T : List UInt8} {K : List Tok}
theorem WS.next (w : WS T K) {a : Int} (h0 : 0 ≤ a) (h1 : a + 1 < K.length) : tTo (tokAt K a) ≤ tFrom (tokAt K (a + 1)) := by
 rw [w.gap a h0 h1]
 have := w.wf.span a h0 (by omega)
 exact (gapI_le (by omega) this.2.2).1
theorem WS.mono (w : WS T K) : ∀ (j : Nat) {a : Int}, 0 ≤ a → a + j < K.length → tFrom (tokAt K a) ≤ tFrom (tokAt K (a + j)) ∧ tTo (tokAt K a) ≤ tTo (tokAt K (a + j))
 | 0, a, h0, h1 => by simp
 | j + 1, a, h0, h1 => by
  obtain ⟨i1, i2⟩ := w.mono j h0 (by omega)
  have h3 := w.next (a := a + j) (by omega) (by omega)
  have h4 := w.wf.span (a + j) (by omega) (by omega)
  have h5 := w.wf.span (a + j + 1) (by omega) (by omega)
  rw [show a + ((j + 1 : Nat) : Int) = a + j + 1 by omega]
  omega
theorem WS.le (w : WS T K) {a b : Int} (h0 : 0 ≤ a) (h : a ≤ b) (h1 : b < K.length) : tFrom (tokAt K a) ≤ tFrom (tokAt K b) ∧ tTo (tokAt K a) ≤ tTo (tokAt K b) := by
 have := w.mono (b - a).toNat h0 (by omega)
 rwa [show a + ((b - a).toNat : Int) = b by omega] at this
theorem WS.sep (w : WS T K) {a b : Int} (h0 : 0 ≤ a) (h : a < b) (h1 : b < K.length) : tTo (tokAt K a) ≤ tFrom (tokAt K b) := by
 have h2 := w.next h0 (by omega)
 have h3 := (w.le (a := a + 1) (b := b) (by omega) (by omega) h1).1
 omega
def TP {α : Type} (m : Tm α) (a : Int) (Q : α → Int → Prop) : Prop := ∀ d n, match m a d n with
 | .ok y a' _ _ => Q y a'
 | _ => True
theorem TP.bind {α β : Type} {m : Tm α} {k : α → Tm β} {a : Int} {Q : α → Int → Prop} {Q' : β → Int → Prop} (h : TP m a Q) (hk : ∀ y a', Q y a' → TP (k y) a' Q') : TP (m.bind k) a Q' := fun d n => by
 have := h d n
 unfold Tm.bind
 cases e : m a d n with
 | ok y a' d' n' =>
  rw [e] at this
  exact hk y a' this d' n'
 | fault c p => trivial
 | bad => trivial
theorem TP.ret {α : Type} {y : α} {a : Int} {Q : α → Int → Prop} (h : Q y a) : TP (.ret y : Tm α) a Q := fun _ _ => h
theorem TP.flt {α : Type} {c p a : Int} {Q : α → Int → Prop} : TP (.flt c p : Tm α) a Q := fun _ _ => trivial
theorem TP.bad {α : Type} {a : Int} {Q : α → Int → Prop} : TP (.bad : Tm α) a Q := fun _ _ => trivial
theorem TP.bif {α : Type} {c : Bool} {m m' : Tm α} {a : Int} {Q : α → Int → Prop} (h : c = true → TP m a Q) (h' : c = false → TP m' a Q) : TP (bif c then m else m') a Q := by
 cases c
 ·exact h' rfl
 ·exact h rfl
theorem TP.mono {α : Type} {m : Tm α} {a : Int} {Q Q' : α → Int → Prop} (h : TP m a Q) (hq : ∀ y a', Q y a' → Q' y a') : TP m a Q' := fun d n => by
 have := h d n
 cases e : m a d n with
 | ok y a' d' n' => rw [e] at this; exact hq _ _ this
 | fault c p => trivial
 | bad => trivial
def PP {α : Type} (m : Pm α) (a : Int) (Q : α → Int → Prop) : Prop := ∀ d A, match m a d A with
 | .ok y a' _ _ => Q y a'
 | _ => True
theorem PP.lft {α : Type} {m : Pm α} {a : Int} {Q : α → Int → Prop} (h : PP m a Q) : TP (lft m) a Q := fun d n => by
 have := h d []
 unfold Tryz.lft
 cases e : m a d [] with
 | ok y a' d' A' => rw [e] at this; exact this
 | fault c p => trivial
 | bad => trivial
theorem PP.bind {α β : Type} {m : Pm α} {k : α → Pm β} {a : Int} {Q : α → Int → Prop} {Q' : β → Int → Prop} (h : PP m a Q) (hk : ∀ y a', Q y a' → PP (k y) a' Q') : PP (m.bind k) a Q' := fun d A => by
 have := h d A
 unfold Pm.bind
 cases e : m a d A with
 | ok y a' d' A' =>
  rw [e] at this
  exact hk y a' this d' A'
 | fault c p => trivial
 | bad => trivial
theorem PP.ret {α : Type} {y : α} {a : Int} {Q : α → Int → Prop} (h : Q y a) : PP (.ret y : Pm α) a Q := fun _ _ => h
theorem PP.flt {α : Type} {c p a : Int} {Q : α → Int → Prop} : PP (.flt c p : Pm α) a Q := fun _ _ => trivial
theorem PP.bad {α : Type} {a : Int} {Q : α → Int → Prop} : PP (.bad : Pm α) a Q := fun _ _ => trivial
theorem PP.bif {α : Type} {c : Bool} {m m' : Pm α} {a : Int} {Q : α → Int → Prop} (h : c = true → PP m a Q) (h' : c = false → PP m' a Q) : PP (bif c then m else m') a Q := by
 cases c
 ·exact h' rfl
 ·exact h rfl
def In (K : List Tok) (a : Int) : Prop := 0 ≤ a ∧ a < K.length
def Nz (K : List Tok) (a : Int) : Prop := tKind (tokAt K a) ≠ 0
theorem WS.succ (w : WS T K) {a : Int} (h : In K a) (hz : Nz K a) : In K (a + 1) := by
 have := w.wf.last a h.1 h.2
 refine ⟨by have := h.1; omega, ?_⟩
 have h2 := h.2
 by_cases e : a = K.length - 1
 ·exact absurd (this.2 e) hz
 ·omega
theorem pp_next {a : Int} : PP (cNext T K) a fun t a' => a' = a ∧ t = (tokAt K a, say T (tokAt K a)) := fun _ _ => ⟨rfl, rfl⟩
theorem pp_ahead {a n : Int} : PP (cAhead T K n) a fun x a' => a' = a ∧ (x = (0, []) ∨ (a + n < K.length ∧ x = (tKind (tokAt K (a + n)), say T (tokAt K (a + n))))) := fun d A => by
 unfold cAhead
 cases h : decide (a + n ≥ (K.length : Int))
 ·have := of_decide_eq_false h
  exact ⟨rfl, .inr ⟨by omega, rfl⟩⟩
 ·exact ⟨rfl, .inl rfl⟩
theorem pp_skip {a : Int} (hz : Nz K a) : PP (cSkip K) a fun e a' => a' = a + 1 ∧ e = tTo (tokAt K a) := fun d A => by
 unfold cSkip
 have : (tKind (tokAt K a) != 0) = true := by simpa [bne, Nz] using hz
 rw [this]
 exact ⟨rfl, rfl⟩
theorem pp_is {a : Int} (s : Str) : PP (cIs T K s) a fun b a' => a' = a ∧ (b = true → Nz K a ∧ say T (tokAt K a) = s) := by
 refine PP.bind pp_next fun t a' h => ?_
 obtain ⟨rfl, rfl⟩ := h
 refine PP.ret ⟨rfl, fun h => ?_⟩
 simp only [Bool.and_eq_true, Bool.or_eq_true, beq_iff_eq] at h
 refine ⟨fun h0 => ?_, h.2⟩
 rw [h0] at h
 rcases h.1 with h | h <;> exact absurd h (by decide)
theorem pp_take {a : Int} (s : Str) : PP (cTake T K s) a fun b a' => (b = true ∧ a' = a + 1 ∧ Nz K a) ∨ (b = false ∧ a' = a) := by
 refine PP.bind (pp_is s) fun b a' h => ?_
 obtain ⟨rfl, h⟩ := h
 refine PP.bif (fun hb => PP.bind (pp_skip (h hb).1) fun e a'' h2 => PP.ret (.inl ⟨rfl, h2.1, (h hb).1⟩)) fun _ => PP.ret (.inr ⟨rfl, rfl⟩)
theorem pp_want {a : Int} (s : Str) : PP (cWant T K s) a fun e a' => a' = a + 1 ∧ e = tTo (tokAt K a) ∧ Nz K a := by
 refine PP.bind (pp_is s) fun b a' h => ?_
 obtain ⟨rfl, h⟩ := h
 exact PP.bif (fun hb => fun d A => by have := pp_skip (h hb).1 d A; unfold cSkip at this ⊢; revert this; cases tKind (tokAt K a') != 0 <;> exact fun h2 => ⟨h2.1, h2.2, (h hb).1⟩) fun _ => PP.bind pp_next fun _ _ _ => PP.flt
theorem nz_of {a k : Int} (h : (tKind (tokAt K a) == k) = true) (hk : k ≠ 0) : Nz K a := by
 have : tKind (tokAt K a) = k := by simpa using h
 unfold Nz
 rw [this]
 exact hk
theorem pp_name {a : Int} : PP (cName T K) a fun s a' => a' = a + 1 ∧ Nz K a ∧ nameS s = true := by
 refine PP.bind pp_next fun t a' h => ?_
 obtain ⟨rfl, rfl⟩ := h
 refine PP.bif (fun hb => ?_) fun _ => PP.flt
 rw [Bool.and_eq_true] at hb
 exact PP.bind (pp_skip (nz_of hb.1 (by decide))) fun e a'' h2 => PP.ret ⟨h2.1, nz_of hb.1 (by decide), hb.2⟩
theorem pp_into {a : Int} : PP (cInto K) a fun _ a' => a' = a := fun d A => by
 unfold cInto
 cases decide (d + 1 > 60)
 ·exact rfl
 ·trivial
theorem pp_out {a : Int} : PP cOut a fun _ a' => a' = a := fun _ _ => rfl
theorem pp_few {a n : Int} : PP (cFew K n) a fun _ a' => a' = a := fun d A => by
 unfold cFew
 cases decide (n > 64)
 ·exact rfl
 ·trivial
theorem pp_comma {a : Int} (l : Nat) : PP (comma T K l) a fun _ a' => a' = a ∨ (a' = a + 1 ∧ Nz K a) :=
 PP.bif (fun _ => PP.bind (pp_want _) fun _ _ h => PP.ret (.inr ⟨h.1, h.2.2⟩)) fun _ => PP.ret (.inl rfl)
theorem pp_declares {a : Int} : PP (cDeclares T K) a fun _ a' => a' = a := by
 refine PP.bind pp_ahead fun x a' h => ?_
 obtain ⟨rfl, h⟩ := h
 refine PP.bif (fun _ => PP.ret rfl) fun _ => PP.bif (fun _ => PP.bind pp_ahead fun y a'' h2 => ?_) fun _ => PP.ret rfl
 obtain ⟨rfl, _⟩ := h2
 refine PP.bind pp_ahead fun z a3 h3 => ?_
 obtain ⟨rfl, _⟩ := h3
 exact PP.ret rfl
end
end Go.Sx.Tryz
