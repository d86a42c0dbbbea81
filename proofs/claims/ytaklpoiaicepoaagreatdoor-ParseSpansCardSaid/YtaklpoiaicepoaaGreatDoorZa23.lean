/- A part of the proof: see the row's text. -/
import Derived.Test.YtaklpoiaicepoaaGreatDoorZa20
set_option linter.unusedVariables false
set_option linter.unusedSimpArgs false
noncomputable section
namespace Go.Sx.Tryz
open Go Go.Sx
set_option maxRecDepth 100000
abbrev Str : Type := List UInt8
abbrev Pm (α : Type) : Type := Int → Int → List Nd → PR α
def Pm.bind {α β : Type} (m : Pm α) (k : α → Pm β) : Pm β := fun a d A => (m a d A).bind fun y a d A => k y a d A
def Pm.ret {α : Type} (y : α) : Pm α := fun a d A => .ok y a d A
def Pm.flt {α : Type} (c p : Int) : Pm α := fun _ _ _ => .fault c p
def Pm.bad {α : Type} : Pm α := fun _ _ _ => .bad
def nod (kind : Int) (kids : List Int) (text : Str) : Nd := mkN kind 0 0 kids text 0 [] 0 [] 0 0 0 []
def nodV (kind n : Int) (text : Str) : Nd := mkN kind 0 0 [] text 0 [] 0 [] n 0 0 []
def withK (x : Nd) (kind : Int) (kids : List Int) (text : Str) : Nd := mkN kind (nAt x) (nTo x) kids text (nBase x) (nName x) (nDims x) (nMarks x) (nN x) (nW1 x) (nW2 x) (nEnds x)
def nodT (base : Int) (name : Str) (w1 w2 e : Int) : Nd := mkN 0 0 0 [] [] base name 0 [32] 0 w1 w2 [e]
def spanned (x : Nd) (f t : Int) : Nd := mkN (nKind x) f t (nKids x) (nText x) (nBase x) (nName x) (nDims x) (nMarks x) (nN x) (nW1 x) (nW2 x) (nEnds x)
def markAt (x : Nd) (i : Int) : Int := ((nMarks x).getD i.toNat 0).toNat
def setMark (x : Nd) (c : UInt8) (w1 w2 : Int) : Nd := mkN (nKind x) (nAt x) (nTo x) (nKids x) (nText x) (nBase x) (nName x) (nDims x) ((nMarks x).take (nDims x).toNat ++ [c]) (nN x) w1 w2 (nEnds x)
def addDim (x : Nd) (to_ : Int) : Nd := mkN (nKind x) (nAt x) (nTo x) (nKids x) (nText x) (nBase x) (nName x) (nDims x + 1) (nMarks x ++ [32]) (nN x) (nW1 x) to_ (nEnds x ++ [to_])
section
variable (T : List UInt8) (K : List Tok)
def say (t : Tok) : Str := List.drop (Int.toNat (tFrom t)) (List.take (Int.toNat (tTo t)) T)
def cNext : Pm (Tok × Str) := fun a d A => .ok (tokAt K a, say T (tokAt K a)) a d A
def cAhead (n : Int) : Pm (Int × Str) := fun a d A => bif decide (a + n ≥ (K.length : Int)) then .ok (0, []) a d A else .ok (tKind (tokAt K (a + n)), say T (tokAt K (a + n))) a d A
def cSkip : Pm Int := fun a d A => bif tKind (tokAt K a) != 0 then .ok (tTo (tokAt K a)) (a + 1) d A else .ok (tTo (tokAt K a)) a d A
def cIs (s : Str) : Pm Bool := (cNext T K).bind fun t => .ret ((tKind t.1 == 1 || tKind t.1 == 5) && t.2 == s)
def cTake (s : Str) : Pm Bool := (cIs T K s).bind fun b => bif b then (cSkip K).bind fun _ => .ret true else .ret false
def cWant (s : Str) : Pm Int := (cIs T K s).bind fun b => bif b then cSkip K else (cNext T K).bind fun t => .flt 80 (tFrom t.1)
def cName : Pm Str := (cNext T K).bind fun t => bif tKind t.1 == 1 && nameS t.2 then (cSkip K).bind fun _ => .ret t.2 else .flt 80 (tFrom t.1)
def lastTo (a f : Int) : Int := bif decide (a > 0) then (bif decide (f < tTo (tokAt K (a - 1))) then tTo (tokAt K (a - 1)) else f) else f
def cAdd (x : Nd) (f : Int) : Pm Int := fun a d A => bif decide ((A.length : Int) ≥ 8192) then .fault 2 f else .ok (A.length : Int) a d (A ++ [spanned x f (lastTo K a f)])
def cInto : Pm Unit := fun a d A => bif decide (d + 1 > 60) then .fault 6 (tFrom (tokAt K a)) else .ok () a (d + 1) A
def cOut : Pm Unit := fun a d A => .ok () a (d - 1) A
def cFew (n : Int) : Pm Unit := fun a d A => bif decide (n > 64) then .fault 2 (tFrom (tokAt K a)) else .ok () a d A
def cBase : Pm Nd := (cNext T K).bind fun t => bif tKind t.1 == 1 then
  (bif t.2 == [105, 110, 116] then (cSkip K).bind fun e => .ret (nodT 1 [] (tFrom t.1) (tTo t.1) e)
  else bif t.2 == [98, 111, 111, 108] then (cSkip K).bind fun e => .ret (nodT 2 [] (tFrom t.1) (tTo t.1) e)
  else bif t.2 == [100, 111, 117, 98, 108, 101] then (cSkip K).bind fun e => .ret (nodT 3 [] (tFrom t.1) (tTo t.1) e)
  else bif t.2 == [115, 116, 114] then (cSkip K).bind fun e => .ret (nodT 4 [] (tFrom t.1) (tTo t.1) e)
  else bif nameS t.2 then (cSkip K).bind fun e => .ret (nodT 5 t.2 (tFrom t.1) (tTo t.1) e) else .flt 80 (tFrom t.1))
 else .flt 80 (tFrom t.1)
def cInnerL : Nat → Nd → Pm Nd
 | 0, _ => .bad
 | n + 1, x => (cNext T K).bind fun t => (cIs T K [63]).bind fun b => bif b then
   (bif (nBase x != 5 && nDims x == 0) || markAt x (nDims x) != 32 then .flt 81 (tFrom t.1) else (cSkip K).bind fun e => cInnerL n (setMark x 63 (nW1 x) e))
  else (cAhead T K 1).bind fun z => (cIs T K [91]).bind fun b => bif b && z.2 == [93] then
    (bif nDims x == 4 then .flt 2 (tFrom t.1) else (cSkip K).bind fun _ => (cSkip K).bind fun e => cInnerL n (addDim x e))
   else .ret x
def cInner : Pm Nd := (cBase T K).bind fun x => cInnerL T K (K.length + 2) x
def cTyped (v : Bool) : Pm Nd := (cNext T K).bind fun t => bif t.2 == [79, 112, 116, 105, 111, 110] && tKind t.1 == 1 then
  ((cSkip K).bind fun _ => (cWant T K [60]).bind fun _ => (cInner T K).bind fun x => (cWant T K [62]).bind fun e =>
   bif (nBase x != 5 && nDims x == 0) || markAt x (nDims x) != 32 then .flt 5 (tFrom t.1) else .ret (setMark x 111 (tFrom t.1) e))
 else bif v && (tKind t.1 == 1 && t.2 == [118, 111, 105, 100]) then (cSkip K).bind fun e => .ret (nodT 6 [] (tFrom t.1) (tTo t.1) e)
 else cInner T K
def cDeclares : Pm Bool := (cAhead T K 0).bind fun x => bif x.1 != 1 then .ret false
 else bif nameS x.2 then ((cAhead T K 1).bind fun y => (cAhead T K 2).bind fun z =>
   .ret ((y.1 == 1 && nameS y.2) || (y.1 == 5 && (y.2 == [63] || (y.2 == [91] && z.2 == [93])))))
  else .ret (Lib.contains [32, 105, 110, 116, 32, 98, 111, 111, 108, 32, 100, 111, 117, 98, 108, 101, 32, 115, 116, 114, 32, 79, 112, 116, 105, 111, 110, 32] ([32] ++ x.2 ++ [32]))
structure Kn where
 val : Pm Int
 blk : Pm Int
 un : Pm Int
variable (q : Kn)
def cBracket : Pm Int := (cWant T K [40]).bind fun _ => q.val.bind fun x => (cWant T K [41]).bind fun _ => .ret x
def cArgsL : Nat → List Int → Pm (List Int)
 | 0, _ => .bad
 | n + 1, L => (cTake T K [41]).bind fun b => bif b then .ret L
  else (bif decide ((L.length : Int) > 0) then (cWant T K [44]).bind fun _ => .ret () else .ret ()).bind fun _ => (cFew K ((L.length : Int) + 1)).bind fun _ => q.val.bind fun x => cArgsL n (L ++ [x])
def cArgs : Pm (List Int) := (cWant T K [40]).bind fun _ => cArgsL T K q (K.length + 2) []
def cLit (x : Nd) (e : Int) : Pm Int := (cNext T K).bind fun t => bif e != 0 then .flt e (tFrom t.1) else (cSkip K).bind fun _ => cAdd K x (tFrom t.1)
def cMade : Pm Nd := (cInner T K).bind fun x => (cIs T K [40]).bind fun b => bif b then
  (bif nBase x != 5 || (decide (nDims x > 0) || !Lib.trimB (nMarks x) 32 == []) then .flt 5 (nW1 x) else (cArgs T K q).bind fun l => .ret (withK x 30 l (nText x)))
 else (cWant T K [91]).bind fun _ => q.val.bind fun y => (cWant T K [93]).bind fun _ => .ret (withK x 31 [y] (nText x))
def wrapK (s : Str) : Int := bif s == [97, 115, 107] then 39 else bif s == [116, 111, 105, 110, 116] then 36 else bif s == [116, 111, 100, 111, 117, 98, 108, 101] then 37 else 41
def isWrap (s : Str) : Bool := s == [115, 111, 109, 101] || (s == [97, 115, 107] || (s == [116, 111, 105, 110, 116] || s == [116, 111, 100, 111, 117, 98, 108, 101]))
def cKept (t : Tok) (s : Str) : Pm Int :=
 bif s == [116, 114, 117, 101] then cLit T K (nodV 21 1 []) 0
 else bif s == [102, 97, 108, 115, 101] then cLit T K (nodV 21 0 []) 0
 else bif s == [110, 117, 108, 108] then cLit T K (nodV 23 0 []) 0
 else bif s == [110, 111, 110, 101] then cLit T K (nodV 42 0 []) 0
 else bif s == [116, 104, 105, 115] then cLit T K (nodV 24 0 []) 0
 else bif s == [105, 110, 112, 117, 116] then (cSkip K).bind fun _ => (cWant T K [40]).bind fun _ => (cWant T K [41]).bind fun _ => cAdd K (nod 38 [] []) (tFrom t)
 else bif isWrap s then (cSkip K).bind fun _ => (cBracket T K q).bind fun x => cAdd K (nod (wrapK s) [x] []) (tFrom t)
 else bif s == [99, 97, 115, 116] then (cSkip K).bind fun _ => (cWant T K [60]).bind fun _ => (cTyped T K false).bind fun x => (cWant T K [62]).bind fun _ => (cBracket T K q).bind fun y => cAdd K (withK x 35 [y] (nText x)) (tFrom t)
 else bif s == [110, 101, 119] then (cSkip K).bind fun _ => (cMade T K q).bind fun x => cAdd K x (tFrom t)
 else .flt 80 (tFrom t)
def cPrimary : Pm Int := (cNext T K).bind fun t =>
 bif tKind t.1 == 2 then cLit T K (nodV 19 (intS t.2).1 []) (intS t.2).2
 else bif tKind t.1 == 3 then cLit T K (nodV 20 (IntKind.wrap .i64 (fltS t.2).1) t.2) (fltS t.2).2
 else bif tKind t.1 == 4 then cLit T K (nodV 22 0 (unqS t.2).1) (unqS t.2).2
 else bif tKind t.1 == 5 then (bif t.2 == [40] then cBracket T K q else .flt 80 (tFrom t.1))
 else bif tKind t.1 == 1 then (bif nameS t.2 then cLit T K (nodV 25 0 t.2) 0 else cKept T K q t.1 t.2)
 else .flt 80 (tFrom t.1)
def cPart (x f : Int) : Pm Int := (cTake T K [108, 101, 110, 103, 116, 104]).bind fun b => bif b then cAdd K (nod 28 [x] []) f
 else (cTake T K [118, 97, 108]).bind fun b => bif b then cAdd K (nod 45 [x] []) f
 else (cName T K).bind fun s => (cIs T K [40]).bind fun b => bif b then (cArgs T K q).bind fun l => cAdd K (nod 29 ([x] ++ l) s) f else cAdd K (nod 26 [x] s) f
def cBehindL (f : Int) : Nat → Int → Pm Int
 | 0, _ => .bad
 | n + 1, x => (cTake T K [33]).bind fun b => bif b then (cAdd K (nod 40 [x] []) f).bind fun y => cBehindL f n y
  else (cTake T K [91]).bind fun b => bif b then q.val.bind fun y => (cWant T K [93]).bind fun _ => (cAdd K (nod 27 [x, y] []) f).bind fun y => cBehindL f n y
  else (cTake T K [46]).bind fun b => bif b then (cPart T K q x f).bind fun y => cBehindL f n y
  else .ret x
def cBehind : Pm Int := (cNext T K).bind fun t => (cPrimary T K q).bind fun x => cBehindL T K q (tFrom t.1) (K.length + 2) x
def cUnary : Pm Int := (cNext T K).bind fun t => bif tKind t.1 == 5 && (t.2 == [33] || t.2 == [45]) then
  ((cInto K).bind fun _ => (cSkip K).bind fun _ => q.un.bind fun x => cOut.bind fun _ => cAdd K (nod (bif t.2 == [45] then 32 else 33) [x] []) (tFrom t.1))
 else cBehind T K q
def cChainL (least f : Int) (sub : Pm Int) : Nat → Int → Pm Int
 | 0, _ => .bad
 | n + 1, x => (cNext T K).bind fun t => bif tKind t.1 == 5 && bindsS t.2 == least then
   ((cSkip K).bind fun _ => sub.bind fun y => (cAdd K (nod 34 [x, y] t.2) f).bind fun z => cChainL least f sub n z)
  else bif least == 3 then ((cTake T K [105, 115]).bind fun b => bif b then
    ((cTake T K [115, 111, 109, 101]).bind fun b => bif b then (cAdd K (nod 43 [x] []) f).bind fun z => cChainL least f sub n z
     else (cWant T K [110, 111, 110, 101]).bind fun _ => (cAdd K (nod 44 [x] []) f).bind fun z => cChainL least f sub n z)
    else .ret x)
  else .ret x
def cChain : Nat → Pm Int
 | 0 => (cNext T K).bind fun _ => q.un
 | j + 1 => (cNext T K).bind fun t => (cChain j).bind fun x => cChainL T K (5 - (j : Int)) (tFrom t.1) (cChain j) (K.length + 2) x
def cValue : Pm Int := (cInto K).bind fun _ => (cChain T K q 6).bind fun x => cOut.bind fun _ => .ret x
def cWord (s : Str) : Pm (Nd × Bool) :=
 bif s == [105, 102] then (cSkip K).bind fun _ => (cBracket T K q).bind fun x => q.blk.bind fun y => (cTake T K [101, 108, 115, 101]).bind fun b => bif b then q.blk.bind fun z => .ret (nod 11 ([x, y] ++ [z]) [], true) else .ret (nod 11 [x, y] [], true)
 else bif s == [119, 104, 105, 108, 101] then (cSkip K).bind fun _ => (cBracket T K q).bind fun x => q.blk.bind fun y => .ret (nod 12 [x, y] [], true)
 else bif s == [98, 114, 101, 97, 107] then (cSkip K).bind fun _ => (cWant T K [59]).bind fun _ => .ret (nod 13 [] [], true)
 else bif s == [99, 111, 110, 116, 105, 110, 117, 101] then (cSkip K).bind fun _ => (cWant T K [59]).bind fun _ => .ret (nod 14 [] [], true)
 else bif s == [114, 101, 116, 117, 114, 110] then (cSkip K).bind fun _ => (cIs T K [59]).bind fun b => bif b then (cWant T K [59]).bind fun _ => .ret (nod 15 [] [], true) else q.val.bind fun x => (cWant T K [59]).bind fun _ => .ret (nod 15 [x] [], true)
 else bif s == [112, 114, 105, 110, 116] then (cSkip K).bind fun _ => (cBracket T K q).bind fun x => (cWant T K [59]).bind fun _ => .ret (nod 16 [x] [], true)
 else bif s == [115, 117, 112, 101, 114] then (cSkip K).bind fun _ => (cArgs T K q).bind fun l => (cWant T K [59]).bind fun _ => .ret (nod 17 l [], true)
 else .ret (nod 0 [] [], false)
def cKindAt (x : Int) : Pm Int := fun a d A => .ok (nKind (getN A x.toNat)) a d A
def cPlain (f : Int) : Pm Int := q.val.bind fun x => (cNext T K).bind fun t => (cKindAt x).bind fun k => (cTake T K [61]).bind fun b => bif b then
  (bif k == 25 || (k == 26 || k == 27) then q.val.bind fun y => (cWant T K [59]).bind fun _ => cAdd K (nod 10 [x, y] []) f else .flt 132 (tFrom t.1))
 else bif k == 29 || k == 30 then (cWant T K [59]).bind fun _ => cAdd K (nod 18 [x] []) f else .flt 132 f
def cStat : Pm Int := (cNext T K).bind fun t => bif tKind t.1 == 5 && t.2 == [123] then q.blk
 else (cDeclares T K).bind fun b => bif b then
  ((cTyped T K false).bind fun x => (cName T K).bind fun s => (cTake T K [61]).bind fun b => bif b then q.val.bind fun y => (cWant T K [59]).bind fun _ => cAdd K (withK x 9 [y] s) (tFrom t.1)
   else (cWant T K [59]).bind fun _ => cAdd K (withK x 9 (nKids x) s) (tFrom t.1))
 else bif tKind t.1 == 1 then (cWord T K q t.2).bind fun w => bif w.2 then cAdd K w.1 (tFrom t.1) else cPlain T K q (tFrom t.1)
 else cPlain T K q (tFrom t.1)
def cBlockL (f : Int) : Nat → List Int → Pm Int
 | 0, _ => .bad
 | n + 1, L => (cIs T K [125]).bind fun b => bif b then (cWant T K [125]).bind fun _ => cOut.bind fun _ => cAdd K (nod 8 L []) f
  else (cStat T K q).bind fun x => cBlockL f n (L ++ [x])
def cBlock : Pm Int := (cNext T K).bind fun t => (cInto K).bind fun _ => (cWant T K [123]).bind fun _ => cBlockL T K q (tFrom t.1) (K.length + 2) []
end
def kns (T : List UInt8) (K : List Tok) : Nat → Kn
 | 0 => ⟨.bad, .bad, .bad⟩
 | n + 1 => ⟨cValue T K (kns T K n), cBlock T K (kns T K n), cUnary T K (kns T K n)⟩
section
variable (T : List UInt8) (K : List Tok) (q : Kn)
def cParamsL : Nat → List Int → Pm (List Int)
 | 0, _ => .bad
 | n + 1, L => (cTake T K [41]).bind fun b => bif b then .ret L
  else (bif decide ((L.length : Int) > 0) then (cWant T K [44]).bind fun _ => .ret () else .ret ()).bind fun _ => (cFew K ((L.length : Int) + 1)).bind fun _ => (cNext T K).bind fun t => (cTyped T K false).bind fun x => (cName T K).bind fun s => (cAdd K (withK x 7 (nKids x) s) (tFrom t.1)).bind fun y => cParamsL n (L ++ [y])
def cParams : Pm (List Int) := (cWant T K [40]).bind fun _ => cParamsL T K (K.length + 2) []
def cMember : Pm Int := (cNext T K).bind fun t => bif tKind t.1 == 1 && t.2 == [105, 110, 105, 116] then
  ((cSkip K).bind fun _ => (cParams T K).bind fun l => q.blk.bind fun b => cAdd K (nod 5 (l ++ [b]) []) (tFrom t.1))
 else (cTyped T K true).bind fun x => (cName T K).bind fun s => (cIs T K [40]).bind fun b => bif b then
   ((cParams T K).bind fun l => q.blk.bind fun b => cAdd K (withK x 6 (l ++ [b]) s) (tFrom t.1))
  else bif nBase x == 6 then .flt 80 (tFrom t.1) else (cWant T K [59]).bind fun _ => cAdd K (withK x 4 (nKids x) s) (tFrom t.1)
def cClassL (f : Int) (s : Str) : Nat → List Int → Pm Int
 | 0, _ => .bad
 | n + 1, L => (cIs T K [125]).bind fun b => bif b then (cWant T K [125]).bind fun _ => cAdd K (nod 2 L s) f
  else (cFew K ((L.length : Int) + 1)).bind fun _ => (cMember T K q).bind fun x => cClassL f s n (L ++ [x])
def cClass : Pm Int := (cNext T K).bind fun t => (cWant T K [99, 108, 97, 115, 115]).bind fun _ => (cName T K).bind fun s => (cNext T K).bind fun u => (cTake T K [101, 120, 116, 101, 110, 100, 115]).bind fun b => bif b then
  ((cName T K).bind fun e => (cAdd K (nod 3 [] e) (tFrom u.1)).bind fun y => (cWant T K [123]).bind fun _ => cClassL T K q (tFrom t.1) s (K.length + 2) [y])
 else (cWant T K [123]).bind fun _ => cClassL T K q (tFrom t.1) s (K.length + 2) []
def cProgramL : Nat → List Int → Pm Unit
 | 0, _ => .bad
 | n + 1, L => (cNext T K).bind fun t => bif tKind t.1 == 0 then (cAdd K (nod 1 L []) 0).bind fun _ => .ret ()
  else (cFew K ((L.length : Int) + 1)).bind fun _ => (cClass T K q).bind fun x => cProgramL n (L ++ [x])
def cProgram : Pm Unit := cProgramL T K q (K.length + 2) []
end
end Go.Sx.Tryz
namespace Go.Sx.Tryz
open Go Go.Sx
set_option maxRecDepth 100000
def EqH {α β : Type} (inj : β → α) (Q : β → Int → Int → List Nd → Prop) (r : PR α) (r' : PR β) : Prop := match r' with
 | .ok y a d A => r = .ok (inj y) a d A ∧ Q y a d A
 | .fault c p => r = .fault c p
 | .bad => False
section
variable {α β γ δ : Type} {inj : β → α} {Q : β → Int → Int → List Nd → Prop}
theorem EqH.ok {y : β} {a d : Int} {A : List Nd} (h : Q y a d A) : EqH inj Q (.ok (inj y) a d A) (.ok y a d A) := ⟨rfl, h⟩
theorem EqH.flt {c p : Int} : EqH inj Q (.fault c p) (.fault c p) := rfl
theorem EqH.bind {inj1 : δ → γ} {Q1 : δ → Int → Int → List Nd → Prop} {r : PR γ} {r' : PR δ} {k : γ → Int → Int → List Nd → PR α} {k' : δ → Int → Int → List Nd → PR β}
  (h1 : EqH inj1 Q1 r r') (h2 : ∀ y a d A, Q1 y a d A → EqH inj Q (k (inj1 y) a d A) (k' y a d A)) : EqH inj Q (r.bind k) (r'.bind k') := by
 cases r' with
 | ok y a d A =>
  obtain ⟨e, q⟩ := h1
  rw [e]
  exact h2 y a d A q
 | fault c p =>
  have e : r = .fault c p := h1
  rw [e]
  exact rfl
 | bad => exact h1.elim
theorem EqH.tail {inj1 : δ → γ} {Q1 : δ → Int → Int → List Nd → Prop} {injd : δ → α} {Qd : δ → Int → Int → List Nd → Prop} {r : PR γ} {r' : PR δ} {k : γ → Int → Int → List Nd → PR α}
  (h1 : EqH inj1 Q1 r r') (h2 : ∀ y a d A, Q1 y a d A → k (inj1 y) a d A = .ok (injd y) a d A ∧ Qd y a d A) : EqH injd Qd (r.bind k) r' := by
 cases r' with
 | ok y a d A =>
  obtain ⟨e, q⟩ := h1
  rw [e]
  exact h2 y a d A q
 | fault c p =>
  have e : r = .fault c p := h1
  rw [e]
  exact rfl
 | bad => exact h1.elim
theorem EqH.bif {c : Bool} {r s : PR α} {r' s' : PR β} (h : c = true → EqH inj Q r r') (h' : c = false → EqH inj Q s s') : EqH inj Q (bif c then r else s) (bif c then r' else s') := by
 cases c
 ·exact h' rfl
 ·exact h rfl
theorem EqH.of_eq {r r1 : PR α} {r' : PR β} (e : r = r1) (h : EqH inj Q r1 r') : EqH inj Q r r' := e ▸ h
theorem EqH.mono {Q' : β → Int → Int → List Nd → Prop} {r : PR α} {r' : PR β} (h : EqH inj Q r r') (hq : ∀ y a d A, Q y a d A → Q' y a d A) : EqH inj Q' r r' := by
 cases r' with
 | ok y a d A => exact ⟨h.1, hq _ _ _ _ h.2⟩
 | fault c p => exact h
 | bad => exact h
end
structure WF (T : List UInt8) (K : List Tok) : Prop where
 len : T.length ≤ 65536
 pos : 0 < K.length
 most : K.length ≤ 16385
 span : ∀ a : Int, 0 ≤ a → a < K.length → 0 ≤ tFrom (tokAt K a) ∧ tFrom (tokAt K a) ≤ tTo (tokAt K a) ∧ tTo (tokAt K a) ≤ T.length
 last : ∀ a : Int, 0 ≤ a → a < K.length → (tKind (tokAt K a) = 0 ↔ a = K.length - 1)
 fin : ∀ a : Int, 0 ≤ a → a < K.length → tKind (tokAt K a) = 0 → say T (tokAt K a) = []
structure Inv (K : List Tok) (a d : Int) (A : List Nd) : Prop where
 a0 : 0 ≤ a
 a1 : a < K.length
 d0 : 0 ≤ d
 d1 : d ≤ 60
 len : A.length ≤ 8192
 nd : ∀ x ∈ A, (nKids x).length ≤ 20000 ∧ (nEnds x).length ≤ 20000
structure Post (K : List Tok) (a d : Int) (A : List Nd) (c : Int) (a' d' : Int) (A' : List Nd) : Prop where
 inv : Inv K a' d' A'
 le : a + c ≤ a'
 eq : d' = d
 pre : ∃ B, A' = A ++ B
theorem Post.refl {K : List Tok} {a d : Int} {A : List Nd} (h : Inv K a d A) : Post K a d A 0 a d A := ⟨h, by omega, rfl, [], by simp⟩
theorem Post.trans {K : List Tok} {a d a1 d1 a2 d2 c1 c2 c : Int} {A A1 A2 : List Nd} (h : Post K a d A c1 a1 d1 A1) (k : Post K a1 d1 A1 c2 a2 d2 A2) (hc : c ≤ c1 + c2) : Post K a d A c a2 d2 A2 := by
 obtain ⟨B1, e1⟩ := h.pre
 obtain ⟨B2, e2⟩ := k.pre
 exact ⟨k.inv, by have := h.le; have := k.le; omega, k.eq.trans h.eq, B1 ++ B2, by rw [e2, e1, List.append_assoc]⟩
theorem Post.len {K : List Tok} {a d a' d' c : Int} {A A' : List Nd} (h : Post K a d A c a' d' A') : A.length ≤ A'.length := by
 obtain ⟨B, e⟩ := h.pre
 rw [e, List.length_append]
 omega
abbrev iI : Int → Dens [tI] := fun y => (y, ())
abbrev iS : Str → Dens [tS] := fun y => (y, ())
abbrev iB : Bool → Dens [tB] := fun y => (y, ())
abbrev iN : Nd → Dens [tN] := fun y => (y, ())
abbrev iL : List Int → Dens [tL] := fun y => (y, ())
abbrev iU : Unit → Dens [] := fun _ => ()
abbrev iTS : Tok × Str → Dens [tT, tS] := fun y => (y.1, y.2, ())
abbrev iIS : Int × Str → Dens [tI, tS] := fun y => (y.1, y.2, ())
abbrev iNB : Nd × Bool → Dens [tN, tB] := fun y => (y.1, y.2, ())
theorem inI_tok {K : List Tok} {a : Int} (h0 : 0 ≤ a) (h1 : a < K.length) : inI a K.length = true := by
 simp only [inI, Bool.and_eq_true, decide_eq_true_eq]
 omega
theorem succ_of {n k : Nat} (h : k + 1 ≤ n) : ∃ m, n = m + 1 ∧ k ≤ m := ⟨n - 1, by omega, by omega⟩
theorem say_len {T : List UInt8} {t : Tok} : (say T t).length ≤ T.length := by
 unfold say
 rw [List.length_drop, List.length_take]
 omega
section
variable {T : List UInt8} {K : List Tok} {n : Nat} {a d : Int} {A : List Nd}
theorem wf_wrap (wf : WF T K) {x : Int} (h0 : -100000 ≤ x) (h1 : x ≤ 100000) : IntKind.wrap .i64 x = x := wrap64 (by omega) (by omega)
theorem E_next (wf : WF T K) (hn : 1 ≤ n) (h0 : 0 ≤ a) (h1 : a < K.length) : EqH iTS (fun y a' d' A' => y = (tokAt K a, say T (tokAt K a)) ∧ a = a' ∧ d = d' ∧ A = A') ((fns n).next T K a d A ()) (cNext T K a d A) := by
 obtain ⟨m, rfl, _⟩ := succ_of (k := 0) hn
 obtain ⟨s0, s1, s2⟩ := wf.span a h0 h1
 show EqH iTS _ (sp45 (fns m) T K a d A) _
 unfold sp45
 rw [inI_tok h0 h1, inB_of s0 s1 s2]
 exact ⟨rfl, rfl, rfl, rfl, rfl⟩
theorem E_ahead (wf : WF T K) (hn : 1 ≤ n) (h0 : 0 ≤ a) (h1 : a < K.length) {j : Int} (j0 : 0 ≤ j) (j1 : j ≤ 2) : EqH iIS (fun y a' d' A' => (y.2.length ≤ T.length ∧ (y.2 ≠ [] → a + j < K.length ∧ y.2 = say T (tokAt K (a + j)))) ∧ a = a' ∧ d = d' ∧ A = A') ((fns n).ahead T K a d A (j, ())) (cAhead T K j a d A) := by
 obtain ⟨m, rfl, _⟩ := succ_of (k := 0) hn
 have hm := wf.most
 show EqH iIS _ (sp125 (fns m) T K a d A j) _
 unfold sp125 cAhead
 rw [wf_wrap wf (by omega) (by omega)]
 refine EqH.bif (fun h => ⟨rfl, ⟨Nat.zero_le _, fun e => absurd rfl e⟩, rfl, rfl, rfl⟩) fun h => ?_
 have hlt : a + j < K.length := by
  have := of_decide_eq_false h
  omega
 obtain ⟨s0, s1, s2⟩ := wf.span (a + j) (by omega) hlt
 rw [inI_tok (by omega) hlt, inB_of s0 s1 s2]
 exact ⟨rfl, ⟨say_len, fun _ => ⟨hlt, rfl⟩⟩, rfl, rfl, rfl⟩
theorem E_skip (wf : WF T K) (hn : 1 ≤ n) (h0 : 0 ≤ a) (h1 : a < K.length) (hk : tKind (tokAt K a) ≠ 0) : EqH iI (fun y a' d' A' => y = tTo (tokAt K a) ∧ a' = a + 1 ∧ d = d' ∧ A = A') ((fns n).skip T K a d A ()) (cSkip K a d A) := by
 obtain ⟨m, rfl, _⟩ := succ_of (k := 0) hn
 have hm := wf.most
 show EqH iI _ (sp90 (fns m) T K a d A) _
 unfold sp90 cSkip
 rw [inI_tok h0 h1, wf_wrap wf (x := a + 1) (by omega) (by omega)]
 have : (tKind (tokAt K a) != 0) = true := by simpa using hk
 rw [this]
 exact ⟨rfl, rfl, rfl, rfl, rfl⟩
theorem is_key {a d : Int} {A : List Nd} (x y z : Bool) : (bif x then PR.ok (z, ()) a d A else bif y then PR.ok (z, ()) a d A else PR.ok (false, ()) a d A : PR (Dens [tB])) = .ok ((x || y) && z, ()) a d A := by
 cases x <;> cases y <;> cases z <;> rfl
theorem E_is (wf : WF T K) (hn : 2 ≤ n) (h0 : 0 ≤ a) (h1 : a < K.length) {s : Str} : EqH iB (fun y a' d' A' => y = ((tKind (tokAt K a) == 1 || tKind (tokAt K a) == 5) && say T (tokAt K a) == s) ∧ a = a' ∧ d = d' ∧ A = A') ((fns n).isS T K a d A (s, ())) (cIs T K s a d A) := by
 obtain ⟨m, rfl, hm⟩ := succ_of (k := 1) hn
 show EqH iB _ (sp75 (fns m) T K a d A s) _
 unfold sp75 cIs Pm.bind
 refine EqH.bind (E_next wf hm h0 h1) ?_
 rintro _ _ _ _ ⟨rfl, rfl, rfl, rfl⟩
 exact ⟨is_key _ _ _, rfl, rfl, rfl, rfl⟩
theorem next_lt (wf : WF T K) (h0 : 0 ≤ a) (h1 : a < K.length) (hk : tKind (tokAt K a) ≠ 0) : a + 1 < K.length := by
 have h := wf.last a h0 h1
 have h2 : a ≠ K.length - 1 := fun e => hk (h.2 e)
 omega
theorem is_kind {s : Str} (h : ((tKind (tokAt K a) == 1 || tKind (tokAt K a) == 5) && say T (tokAt K a) == s) = true) : tKind (tokAt K a) ≠ 0 := fun e => by
 rw [e] at h
 exact absurd h (by simp)
theorem E_take (wf : WF T K) (hn : 3 ≤ n) (h0 : 0 ≤ a) (h1 : a < K.length) {s : Str} : EqH iB (fun y a' d' A' => ((y = true ∧ a' = a + 1 ∧ a + 1 < K.length) ∨ (y = false ∧ a = a')) ∧ d = d' ∧ A = A') ((fns n).take T K a d A (s, ())) (cTake T K s a d A) := by
 obtain ⟨m, rfl, hm⟩ := succ_of (k := 2) hn
 show EqH iB _ (sp74 (fns m) T K a d A s) _
 unfold sp74 cTake Pm.bind
 refine EqH.bind (E_is wf hm h0 h1) ?_
 rintro _ _ _ _ ⟨rfl, rfl, rfl, rfl⟩
 cases hb : ((tKind (tokAt K a) == 1 || tKind (tokAt K a) == 5) && say T (tokAt K a) == s) with
 | true =>
  refine EqH.bind (E_skip wf (by omega) h0 h1 (is_kind hb)) ?_
  rintro _ _ _ _ ⟨rfl, rfl, rfl, rfl⟩
  exact ⟨rfl, .inl ⟨rfl, rfl, next_lt wf h0 h1 (is_kind hb)⟩, rfl, rfl⟩
 | false => exact ⟨rfl, .inr ⟨rfl, rfl⟩, rfl, rfl⟩
theorem E_want (wf : WF T K) (hn : 3 ≤ n) (h0 : 0 ≤ a) (h1 : a < K.length) {s : Str} : EqH iI (fun y a' d' A' => y = tTo (tokAt K a) ∧ a' = a + 1 ∧ a + 1 < K.length ∧ d = d' ∧ A = A') ((fns n).want T K a d A (s, ())) (cWant T K s a d A) := by
 obtain ⟨m, rfl, hm⟩ := succ_of (k := 2) hn
 show EqH iI _ (sp72 (fns m) T K a d A s) _
 unfold sp72 cWant Pm.bind
 refine EqH.bind (E_is wf hm h0 h1) ?_
 rintro _ _ _ _ ⟨rfl, rfl, rfl, rfl⟩
 cases hb : ((tKind (tokAt K a) == 1 || tKind (tokAt K a) == 5) && say T (tokAt K a) == s) with
 | true =>
  refine EqH.tail (E_skip wf (by omega) h0 h1 (is_kind hb)) ?_
  rintro _ _ _ _ ⟨rfl, rfl, rfl, rfl⟩
  exact ⟨rfl, rfl, rfl, next_lt wf h0 h1 (is_kind hb), rfl, rfl⟩
 | false =>
  have e : (fns m).next T K a d A () = .ok (tokAt K a, say T (tokAt K a), ()) a d A := (E_next wf (n := m) (by omega) h0 h1).1
  show EqH iI _ (PR.bind ((fns m).next T K a d A ()) _) _
  rw [e]
  exact EqH.flt
theorem preS_tok (wf : WF T K) {s : Str} (h : s.length ≤ T.length) : preS (s, ()) = true := by
 have := wf.len
 show decide ((s.length : Int) ≤ 1099511627776) = true
 exact decide_eq_true (by omega)
theorem preU_tok (wf : WF T K) {s : Str} (h : s.length ≤ T.length) : preU (s, ()) = true := by
 have := wf.len
 show decide ((s.length : Int) ≤ 1048576) = true
 exact decide_eq_true (by omega)
theorem E_name (wf : WF T K) (hn : 2 ≤ n) (h0 : 0 ≤ a) (h1 : a < K.length) : EqH iS (fun y a' d' A' => y.length ≤ T.length ∧ a' = a + 1 ∧ a + 1 < K.length ∧ d = d' ∧ A = A') ((fns n).name T K a d A ()) (cName T K a d A) := by
 obtain ⟨m, rfl, hm⟩ := succ_of (k := 1) hn
 show EqH iS _ (sp73 (fns m) T K a d A) _
 unfold sp73 cName Pm.bind
 refine EqH.bind (E_next wf hm h0 h1) ?_
 rintro _ _ _ _ ⟨rfl, rfl, rfl, rfl⟩
 show EqH iS _ (bif tKind (tokAt K a) != 1 then _ else bif preS (say T (tokAt K a), ()) then bif !nameS (say T (tokAt K a)) then _ else _ else _) _
 rw [preS_tok wf say_len]
 show EqH iS _ _ ((bif tKind (tokAt K a) == 1 && nameS (say T (tokAt K a)) then _ else _ : Pm Str) a d A)
 cases hk : tKind (tokAt K a) == 1 with
 | false =>
  rw [show (tKind (tokAt K a) != 1) = true by simp [bne, hk]]
  exact EqH.flt
 | true =>
  rw [show (tKind (tokAt K a) != 1) = false by simp [bne, hk]]
  have hk0 : tKind (tokAt K a) ≠ 0 := fun e => by rw [e] at hk; exact absurd hk (by decide)
  cases hs : nameS (say T (tokAt K a)) with
  | false => exact EqH.flt
  | true =>
   refine EqH.bind (E_skip wf (by omega) h0 h1 hk0) ?_
   rintro _ _ _ _ ⟨rfl, rfl, rfl, rfl⟩
   exact ⟨rfl, say_len, rfl, next_lt wf h0 h1 hk0, rfl, rfl⟩
theorem E_into (wf : WF T K) (hn : 2 ≤ n) (h0 : 0 ≤ a) (h1 : a < K.length) (d0 : 0 ≤ d) (d1 : d ≤ 60) : EqH iU (fun _ a' d' A' => a = a' ∧ d' = d + 1 ∧ d + 1 ≤ 60 ∧ A = A') ((fns n).goIn T K a d A ()) (cInto K a d A) := by
 obtain ⟨m, rfl, hm⟩ := succ_of (k := 1) hn
 show EqH iU _ (sp104 (fns m) T K a d A) _
 unfold sp104 cInto
 rw [wf_wrap wf (x := d + 1) (by omega) (by omega)]
 cases h : decide (d + 1 > 60) with
 | true =>
  have e : (fns m).next T K a (d + 1) A () = .ok (tokAt K a, say T (tokAt K a), ()) a (d + 1) A := (E_next wf hm h0 h1).1
  rw [e]
  exact EqH.flt
 | false => exact ⟨rfl, rfl, rfl, by have := of_decide_eq_false h; omega, rfl⟩
theorem E_few (wf : WF T K) (hn : 2 ≤ n) (h0 : 0 ≤ a) (h1 : a < K.length) {x : Int} : EqH iU (fun _ a' d' A' => a = a' ∧ d = d' ∧ A = A' ∧ x ≤ 64) ((fns n).few T K a d A (x, ())) (cFew K x a d A) := by
 obtain ⟨m, rfl, hm⟩ := succ_of (k := 1) hn
 show EqH iU _ (sp46 (fns m) T K a d A x) _
 unfold sp46 cFew
 cases h : decide (x > 64) with
 | true =>
  have e : (fns m).next T K a d A () = .ok (tokAt K a, say T (tokAt K a), ()) a d A := (E_next wf hm h0 h1).1
  rw [e]
  exact EqH.flt
 | false => exact ⟨rfl, rfl, rfl, rfl, by have := of_decide_eq_false h; omega⟩
def Small (x : Nd) : Prop := (nKids x).length ≤ 20000 ∧ (nEnds x).length ≤ 20000
theorem E_add (wf : WF T K) (hn : 1 ≤ n) (hi : Inv K a d A) {x : Nd} (hx : Small x) {f : Int} : EqH iI (fun y a' d' A' => (y = A.length ∧ A' = A ++ [spanned x f (lastTo K a f)]) ∧ (0 ≤ y ∧ y < A'.length) ∧ Post K a d A 0 a' d' A' ∧ a = a' ∧ d = d') ((fns n).add T K a d A (x, f, ())) (cAdd K x f a d A) := by
 obtain ⟨m, rfl, hm⟩ := succ_of (k := 0) hn
 have h0 := hi.a0
 have h1 := hi.a1
 have hmost := wf.most
 have hl := hi.len
 have key : ∀ t : Int, (bif decide ((A.length : Int) ≥ 16384) then PR.fault 2 f
   else bif Nat.ble (nKids x).length 17592186044416 then bif Nat.ble (nEnds x).length 17592186044416 then
    bif decide (A.length + [spanned x f t].length < maxRoom) then
     bif decide (IntKind.wrap .i64 (((A ++ [spanned x f t]).length : Int) - 1) ≥ 8192) then PR.fault 2 f
     else PR.ok (IntKind.wrap .i64 (((A ++ [spanned x f t]).length : Int) - 1), ()) a d (A ++ [spanned x f t])
    else .bad else .bad else .bad : PR (Dens [tI])) = bif decide ((A.length : Int) ≥ 8192) then .fault 2 f else .ok ((A.length : Int), ()) a d (A ++ [spanned x f t]) := fun t => by
  have e1 : decide ((A.length : Int) ≥ 16384) = false := decide_eq_false (by omega)
  have e2 : Nat.ble (nKids x).length 17592186044416 = true := Nat.ble_eq_true_of_le (by have := hx.1; omega)
  have e3 : Nat.ble (nEnds x).length 17592186044416 = true := Nat.ble_eq_true_of_le (by have := hx.2; omega)
  have e4 : decide (A.length + [spanned x f t].length < maxRoom) = true := decide_eq_true (by unfold maxRoom; simp only [List.length_singleton]; omega)
  have e5 : IntKind.wrap .i64 (((A ++ [spanned x f t]).length : Int) - 1) = A.length := by
   rw [List.length_append, List.length_singleton]
   rw [wf_wrap wf (by omega) (by omega)]
   omega
  rw [e1, e2, e3, e4, e5]
  rfl
 have fin : EqH iI (fun y a' d' A' => (y = A.length ∧ A' = A ++ [spanned x f (lastTo K a f)]) ∧ (0 ≤ y ∧ y < A'.length) ∧ Post K a d A 0 a' d' A' ∧ a = a' ∧ d = d') (bif decide ((A.length : Int) ≥ 8192) then .fault 2 f else .ok ((A.length : Int), ()) a d (A ++ [spanned x f (lastTo K a f)])) (cAdd K x f a d A) := by
  unfold cAdd
  refine EqH.bif (fun _ => EqH.flt) fun h => ?_
  have h := of_decide_eq_false h
  refine ⟨rfl, ⟨rfl, rfl⟩, ⟨by omega, by rw [List.length_append, List.length_singleton]; omega⟩, ⟨⟨h0, h1, hi.d0, hi.d1, by rw [List.length_append, List.length_singleton]; omega, fun y hy => ?_⟩, by omega, rfl, _, rfl⟩, rfl, rfl⟩
  rcases List.mem_append.1 hy with hy | hy
  ·exact hi.nd y hy
  ·rw [List.mem_singleton.1 hy]
   exact hx
 show EqH iI _ (sp48 (fns m) T K a d A x f) _
 unfold sp48
 cases ha : decide (a > 0) with
 | true =>
  have ha' := of_decide_eq_true ha
  have hw : IntKind.wrap .i64 (a - 1) = a - 1 := wf_wrap wf (by omega) (by omega)
  have hlt : lastTo K a f = bif decide (f < tTo (tokAt K (a - 1))) then tTo (tokAt K (a - 1)) else f := by
   unfold lastTo
   rw [ha]
   rfl
  rw [hw, inI_tok (a := a - 1) (K := K) (by omega) (by omega)]
  exact EqH.of_eq ((key _).trans (by rw [hlt])) fin
 | false =>
  have hlt : lastTo K a f = f := by
   unfold lastTo
   rw [ha]
   rfl
  exact EqH.of_eq ((key _).trans (by rw [hlt])) fin
end
end Go.Sx.Tryz
namespace Go.Sx.Tryz
open Go Go.Sx
set_option maxRecDepth 100000
structure TyN (x : Nd) : Prop where
 d0 : 0 ≤ nDims x
 d1 : nDims x ≤ 4
 mks : ((nMarks x).length : Int) = nDims x + 1
 en : ((nEnds x).length : Int) = nDims x + 1
 kids : nKids x = []
theorem TyN.small {x : Nd} (h : TyN x) : Small x := by
 have h1 := h.d1
 have h2 := h.en
 exact ⟨by rw [h.kids]; simp, by omega⟩
section
variable {T : List UInt8} {K : List Tok} {n : Nat} {a d : Int} {A : List Nd}
theorem L_next (wf : WF T K) (hn : 1 ≤ n) (h0 : 0 ≤ a) (h1 : a < K.length) : (fns n).next T K a d A () = .ok (tokAt K a, say T (tokAt K a), ()) a d A := (E_next wf hn h0 h1).1
theorem E_base (wf : WF T K) (hn : 3 ≤ n) (h0 : 0 ≤ a) (h1 : a < K.length) : EqH iN (fun y a' d' A' => (TyN y ∧ nDims y = 0) ∧ a' = a + 1 ∧ a + 1 < K.length ∧ d = d' ∧ A = A') ((fns n).base T K a d A ()) (cBase T K a d A) := by
 obtain ⟨m, rfl, hm⟩ := succ_of (k := 2) hn
 show EqH iN _ (sp117 (fns m) T K a d A) _
 unfold sp117 cBase Pm.bind
 refine EqH.bind (E_next wf (by omega) h0 h1) ?_
 rintro _ _ _ _ ⟨rfl, rfl, rfl, rfl⟩
 show EqH iN _ (bif tKind (tokAt K a) != 1 then _ else _) ((bif tKind (tokAt K a) == 1 then _ else _ : Pm Nd) a d A)
 cases hk : tKind (tokAt K a) == 1 with
 | false =>
  rw [show (tKind (tokAt K a) != 1) = true by simp [bne, hk]]
  exact EqH.flt
 | true =>
  rw [show (tKind (tokAt K a) != 1) = false by simp [bne, hk]]
  have hk0 : tKind (tokAt K a) ≠ 0 := fun e => by rw [e] at hk; exact absurd hk (by decide)
  have fin : ∀ (b : Int) (nm : Str), EqH iN (fun y a' d' A' => (TyN y ∧ nDims y = 0) ∧ a' = a + 1 ∧ a + 1 < K.length ∧ d = d' ∧ A = A')
    (((fns m).skip T K a d A ()).bind fun y10 a10 d10 A10 => .ok (nodT b nm (tFrom (tokAt K a)) (tTo (tokAt K a)) y10.1, ()) a10 d10 A10)
    ((cSkip K).bind (fun e => .ret (nodT b nm (tFrom (tokAt K a)) (tTo (tokAt K a)) e)) a d A) := fun b nm => by
   refine EqH.bind (E_skip wf (by omega) h0 h1 hk0) ?_
   rintro _ _ _ _ ⟨rfl, rfl, rfl, rfl⟩
   exact ⟨rfl, ⟨⟨Int.le_refl 0, show (0 : Int) ≤ 4 by decide, rfl, rfl, rfl⟩, rfl⟩, rfl, next_lt wf h0 h1 hk0, rfl, rfl⟩
  show EqH iN _ (bif say T (tokAt K a) == [105, 110, 116] then _ else _) ((bif say T (tokAt K a) == [105, 110, 116] then _ else _ : Pm Nd) a d A)
  cases say T (tokAt K a) == [105, 110, 116] with
  | true => exact fin 1 []
  | false =>
  show EqH iN _ (bif say T (tokAt K a) == [98, 111, 111, 108] then _ else _) ((bif say T (tokAt K a) == [98, 111, 111, 108] then _ else _ : Pm Nd) a d A)
  cases say T (tokAt K a) == [98, 111, 111, 108] with
  | true => exact fin 2 []
  | false =>
  show EqH iN _ (bif say T (tokAt K a) == [100, 111, 117, 98, 108, 101] then _ else _) ((bif say T (tokAt K a) == [100, 111, 117, 98, 108, 101] then _ else _ : Pm Nd) a d A)
  cases say T (tokAt K a) == [100, 111, 117, 98, 108, 101] with
  | true => exact fin 3 []
  | false =>
  show EqH iN _ (bif say T (tokAt K a) == [115, 116, 114] then _ else _) ((bif say T (tokAt K a) == [115, 116, 114] then _ else _ : Pm Nd) a d A)
  cases say T (tokAt K a) == [115, 116, 114] with
  | true => exact fin 4 []
  | false =>
  show EqH iN _ (bif preS (say T (tokAt K a), ()) then bif !nameS (say T (tokAt K a)) then _ else _ else _) ((bif nameS (say T (tokAt K a)) then _ else _ : Pm Nd) a d A)
  rw [preS_tok wf say_len]
  cases nameS (say T (tokAt K a)) with
  | true => exact fin 5 _
  | false => exact EqH.flt
theorem mark_ok {x : Nd} (h : TyN x) : inI (nDims x) (nMarks x).length = true ∧ inB 0 (nDims x) (nMarks x).length = true := by
 have h1 := h.d0
 have h2 := h.mks
 exact ⟨by simp only [inI, Bool.and_eq_true, decide_eq_true_eq]; omega, inB_of (by omega) (by omega) (by omega)⟩
theorem setMark_ok {x : Nd} (h : TyN x) (c : UInt8) (w1 w2 : Int) : TyN (setMark x c w1 w2) := by
 have h1 := h.d0
 have h2 := h.mks
 refine ⟨h.d0, h.d1, ?_, h.en, h.kids⟩
 show (((nMarks x).take (nDims x).toNat ++ [c]).length : Int) = nDims x + 1
 rw [List.length_append, List.length_take, List.length_singleton]
 omega
theorem addDim_ok {x : Nd} (h : TyN x) (h4 : nDims x ≠ 4) (e : Int) : TyN (addDim x e) := by
 have h1 := h.d0
 have h2 := h.mks
 have h3 := h.en
 have h5 := h.d1
 refine ⟨?_, ?_, ?_, ?_, h.kids⟩
 ·show 0 ≤ nDims x + 1
  omega
 ·show nDims x + 1 ≤ 4
  omega
 ·show ((nMarks x ++ [32]).length : Int) = nDims x + 1 + 1
  rw [List.length_append, List.length_singleton]
  omega
 ·show ((nEnds x ++ [e]).length : Int) = nDims x + 1 + 1
  rw [List.length_append, List.length_singleton]
  omega
theorem E_innerL (wf : WF T K) {m : Nat} (hm : 3 ≤ m) : ∀ (N : Nat) (a d : Int) (A : List Nd) (x : Nd), 0 ≤ a → a < K.length → (K.length : Int) - a + 1 ≤ N → TyN x →
  EqH iN (fun y a' d' A' => TyN y ∧ (a ≤ a' ∧ a' < K.length) ∧ d = d' ∧ A = A') (lF106 (fns m) T K N a d A (nKind x) (nAt x) (nTo x) (nText x) (nBase x) (nName x) (nDims x) (nMarks x) (nN x) (nW1 x) (nW2 x) (nEnds x)) (cInnerL T K N x a d A)
 | 0, a, d, A, x, h0, h1, hN, hx => by omega
 | N + 1, a, d, A, x, h0, h1, hN, hx => by
  obtain ⟨i1, i2⟩ := mark_ok hx
  have hmost := wf.most
  have hxe : x = mkN (nKind x) (nAt x) (nTo x) [] (nText x) (nBase x) (nName x) (nDims x) (nMarks x) (nN x) (nW1 x) (nW2 x) (nEnds x) := by
   have := hx.kids
   obtain ⟨k, f, t, ks, r⟩ := x
   have e : ks = [] := this
   subst e
   rfl
  have hmk := hx.mks
  have hen := hx.en
  have hd1 := hx.d1
  show EqH iN _ (sL106 (fns m) T K (lF106 (fns m) T K N) a d A (nKind x) (nAt x) (nTo x) (nText x) (nBase x) (nName x) (nDims x) (nMarks x) (nN x) (nW1 x) (nW2 x) (nEnds x)) _
  unfold sL106 cInnerL Pm.bind
  refine EqH.bind (E_next wf (by omega) h0 h1) ?_
  rintro _ _ _ _ ⟨rfl, rfl, rfl, rfl⟩
  refine EqH.bind (E_is wf (by omega) h0 h1) ?_
  rintro _ _ _ _ ⟨rfl, rfl, rfl, rfl⟩
  cases hb : ((tKind (tokAt K a) == 1 || tKind (tokAt K a) == 5) && say T (tokAt K a) == [63]) with
  | true =>
   have hk0 := is_kind hb
   have hlt := next_lt wf h0 h1 hk0
   have ih := E_innerL wf hm N (a + 1) d A (setMark x 63 (nW1 x) (tTo (tokAt K a))) (by omega) hlt (by omega) (setMark_ok hx _ _ _)
   have e62 : decide ((List.drop (Int.toNat 0) (List.take (Int.toNat (nDims x)) (nMarks x))).length + [(63 : UInt8)].length < 2 ^ 62) = true := decide_eq_true (by
    show ((List.take (Int.toNat (nDims x)) (nMarks x))).length + 1 < 2 ^ 62
    rw [List.length_take]
    omega)
   have go : EqH iN (fun y a' d' A' => TyN y ∧ (a ≤ a' ∧ a' < K.length) ∧ d = d' ∧ A = A')
     (bif inI (nDims x) (nMarks x).length then bif markAt x (nDims x) != 32 then PR.fault 81 (tFrom (tokAt K a)) else bif inB 0 (nDims x) (nMarks x).length then
      bif decide ((List.drop (Int.toNat 0) (List.take (Int.toNat (nDims x)) (nMarks x))).length + [(63 : UInt8)].length < 2 ^ 62) then
       ((fns m).skip T K a d A ()).bind fun y27 a27 d27 A27 => lF106 (fns m) T K N a27 d27 A27 (nKind x) (nAt x) (nTo x) (nText x) (nBase x) (nName x) (nDims x) (List.drop (Int.toNat 0) (List.take (Int.toNat (nDims x)) (nMarks x)) ++ [63]) (nN x) (nW1 x) y27.1 (nEnds x)
      else .bad else .bad else .bad)
     ((bif markAt x (nDims x) != 32 then .flt 81 (tFrom (tokAt K a)) else (cSkip K).bind fun e => cInnerL T K N (setMark x 63 (nW1 x) e)) a d A) := by
    rw [i1, i2, e62]
    cases hmk : markAt x (nDims x) != 32 with
    | true => exact EqH.flt
    | false =>
     refine EqH.bind (E_skip wf (by omega) h0 h1 hk0) ?_
     rintro _ _ _ _ ⟨rfl, rfl, rfl, rfl⟩
     exact EqH.mono ih fun y a' d' A' h => ⟨h.1, ⟨by have := h.2.1.1; omega, h.2.1.2⟩, h.2.2⟩
   show EqH iN _ (bif nBase x != 5 then bif nDims x == 0 then _ else _ else _) ((bif (nBase x != 5 && nDims x == 0) || markAt x (nDims x) != 32 then .flt 81 (tFrom (tokAt K a)) else (cSkip K).bind fun e => cInnerL T K N (setMark x 63 (nW1 x) e)) a d A)
   cases h5 : nBase x != 5 with
   | true =>
    cases hz : nDims x == 0 with
    | true => exact EqH.flt
    | false => exact go
   | false => exact go
  | false =>
   show EqH iN _ (PR.bind ((fns m).next T K a d A ()) _) _
   rw [L_next wf (by omega) h0 h1]
   show EqH iN _ (PR.bind ((fns m).ahead T K a d A (1, ())) _) _
   refine EqH.bind (E_ahead wf (n := m) (j := 1) (by omega) h0 h1 (by decide) (by decide)) ?_
   rintro z _ _ _ ⟨⟨_, hz⟩, rfl, rfl, rfl⟩
   refine EqH.bind (E_is wf (by omega) h0 h1) ?_
   rintro _ _ _ _ ⟨rfl, rfl, rfl, rfl⟩
   have done : EqH iN (fun y a' d' A' => TyN y ∧ (a ≤ a' ∧ a' < K.length) ∧ d = d' ∧ A = A') (.ok (mkN (nKind x) (nAt x) (nTo x) [] (nText x) (nBase x) (nName x) (nDims x) (nMarks x) (nN x) (nW1 x) (nW2 x) (nEnds x), ()) a d A) ((Pm.ret x : Pm Nd) a d A) := by
    rw [← hxe]
    exact ⟨rfl, hx, ⟨Int.le_refl _, h1⟩, rfl, rfl⟩
   cases hb2 : ((tKind (tokAt K a) == 1 || tKind (tokAt K a) == 5) && say T (tokAt K a) == [91]) with
   | false => exact done
   | true =>
    have hk0 := is_kind hb2
    have hlt := next_lt wf h0 h1 hk0
    show EqH iN _ (bif !z.2 == [93] then _ else _) ((bif z.2 == [93] then _ else _ : Pm Nd) a d A)
    cases hz2 : z.2 == [93] with
    | false => exact done
    | true =>
     show EqH iN _ (bif nDims x == 4 then _ else _) ((bif nDims x == 4 then _ else _ : Pm Nd) a d A)
     cases h4 : nDims x == 4 with
     | true => exact EqH.flt
     | false =>
      have h4 : nDims x ≠ 4 := fun e => by rw [e] at h4; exact absurd h4 (by decide)
      refine EqH.bind (E_skip wf (n := m) (by omega) h0 h1 hk0) ?_
      rintro _ _ _ _ ⟨rfl, rfl, rfl, rfl⟩
      have hz2 : z.2 = [93] := by simpa using hz2
      obtain ⟨z1, z2⟩ := hz (by rw [hz2]; simp)
      have hk1 : tKind (tokAt K (a + 1)) ≠ 0 := fun e => by
       have := wf.fin (a + 1) (by omega) hlt e
       rw [← z2, hz2] at this
       cases this
      refine EqH.bind (E_skip wf (n := m) (by omega) (by omega) hlt hk1) ?_
      rintro _ _ _ _ ⟨rfl, rfl, rfl, rfl⟩
      have hlt2 := next_lt wf (by omega) hlt hk1
      have ih := E_innerL wf hm N (a + 1 + 1) d A (addDim x (tTo (tokAt K (a + 1)))) (by omega) hlt2 (by omega) (addDim_ok hx h4 _)
      have e62 : decide ((nMarks x).length + [(32 : UInt8)].length < 2 ^ 62) = true := decide_eq_true (by
       show (nMarks x).length + 1 < 2 ^ 62
       omega)
      have emr : decide ((nEnds x).length + [tTo (tokAt K (a + 1))].length < maxRoom) = true := decide_eq_true (by
       show (nEnds x).length + 1 < maxRoom
       unfold maxRoom
       omega)
      have ew : IntKind.wrap .i64 (nDims x + 1) = nDims x + 1 := wf_wrap wf (by have := hx.d0; omega) (by omega)
      show EqH iN _ (bif decide ((nMarks x).length + [(32 : UInt8)].length < 2 ^ 62) then bif decide ((nEnds x).length + [tTo (tokAt K (a + 1))].length < maxRoom) then lF106 (fns m) T K N (a + 1 + 1) d A (nKind x) (nAt x) (nTo x) (nText x) (nBase x) (nName x) (IntKind.wrap .i64 (nDims x + 1)) (nMarks x ++ [32]) (nN x) (nW1 x) (tTo (tokAt K (a + 1))) (nEnds x ++ [tTo (tokAt K (a + 1))]) else .bad else .bad) _
      rw [e62, emr, ew]
      exact EqH.mono ih fun y a' d' A' h => ⟨h.1, ⟨by have := h.2.1.1; omega, h.2.1.2⟩, h.2.2⟩
theorem E_inner (wf : WF T K) (hn : 4 ≤ n) (h0 : 0 ≤ a) (h1 : a < K.length) : EqH iN (fun y a' d' A' => TyN y ∧ (a + 1 ≤ a' ∧ a' < K.length) ∧ d = d' ∧ A = A') ((fns n).inner T K a d A ()) (cInner T K a d A) := by
 obtain ⟨m, rfl, hm⟩ := succ_of (k := 3) hn
 show EqH iN _ (sS106 (fns m) T K (lF106 (fns m) T K (K.length + 2)) a d A) _
 unfold sS106 cInner Pm.bind
 refine EqH.bind (E_base wf (by omega) h0 h1) ?_
 rintro x _ _ _ ⟨⟨hx, _⟩, rfl, hlt, rfl, rfl⟩
 exact EqH.mono (E_innerL wf hm (K.length + 2) (a + 1) d A x (by omega) hlt (by omega) hx) fun y a' d' A' h => ⟨h.1, h.2.1, h.2.2⟩
end
end Go.Sx.Tryz
namespace Go.Sx.Tryz
open Go Go.Sx
set_option maxRecDepth 100000
section
variable {T : List UInt8} {K : List Tok} {n : Nat} {a d : Int} {A : List Nd}
def QT (K : List Tok) (a d : Int) (A : List Nd) (y : Nd) (a' d' : Int) (A' : List Nd) : Prop := TyN y ∧ (a + 1 ≤ a' ∧ a' < K.length) ∧ d = d' ∧ A = A'
theorem E_typed (wf : WF T K) (hn : 5 ≤ n) (h0 : 0 ≤ a) (h1 : a < K.length) (v : Bool) : EqH iN (QT K a d A) ((fns n).typed T K a d A (v, ())) (cTyped T K v a d A) := by
 obtain ⟨m, rfl, hm⟩ := succ_of (k := 4) hn
 have hmost := wf.most
 show EqH iN _ (sp94 (fns m) T K a d A v) _
 unfold sp94 cTyped Pm.bind
 refine EqH.bind (E_next wf (by omega) h0 h1) ?_
 rintro _ _ _ _ ⟨rfl, rfl, rfl, rfl⟩
 have hI : EqH iN (QT K a d A) (((fns m).inner T K a d A ()).bind fun y a d A => .ok (mkN (nKind y.1) (nAt y.1) (nTo y.1) (nKids y.1) (nText y.1) (nBase y.1) (nName y.1) (nDims y.1) (nMarks y.1) (nN y.1) (nW1 y.1) (nW2 y.1) (nEnds y.1), ()) a d A) (cInner T K a d A) :=
  EqH.tail (E_inner wf (by omega) h0 h1) fun y a' d' A' h => ⟨rfl, h⟩
 have hY : EqH iN (QT K a d A) (bif v then bif tKind (tokAt K a) == 1 then bif say T (tokAt K a) == [118, 111, 105, 100] then
    ((fns m).skip T K a d A ()).bind fun y11 a11 d11 A11 => .ok (nodT 6 [] (tFrom (tokAt K a)) (tTo (tokAt K a)) y11.1, ()) a11 d11 A11
   else ((fns m).inner T K a d A ()).bind fun y a d A => .ok (mkN (nKind y.1) (nAt y.1) (nTo y.1) (nKids y.1) (nText y.1) (nBase y.1) (nName y.1) (nDims y.1) (nMarks y.1) (nN y.1) (nW1 y.1) (nW2 y.1) (nEnds y.1), ()) a d A
   else ((fns m).inner T K a d A ()).bind fun y a d A => .ok (mkN (nKind y.1) (nAt y.1) (nTo y.1) (nKids y.1) (nText y.1) (nBase y.1) (nName y.1) (nDims y.1) (nMarks y.1) (nN y.1) (nW1 y.1) (nW2 y.1) (nEnds y.1), ()) a d A
   else ((fns m).inner T K a d A ()).bind fun y a d A => .ok (mkN (nKind y.1) (nAt y.1) (nTo y.1) (nKids y.1) (nText y.1) (nBase y.1) (nName y.1) (nDims y.1) (nMarks y.1) (nN y.1) (nW1 y.1) (nW2 y.1) (nEnds y.1), ()) a d A)
   ((bif v && (tKind (tokAt K a) == 1 && say T (tokAt K a) == [118, 111, 105, 100]) then (cSkip K).bind fun e => .ret (nodT 6 [] (tFrom (tokAt K a)) (tTo (tokAt K a)) e) else cInner T K) a d A) := by
  cases v with
  | false => exact hI
  | true =>
   cases hk : tKind (tokAt K a) == 1 with
   | false => exact hI
   | true =>
    cases say T (tokAt K a) == [118, 111, 105, 100] with
    | false => exact hI
    | true =>
     have hk0 : tKind (tokAt K a) ≠ 0 := fun e => by rw [e] at hk; exact absurd hk (by decide)
     refine EqH.bind (E_skip wf (n := m) (by omega) h0 h1 hk0) ?_
     rintro _ _ _ _ ⟨rfl, rfl, rfl, rfl⟩
     exact ⟨rfl, ⟨Int.le_refl 0, show (0 : Int) ≤ 4 by decide, rfl, rfl, rfl⟩, ⟨Int.le_refl _, next_lt wf h0 h1 hk0⟩, rfl, rfl⟩
 show EqH iN _ (bif say T (tokAt K a) == [79, 112, 116, 105, 111, 110] then bif tKind (tokAt K a) == 1 then _ else _ else _) ((bif say T (tokAt K a) == [79, 112, 116, 105, 111, 110] && tKind (tokAt K a) == 1 then _ else _ : Pm Nd) a d A)
 cases say T (tokAt K a) == [79, 112, 116, 105, 111, 110] with
 | false => exact hY
 | true =>
  cases hk : tKind (tokAt K a) == 1 with
  | false =>
   rw [hk] at hY
   exact hY
  | true =>
   have hk0 : tKind (tokAt K a) ≠ 0 := fun e => by rw [e] at hk; exact absurd hk (by decide)
   have hlt := next_lt wf h0 h1 hk0
   refine EqH.bind (E_skip wf (n := m) (by omega) h0 h1 hk0) ?_
   rintro _ _ _ _ ⟨rfl, rfl, rfl, rfl⟩
   refine EqH.bind (E_want wf (n := m) (by omega) (by omega) hlt) ?_
   rintro _ _ _ _ ⟨rfl, rfl, hlt2, rfl, rfl⟩
   refine EqH.bind (E_inner wf (n := m) (by omega) (by omega) hlt2) ?_
   rintro x a3 _ _ ⟨hx, ⟨g1, g2⟩, rfl, rfl⟩
   refine EqH.bind (E_want wf (n := m) (by omega) (by omega) g2) ?_
   rintro _ _ _ _ ⟨rfl, rfl, hlt3, rfl, rfl⟩
   obtain ⟨i1, i2⟩ := mark_ok hx
   have hmk := hx.mks
   have hd1 := hx.d1
   have e62 : decide ((List.drop (Int.toNat 0) (List.take (Int.toNat (nDims x)) (nMarks x))).length + [(111 : UInt8)].length < 2 ^ 62) = true := decide_eq_true (by
    show ((List.take (Int.toNat (nDims x)) (nMarks x))).length + 1 < 2 ^ 62
    rw [List.length_take]
    omega)
   have ew : IntKind.wrap .i64 (a3 + 1 - 1) = a3 := by rw [wf_wrap wf (by omega) (by omega)]; omega
   have go : EqH iN (QT K a d A)
     (bif inI (nDims x) (nMarks x).length then bif markAt x (nDims x) != 32 then PR.fault 5 (tFrom (tokAt K a)) else bif inB 0 (nDims x) (nMarks x).length then
      bif decide ((List.drop (Int.toNat 0) (List.take (Int.toNat (nDims x)) (nMarks x))).length + [(111 : UInt8)].length < 2 ^ 62) then
       bif inI (IntKind.wrap .i64 (a3 + 1 - 1)) K.length then .ok (mkN (nKind x) (nAt x) (nTo x) (nKids x) (nText x) (nBase x) (nName x) (nDims x) (List.drop (Int.toNat 0) (List.take (Int.toNat (nDims x)) (nMarks x)) ++ [111]) (nN x) (tFrom (tokAt K a)) (tTo (tokAt K (IntKind.wrap .i64 (a3 + 1 - 1)))) (nEnds x), ()) (a3 + 1) d A
       else .bad
      else .bad else .bad else .bad)
     ((bif markAt x (nDims x) != 32 then .flt 5 (tFrom (tokAt K a)) else .ret (setMark x 111 (tFrom (tokAt K a)) (tTo (tokAt K a3))) : Pm Nd) (a3 + 1) d A) := by
    rw [i1, i2, e62, ew, inI_tok (by omega) g2]
    cases hmk : markAt x (nDims x) != 32 with
    | true => exact EqH.flt
    | false => exact ⟨rfl, setMark_ok hx _ _ _, ⟨by omega, hlt3⟩, rfl, rfl⟩
   show EqH iN _ (bif nBase x != 5 then bif nDims x == 0 then _ else _ else _) ((bif (nBase x != 5 && nDims x == 0) || markAt x (nDims x) != 32 then .flt 5 (tFrom (tokAt K a)) else .ret (setMark x 111 (tFrom (tokAt K a)) (tTo (tokAt K a3))) : Pm Nd) (a3 + 1) d A)
   cases h5 : nBase x != 5 with
   | true =>
    cases hz : nDims x == 0 with
    | true => exact EqH.flt
    | false => exact go
   | false => exact go
theorem E_declares (wf : WF T K) (hn : 2 ≤ n) (h0 : 0 ≤ a) (h1 : a < K.length) : EqH iB (fun _ a' d' A' => a = a' ∧ d = d' ∧ A = A') ((fns n).declares T K a d A ()) (cDeclares T K a d A) := by
 obtain ⟨m, rfl, hm⟩ := succ_of (k := 1) hn
 have hT := wf.len
 show EqH iB _ (sp113 (fns m) T K a d A) _
 unfold sp113 cDeclares Pm.bind
 refine EqH.bind (E_ahead wf (n := m) (j := 0) (by omega) h0 h1 (by decide) (by decide)) ?_
 rintro x _ _ _ ⟨⟨xl, _⟩, rfl, rfl, rfl⟩
 show EqH iB _ (bif x.1 != 1 then _ else bif preS (x.2, ()) then bif !nameS x.2 then _ else _ else _) ((bif x.1 != 1 then _ else bif nameS x.2 then _ else _ : Pm Bool) a d A)
 rw [preS_tok wf xl]
 cases x.1 != 1 with
 | true => exact ⟨rfl, rfl, rfl, rfl⟩
 | false =>
  cases nameS x.2 with
  | false =>
   have e1 : decide ([(32 : UInt8)].length + x.2.length < 2 ^ 62) = true := decide_eq_true (by
    show 1 + x.2.length < 2 ^ 62
    omega)
   have e2 : decide (([(32 : UInt8)] ++ x.2).length + [(32 : UInt8)].length < 2 ^ 62) = true := decide_eq_true (by
    rw [List.length_append]
    show 1 + x.2.length + 1 < 2 ^ 62
    omega)
   show EqH iB _ (bif decide ([(32 : UInt8)].length + x.2.length < 2 ^ 62) then bif decide (([(32 : UInt8)] ++ x.2).length + [(32 : UInt8)].length < 2 ^ 62) then _ else _ else _) _
   rw [e1, e2]
   exact ⟨rfl, rfl, rfl, rfl⟩
  | true =>
   refine EqH.bind (E_ahead wf (n := m) (j := 1) (by omega) h0 h1 (by decide) (by decide)) ?_
   rintro y _ _ _ ⟨⟨yl, _⟩, rfl, rfl, rfl⟩
   refine EqH.bind (E_ahead wf (n := m) (j := 2) (by omega) h0 h1 (by decide) (by decide)) ?_
   rintro z _ _ _ ⟨⟨zl, _⟩, rfl, rfl, rfl⟩
   show EqH iB _ (bif y.1 == 1 then bif preS (y.2, ()) then bif nameS y.2 then .ok (true, ()) a d A else bif y.1 == 5 then bif y.2 == [63] then .ok (true, ()) a d A else bif y.2 == [91] then .ok (z.2 == [93], ()) a d A else .ok (false, ()) a d A else .ok (false, ()) a d A else .bad
    else bif y.1 == 5 then bif y.2 == [63] then .ok (true, ()) a d A else bif y.2 == [91] then .ok (z.2 == [93], ()) a d A else .ok (false, ()) a d A else .ok (false, ()) a d A)
    (.ok ((y.1 == 1 && nameS y.2) || (y.1 == 5 && (y.2 == [63] || (y.2 == [91] && z.2 == [93])))) a d A)
   rw [preS_tok wf yl]
   cases y.1 == 1 <;> cases nameS y.2 <;> cases y.1 == 5 <;> cases y.2 == [63] <;> cases y.2 == [91] <;> cases z.2 == [93] <;> exact ⟨rfl, rfl, rfl, rfl⟩
end
end Go.Sx.Tryz
