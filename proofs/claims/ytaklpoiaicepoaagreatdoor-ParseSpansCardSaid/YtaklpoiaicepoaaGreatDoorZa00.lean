/- A part of the proof: see the row's text. -/
import Derived.Calls
set_option linter.unusedVariables false
set_option linter.unusedSimpArgs false
noncomputable section
namespace Go.Sx
open Go
inductive Ty where
 | unit | bool | int (k : IntKind) | flt (k : FloatKind) | str
 | pair (a b : Ty)
 | slice (e : Ty)
 | ptr (e : Ty)
 deriving DecidableEq
def Ty.den : Ty → Type
 | .unit => Unit
 | .bool => Bool
 | .int _ => Int
 | .flt _ => Nat
 | .str => List UInt8
 | .pair a b => a.den × b.den
 | .slice e => List e.den
 | .ptr e => Option e.den
def Ty.dflt : (t : Ty) → t.den
 | .unit => ()
 | .bool => false
 | .int _ => (0 : Int)
 | .flt _ => (0 : Nat)
 | .str => ([] : List UInt8)
 | .pair a b => (a.dflt, b.dflt)
 | .slice e => ([] : List e.den)
 | .ptr e => (none : Option e.den)
def Ty.size : Ty → Nat
 | .unit => 0
 | .pair a b => a.size + b.size
 | _ => 1
inductive AV where
 | undef
 | bool (b : Bool)
 | int (k : IntKind) (n : Int)
 | flt (k : FloatKind) (bits : Nat)
 | str (s : List UInt8)
 | nilp
 | nils
 | ref (b off : Nat)
 | bself (b : Nat)
 | anyp
 | pd (t : Ty) (x : t.den) (off : Nat)
 | sl (t : Ty) (L : List t.den)
 | sx (t : Ty) (L : List t.den)
 | own (b g : Nat)
 | el (b g i off : Nat)
 | fn (f : Nat) (cap : List AV)
 | nilf
 | iface (t : Nat) (v : AV)
 | nili
 | agg (cs : List AV)
 | tup (vs : List AV)
def AV.cells : AV → List AV
 | .agg cs => cs
 | v => [v]
def AV.leaf : AV → Bool
 | .undef | .agg _ | .tup _ => false
 | _ => true
def flat : (t : Ty) → t.den → List AV
 | .unit, _ => []
 | .bool, b => [.bool b]
 | .int k, n => [.int k n]
 | .flt k, n => [.flt k n]
 | .str, s => [.str s]
 | .pair a b, x => flat a x.1 ++ flat b x.2
 | .slice e, L => [.sl e L]
 | .ptr _, none => [.nilp]
 | .ptr e, some x => [.pd e x 0]
inductive Blk where
 | cells (ty : Nat) (cs : List AV)
 | list (ee : Nat) (t : Ty) (g : Nat) (sh : Bool) (L : List t.den)
abbrev Blks := List (Nat × Blk)
abbrev Get := Nat → Option Blk
abbrev Wr := List (Nat × Blk)
def getB : Blks → Get
 | [], _ => none
 | (i, b) :: r, j => match Nat.beq i j with
  | true => some b
  | false => getB r j
inductive DT (α : Type) where
 | leaf (a : α) | fail | br (b : Bool) (t e : DT α)
def DT.run {α : Type} : DT α → Option α
 | .leaf a => some a
 | .fail => none
 | .br b t e => match b with
  | true => t.run
  | false => e.run
inductive Rs (α : Type) where
 | ok (a : α) | err (why : Nat)
def DT.bindK {α R : Type} (pos : Nat) : DT α → (α → Rs R) → Rs R
 | .leaf a, k => k a
 | .fail, _ => .err pos
 | .br b t e, k => match b with
  | true => t.bindK pos k
  | false => e.bindK pos k
universe u
def nth {α : Type u} : List α → Nat → Option α
 | [], _ => none
 | a :: _, 0 => some a
 | _ :: r, n + 1 => nth r n
def castTo (t t' : Ty) (x : t.den) : Option t'.den :=
 if h : t = t' then some (h ▸ x) else none
def castL (t t' : Ty) (x : List t.den) : Option (List t'.den) :=
 if h : t = t' then some (h ▸ x) else none
def unflat (get : Get) : (t : Ty) → List AV → Option (t.den × List AV × List Nat)
 | .unit, cs => some ((), cs, [])
 | .bool, cs => match cs with
  | .bool b :: r => some (b, r, [])
  | _ => none
 | .int k, cs => match cs with
  | .int k' n :: r => if k = k' then some (n, r, []) else none
  | _ => none
 | .flt k, cs => match cs with
  | .flt k' n :: r => if k = k' then some (n, r, []) else none
  | _ => none
 | .str, cs => match cs with
  | .str s :: r => some (s, r, [])
  | _ => none
 | .pair a b, cs => match unflat get a cs with
  | some (x, r, m) => match unflat get b r with
   | some (y, r', m') => some ((x, y), r', m ++ m')
   | none => none
  | none => none
 | .slice e, cs => match cs with
  | .sl e' L :: r => (match castL e' e L with | some L' => some (L', r, []) | none => none)
  | .sx e' L :: r => (match castL e' e L with | some L' => some (L', r, []) | none => none)
  | .own b g :: r => (match get b with
   | some (.list _ e' g' _ L) => match Nat.beq g g' with
    | true => (match castL e' e L with | some L' => some (L', r, [b]) | none => none)
    | false => none
   | _ => none)
  | .nils :: r => some (([] : List e.den), r, [])
  | _ => none
 | .ptr e, cs => match cs with
  | .nilp :: r => some ((none : Option e.den), r, [])
  | .pd e' x 0 :: r => (match castTo e' e x with | some x' => some (some x', r, []) | none => none)
  | _ => none
def shareWr (get : Get) (m : List Nat) : Wr :=
 m.filterMap fun b => match get b with
  | some (.list ee t g _ L) => some (b, .list ee t g true L)
  | _ => none
structure Fld where
 off : Nat
 size : Nat
 agg : Bool
 t : Nat
 blank : Bool
inductive TD where
 | scalar | int (k : IntKind) | str | ptr (e : Nat) | slice (e : Nat) | array (n e : Nat) | struct (fs : List Fld) | iface | other
structure TI where
 size : Nat
 bytes : Nat
 zero : List AV
 agg : Bool
 eqOk : Bool   
 ty : Option Ty
 td : TD
structure FI where
 code : Code
 ntmps : Nat
 results : List ResultVar
abbrev Tmps := List (Nat × AV)
abbrev Look := Nat → AV
def look : Tmps → Look
 | [], _ => .undef
 | (i, v) :: r, j => match Nat.beq i j with
  | true => v
  | false => look r j
structure St where
 tmps : Tmps
 blks : Blks
 next : Nat
inductive Out where
 | ret (v : AV) | panic (v : AV)
abbrev Callee := (R : Type) → Nat → List AV → List Blk → ((Out × List Blk) → Rs R) → Rs R
abbrev Intr := (R : Type) → List AV → List Blk → ((Out × List Blk) → Rs R) → Rs R
structure Env where
 ti : List (Option TI)
 fi : List (Option FI)
 intr : List (Option Intr)
def Env.T (E : Env) (t : Nat) : Option TI :=
 match nth E.ti t with
 | some x => x
 | none => none
structure OpR where
 v : AV
 wr : Wr
 rd : List Nat
def pureV (v : AV) : DT OpR := .leaf ⟨v, [], []⟩
def ofO : Option AV → DT OpR
 | some v => pureV v
 | none => .fail
def constAV : Value → AV
 | .bool b => .bool b
 | .int k n => .int k n
 | .float k b => .flt k b
 | .string s => .str s.data.toList
 | .pointer none => .nilp
 | .slice none 0 0 => .nils
 | .nilFunc => .nilf
 | .nilIface => .nili
 | _ => .undef
def evalO (lk : Look) : Operand → AV
 | .tmp t => lk t
 | .const v => constAV v
 | .global _ => .undef
 | .func f => .fn f []
def seg {α : Type} (l : List α) (off n : Nat) : List α := (l.drop off).take n
def splice (l : List AV) (off : Nat) (vs : List AV) : List AV := l.take off ++ (vs ++ l.drop (off + vs.length))
def mkVal (agg : Bool) (cs : List AV) : Option AV :=
 match agg with
 | true => some (.agg cs)
 | false => match cs with
  | [v] => some v
  | _ => none
inductive SL where
 | mk (t : Ty) (L : List t.den) (b : List Nat)
def sliceOf (get : Get) : AV → Option SL
 | .sl t L => some (.mk t L [])
 | .sx t L => some (.mk t L [])
 | .own b g => match get b with
  | some (.list _ t g' _ L) => match Nat.beq g g' with
   | true => some (.mk t L [b])
   | false => none
  | _ => none
 | _ => none
def cellsAt (get : Get) (n : Nat) : AV → Option (List AV × List Nat)
 | .ref b off => match get b with
  | some (.cells _ cs) => some (seg cs off n, [b])
  | _ => none
 | .pd t x off => some (seg (flat t x) off n, [])
 | .el b g i off => match get b with
  | some (.list _ t g' _ L) => match Nat.beq g g' with
   | true => some (seg (flat t (L.getD i t.dflt)) off n, [b])
   | false => none
  | _ => none
 | _ => none
def addOff : AV → Nat → Option AV
 | .ref b o, n => some (.ref b (o + n))
 | .pd t x o, n => some (.pd t x (o + n))
 | .el b g i o, n => some (.el b g i (o + n))
 | _, _ => none
def eqLeaf (td : TD) (a b : AV) : Option Bool :=
 match td with
 | .scalar => match a, b with
  | .bool a, .bool b => some (a == b)
  | _, _ => none
 | .int _ => match a, b with
  | .int k a, .int k' b => if k = k' then some (a == b) else none
  | _, _ => none
 | .str => match a, b with
  | .str a, .str b => some (a == b)
  | _, _ => none
 | .ptr _ => match a, b with
  | .nilp, .nilp => some true
  | .nilp, .ref _ _ => some false
  | .nilp, .pd _ _ _ => some false
  | .ref _ _, .nilp => some false
  | .pd _ _ _, .nilp => some false
  | _, _ => none
 | .slice _ => match a, b with
  | .nils, .nils => some true
  | .sl _ (_ :: _), .nils => some false
  | _, _ => none
 | _ => none
mutual
def eqT (E : Env) : Nat → Nat → List AV → List AV → Option Bool
 | 0, _, _, _ => none
 | n + 1, t, xs, ys => match E.T t with
  | none => none
  | some ti => match ti.td with
   | .struct fs => (match ti.eqOk with
    | true => eqFs E n fs xs ys
    | false => none)
   | td => match xs with
    | [x] => (match ys with
     | [y] => eqLeaf td x y
     | _ => none)
    | _ => none
def eqFs (E : Env) : Nat → List Fld → List AV → List AV → Option Bool
 | _, [], _, _ => some true
 | 0, _ :: _, _, _ => none
 | n + 1, f :: fs, xs, ys => match f.blank with
  | true => none
  | false => match eqT E n f.t (seg xs f.off f.size) (seg ys f.off f.size) with
   | none => none
   | some a => match fs with
    | [] => some a
    | fs => match eqFs E n fs xs ys with
     | none => none
     | some b => some (a && b)
end
def eqA (E : Env) (t : Nat) (x y : AV) : Option Bool :=
 match E.T t with
 | none => none
 | some ti => match x with
  | .agg a => match y with
   | .agg b => (match ti.agg with
    | true => eqT E 60 t a b
    | false => none)
   | _ => none
  | x => match y with
   | .agg _ => none
   | y => (match ti.agg with
    | true => none
    | false => eqT E 60 t [x] [y])
def binInt (op : BinOp) (k : IntKind) (a b : Int) : DT OpR :=
 match op with
 | .add => pureV (.int k (k.wrap (a + b)))
 | .sub => pureV (.int k (k.wrap (a - b)))
 | .mul => pureV (.int k (k.wrap (a * b)))
 | .quo => .br (b == 0) .fail (pureV (.int k (k.wrap (a.tdiv b))))
 | .rem => .br (b == 0) .fail (pureV (.int k (a.tmod b)))
 | .eql => pureV (.bool (a == b))
 | .neq => pureV (.bool (a != b))
 | .lss => pureV (.bool (decide (a < b)))
 | .leq => pureV (.bool (decide (a ≤ b)))
 | .gtr => pureV (.bool (decide (a > b)))
 | .geq => pureV (.bool (decide (a ≥ b)))
 | _ => .fail
def binStr (op : BinOp) (a b : List UInt8) : DT OpR :=
 match op with
 | .add => .br (decide (a.length + b.length < 2 ^ 62)) (pureV (.str (a ++ b))) .fail
 | .eql => pureV (.bool (a == b))
 | .neq => pureV (.bool (!(a == b)))
 | _ => .fail
def binOpA (E : Env) (t : Nat) (op : BinOp) (x y : AV) : DT OpR :=
 match x, y with
 | .int k a, .int k' b => if k = k' then binInt op k a b else .fail
 | .str a, .str b => binStr op a b
 | x, y => match op with
  | .eql => ofO ((eqA E t x y).map .bool)
  | .neq => ofO ((eqA E t x y).map fun b => .bool (!b))
  | _ => .fail
def isNilC : Operand → Bool
 | .const .nilIface => true
 | _ => false
def binNil (E : Env) (t : Nat) (op : BinOp) (x y : AV) : DT OpR :=
 match E.T t with
 | some ti => (match ti.td with
  | .iface => (match op, x with
   | .eql, .nili => pureV (.bool true)
   | .neq, .nili => pureV (.bool false)
   | .eql, .iface _ _ => pureV (.bool false)
   | .neq, .iface _ _ => pureV (.bool true)
   | _, _ => .fail)
  | _ => binOpA E t op x y)
 | none => .fail
def gather (lk : Look) : Nat → List Fld → List (Nat × Operand) → List AV → Option (List AV)
 | _, [], [], _ => some []
 | _, [], _ :: _, _ => none
 | i, f :: fs, [], z => match gather lk (i + 1) fs [] (z.drop f.size) with
  | some r => some (z.take f.size ++ r)
  | none => none
 | i, f :: fs, (j, x) :: ps, z => match Nat.beq i j with
  | true =>
   let vs := (evalO lk x).cells
   match Nat.beq vs.length f.size && vs.all AV.leaf with
   | true => (match gather lk (i + 1) fs ps (z.drop f.size) with
    | some r => some (vs ++ r)
    | none => none)
   | false => none
  | false => match gather lk (i + 1) fs ((j, x) :: ps) (z.drop f.size) with
   | some r => some (z.take f.size ++ r)
   | none => none
def fillA (lk : Look) (fs : List Fld) : List (Nat × Operand) → List AV → Option (List AV)
 | [], z => some z
 | (j, x) :: ps, z => match nth fs j with
  | none => none
  | some f =>
   let vs := (evalO lk x).cells
   match Nat.beq vs.length f.size && (vs.all AV.leaf && Nat.ble (f.off + f.size) z.length) with
   | true => fillA lk fs ps (z.take f.off ++ vs ++ z.drop (f.off + f.size))
   | false => none
def gatherS (lk : Look) (fs : List Fld) (ps : List (Nat × Operand)) (z : List AV) : Option (List AV) :=
 match gather lk 0 fs ps z with
 | some r => some r
 | none => fillA lk fs ps z
def contig : Nat → List Fld → Nat → Bool
 | i, [], n => Nat.beq i n
 | i, f :: fs, n => match Nat.beq f.off i with
  | true => contig (i + f.size) fs n
  | false => false
def arrFlds (n : Nat) (te : TI) : List Fld := (List.range n).map fun i => ⟨i * te.size, te.size, te.agg, 0, false⟩
def intOf? : AV → Option Int
 | .int .i64 n => some n
 | _ => none
def maxRoom : Nat := 2 ^ 36
def inR (n : Int) : Bool := decide (0 ≤ n) && decide (n.toNat < maxRoom)
def listOfCells (get : Get) (t : Ty) : Nat → List AV → Option (List t.den × List Nat)
 | 0, [] => some ([], [])
 | 0, _ :: _ => none
 | n + 1, cs => match unflat get t cs with
  | some (x, r, m) => match listOfCells get t n r with
   | some (l, m') => some (x :: l, m ++ m')
   | none => none
  | none => none
def appendTo (get : Get) (id : Nat) (et es by_ : Nat) (s : AV) (t : Ty) (X : List t.den) (m : List Nat) : DT OpR :=
 match Nat.beq t.size es && (Nat.ble 1 es && Nat.ble by_ 1024) with
 | false => .fail
 | true => match s with
 | .nils => .br (decide (X.length < maxRoom)) (.leaf ⟨.own id 0, (id, .list et t 0 false X) :: [], m⟩) .fail
 | .own b g => match get b with
  | some (.list ee t' g' sh L) => match Nat.beq g g' && Nat.beq ee et with
   | true => (match castL t t' X with
    | some X' => .br (decide (L.length + X.length < maxRoom)) (.leaf ⟨.own b (g + 1), [(b, .list ee t' (g + 1) sh (L ++ X'))], b :: m⟩) .fail
    | none => .fail)
   | false => .fail
  | _ => .fail
 | .sx t' L => match castL t t' X with
  | some X' => .br (decide (0 < X.length) && decide (L.length + X.length < maxRoom)) (.leaf ⟨.own id 0, [(id, .list et t' 0 false (L ++ X'))], m⟩) .fail
  | none => .fail
 | _ => .fail
def appendA (get : Get) (id : Nat) (et es by_ : Nat) (s x : AV) : DT OpR :=
 match x with
 | .nils => (match s with | .nils => pureV .nils | _ => .fail)
 | .str c => appendTo get id et es by_ s (.int .u8) (c.map fun b => (b.toNat : Int)) []
 | x => match sliceOf get x with
  | some (.mk t X m) => appendTo get id et es by_ s t X m
  | none => .fail
def hiOf (lk : Look) (n : Nat) : Option Operand → Option Int
 | some a => intOf? (evalO lk a)
 | none => some (n : Int)
def loOf (lk : Look) : Option Operand → Option Int
 | some a => intOf? (evalO lk a)
 | none => some 0
def inB (l h : Int) (n : Nat) : Bool := decide (0 ≤ l) && (decide (l ≤ h) && decide (h ≤ (n : Int)))
def inI (i : Int) (n : Nat) : Bool := decide (0 ≤ i) && decide (i < (n : Int))
def sliceA (get : Get) (lk : Look) (es : Nat) (x : AV) (lo hi mx : Option Operand) : DT OpR :=
 match mx with
 | some m => match x, hi, lo with
  | .own b g, some h, none => match get b with
   | some (.list _ t g' _ L) => match Nat.beq g g' && Nat.beq t.size es with
    | true => (match intOf? (evalO lk h), intOf? (evalO lk m) with
     | some h, some m => .br (inB 0 h L.length && (h == m)) (.leaf ⟨.sx t (L.take h.toNat), shareWr get [b], [b]⟩) .fail
     | _, _ => .fail)
    | false => .fail
   | _ => .fail
  | .nils, some h, none => match intOf? (evalO lk h), intOf? (evalO lk m) with
   | some h, some m => .br ((h == 0) && (m == 0)) (pureV .nils) .fail
   | _, _ => .fail
  | _, _, _ => .fail
 | none => match x with
  | .str s => match loOf lk lo, hiOf lk s.length hi with
   | some l, some h => .br (inB l h s.length) (pureV (.str ((s.take h.toNat).drop l.toNat))) .fail
   | _, _ => .fail
  | .own b g => match get b with
   | some (.list ee t g' sh L) => match Nat.beq g g' && Nat.beq t.size es, loOf lk lo, hiOf lk L.length hi with
    | true, some l, some h => (match sh, lo with
     | false, none => .br (inB 0 h L.length) (.leaf ⟨.own b (g + 1), [(b, .list ee t (g + 1) false (L.take h.toNat))], [b]⟩) .fail
     | _, _ => .br (inB l h L.length) (.leaf ⟨.sl t ((L.take h.toNat).drop l.toNat), shareWr get [b], [b]⟩) .fail)
    | _, _, _ => .fail
   | _ => .fail
  | .sl t L => match Nat.beq t.size es, loOf lk lo, hiOf lk L.length hi with
   | true, some l, some h => .br (inB l h L.length) (pureV (.sl t ((L.take h.toNat).drop l.toNat))) .fail
   | _, _, _ => .fail
  | .sx t L => match Nat.beq t.size es, loOf lk lo, hiOf lk L.length hi with
   | true, some l, some h => .br (inB l h L.length) (pureV (.sl t ((L.take h.toNat).drop l.toNat))) .fail
   | _, _, _ => .fail
  | _ => .fail
def elemSize (E : Env) (t : Nat) : Option Nat :=
 match E.T t with
 | some ti => match ti.td with
  | .slice e => match E.T e with
   | some te => some te.size
   | none => none
  | _ => none
 | none => none
def indexAddrA (get : Get) (es : Nat) (x i : AV) : DT OpR :=
 match i with
 | .int _ n => match x with
  | .sl t L => match Nat.beq t.size es with
   | true => .br (inI n L.length) (pureV (.pd t (L.getD n.toNat t.dflt) 0)) .fail
   | false => .fail
  | .sx t L => match Nat.beq t.size es with
   | true => .br (inI n L.length) (pureV (.pd t (L.getD n.toNat t.dflt) 0)) .fail
   | false => .fail
  | .own b g => match get b with
   | some (.list _ t g' _ L) => match Nat.beq g g' && Nat.beq t.size es with
    | true => .br (inI n L.length) (.leaf ⟨.el b g n.toNat 0, [], [b]⟩) .fail
    | false => .fail
   | _ => .fail
  | _ => .fail
 | _ => .fail
def indexA (E : Env) (t : Nat) (x i : AV) : DT OpR :=
 match i with
 | .int _ n => match x with
  | .str s => match E.T t with
   | some ti => match ti.td with
    | .str => .br (inI n s.length) (pureV (.int .u8 (s.getD n.toNat 0).toNat)) .fail
    | _ => .fail
   | none => .fail
  | .agg cs => match E.T t with
   | some ti => match ti.td with
    | .array len e => match E.T e with
     | some te => match te.ty with
      | some ty => match Nat.beq ty.size te.size, listOfCells (fun _ => none) ty len cs with
       | true, some (L, _) => .br (inI n len) (ofO (mkVal te.agg (flat ty (L.getD n.toNat ty.dflt)))) .fail
       | _, _ => .fail
      | none => .fail
     | none => .fail
    | _ => .fail
   | none => .fail
  | _ => .fail
 | _ => .fail
def storeA (get : Get) (a x : AV) : Option OpR :=
 match x.cells.all AV.leaf with
 | false => none
 | true => match a with
  | .ref b off => match get b with
   | some (.cells ty cs) => match Nat.ble (off + x.cells.length) cs.length with
    | true => some ⟨.tup [], [(b, .cells ty (splice cs off x.cells))], [b]⟩
    | false => none
   | _ => none
  | .el b g i off => match get b with
   | some (.list ee t g' false L) => match Nat.beq g g' && Nat.ble (off + x.cells.length) t.size with
    | true => (match unflat get t (splice (flat t (L.getD i t.dflt)) off x.cells) with
     | some (y, [], m) => (match m.any (Nat.beq b) with
      | true => none
      | false => some ⟨.tup [], (b, .list ee t g' false (L.set i y)) :: shareWr get m, b :: m⟩)
     | _ => none)
    | false => none
   | _ => none
  | _ => none
def opA (E : Env) (lk : Look) (get : Get) (id : Nat) (o : Op) : DT OpR :=
 match o with
 | .move x => pureV (evalO lk x)
 | .assign x => pureV (evalO lk x)
 | .pick c a b => match evalO lk c with
  | .bool c => match evalO lk a, evalO lk b with
   | .bool a, .bool b => pureV (.bool (cond c a b))
   | a, b => .br c (pureV a) (pureV b)
  | _ => .fail
 | .alloc t => match E.T t with
  | some ti => match ti.zero.all AV.leaf with
   | true => .leaf ⟨.ref id 0, [(id, .cells t ti.zero)], []⟩
   | false => .fail
  | none => .fail
 | .box t x => match (evalO lk x).cells.all AV.leaf with
  | true => .leaf ⟨.ref id 0, [(id, .cells t (evalO lk x).cells)], []⟩
  | false => .fail
 | .build t ps => match E.T t with
  | some ti => match ti.td with
   | .struct fs => match contig 0 fs ti.zero.length with
    | true => ofO ((gatherS lk fs ps.toList ti.zero).map .agg)
    | false => .fail
   | .array n e => match E.T e with
    | some te => match contig 0 (arrFlds n te) ti.zero.length with
     | true => ofO ((gather lk 0 (arrFlds n te) ps.toList ti.zero).map .agg)
     | false => .fail
    | none => .fail
   | _ => .fail
  | none => .fail
 | .buildSlice t len ps => match E.T t with
  | some ti => match ti.td with
   | .slice e => match E.T e with
    | some te => match te.ty with
     | some ty => match Nat.beq ty.size te.size && (Nat.ble 1 te.size && (Nat.ble (len * te.size) 4096 && Nat.beq te.zero.length te.size)), gather lk 0 (arrFlds len te) ps.toList ((List.replicate len te.zero).flatten) with
      | true, some cs => match listOfCells get ty len cs with
       | some (L, m) => .leaf ⟨.own id 0, (id, .list e ty 0 false L) :: shareWr get m, m⟩
       | none => .fail
      | _, _ => .fail
     | none => .fail
    | none => .fail
   | _ => .fail
  | none => .fail
 | .load t a => match E.T t with
  | some ti => match cellsAt get ti.size (evalO lk a) with
   | some (cs, rd) => match Nat.beq cs.length ti.size with
    | true => (match mkVal ti.agg cs with | some v => .leaf ⟨v, [], rd⟩ | none => .fail)
    | false => .fail
   | none => .fail
  | none => .fail
 | .store t a x => match E.T t with
  | some ti => match Nat.beq (evalO lk x).cells.length ti.size with
   | true => match storeA get (evalO lk a) (evalO lk x) with | some r => .leaf r | none => .fail
   | false => .fail
  | none => .fail
 | .nilCheck x => match evalO lk x with
  | .ref b off => pureV (.ref b off)
  | .pd t y off => pureV (.pd t y off)
  | .el b g i off => pureV (.el b g i off)
  | .fn f c => pureV (.fn f c)
  | _ => .fail
 | .binOp op t x y _ => match isNilC y with
  | true => binNil E t op (evalO lk x) (evalO lk y)
  | false => binOpA E t op (evalO lk x) (evalO lk y)
 | .unOp op _ x => match op, evalO lk x with
  | .not, .bool b => pureV (.bool (!b))
  | .neg, .int k n => pureV (.int k (k.wrap (0 - n)))
  | _, _ => .fail
 | .convert s d x => match E.T s, E.T d with
  | some si, some ti => (match si.td, ti.td, evalO lk x with
   | .int _, .int k, .int _ n => pureV (.int k (k.wrap n))
   | .str, .str, .str s => pureV (.str s)
   | _, _, _ => .fail)
  | _, _ => .fail
 | .makeInterface t x => match E.T t with
  | some ti => match ti.td with
   | .other => .fail
   | .iface => .fail
   | _ => pureV (.iface t (evalO lk x))
  | none => .fail
 | .makeSlice t l c => match E.T t, evalO lk l, evalO lk c with
  | some ti, .int .i64 n, .int .i64 n' => (match ti.td with
   | .slice e => match E.T e with
    | some te => match te.ty with
     | some ty => match Nat.beq ty.size te.size && (Nat.ble 1 te.size && (Nat.ble te.bytes 2048 && Nat.beq te.zero.length te.size)), unflat (fun _ => none) ty te.zero with
      | true, some (x0, [], _) => .br (inR n && (n == n')) (.leaf ⟨.own id 0, [(id, .list e ty 0 false (List.replicate n.toNat x0))], []⟩) .fail
      | _, _ => .fail
     | none => .fail
    | none => .fail
   | _ => .fail)
  | _, _, _ => .fail
 | .fieldAddr t a f => match E.T t with
  | some ti => match ti.td with
   | .struct fs => match nth fs f with
    | some fl => match fl.size with
     | 0 => .fail
     | _ + 1 => ofO (addOff (evalO lk a) fl.off)
    | none => .fail
   | _ => .fail
  | none => .fail
 | .field t x f => match E.T t, evalO lk x with
  | some ti, .agg cs => (match ti.td with
   | .struct fs => match nth fs f with
    | some fl => match E.T fl.t with
     | some _ => ofO (mkVal fl.agg (seg cs fl.off fl.size))
     | none => .fail
    | none => .fail
   | _ => .fail)
  | _, _ => .fail
 | .indexAddr t x i => match elemSize E t with
  | some es => indexAddrA get es (evalO lk x) (evalO lk i)
  | none => .fail
 | .index t x i => indexA E t (evalO lk x) (evalO lk i)
 | .slice t x lo hi mx => match evalO lk x, mx with
  | .str s, none => (match E.T t with
   | some ti => match ti.td with
    | .str => sliceA get lk 0 (.str s) lo hi none
    | _ => .fail
   | none => .fail)
  | v, mx => match elemSize E t with
   | some es => sliceA get lk es v lo hi mx
   | none => .fail
 | .extract x i => match evalO lk x with
  | .tup vs => ofO (nth vs i)
  | _ => .fail
 | .call { callee := .builtin .len, args := as, argTypes := ts } => match as.toList with
  | [a] => match ts.toList with
   | [t] => match E.T t with
    | some ti => match ti.td with
     | .str => (match evalO lk a with
      | .str s => pureV (.int .i64 s.length)
      | _ => .fail)
     | .slice _ => (match evalO lk a with
      | .nils => pureV (.int .i64 0)
      | v => match sliceOf get v with
       | some (.mk _ L m) => .leaf ⟨.int .i64 L.length, [], m⟩
       | none => .fail)
     | _ => .fail
    | none => .fail
   | _ => .fail
  | _ => .fail
 | .call { callee := .builtin .append, args := as, argTypes := ts } => match as.toList with
  | [s, x] => match ts.toList with
   | [t, t'] => match E.T t, E.T t' with
    | some ti, some ti' => (match ti'.td with
     | .int _ => .fail
     | _ => match ti.td with
      | .slice e => match E.T e with
       | some te => match Nat.beq te.zero.length te.size with
        | true => appendA get id e te.size te.bytes (evalO lk s) (evalO lk x)
        | false => .fail
       | none => .fail
      | _ => .fail)
    | _, _ => .fail
   | _ => .fail
  | _ => .fail
 | .call { callee := .builtin .max, args := as, .. } => match as.toList with
  | [a, b] => match evalO lk a, evalO lk b with
   | .int k x, .int k' y => if k = k' then pureV (.int k (bif decide (x < y) then y else x)) else .fail
   | _, _ => .fail
  | _ => .fail
 | _ => .fail
def refA : AV → List Nat
 | .ref b _ => [b]
 | .bself b => [b]
 | .own b _ => [b]
 | .el b _ _ _ => [b]
 | _ => []
def refsC (l : List AV) : List Nat := l.flatMap refA
def refV : AV → List Nat
 | .agg cs => refsC cs
 | .tup vs => vs.flatMap fun v => refsC v.cells
 | v => refA v
def plainI : AV → Bool
 | .fn _ _ | .iface _ _ | .undef | .agg _ | .tup _ | .ref _ _ | .bself _ | .own _ _ | .el _ _ _ _ => false
 | _ => true
def plainA : AV → Bool
 | .fn _ c => c.isEmpty
 | .iface _ v => v.cells.all plainI
 | .agg _ => false
 | .tup _ => false
 | _ => true
def plainV : AV → Bool
 | .agg cs => cs.all plainA
 | .tup vs => vs.all fun v => v.cells.all plainA
 | v => plainA v
def blkRefs : Option Blk → List Nat
 | some (.cells _ cs) => refsC cs
 | _ => []
def reach (get : Get) : Nat → List Nat → List Nat → Option (List Nat)
 | _, [], acc => some acc
 | 0, _ :: _, _ => none
 | n + 1, b :: todo, acc => match acc.any (Nat.beq b) with
  | true => reach get n todo acc
  | false => reach get n (todo ++ blkRefs (get b)) (acc ++ [b])
def posOf : List Nat → Nat → Nat
 | [], _ => 0
 | a :: r, b => match Nat.beq a b with
  | true => 0
  | false => posOf r b + 1
def renA (m : Nat → Nat) : AV → AV
 | .ref b o => .ref (m b) o
 | .bself b => .bself (m b)
 | .own b g => .own (m b) g
 | .el b g i o => .el (m b) g i o
 | v => v
def renC (m : Nat → Nat) : AV → AV
 | .agg cs => .agg (cs.map (renA m))
 | v => renA m v
def renV (m : Nat → Nat) : AV → AV
 | .tup vs => .tup (vs.map (renC m))
 | v => renC m v
def renB (m : Nat → Nat) : Blk → Blk
 | .cells ty cs => .cells ty (cs.map (renA m))
 | b => b
def getAll (get : Get) : List Nat → Option (List Blk)
 | [] => some []
 | b :: r => match get b, getAll get r with
  | some x, some l => some (x :: l)
  | _, _ => none
def backMap (ids : List Nat) (base : Nat) (i : Nat) : Nat := (nth ids i).getD (base + (i - ids.length))
def numbered (m : Nat → Nat) : Nat → List Blk → Wr
 | _, [] => []
 | i, b :: r => (m i, renB m b) :: numbered m (i + 1) r
def okBlk : Blk → Bool
 | .cells _ cs => cs.all plainA
 | _ => true
def doCall {R : Type} (K : Callee) (f : Nat) (args : List AV) (get : Get) (base : Nat) (k : Out → Wr → List Nat → Rs R) : Rs R :=
 match reach get 200 (args.flatMap refV) [] with
 | none => .err 1
 | some ids => match getAll get ids with
  | none => .err 2
  | some l => match args.all plainV && l.all okBlk with
   | false => .err 3
   | true => K R f (args.map (renV (posOf ids))) (l.map (renB (posOf ids))) fun o => match o with
    | (.ret v, l') => (match Nat.ble l'.length (ids.length + 16) with
     | true => k (.ret (renV (backMap ids base) v)) (numbered (backMap ids base) 0 l') ids
     | false => .err 4)
    | (.panic v, _) => k (.panic v) [] ids
inductive Ex where
 | normal | exit (id : Nat) | ret | panic (v : AV)
def applyWr : Blks → Wr → Blks
 | bs, [] => bs
 | bs, (i, b) :: r => applyWr ((i, b) :: bs) r
def putT (tm : Tmps) (d : Option Tmp) (v : AV) : Tmps :=
 match d with
 | some d => (d, v) :: tm
 | none => tm
def below (wr : Wr) (n : Nat) : Bool := wr.all fun p => Nat.blt p.1 n
section
variable (E : Env) (K : Callee) {R : Type}
def execO (lk : Look) (get : Get) (id : Nat) (o : Oper) (e : Nat) (kn : AV → Wr → List Nat → Rs R) (kp : AV → Rs R) : Rs R :=
 match o.op with
 | .call { callee := .value f, args := as, .. } => match evalO lk f with
  | .fn f cap => doCall K f (as.toList.map (evalO lk) ++ cap) get id fun out wr rd => match out with
   | .ret v => (match below wr (id + 16) with
    | true => kn v wr rd
    | false => .err e)
   | .panic v => kp v
  | _ => .err e
 | .panic x => match evalO lk x with
  | .iface t v => (match plainV (.iface t v) with
   | true => kp (.iface t v)
   | false => .err e)
  | _ => .err e
 | op => (opA E lk get id op).bindK e fun r => match below r.wr (id + 16) with
  | true => kn r.v r.wr r.rd
  | false => .err e
def slotOf (all : List Oper) (j : Nat) : Option Tmp := (nth all j).bind (·.dst)
def evOps (rid : Nat) (all : List Oper) : List Oper → Nat → St → (St → Rs R) → (AV → Rs R) → Rs R
 | [], i, st, kn, _ => kn { st with next := st.next + 16 * i }
 | o :: os, i, st, kn, kp =>
  let go (st : St) : Rs R := execO E K (look st.tmps) (getB st.blks) (st.next + 16 * i) o (rid * 100 + i)
   (fun v wr _ => evOps rid all os (i + 1) { tmps := putT st.tmps o.dst v, blks := applyWr st.blks wr, next := st.next } kn kp) kp
  let skip (st : St) : Rs R := evOps rid all os (i + 1) { st with tmps := putT st.tmps o.dst (.tup []) } kn kp
  match o.guard with
  | none => go st
  | some (j, want) => match slotOf all j with
   | none => .err 5
   | some d => match look st.tmps d with
    | .bool b => (match b with
     | true => (match want with
      | true => go { st with tmps := (d, .bool true) :: st.tmps }
      | false => skip { st with tmps := (d, .bool true) :: st.tmps })
     | false => (match want with
      | true => skip { st with tmps := (d, .bool false) :: st.tmps }
      | false => go { st with tmps := (d, .bool false) :: st.tmps }))
    | .tup [] => skip st
    | _ => .err 5
def befOf (acc : List Nat) (o : Oper) : Nat :=
 o.after.toList.foldr (fun e s => match Region.binds .any e with | true => s ||| (1 <<< e.on) ||| ((nth acc e.on).getD 0) | false => s) 0
def befs : List Oper → List Nat → List Nat
 | [], acc => acc
 | o :: os, acc => befs os (acc ++ [befOf acc o])
structure Ent where
 i : Nat
 rb : List Nat
 wb : List Nat
def meets (a b : List Nat) : Bool := a.any fun x => b.any (Nat.beq x)
def Ent.clash (a b : Ent) : Bool := meets a.wb b.rb || (meets a.wb b.wb || meets a.rb b.wb)
def bitAt (bf : List Nat) (j i : Nat) : Bool := Nat.testBit ((nth bf j).getD 0) i
def noClash (bf : List Nat) : List Ent → Bool
 | [] => true
 | e :: r => r.all (fun d => !(e.clash d) || bitAt bf d.i e.i) && noClash bf r
def opnd : Operand → List Nat
 | .tmp t => [t]
 | _ => []
def guardSlot (all : List Oper) (o : Oper) : List Nat :=
 match o.guard with
 | none => []
 | some (j, _) => (slotOf all j).toList
def sees (all : List Oper) (o : Oper) : List Nat := o.op.operands.toList.flatMap opnd ++ guardSlot all o
def slotsOk (all : List Oper) (bf : List Nat) : Bool :=
 let is := List.range all.length
 is.all fun j => match nth all j with
  | none => true
  | some oj => (oj.after.toList.all fun e => !Region.binds .any e || Nat.blt e.on j) &&
   (match oj.guard with | none => true | some (g, _) => bitAt bf j g) &&
   is.all fun i => match nth all i with
    | none => true
    | some oi => !(Nat.blt i j) || (bitAt bf j i || !(meets oi.dst.toList (sees all oj ++ oj.dst.toList) || meets oj.dst.toList (sees all oi)))
def keysOk (next id : Nat) (es : List Ent) (wr : Wr) : Bool :=
 wr.all fun p => Nat.blt p.1 next || (Nat.ble id p.1 || es.any fun e => e.wb.any (Nat.beq p.1))
def callRd (lk : Look) (get : Get) (o : Oper) : Option (List Nat) :=
 match o.op with
 | .call { callee := .value f, args := as, .. } => (match evalO lk f with
  | .fn _ cap => reach get 200 ((as.toList.map (evalO lk) ++ cap).flatMap refV) []
  | _ => none)
 | _ => none
def deadAt (bf : List Nat) (pm : Option (Nat × AV)) (i : Nat) : Bool :=
 match pm with
 | none => false
 | some (p, _) => bitAt bf i p
def pushR (i : Nat) (rd : List Nat) (es : List Ent) : List Ent := match rd with
 | [] => es
 | rd => ⟨i, rd, []⟩ :: es
def panNext (pm : Option (Nat × AV)) (rd : Option (List Nat)) (k : List Nat → Rs R) : Rs R := match pm with
 | some _ => .err 8
 | none => match rd with
  | none => .err 9
  | some rd => k rd
def evOpsD (rid : Nat) (all : List Oper) (bf : List Nat) : List Oper → Nat → St → List Ent → Option (Nat × AV) → (St → Rs R) → (AV → Rs R) → Rs R
 | [], i, st, es, pm, kn, kp => match noClash bf es.reverse with
  | true => (match pm with
   | none => kn { st with next := st.next + 16 * i }
   | some (_, v) => kp v)
  | false => .err 6
 | o :: os, i, st, es, pm, kn, kp =>
  let go (st : St) : Rs R := execO E K (look st.tmps) (getB st.blks) (st.next + 16 * i) o (rid * 100 + i)
   (fun v wr rd => match keysOk st.next (st.next + 16 * i) es wr with
    | true => evOpsD rid all bf os (i + 1) { tmps := putT st.tmps o.dst v, blks := applyWr st.blks wr, next := st.next }
     (match wr, rd with | [], [] => es | wr, rd => ⟨i, rd, wr.map (·.1)⟩ :: es) pm kn kp
    | false => .err 7)
   (fun v => panNext pm (callRd (look st.tmps) (getB st.blks) o) fun rd => evOpsD rid all bf os (i + 1) { st with tmps := putT st.tmps o.dst .undef } (pushR i rd es) (some (i, v)) kn kp)
  let skip (st : St) : Rs R := evOpsD rid all bf os (i + 1) { st with tmps := putT st.tmps o.dst (.tup []) } es pm kn kp
  match deadAt bf pm i with
  | true => evOpsD rid all bf os (i + 1) { st with tmps := putT st.tmps o.dst .undef } es pm kn kp
  | false => match o.guard with
   | none => go st
   | some (j, want) => match slotOf all j with
    | none => .err 5
    | some d => match look st.tmps d with
     | .bool b => (match b with
      | true => (match want with
       | true => go { st with tmps := (d, .bool true) :: st.tmps }
       | false => skip { st with tmps := (d, .bool true) :: st.tmps })
      | false => (match want with
       | true => skip { st with tmps := (d, .bool false) :: st.tmps }
       | false => go { st with tmps := (d, .bool false) :: st.tmps }))
     | .tup [] => skip st
     | _ => .err 5
abbrev Cuts := Nat → Option (Nat × (St → Option St))
abbrev Jump (R : Type) := Nat → St → Rs R
def jumpTo (J : Jump R) (c : Nat × (St → Option St)) (st : St) : Rs R :=
 match c.2 st with
 | some st' => J c.1 st'
 | none => .err (9000000 + c.1)
abbrev Ev (R : Type) := Nat → St → (Ex → St → Rs R) → Rs R
def enter (cuts : Cuts) (J : Jump R) (x : Ev R) (p : Nat) (st : St) (k : Ex → St → Rs R) : Rs R :=
 match cuts p with
 | some c => jumpTo J c st
 | none => x p st k
def seqK (b : Ev R) (p : Nat) (k : Ex → St → Rs R) (ex : Ex) (st : St) : Rs R :=
 match ex with
 | .normal => b p st k
 | .exit id => k (.exit id) st
 | .ret => k .ret st
 | .panic v => k (.panic v) st
def blockK (id : Nat) (k : Ex → St → Rs R) (ex : Ex) (st : St) : Rs R :=
 match ex with
 | .normal => k .normal st
 | .exit j => (match Nat.beq j id with
  | true => k .normal st
  | false => k (.exit j) st)
 | .ret => k .ret st
 | .panic v => k (.panic v) st
def noEv : Ev R := fun p _ _ => .err (8000000 + p)
def ev (cuts : Cuts) (J : Jump R) (c : Code) : Ev R :=
 Code.rec (motive := fun _ => Ev R)
  (fun _ st k => k .normal st)
  (fun id ops draw _ st k => match draw with
   | false => evOps E K id ops.toList ops.toList 0 st (fun st' => k .normal st') (fun v => k (.panic v) st)
   | true => evOpsD E K id ops.toList (befs ops.toList []) ops.toList 0 st [] none (fun st' => k .normal st') (fun v => k (.panic v) st))
  (fun _ _ a b p st k => enter cuts J a (2 * p) st (seqK (enter cuts J b) (2 * p + 1) k))
  (fun c _ _ a b p st k => match evalO (look st.tmps) c with
   | .bool t => (match t with
    | true => enter cuts J a (2 * p) st k
    | false => enter cuts J b (2 * p + 1) st k)
   | _ => .err (7000000 + p))
  (fun id _ c p st k => enter cuts J c (2 * p) st (blockK id k))
  (fun _ _ p st _ => match cuts (2 * p) with
   | some c => jumpTo J c st
   | none => .err (8000000 + p))
  (fun _ _ _ _ _ _ => noEv)
  (fun id _ st k => k (.exit id) st)
  (fun _ c p st k => enter cuts J c (2 * p) st k)
  (fun _ _ st k => k .normal st)
  (fun _ => noEv)
  (fun _ st k => k .ret st)
  (fun _ => noEv) c
def resume (cuts : Cuts) (J : Jump R) : List Bool → Code → Nat → St → (Ex → St → Rs R) → Rs R
 | [], c, p, st, k => ev E K cuts J c p st k
 | d :: r, c, p, st, k => match c with
  | .seq a b => (match d with
   | false => resume cuts J r a (2 * p) st (seqK (enter cuts J (ev E K cuts J b)) (2 * p + 1) k)
   | true => resume cuts J r b (2 * p + 1) st k)
  | .cond _ a b => (match d with
   | false => resume cuts J r a (2 * p) st k
   | true => resume cuts J r b (2 * p + 1) st k)
  | .block id c => resume cuts J r c (2 * p) st (blockK id k)
  | .loop c => resume cuts J r c (2 * p) st (seqK (enter cuts J noEv) (2 * p) k)
  | .scope c => resume cuts J r c (2 * p) st k
  | _ => .err 10
def resV (lk : Look) (get : Get) : ResultVar → Option AV
 | .tmp t => some (lk t)
 | .cell a t => match E.T t with
  | some ti => match cellsAt get ti.size (lk a) with
   | some (cs, _) => (match Nat.beq cs.length ti.size with
    | true => mkVal ti.agg cs
    | false => none)
   | none => none
  | none => none
def resVs (lk : Look) (get : Get) : List ResultVar → Option (List AV)
 | [] => some []
 | r :: rs => match resV E lk get r, resVs lk get rs with
  | some v, some vs => some (v :: vs)
  | _, _ => none
def withIds : Nat → List Blk → Blks
 | _, [] => []
 | i, b :: r => (i, b) :: withIds (i + 1) r
def leave (np : Nat) (get : Get) (v : AV) (k : (Out × List Blk) → Rs R) : Rs R :=
 match reach get 200 (List.range np ++ refV v) [] with
 | none => .err 11
 | some ids => match getAll get ids with
  | none => .err 12
  | some l => match plainV v && l.all okBlk with
   | true => k (.ret (renV (posOf ids) v), l.map (renB (posOf ids)))
   | false => .err 13
def argTmps : Nat → List AV → Tmps
 | _, [] => []
 | i, v :: r => (i, v) :: argTmps (i + 1) r
def finK (np : Nat) (results : List ResultVar) (k : (Out × List Blk) → Rs R) (ex : Ex) (st : St) : Rs R :=
 match ex with
 | .normal => (match resVs E (look st.tmps) (getB st.blks) results with
  | some [v] => leave np (getB st.blks) v k
  | some vs => leave np (getB st.blks) (.tup vs) k
  | none => .err 14)
 | .ret => (match resVs E (look st.tmps) (getB st.blks) results with
  | some [v] => leave np (getB st.blks) v k
  | some vs => leave np (getB st.blks) (.tup vs) k
  | none => .err 14)
 | .panic v => k (.panic v, [])
 | .exit _ => .err 15
def noCuts : Cuts := fun _ => none
def noJump : Jump R := fun j _ => .err (6000000 + j)
def body (fi : FI) (args : List AV) (bs : List Blk) (k : (Out × List Blk) → Rs R) : Rs R :=
 match Nat.ble args.length fi.ntmps with
 | false => .err 16
 | true => ev E K noCuts noJump fi.code 1 { tmps := argTmps 0 args, blks := withIds 0 bs, next := bs.length } (finK E bs.length fi.results k)
end
def run (E : Env) : Nat → Callee :=
 fun n => Nat.rec (motive := fun _ => Callee) (fun _ f _ _ _ => .err (5000000 + f)) (fun _ ih R f args bs k =>
  match nth E.intr f with
  | some (some g) => g R args bs k
  | _ => match nth E.fi f with
   | some (some fi) => body E ih fi args bs k
   | _ => .err (4000000 + f)) n
inductive Sh where
 | keep | sl (t : Ty) | own (e : Nat) (t : Ty) | bself
def castA (get : Get) (self next : Nat) (s : Sh) (a : AV) : Option (AV × Wr × Nat) :=
 match s with
 | .keep => some (a, [], next)
 | .sl t => (match unflat get (.slice t) [a] with
  | some (L, [], m) => some (.sl t L, shareWr get m, next)
  | _ => none)
 | .own e t => (match Nat.ble 1 t.size with
  | true => (match a with
   | .nils => some (.own next 0, [(next, .list e t 0 false [])], next + 1)
   | .own b g => (match get b with
    | some (.list e' t' g' _ L) => (match Nat.beq g g' && Nat.beq e e' with
     | true => (match castL t' t L with | some _ => some (.own b g, [], next) | none => none)
     | false => none)
    | _ => none)
   | _ => none)
  | false => none)
 | .bself => (match get self with
  | some (.cells _ _) => (match a with
   | .nilp => some (.bself self, [], next)
   | .ref b o => (match o with
    | 0 => (match Nat.beq b self with | true => some (.bself self, [], next) | false => none)
    | _ => none)
   | .bself b => (match Nat.beq b self with | true => some (.bself self, [], next) | false => none)
   | _ => none)
  | _ => none)
def castC (self : Nat) : List Sh → List AV → Blks → Nat → Option (List AV × Blks × Nat)
 | [], cs, bs, n => some (cs, bs, n)
 | s :: ss, [], _, _ => none
 | s :: ss, a :: as, bs, n => match castA (getB bs) self n s a with
  | some (a', wr, n') => match castC self ss as (applyWr bs wr) n' with
   | some (as', bs', n'') => some (a' :: as', bs', n'')
   | none => none
  | none => none
def castV (ss : List Sh) (v : AV) (bs : Blks) (n : Nat) : Option (AV × Blks × Nat) :=
 match ss with
 | [] => some (v, bs, n)
 | ss => match v with
  | .agg cs => (match castC 0 ss cs bs n with
   | some (cs', bs', n') => some (.agg cs', bs', n')
   | none => none)
  | .tup _ => none
  | v => match castC 0 ss [v] bs n with
   | some ([v'], bs', n') => some (v', bs', n')
   | _ => none
def castSlots (lk : Look) : List (Nat × List Sh) → Blks → Nat → Option (Tmps × Blks × Nat)
 | [], bs, n => some ([], bs, n)
 | (i, ss) :: r, bs, n => match castV ss (lk i) bs n with
  | some (v, bs', n') => match castSlots lk r bs' n' with
   | some (tm, bs'', n'') => some ((i, v) :: tm, bs'', n'')
   | none => none
  | none => none
def castBlks : List (Nat × List Sh) → Blks → Nat → Option (Blks × Nat)
 | [], bs, n => some (bs, n)
 | (b, []) :: r, bs, n => castBlks r bs n
 | (b, s :: ss) :: r, bs, n => match getB bs b with
  | some (.cells ty cs) => match castC b (s :: ss) cs bs n with
   | some (cs', bs', n') => castBlks r ((b, .cells ty cs') :: bs') n'
   | none => none
  | _ => none
def gA (get : Get) (q : Nat → Nat) : AV → Option AV
 | .own b g => (match get b with
  | some (.list _ _ g' _ _) => (match Nat.beq g g' with | true => some (.own b (q b)) | false => none)
  | _ => none)
 | .el b g i o => (match get b with
  | some (.list _ _ g' _ _) => (match Nat.beq g g' with | true => some (.el b (q b) i o) | false => none)
  | _ => none)
 | a => some a
def mapO {α β : Type} (f : α → Option β) : List α → Option (List β)
 | [] => some []
 | a :: r => match f a, mapO f r with
  | some b, some r' => some (b :: r')
  | _, _ => none
def gC (get : Get) (q : Nat → Nat) : AV → Option AV
 | .agg cs => (match mapO (gA get q) cs with | some cs' => some (.agg cs') | none => none)
 | a => gA get q a
def gV (get : Get) (q : Nat → Nat) : AV → Option AV
 | .tup vs => (match mapO (gC get q) vs with | some vs' => some (.tup vs') | none => none)
 | a => gC get q a
def gB (get : Get) (q : Nat → Nat) (i : Nat) : Blk → Option Blk
 | .cells ty cs => (match mapO (gA get q) cs with | some cs' => some (.cells ty cs') | none => none)
 | .list e t _ sh L => some (.list e t (q i) sh L)
def gBs (get : Get) (q : Nat → Nat) : Nat → List Blk → Option (List Blk)
 | _, [] => some []
 | i, b :: r => match gB get q i b, gBs get q (i + 1) r with
  | some b', some r' => some (b' :: r')
  | _, _ => none
def gT (get : Get) (q : Nat → Nat) : Tmps → Option Tmps
 | [] => some []
 | (i, v) :: r => match gV get q v, gT get q r with
  | some v', some r' => some ((i, v') :: r')
  | _, _ => none
structure Tpl where
 slots : List (Nat × List Sh)
 blks : List (List Sh)
def norm (np : Nat) (tp : Tpl) (st : St) : Option St :=
 match castSlots (look st.tmps) tp.slots st.blks st.next with
 | none => none
 | some (tm, bs, n) => match reach (getB bs) 200 (List.range np ++ tm.flatMap fun p => refV p.2) [] with
  | none => none
  | some ids => match castBlks (ids.zip tp.blks) bs n with
   | none => none
   | some (bs2, _) => match reach (getB bs2) 200 (List.range np ++ tm.flatMap fun p => refV p.2) [] with
    | none => none
    | some ids2 => match getAll (getB bs2) ids2 with
     | none => none
     | some l => match (tm.all fun p => plainV p.2) && l.all okBlk with
      | false => none
      | true =>
       let tm2 : Tmps := tm.map fun p => (p.1, renV (posOf ids2) p.2)
       let l2 := l.map (renB (posOf ids2))
       let q : Nat → Nat := fun i => match Nat.blt i np with | true => 1 | false => 0
       match gT (getB (withIds 0 l2)) q tm2, gBs (getB (withIds 0 l2)) q 0 l2 with
       | some tm3, some l3 => some { tmps := tm3, blks := withIds 0 l3, next := l3.length }
       | _, _ => none
end Go.Sx
