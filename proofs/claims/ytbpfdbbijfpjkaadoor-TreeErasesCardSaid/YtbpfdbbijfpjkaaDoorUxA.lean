/- A part of the proof: see the row's text. -/
import Derived.Calls
import Derived.Below
import Derived.Laws.Cells
import Derived.Laws.Entries
import Derived.Lib.FrozenHead
import Derived.ChangeKeysEq
import Derived.Laws.Strings
import Derived.Laws.StructEq
import Derived.Laws.Tables
set_option linter.unusedVariables false
set_option linter.unusedSimpArgs false
/- THE MACHINE: it runs the model's code on abstract values: slices that nobody writes any more are lists, variables and lists that grow are blocks; no tape, no addresses. -/
namespace Go.Sx
open Go

inductive Ty where
  | unit | bool | int (k : IntKind) | flt (k : FloatKind) | str
  | pair (a b : Ty)
  | slice (e : Ty)
  | ptr (e : Ty)
  deriving DecidableEq

def Ty.den : Ty → Type
  | .unit => Unit
  | .bool => Bool
  | .int _ => Int
  | .flt _ => Nat
  | .str => List UInt8
  | .pair a b => a.den × b.den
  | .slice e => List e.den
  | .ptr e => Option e.den

def Ty.dflt : (t : Ty) → t.den
  | .unit => ()
  | .bool => false
  | .int _ => (0 : Int)
  | .flt _ => (0 : Nat)
  | .str => ([] : List UInt8)
  | .pair a b => (a.dflt, b.dflt)
  | .slice e => ([] : List e.den)
  | .ptr e => (none : Option e.den)

def Ty.size : Ty → Nat
  | .unit => 0
  | .pair a b => a.size + b.size
  | _ => 1

/-- 'undef': nothing is known of it; '.tup []': the model's own 'undef' -/
inductive AV where
  | undef
  | bool (b : Bool)
  | int (k : IntKind) (n : Int)
  | flt (k : FloatKind) (bits : Nat)
  | str (s : List UInt8)
  | nilp
  | nils
  | ref (b off : Nat)
  | bself (b : Nat)
  | pd (t : Ty) (x : t.den) (off : Nat)
  | sl (t : Ty) (L : List t.den)
  | sx (t : Ty) (L : List t.den)
  | own (b g : Nat)
  | el (b g i off : Nat)
  | fn (f : Nat) (cap : List AV)
  | nilf
  | iface (t : Nat) (v : AV)
  | nili
  | agg (cs : List AV)
  | tup (vs : List AV)

def AV.cells : AV → List AV
  | .agg cs => cs
  | v => [v]

/-- may it stand in a cell? -/
def AV.leaf : AV → Bool
  | .undef | .agg _ | .tup _ => false
  | _ => true

def flat : (t : Ty) → t.den → List AV
  | .unit, _ => []
  | .bool, b => [.bool b]
  | .int k, n => [.int k n]
  | .flt k, n => [.flt k n]
  | .str, s => [.str s]
  | .pair a b, x => flat a x.1 ++ flat b x.2
  | .slice e, L => [.sl e L]
  | .ptr _, none => [.nilp]
  | .ptr e, some x => [.pd e x 0]

inductive Blk where
  | cells (ty : Nat) (cs : List AV)
  | list (ee : Nat) (t : Ty) (g : Nat) (sh : Bool) (L : List t.den)

abbrev Blks := List (Nat × Blk)
abbrev Get := Nat → Option Blk
abbrev Wr := List (Nat × Blk)

def getB : Blks → Get
  | [], _ => none
  | (i, b) :: r, j => match Nat.beq i j with
    | true => some b
    | false => getB r j

inductive DT (α : Type) where
  | leaf (a : α) | fail | br (b : Bool) (t e : DT α)

def DT.run {α : Type} : DT α → Option α
  | .leaf a => some a
  | .fail => none
  | .br b t e => match b with
    | true => t.run
    | false => e.run

inductive Rs (α : Type) where
  | ok (a : α) | err (why : Nat)

def DT.bindK {α R : Type} (pos : Nat) : DT α → (α → Rs R) → Rs R
  | .leaf a, k => k a
  | .fail, _ => .err pos
  | .br b t e, k => match b with
    | true => t.bindK pos k
    | false => e.bindK pos k

universe u
def nth {α : Type u} : List α → Nat → Option α
  | [], _ => none
  | a :: _, 0 => some a
  | _ :: r, n + 1 => nth r n

def castTo (t t' : Ty) (x : t.den) : Option t'.den :=
  if h : t = t' then some (h ▸ x) else none
def castL (t t' : Ty) (x : List t.den) : Option (List t'.den) :=
  if h : t = t' then some (h ▸ x) else none

/-- leaves back to data; lists of own blocks are read: the data, the rest, the blocks whose content is taken -/
def unflat (get : Get) : (t : Ty) → List AV → Option (t.den × List AV × List Nat)
  | .unit, cs => some ((), cs, [])
  | .bool, cs => match cs with
    | .bool b :: r => some (b, r, [])
    | _ => none
  | .int k, cs => match cs with
    | .int k' n :: r => if k = k' then some (n, r, []) else none
    | _ => none
  | .flt k, cs => match cs with
    | .flt k' n :: r => if k = k' then some (n, r, []) else none
    | _ => none
  | .str, cs => match cs with
    | .str s :: r => some (s, r, [])
    | _ => none
  | .pair a b, cs => match unflat get a cs with
    | some (x, r, m) => match unflat get b r with
      | some (y, r', m') => some ((x, y), r', m ++ m')
      | none => none
    | none => none
  | .slice e, cs => match cs with
    | .sl e' L :: r => (match castL e' e L with | some L' => some (L', r, []) | none => none)
    | .sx e' L :: r => (match castL e' e L with | some L' => some (L', r, []) | none => none)
    | .own b g :: r => (match get b with
      | some (.list _ e' g' _ L) => match Nat.beq g g' with
        | true => (match castL e' e L with | some L' => some (L', r, [b]) | none => none)
        | false => none
      | _ => none)
    | .nils :: r => some (([] : List e.den), r, [])
    | _ => none
  | .ptr e, cs => match cs with
    | .nilp :: r => some ((none : Option e.den), r, [])
    | .pd e' x 0 :: r => (match castTo e' e x with | some x' => some (some x', r, []) | none => none)
    | _ => none

/-- the blocks whose content was taken hold it from now on unwritten -/
def shareWr (get : Get) (m : List Nat) : Wr :=
  m.filterMap fun b => match get b with
    | some (.list ee t g _ L) => some (b, .list ee t g true L)
    | _ => none

structure Fld where
  off : Nat
  size : Nat
  agg : Bool
  t : Nat
  blank : Bool

inductive TD where
  | scalar | int (k : IntKind) | str | ptr (e : Nat) | slice (e : Nat) | array (n e : Nat) | struct (fs : List Fld) | other

structure TI where
  size : Nat
  bytes : Nat
  zero : List AV
  agg : Bool
  eqOk : Bool   -- may such structs be held against each other?
  ty : Option Ty
  td : TD

structure FI where
  code : Code
  ntmps : Nat
  results : List ResultVar

abbrev Tmps := List (Nat × AV)
abbrev Look := Nat → AV
def look : Tmps → Look
  | [], _ => .undef
  | (i, v) :: r, j => match Nat.beq i j with
    | true => v
    | false => look r j

structure St where
  tmps : Tmps
  blks : Blks
  next : Nat

inductive Out where
  | ret (v : AV) | panic (v : AV)

/-- a function, as the machine meets it: what it answers goes on -/
abbrev Callee := (R : Type) → Nat → List AV → List Blk → ((Out × List Blk) → Rs R) → Rs R
abbrev Intr := (R : Type) → List AV → List Blk → ((Out × List Blk) → Rs R) → Rs R

structure Env where
  ti : List (Option TI)
  fi : List (Option FI)
  intr : List (Option Intr)

def Env.T (E : Env) (t : Nat) : Option TI :=
  match nth E.ti t with
  | some x => x
  | none => none

structure OpR where
  v : AV
  wr : Wr
  rd : List Nat

def pureV (v : AV) : DT OpR := .leaf ⟨v, [], []⟩
def ofO : Option AV → DT OpR
  | some v => pureV v
  | none => .fail

def constAV : Value → AV
  | .bool b => .bool b
  | .int k n => .int k n
  | .float k b => .flt k b
  | .string s => .str s.data.toList
  | .pointer none => .nilp
  | .slice none 0 0 => .nils
  | .nilFunc => .nilf
  | .nilIface => .nili
  | _ => .undef

def evalO (lk : Look) : Operand → AV
  | .tmp t => lk t
  | .const v => constAV v
  | .global _ => .undef
  | .func f => .fn f []

def seg {α : Type} (l : List α) (off n : Nat) : List α := (l.drop off).take n
def splice (l : List AV) (off : Nat) (vs : List AV) : List AV := l.take off ++ (vs ++ l.drop (off + vs.length))

def mkVal (agg : Bool) (cs : List AV) : Option AV :=
  match agg with
  | true => some (.agg cs)
  | false => match cs with
    | [v] => some v
    | _ => none

/-- the list that a slice value holds, and the block that was looked into -/
inductive SL where
  | mk (t : Ty) (L : List t.den) (b : List Nat)

def sliceOf (get : Get) : AV → Option SL
  | .sl t L => some (.mk t L [])
  | .sx t L => some (.mk t L [])
  | .own b g => match get b with
    | some (.list _ t g' _ L) => match Nat.beq g g' with
      | true => some (.mk t L [b])
      | false => none
    | _ => none
  | _ => none

def cellsAt (get : Get) (n : Nat) : AV → Option (List AV × List Nat)
  | .ref b off => match get b with
    | some (.cells _ cs) => some (seg cs off n, [b])
    | _ => none
  | .pd t x off => some (seg (flat t x) off n, [])
  | .el b g i off => match get b with
    | some (.list _ t g' _ L) => match Nat.beq g g' with
      | true => some (seg (flat t (L.getD i t.dflt)) off n, [b])
      | false => none
    | _ => none
  | _ => none

def addOff : AV → Nat → Option AV
  | .ref b o, n => some (.ref b (o + n))
  | .pd t x o, n => some (.pd t x (o + n))
  | .el b g i o, n => some (.el b g i (o + n))
  | _, _ => none

def eqLeaf (td : TD) (a b : AV) : Option Bool :=
  match td with
  | .scalar => match a, b with
    | .bool a, .bool b => some (a == b)
    | _, _ => none
  | .int _ => match a, b with
    | .int k a, .int k' b => if k = k' then some (a == b) else none
    | _, _ => none
  | .str => match a, b with
    | .str a, .str b => some (a == b)
    | _, _ => none
  | .ptr _ => match a, b with
    | .nilp, .nilp => some true
    | .nilp, .ref _ _ => some false
    | .nilp, .pd _ _ _ => some false
    | .ref _ _, .nilp => some false
    | .pd _ _ _, .nilp => some false
    | _, _ => none
  | .slice _ => match a, b with
    | .nils, .nils => some true
    | .sl _ (_ :: _), .nils => some false
    | _, _ => none
  | _ => none

mutual
/-- are two values of a type the same? -/
def eqT (E : Env) : Nat → Nat → List AV → List AV → Option Bool
  | 0, _, _, _ => none
  | n + 1, t, xs, ys => match E.T t with
    | none => none
    | some ti => match ti.td with
      | .struct fs => (match ti.eqOk with
        | true => eqFs E n fs xs ys
        | false => none)
      | td => match xs with
        | [x] => (match ys with
          | [y] => eqLeaf td x y
          | _ => none)
        | _ => none
def eqFs (E : Env) : Nat → List Fld → List AV → List AV → Option Bool
  | _, [], _, _ => some true
  | 0, _ :: _, _, _ => none
  | n + 1, f :: fs, xs, ys => match f.blank with
    | true => none
    | false => match eqT E n f.t (seg xs f.off f.size) (seg ys f.off f.size) with
      | none => none
      | some a => match fs with
        | [] => some a
        | fs => match eqFs E n fs xs ys with
          | none => none
          | some b => some (a && b)
end

def eqA (E : Env) (t : Nat) (x y : AV) : Option Bool :=
  match E.T t with
  | none => none
  | some ti => match x with
    | .agg a => match y with
      | .agg b => (match ti.agg with
        | true => eqT E 60 t a b
        | false => none)
      | _ => none
    | x => match y with
      | .agg _ => none
      | y => (match ti.agg with
        | true => none
        | false => eqT E 60 t [x] [y])

def binInt (op : BinOp) (k : IntKind) (a b : Int) : DT OpR :=
  match op with
  | .add => pureV (.int k (k.wrap (a + b)))
  | .sub => pureV (.int k (k.wrap (a - b)))
  | .mul => pureV (.int k (k.wrap (a * b)))
  | .quo => .br (b == 0) .fail (pureV (.int k (k.wrap (a.tdiv b))))
  | .rem => .br (b == 0) .fail (pureV (.int k (a.tmod b)))
  | .eql => pureV (.bool (a == b))
  | .neq => pureV (.bool (a != b))
  | .lss => pureV (.bool (decide (a < b)))
  | .leq => pureV (.bool (decide (a ≤ b)))
  | .gtr => pureV (.bool (decide (a > b)))
  | .geq => pureV (.bool (decide (a ≥ b)))
  | _ => .fail

def binStr (op : BinOp) (a b : List UInt8) : DT OpR :=
  match op with
  | .add => .br (decide (a.length + b.length < 2 ^ 62)) (pureV (.str (a ++ b))) .fail
  | .eql => pureV (.bool (a == b))
  | .neq => pureV (.bool (!(a == b)))
  | _ => .fail

def binOpA (E : Env) (t : Nat) (op : BinOp) (x y : AV) : DT OpR :=
  match x, y with
  | .int k a, .int k' b => if k = k' then binInt op k a b else .fail
  | .str a, .str b => binStr op a b
  | x, y => match op with
    | .eql => ofO ((eqA E t x y).map .bool)
    | .neq => ofO ((eqA E t x y).map fun b => .bool (!b))
    | _ => .fail

/-- parts that come in their order: what isn't there is zero -/
def gather (lk : Look) : Nat → List Fld → List (Nat × Operand) → List AV → Option (List AV)
  | _, [], [], _ => some []
  | _, [], _ :: _, _ => none
  | i, f :: fs, [], z => match gather lk (i + 1) fs [] (z.drop f.size) with
    | some r => some (z.take f.size ++ r)
    | none => none
  | i, f :: fs, (j, x) :: ps, z => match Nat.beq i j with
    | true =>
      let vs := (evalO lk x).cells
      match Nat.beq vs.length f.size && vs.all AV.leaf with
      | true => (match gather lk (i + 1) fs ps (z.drop f.size) with
        | some r => some (vs ++ r)
        | none => none)
      | false => none
    | false => match gather lk (i + 1) fs ((j, x) :: ps) (z.drop f.size) with
      | some r => some (z.take f.size ++ r)
      | none => none

/-- parts in whatever order -/
def fillA (lk : Look) (fs : List Fld) : List (Nat × Operand) → List AV → Option (List AV)
  | [], z => some z
  | (j, x) :: ps, z => match nth fs j with
    | none => none
    | some f =>
      let vs := (evalO lk x).cells
      match Nat.beq vs.length f.size && (vs.all AV.leaf && Nat.ble (f.off + f.size) z.length) with
      | true => fillA lk fs ps (z.take f.off ++ vs ++ z.drop (f.off + f.size))
      | false => none
def gatherS (lk : Look) (fs : List Fld) (ps : List (Nat × Operand)) (z : List AV) : Option (List AV) :=
  match gather lk 0 fs ps z with
  | some r => some r
  | none => fillA lk fs ps z

/-- fields that lie one behind the other, from a place on up to another one -/
def contig : Nat → List Fld → Nat → Bool
  | i, [], n => Nat.beq i n
  | i, f :: fs, n => match Nat.beq f.off i with
    | true => contig (i + f.size) fs n
    | false => false

def arrFlds (n : Nat) (te : TI) : List Fld := (List.range n).map fun i => ⟨i * te.size, te.size, te.agg, 0, false⟩

def intOf? : AV → Option Int
  | .int .i64 n => some n
  | _ => none

def maxRoom : Nat := 2 ^ 36
/-- asked so that the kernel stops at an unknown length -/
def inR (n : Int) : Bool := decide (0 ≤ n) && decide (n.toNat < maxRoom)

def listOfCells (get : Get) (t : Ty) : Nat → List AV → Option (List t.den × List Nat)
  | 0, [] => some ([], [])
  | 0, _ :: _ => none
  | n + 1, cs => match unflat get t cs with
    | some (x, r, m) => match listOfCells get t n r with
      | some (l, m') => some (x :: l, m ++ m')
      | none => none
    | none => none

def appendTo (get : Get) (id : Nat) (et es by_ : Nat) (s : AV) (t : Ty) (X : List t.den) (m : List Nat) : DT OpR :=
  match Nat.beq t.size es && (Nat.ble 1 es && Nat.ble by_ 1024) with
  | false => .fail
  | true => match s with
  | .nils => .br (decide (X.length < maxRoom)) (.leaf ⟨.own id 0, (id, .list et t 0 false X) :: [], m⟩) .fail
  | .own b g => match get b with
    | some (.list ee t' g' sh L) => match Nat.beq g g' && Nat.beq ee et with
      | true => (match castL t t' X with
        | some X' => .br (decide (L.length + X.length < maxRoom)) (.leaf ⟨.own b (g + 1), [(b, .list ee t' (g + 1) sh (L ++ X'))], b :: m⟩) .fail
        | none => .fail)
      | false => .fail
    | _ => .fail
  | .sx t' L => match castL t t' X with
    | some X' => .br (decide (0 < X.length) && decide (L.length + X.length < maxRoom)) (.leaf ⟨.own id 0, [(id, .list et t' 0 false (L ++ X'))], m⟩) .fail
    | none => .fail
  | _ => .fail

def appendA (get : Get) (id : Nat) (et es by_ : Nat) (s x : AV) : DT OpR :=
  match x with
  | .nils => (match s with | .nils => pureV .nils | _ => .fail)
  | .str c => appendTo get id et es by_ s (.int .u8) (c.map fun b => (b.toNat : Int)) []
  | x => match sliceOf get x with
    | some (.mk t X m) => appendTo get id et es by_ s t X m
    | none => .fail

def hiOf (lk : Look) (n : Nat) : Option Operand → Option Int
  | some a => intOf? (evalO lk a)
  | none => some (n : Int)
def loOf (lk : Look) : Option Operand → Option Int
  | some a => intOf? (evalO lk a)
  | none => some 0

def inB (l h : Int) (n : Nat) : Bool := decide (0 ≤ l) && (decide (l ≤ h) && decide (h ≤ (n : Int)))
def inI (i : Int) (n : Nat) : Bool := decide (0 ≤ i) && decide (i < (n : Int))

def sliceA (get : Get) (lk : Look) (es : Nat) (x : AV) (lo hi mx : Option Operand) : DT OpR :=
  match mx with
  | some m => match x, hi, lo with
    | .own b g, some h, none => match get b with
      | some (.list _ t g' _ L) => match Nat.beq g g' && Nat.beq t.size es with
        | true => (match intOf? (evalO lk h), intOf? (evalO lk m) with
          | some h, some m => .br (inB 0 h L.length && (h == m)) (.leaf ⟨.sx t (L.take h.toNat), shareWr get [b], [b]⟩) .fail
          | _, _ => .fail)
        | false => .fail
      | _ => .fail
    | .nils, some h, none => match intOf? (evalO lk h), intOf? (evalO lk m) with
      | some h, some m => .br ((h == 0) && (m == 0)) (pureV .nils) .fail
      | _, _ => .fail
    | _, _, _ => .fail
  | none => match x with
    | .str s => match loOf lk lo, hiOf lk s.length hi with
      | some l, some h => .br (inB l h s.length) (pureV (.str ((s.take h.toNat).drop l.toNat))) .fail
      | _, _ => .fail
    | .own b g => match get b with
      | some (.list ee t g' sh L) => match Nat.beq g g' && Nat.beq t.size es, loOf lk lo, hiOf lk L.length hi with
        | true, some l, some h => (match sh, lo with
          | false, none => .br (inB 0 h L.length) (.leaf ⟨.own b (g + 1), [(b, .list ee t (g + 1) false (L.take h.toNat))], [b]⟩) .fail
          | _, _ => .br (inB l h L.length) (.leaf ⟨.sl t ((L.take h.toNat).drop l.toNat), shareWr get [b], [b]⟩) .fail)
        | _, _, _ => .fail
      | _ => .fail
    | .sl t L => match Nat.beq t.size es, loOf lk lo, hiOf lk L.length hi with
      | true, some l, some h => .br (inB l h L.length) (pureV (.sl t ((L.take h.toNat).drop l.toNat))) .fail
      | _, _, _ => .fail
    | .sx t L => match Nat.beq t.size es, loOf lk lo, hiOf lk L.length hi with
      | true, some l, some h => .br (inB l h L.length) (pureV (.sl t ((L.take h.toNat).drop l.toNat))) .fail
      | _, _, _ => .fail
    | _ => .fail

/-- how many cells an element of a slice's type takes -/
def elemSize (E : Env) (t : Nat) : Option Nat :=
  match E.T t with
  | some ti => match ti.td with
    | .slice e => match E.T e with
      | some te => some te.size
      | none => none
    | _ => none
  | none => none

def indexAddrA (get : Get) (es : Nat) (x i : AV) : DT OpR :=
  match i with
  | .int _ n => match x with
    | .sl t L => match Nat.beq t.size es with
      | true => .br (inI n L.length) (pureV (.pd t (L.getD n.toNat t.dflt) 0)) .fail
      | false => .fail
    | .sx t L => match Nat.beq t.size es with
      | true => .br (inI n L.length) (pureV (.pd t (L.getD n.toNat t.dflt) 0)) .fail
      | false => .fail
    | .own b g => match get b with
      | some (.list _ t g' _ L) => match Nat.beq g g' && Nat.beq t.size es with
        | true => .br (inI n L.length) (.leaf ⟨.el b g n.toNat 0, [], [b]⟩) .fail
        | false => .fail
      | _ => .fail
    | _ => .fail
  | _ => .fail

def indexA (E : Env) (t : Nat) (x i : AV) : DT OpR :=
  match i with
  | .int _ n => match x with
    | .str s => match E.T t with
      | some ti => match ti.td with
        | .str => .br (inI n s.length) (pureV (.int .u8 (s.getD n.toNat 0).toNat)) .fail
        | _ => .fail
      | none => .fail
    | .agg cs => match E.T t with
      | some ti => match ti.td with
        | .array len e => match E.T e with
          | some te => match te.ty with
            | some ty => match Nat.beq ty.size te.size, listOfCells (fun _ => none) ty len cs with
              | true, some (L, _) => .br (inI n len) (ofO (mkVal te.agg (flat ty (L.getD n.toNat ty.dflt)))) .fail
              | _, _ => .fail
            | none => .fail
          | none => .fail
        | _ => .fail
      | none => .fail
    | _ => .fail
  | _ => .fail

def storeA (get : Get) (a x : AV) : Option OpR :=
  match x.cells.all AV.leaf with
  | false => none
  | true => match a with
    | .ref b off => match get b with
      | some (.cells ty cs) => match Nat.ble (off + x.cells.length) cs.length with
        | true => some ⟨.tup [], [(b, .cells ty (splice cs off x.cells))], [b]⟩
        | false => none
      | _ => none
    | .el b g i off => match get b with
      | some (.list ee t g' false L) => match Nat.beq g g' && Nat.ble (off + x.cells.length) t.size with
        | true => (match unflat get t (splice (flat t (L.getD i t.dflt)) off x.cells) with
          | some (y, [], m) => (match m.any (Nat.beq b) with
            | true => none
            | false => some ⟨.tup [], (b, .list ee t g' false (L.set i y)) :: shareWr get m, b :: m⟩)
          | _ => none)
        | false => none
      | _ => none
    | _ => none

def opA (E : Env) (lk : Look) (get : Get) (id : Nat) (o : Op) : DT OpR :=
  match o with
  | .move x => pureV (evalO lk x)
  | .assign x => pureV (evalO lk x)
  | .pick c a b => match evalO lk c with
    | .bool c => match evalO lk a, evalO lk b with
      | .bool a, .bool b => pureV (.bool (cond c a b))
      | a, b => .br c (pureV a) (pureV b)
    | _ => .fail
  | .alloc t => match E.T t with
    | some ti => match ti.zero.all AV.leaf with
      | true => .leaf ⟨.ref id 0, [(id, .cells t ti.zero)], []⟩
      | false => .fail
    | none => .fail
  | .box t x => match (evalO lk x).cells.all AV.leaf with
    | true => .leaf ⟨.ref id 0, [(id, .cells t (evalO lk x).cells)], []⟩
    | false => .fail
  | .build t ps => match E.T t with
    | some ti => match ti.td with
      | .struct fs => match contig 0 fs ti.zero.length with
        | true => ofO ((gatherS lk fs ps.toList ti.zero).map .agg)
        | false => .fail
      | .array n e => match E.T e with
        | some te => match contig 0 (arrFlds n te) ti.zero.length with
          | true => ofO ((gather lk 0 (arrFlds n te) ps.toList ti.zero).map .agg)
          | false => .fail
        | none => .fail
      | _ => .fail
    | none => .fail
  | .buildSlice t len ps => match E.T t with
    | some ti => match ti.td with
      | .slice e => match E.T e with
        | some te => match te.ty with
          | some ty => match Nat.beq ty.size te.size && (Nat.ble 1 te.size && (Nat.ble (len * te.size) 4096 && Nat.beq te.zero.length te.size)), gather lk 0 (arrFlds len te) ps.toList ((List.replicate len te.zero).flatten) with
            | true, some cs => match listOfCells get ty len cs with
              | some (L, m) => .leaf ⟨.own id 0, (id, .list e ty 0 false L) :: shareWr get m, m⟩
              | none => .fail
            | _, _ => .fail
          | none => .fail
        | none => .fail
      | _ => .fail
    | none => .fail
  | .load t a => match E.T t with
    | some ti => match cellsAt get ti.size (evalO lk a) with
      | some (cs, rd) => match Nat.beq cs.length ti.size with
        | true => (match mkVal ti.agg cs with | some v => .leaf ⟨v, [], rd⟩ | none => .fail)
        | false => .fail
      | none => .fail
    | none => .fail
  | .store t a x => match E.T t with
    | some ti => match Nat.beq (evalO lk x).cells.length ti.size with
      | true => match storeA get (evalO lk a) (evalO lk x) with | some r => .leaf r | none => .fail
      | false => .fail
    | none => .fail
  | .nilCheck x => match evalO lk x with
    | .ref b off => pureV (.ref b off)
    | .pd t y off => pureV (.pd t y off)
    | .el b g i off => pureV (.el b g i off)
    | .fn f c => pureV (.fn f c)
    | _ => .fail
  | .binOp op t x y _ => binOpA E t op (evalO lk x) (evalO lk y)
  | .unOp op _ x => match op, evalO lk x with
    | .not, .bool b => pureV (.bool (!b))
    | .neg, .int k n => pureV (.int k (k.wrap (0 - n)))
    | _, _ => .fail
  | .convert s d x => match E.T s, E.T d with
    | some si, some ti => (match si.td, ti.td, evalO lk x with
      | .int _, .int k, .int _ n => pureV (.int k (k.wrap n))
      | .str, .str, .str s => pureV (.str s)
      | _, _, _ => .fail)
    | _, _ => .fail
  | .makeInterface t x => match E.T t with
    | some ti => match ti.td with
      | .other => .fail
      | _ => pureV (.iface t (evalO lk x))
    | none => .fail
  | .makeSlice t l c => match E.T t, evalO lk l, evalO lk c with
    | some ti, .int .i64 n, .int .i64 n' => (match ti.td with
      | .slice e => match E.T e with
        | some te => match te.ty with
          | some ty => match Nat.beq ty.size te.size && (Nat.ble 1 te.size && (Nat.ble te.bytes 2048 && Nat.beq te.zero.length te.size)), unflat (fun _ => none) ty te.zero with
            | true, some (x0, [], _) => .br (inR n && (n == n')) (.leaf ⟨.own id 0, [(id, .list e ty 0 false (List.replicate n.toNat x0))], []⟩) .fail
            | _, _ => .fail
          | none => .fail
        | none => .fail
      | _ => .fail)
    | _, _, _ => .fail
  | .fieldAddr t a f => match E.T t with
    | some ti => match ti.td with
      | .struct fs => match nth fs f with
        | some fl => match fl.size with
          | 0 => .fail
          | _ + 1 => ofO (addOff (evalO lk a) fl.off)
        | none => .fail
      | _ => .fail
    | none => .fail
  | .field t x f => match E.T t, evalO lk x with
    | some ti, .agg cs => (match ti.td with
      | .struct fs => match nth fs f with
        | some fl => match E.T fl.t with
          | some _ => ofO (mkVal fl.agg (seg cs fl.off fl.size))
          | none => .fail
        | none => .fail
      | _ => .fail)
    | _, _ => .fail
  | .indexAddr t x i => match elemSize E t with
    | some es => indexAddrA get es (evalO lk x) (evalO lk i)
    | none => .fail
  | .index t x i => indexA E t (evalO lk x) (evalO lk i)
  | .slice t x lo hi mx => match evalO lk x, mx with
    | .str s, none => (match E.T t with
      | some ti => match ti.td with
        | .str => sliceA get lk 0 (.str s) lo hi none
        | _ => .fail
      | none => .fail)
    | v, mx => match elemSize E t with
      | some es => sliceA get lk es v lo hi mx
      | none => .fail
  | .extract x i => match evalO lk x with
    | .tup vs => ofO (nth vs i)
    | _ => .fail
  | .call { callee := .builtin .len, args := as, argTypes := ts } => match as.toList with
    | [a] => match ts.toList with
      | [t] => match E.T t with
        | some ti => match ti.td with
          | .str => (match evalO lk a with
            | .str s => pureV (.int .i64 s.length)
            | _ => .fail)
          | .slice _ => (match evalO lk a with
            | .nils => pureV (.int .i64 0)
            | v => match sliceOf get v with
              | some (.mk _ L m) => .leaf ⟨.int .i64 L.length, [], m⟩
              | none => .fail)
          | _ => .fail
        | none => .fail
      | _ => .fail
    | _ => .fail
  | .call { callee := .builtin .append, args := as, argTypes := ts } => match as.toList with
    | [s, x] => match ts.toList with
      | [t, t'] => match E.T t, E.T t' with
        | some ti, some ti' => (match ti'.td with
          | .int _ => .fail
          | _ => match ti.td with
            | .slice e => match E.T e with
              | some te => match Nat.beq te.zero.length te.size with
                | true => appendA get id e te.size te.bytes (evalO lk s) (evalO lk x)
                | false => .fail
              | none => .fail
            | _ => .fail)
        | _, _ => .fail
      | _ => .fail
    | _ => .fail
  | .call { callee := .builtin .max, args := as, .. } => match as.toList with
    | [a, b] => match evalO lk a, evalO lk b with
      | .int k x, .int k' y => if k = k' then pureV (.int k (bif decide (x < y) then y else x)) else .fail
      | _, _ => .fail
    | _ => .fail
  | _ => .fail

/-! calls: a callee sees a heap of its own: the blocks that it was handed, numbered from 0 on -/
def refA : AV → List Nat
  | .ref b _ => [b]
  | .bself b => [b]
  | .own b _ => [b]
  | .el b _ _ _ => [b]
  | _ => []
def refsC (l : List AV) : List Nat := l.flatMap refA
/-- an argument or a result: cells, or a tuple of such; function values and interface values hold data alone -/
def refV : AV → List Nat
  | .agg cs => refsC cs
  | .tup vs => vs.flatMap fun v => refsC v.cells
  | v => refA v

/-- data alone -/
def plainI : AV → Bool
  | .fn _ _ | .iface _ _ | .undef | .agg _ | .tup _ | .ref _ _ | .bself _ | .own _ _ | .el _ _ _ _ => false
  | _ => true
def plainA : AV → Bool
  | .fn _ c => c.isEmpty
  | .iface _ v => v.cells.all plainI
  | .agg _ => false
  | .tup _ => false
  | _ => true
def plainV : AV → Bool
  | .agg cs => cs.all plainA
  | .tup vs => vs.all fun v => v.cells.all plainA
  | v => plainA v

def blkRefs : Option Blk → List Nat
  | some (.cells _ cs) => refsC cs
  | _ => []

/-- all blocks that are reached, each once, in order -/
def reach (get : Get) : Nat → List Nat → List Nat → Option (List Nat)
  | _, [], acc => some acc
  | 0, _ :: _, _ => none
  | n + 1, b :: todo, acc => match acc.any (Nat.beq b) with
    | true => reach get n todo acc
    | false => reach get n (todo ++ blkRefs (get b)) (acc ++ [b])

def posOf : List Nat → Nat → Nat
  | [], _ => 0
  | a :: r, b => match Nat.beq a b with
    | true => 0
    | false => posOf r b + 1

def renA (m : Nat → Nat) : AV → AV
  | .ref b o => .ref (m b) o
  | .bself b => .bself (m b)
  | .own b g => .own (m b) g
  | .el b g i o => .el (m b) g i o
  | v => v
def renC (m : Nat → Nat) : AV → AV
  | .agg cs => .agg (cs.map (renA m))
  | v => renA m v
def renV (m : Nat → Nat) : AV → AV
  | .tup vs => .tup (vs.map (renC m))
  | v => renC m v
def renB (m : Nat → Nat) : Blk → Blk
  | .cells ty cs => .cells ty (cs.map (renA m))
  | b => b

def getAll (get : Get) : List Nat → Option (List Blk)
  | [] => some []
  | b :: r => match get b, getAll get r with
    | some x, some l => some (x :: l)
    | _, _ => none

def backMap (ids : List Nat) (base : Nat) (i : Nat) : Nat := (nth ids i).getD (base + (i - ids.length))
def numbered (m : Nat → Nat) : Nat → List Blk → Wr
  | _, [] => []
  | i, b :: r => (m i, renB m b) :: numbered m (i + 1) r

def okBlk : Blk → Bool
  | .cells _ cs => cs.all plainA
  | _ => true

def doCall {R : Type} (K : Callee) (f : Nat) (args : List AV) (get : Get) (base : Nat) (k : Out → Wr → List Nat → Rs R) : Rs R :=
  match reach get 200 (args.flatMap refV) [] with
  | none => .err 1
  | some ids => match getAll get ids with
    | none => .err 2
    | some l => match args.all plainV && l.all okBlk with
      | false => .err 3
      | true => K R f (args.map (renV (posOf ids))) (l.map (renB (posOf ids))) fun o => match o with
        | (.ret v, l') => (match Nat.ble l'.length (ids.length + 16) with
          | true => k (.ret (renV (backMap ids base) v)) (numbered (backMap ids base) 0 l') ids
          | false => .err 4)
        | (.panic v, _) => k (.panic v) [] ids

inductive Ex where
  | normal | exit (id : Nat) | ret | panic (v : AV)

def applyWr : Blks → Wr → Blks
  | bs, [] => bs
  | bs, (i, b) :: r => applyWr ((i, b) :: bs) r

def putT (tm : Tmps) (d : Option Tmp) (v : AV) : Tmps :=
  match d with
  | some d => (d, v) :: tm
  | none => tm

/-- the blocks that are written lie below a number -/
def below (wr : Wr) (n : Nat) : Bool := wr.all fun p => Nat.blt p.1 n

section
variable (E : Env) (K : Callee) {R : Type}

/-- one operation: what it answers, the blocks that it writes, and those that it looks into -/
def execO (lk : Look) (get : Get) (id : Nat) (o : Oper) (e : Nat) (kn : AV → Wr → List Nat → Rs R) (kp : AV → Rs R) : Rs R :=
  match o.op with
  | .call { callee := .value f, args := as, .. } => match evalO lk f with
    | .fn f cap => doCall K f (as.toList.map (evalO lk) ++ cap) get id fun out wr rd => match out with
      | .ret v => (match below wr (id + 16) with
        | true => kn v wr rd
        | false => .err e)
      | .panic v => kp v
    | _ => .err e
  | .panic x => match evalO lk x with
    | .iface t v => (match plainV (.iface t v) with
      | true => kp (.iface t v)
      | false => .err e)
    | _ => .err e
  | op => (opA E lk get id op).bindK e fun r => match below r.wr (id + 16) with
    | true => kn r.v r.wr r.rd
    | false => .err e

def slotOf (all : List Oper) (j : Nat) : Option Tmp := (nth all j).bind (·.dst)

/-- a region whose order is fixed -/
def evOps (rid : Nat) (all : List Oper) : List Oper → Nat → St → (St → Rs R) → (AV → Rs R) → Rs R
  | [], i, st, kn, _ => kn { st with next := st.next + 16 * i }
  | o :: os, i, st, kn, kp =>
    let go (st : St) : Rs R := execO E K (look st.tmps) (getB st.blks) (st.next + 16 * i) o (rid * 100 + i)
      (fun v wr _ => evOps rid all os (i + 1) { tmps := putT st.tmps o.dst v, blks := applyWr st.blks wr, next := st.next } kn kp) kp
    let skip (st : St) : Rs R := evOps rid all os (i + 1) { st with tmps := putT st.tmps o.dst (.tup []) } kn kp
    match o.guard with
    | none => go st
    | some (j, want) => match slotOf all j with
      | none => .err 5
      | some d => match look st.tmps d with
        | .bool b => (match b with
          | true => (match want with
            | true => go { st with tmps := (d, .bool true) :: st.tmps }
            | false => skip { st with tmps := (d, .bool true) :: st.tmps })
          | false => (match want with
            | true => skip { st with tmps := (d, .bool false) :: st.tmps }
            | false => go { st with tmps := (d, .bool false) :: st.tmps }))
        | .tup [] => skip st
        | _ => .err 5

/-! a region whose order is drawn: whatever order comes up, all comes out as in the order in which it is written: what clashes is ordered -/
def befOf (acc : List Nat) (o : Oper) : Nat :=
  o.after.toList.foldr (fun e s => match Region.binds .any e with | true => s ||| (1 <<< e.on) ||| ((nth acc e.on).getD 0) | false => s) 0
def befs : List Oper → List Nat → List Nat
  | [], acc => acc
  | o :: os, acc => befs os (acc ++ [befOf acc o])

/-- an operation that looks into blocks, or writes them -/
structure Ent where
  i : Nat
  rb : List Nat
  wb : List Nat

def meets (a b : List Nat) : Bool := a.any fun x => b.any (Nat.beq x)
def Ent.clash (a b : Ent) : Bool := meets a.wb b.rb || (meets a.wb b.wb || meets a.rb b.wb)
def bitAt (bf : List Nat) (j i : Nat) : Bool := Nat.testBit ((nth bf j).getD 0) i
/-- the later of two that clash comes behind the earlier one -/
def noClash (bf : List Nat) : List Ent → Bool
  | [] => true
  | e :: r => r.all (fun d => !(e.clash d) || bitAt bf d.i e.i) && noClash bf r

def opnd : Operand → List Nat
  | .tmp t => [t]
  | _ => []
def guardSlot (all : List Oper) (o : Oper) : List Nat :=
  match o.guard with
  | none => []
  | some (j, _) => (slotOf all j).toList
/-- the slots that an operation looks at -/
def sees (all : List Oper) (o : Oper) : List Nat := o.op.operands.toList.flatMap opnd ++ guardSlot all o
/-- of each region that draws, asked once: slots are written and read in order; edges lead back -/
def slotsOk (all : List Oper) (bf : List Nat) : Bool :=
  let is := List.range all.length
  is.all fun j => match nth all j with
    | none => true
    | some oj => (oj.after.toList.all fun e => !Region.binds .any e || Nat.blt e.on j) &&
      (match oj.guard with | none => true | some (g, _) => bitAt bf j g) &&
      is.all fun i => match nth all i with
        | none => true
        | some oi => !(Nat.blt i j) || (bitAt bf j i || !(meets oi.dst.toList (sees all oj ++ oj.dst.toList) || meets oj.dst.toList (sees all oi)))

/-- what is written is old, or one's own, or was written before -/
def keysOk (next id : Nat) (es : List Ent) (wr : Wr) : Bool :=
  wr.all fun p => Nat.blt p.1 next || (Nat.ble id p.1 || es.any fun e => e.wb.any (Nat.beq p.1))

def evOpsD (rid : Nat) (all : List Oper) (bf : List Nat) : List Oper → Nat → St → List Ent → (St → Rs R) → Rs R
  | [], i, st, es, kn => match noClash bf es.reverse with
    | true => kn { st with next := st.next + 16 * i }
    | false => .err 6
  | o :: os, i, st, es, kn =>
    let go (st : St) : Rs R := execO E K (look st.tmps) (getB st.blks) (st.next + 16 * i) o (rid * 100 + i)
      (fun v wr rd => match keysOk st.next (st.next + 16 * i) es wr with
        | true => evOpsD rid all bf os (i + 1) { tmps := putT st.tmps o.dst v, blks := applyWr st.blks wr, next := st.next }
          (match wr, rd with | [], [] => es | wr, rd => ⟨i, rd, wr.map (·.1)⟩ :: es) kn
        | false => .err 7)
      (fun _ => .err 8)
    let skip (st : St) : Rs R := evOpsD rid all bf os (i + 1) { st with tmps := putT st.tmps o.dst (.tup []) } es kn
    match o.guard with
    | none => go st
    | some (j, want) => match slotOf all j with
      | none => .err 5
      | some d => match look st.tmps d with
        | .bool b => (match b with
          | true => (match want with
            | true => go { st with tmps := (d, .bool true) :: st.tmps }
            | false => skip { st with tmps := (d, .bool true) :: st.tmps })
          | false => (match want with
            | true => skip { st with tmps := (d, .bool false) :: st.tmps }
            | false => go { st with tmps := (d, .bool false) :: st.tmps }))
        | .tup [] => skip st
        | _ => .err 5

/-- where a walk may be cut: a number for a place in the code, and how the state is turned there -/
abbrev Cuts := Nat → Option (Nat × (St → Option St))
abbrev Jump (R : Type) := Nat → St → Rs R

def jumpTo (J : Jump R) (c : Nat × (St → Option St)) (st : St) : Rs R :=
  match c.2 st with
  | some st' => J c.1 st'
  | none => .err (9000000 + c.1)

abbrev Ev (R : Type) := Nat → St → (Ex → St → Rs R) → Rs R

def enter (cuts : Cuts) (J : Jump R) (x : Ev R) (p : Nat) (st : St) (k : Ex → St → Rs R) : Rs R :=
  match cuts p with
  | some c => jumpTo J c st
  | none => x p st k

def seqK (b : Ev R) (p : Nat) (k : Ex → St → Rs R) (ex : Ex) (st : St) : Rs R :=
  match ex with
  | .normal => b p st k
  | .exit id => k (.exit id) st
  | .ret => k .ret st
  | .panic v => k (.panic v) st
def blockK (id : Nat) (k : Ex → St → Rs R) (ex : Ex) (st : St) : Rs R :=
  match ex with
  | .normal => k .normal st
  | .exit j => (match Nat.beq j id with
    | true => k .normal st
    | false => k (.exit j) st)
  | .ret => k .ret st
  | .panic v => k (.panic v) st
def noEv : Ev R := fun p _ _ => .err (8000000 + p)

/-- the code from its beginning on, up to the next cuts -/
noncomputable def ev (cuts : Cuts) (J : Jump R) (c : Code) : Ev R :=
  Code.rec (motive := fun _ => Ev R)
    (fun _ st k => k .normal st)
    (fun id ops draw _ st k => match draw with
      | false => evOps E K id ops.toList ops.toList 0 st (fun st' => k .normal st') (fun v => k (.panic v) st)
      | true => evOpsD E K id ops.toList (befs ops.toList []) ops.toList 0 st [] (fun st' => k .normal st'))
    (fun _ _ a b p st k => enter cuts J a (2 * p) st (seqK (enter cuts J b) (2 * p + 1) k))
    (fun c _ _ a b p st k => match evalO (look st.tmps) c with
      | .bool t => (match t with
        | true => enter cuts J a (2 * p) st k
        | false => enter cuts J b (2 * p + 1) st k)
      | _ => .err (7000000 + p))
    (fun id _ c p st k => enter cuts J c (2 * p) st (blockK id k))
    (fun _ _ p st _ => match cuts (2 * p) with
      | some c => jumpTo J c st
      | none => .err (8000000 + p))
    (fun _ _ _ _ _ _ => noEv)
    (fun id _ st k => k (.exit id) st)
    (fun _ _ => noEv)
    (fun _ => noEv)
    (fun _ => noEv)
    (fun _ st k => k .ret st)
    (fun _ => noEv) c

/-- the code from some place within on -/
noncomputable def resume (cuts : Cuts) (J : Jump R) : List Bool → Code → Nat → St → (Ex → St → Rs R) → Rs R
  | [], c, p, st, k => ev E K cuts J c p st k
  | d :: r, c, p, st, k => match c with
    | .seq a b => (match d with
      | false => resume cuts J r a (2 * p) st (seqK (enter cuts J (ev E K cuts J b)) (2 * p + 1) k)
      | true => resume cuts J r b (2 * p + 1) st k)
    | .cond _ a b => (match d with
      | false => resume cuts J r a (2 * p) st k
      | true => resume cuts J r b (2 * p + 1) st k)
    | .block id c => resume cuts J r c (2 * p) st (blockK id k)
    | .loop c => resume cuts J r c (2 * p) st (seqK (enter cuts J noEv) (2 * p) k)
    | _ => .err 10

def resV (lk : Look) (get : Get) : ResultVar → Option AV
  | .tmp t => some (lk t)
  | .cell a t => match E.T t with
    | some ti => match cellsAt get ti.size (lk a) with
      | some (cs, _) => (match Nat.beq cs.length ti.size with
        | true => mkVal ti.agg cs
        | false => none)
      | none => none
    | none => none

def resVs (lk : Look) (get : Get) : List ResultVar → Option (List AV)
  | [] => some []
  | r :: rs => match resV E lk get r, resVs lk get rs with
    | some v, some vs => some (v :: vs)
    | _, _ => none

def withIds : Nat → List Blk → Blks
  | _, [] => []
  | i, b :: r => (i, b) :: withIds (i + 1) r

/-- what is handed back: the blocks that were handed in, and the new ones that are reached, numbered anew -/
def leave (np : Nat) (get : Get) (v : AV) (k : (Out × List Blk) → Rs R) : Rs R :=
  match reach get 200 (List.range np ++ refV v) [] with
  | none => .err 11
  | some ids => match getAll get ids with
    | none => .err 12
    | some l => match plainV v && l.all okBlk with
      | true => k (.ret (renV (posOf ids) v), l.map (renB (posOf ids)))
      | false => .err 13

def argTmps : Nat → List AV → Tmps
  | _, [] => []
  | i, v :: r => (i, v) :: argTmps (i + 1) r

/-- where a function ends -/
def finK (np : Nat) (results : List ResultVar) (k : (Out × List Blk) → Rs R) (ex : Ex) (st : St) : Rs R :=
  match ex with
  | .normal => (match resVs E (look st.tmps) (getB st.blks) results with
    | some [v] => leave np (getB st.blks) v k
    | some vs => leave np (getB st.blks) (.tup vs) k
    | none => .err 14)
  | .ret => (match resVs E (look st.tmps) (getB st.blks) results with
    | some [v] => leave np (getB st.blks) v k
    | some vs => leave np (getB st.blks) (.tup vs) k
    | none => .err 14)
  | .panic v => k (.panic v, [])
  | .exit _ => .err 15

def noCuts : Cuts := fun _ => none
def noJump : Jump R := fun j _ => .err (6000000 + j)

/-- a function without loops -/
noncomputable def body (fi : FI) (args : List AV) (bs : List Blk) (k : (Out × List Blk) → Rs R) : Rs R :=
  match Nat.ble args.length fi.ntmps with
  | false => .err 16
  | true => ev E K noCuts noJump fi.code 1 { tmps := argTmps 0 args, blks := withIds 0 bs, next := bs.length } (finK E bs.length fi.results k)
end

noncomputable def run (E : Env) : Nat → Callee :=
  fun n => Nat.rec (motive := fun _ => Callee) (fun _ f _ _ _ => .err (5000000 + f)) (fun _ ih R f args bs k =>
    match nth E.intr f with
    | some (some g) => g R args bs k
    | _ => match nth E.fi f with
      | some (some fi) => body E ih fi args bs k
      | _ => .err (4000000 + f)) n

/-! shapes: how a value is turned where walks meet -/
inductive Sh where
  | keep | sl (t : Ty) | own (e : Nat) (t : Ty) | bself

/-- one cell turned into a shape: the cell, what is written, the next free number -/
def castA (get : Get) (self next : Nat) (s : Sh) (a : AV) : Option (AV × Wr × Nat) :=
  match s with
  | .keep => some (a, [], next)
  | .sl t => (match unflat get (.slice t) [a] with
    | some (L, [], m) => some (.sl t L, shareWr get m, next)
    | _ => none)
  | .own e t => (match Nat.ble 1 t.size with
    | true => (match a with
      | .nils => some (.own next 0, [(next, .list e t 0 false [])], next + 1)
      | .own b g => (match get b with
        | some (.list e' t' g' _ L) => (match Nat.beq g g' && Nat.beq e e' with
          | true => (match castL t' t L with | some _ => some (.own b g, [], next) | none => none)
          | false => none)
        | _ => none)
      | _ => none)
    | false => none)
  | .bself => (match get self with
    | some (.cells _ _) => (match a with
      | .nilp => some (.bself self, [], next)
      | .ref b o => (match o with
        | 0 => (match Nat.beq b self with | true => some (.bself self, [], next) | false => none)
        | _ => none)
      | .bself b => (match Nat.beq b self with | true => some (.bself self, [], next) | false => none)
      | _ => none)
    | _ => none)

def castC (self : Nat) : List Sh → List AV → Blks → Nat → Option (List AV × Blks × Nat)
  | [], cs, bs, n => some (cs, bs, n)
  | s :: ss, [], _, _ => none
  | s :: ss, a :: as, bs, n => match castA (getB bs) self n s a with
    | some (a', wr, n') => match castC self ss as (applyWr bs wr) n' with
      | some (as', bs', n'') => some (a' :: as', bs', n'')
      | none => none
    | none => none

def castV (ss : List Sh) (v : AV) (bs : Blks) (n : Nat) : Option (AV × Blks × Nat) :=
  match ss with
  | [] => some (v, bs, n)
  | ss => match v with
    | .agg cs => (match castC 0 ss cs bs n with
      | some (cs', bs', n') => some (.agg cs', bs', n')
      | none => none)
    | .tup _ => none
    | v => match castC 0 ss [v] bs n with
      | some ([v'], bs', n') => some (v', bs', n')
      | _ => none

def castSlots (lk : Look) : List (Nat × List Sh) → Blks → Nat → Option (Tmps × Blks × Nat)
  | [], bs, n => some ([], bs, n)
  | (i, ss) :: r, bs, n => match castV ss (lk i) bs n with
    | some (v, bs', n') => match castSlots lk r bs' n' with
      | some (tm, bs'', n'') => some ((i, v) :: tm, bs'', n'')
      | none => none
    | none => none

def castBlks : List (Nat × List Sh) → Blks → Nat → Option (Blks × Nat)
  | [], bs, n => some (bs, n)
  | (b, []) :: r, bs, n => castBlks r bs n
  | (b, s :: ss) :: r, bs, n => match getB bs b with
    | some (.cells ty cs) => match castC b (s :: ss) cs bs n with
      | some (cs', bs', n') => castBlks r ((b, .cells ty cs') :: bs') n'
      | none => none
    | _ => none

/-- generations turned: what is no longer so is not let by -/
def gA (get : Get) (q : Nat → Nat) : AV → Option AV
  | .own b g => (match get b with
    | some (.list _ _ g' _ _) => (match Nat.beq g g' with | true => some (.own b (q b)) | false => none)
    | _ => none)
  | .el b g i o => (match get b with
    | some (.list _ _ g' _ _) => (match Nat.beq g g' with | true => some (.el b (q b) i o) | false => none)
    | _ => none)
  | a => some a
def mapO {α β : Type} (f : α → Option β) : List α → Option (List β)
  | [] => some []
  | a :: r => match f a, mapO f r with
    | some b, some r' => some (b :: r')
    | _, _ => none
def gC (get : Get) (q : Nat → Nat) : AV → Option AV
  | .agg cs => (match mapO (gA get q) cs with | some cs' => some (.agg cs') | none => none)
  | a => gA get q a
def gV (get : Get) (q : Nat → Nat) : AV → Option AV
  | .tup vs => (match mapO (gC get q) vs with | some vs' => some (.tup vs') | none => none)
  | a => gC get q a
def gB (get : Get) (q : Nat → Nat) (i : Nat) : Blk → Option Blk
  | .cells ty cs => (match mapO (gA get q) cs with | some cs' => some (.cells ty cs') | none => none)
  | .list e t _ sh L => some (.list e t (q i) sh L)
def gBs (get : Get) (q : Nat → Nat) : Nat → List Blk → Option (List Blk)
  | _, [] => some []
  | i, b :: r => match gB get q i b, gBs get q (i + 1) r with
    | some b', some r' => some (b' :: r')
    | _, _ => none
def gT (get : Get) (q : Nat → Nat) : Tmps → Option Tmps
  | [] => some []
  | (i, v) :: r => match gV get q v, gT get q r with
    | some v', some r' => some ((i, v') :: r')
    | _, _ => none

structure Tpl where
  slots : List (Nat × List Sh)
  blks : List (List Sh)

/-- the state where walks meet: what is needed alone, in its shape, numbered anew -/
def norm (np : Nat) (tp : Tpl) (st : St) : Option St :=
  match castSlots (look st.tmps) tp.slots st.blks st.next with
  | none => none
  | some (tm, bs, n) => match reach (getB bs) 200 (List.range np ++ tm.flatMap fun p => refV p.2) [] with
    | none => none
    | some ids => match castBlks (ids.zip tp.blks) bs n with
      | none => none
      | some (bs2, _) => match reach (getB bs2) 200 (List.range np ++ tm.flatMap fun p => refV p.2) [] with
        | none => none
        | some ids2 => match getAll (getB bs2) ids2 with
          | none => none
          | some l => match (tm.all fun p => plainV p.2) && l.all okBlk with
            | false => none
            | true =>
              let tm2 : Tmps := tm.map fun p => (p.1, renV (posOf ids2) p.2)
              let l2 := l.map (renB (posOf ids2))
              let q : Nat → Nat := fun i => match Nat.blt i np with | true => 1 | false => 0
              match gT (getB (withIds 0 l2)) q tm2, gBs (getB (withIds 0 l2)) q 0 l2 with
              | some tm3, some l3 => some { tmps := tm3, blks := withIds 0 l3, next := l3.length }
              | _, _ => none

end Go.Sx
namespace Go.Sx
open Go

/-- where a block of the machine's lies -/
inductive G where
  | cells (rb : Nat)
  | list (a : Option Addr) (cap : Nat)

/-- which cells a block of the machine's owns: they may be written -/
def ownsB (g : G) (b : Blk) (k o : Nat) : Prop :=
  match g, b with
  | .cells rb, .cells _ _ => k = rb
  | .list (some a) cap, .list _ t _ sh L => k = a.block ∧ (if sh then a.off + L.length * t.size else a.off) ≤ o ∧ o < a.off + cap * t.size
  | _, _ => False

/-- in which block of the memory it lies -/
def liesB (g : G) (k : Nat) : Prop :=
  match g with
  | .cells rb => k = rb
  | .list (some a) _ => k = a.block
  | .list none _ => False

structure Ctx where
  w : World
  m : Get
  φ : Nat → G
  fr : Nat → Nat → Prop
  gl : Nat → Obj → Prop

def Ctx.own (C : Ctx) (k o : Nat) : Prop := ∃ id b, C.m id = some b ∧ ownsB (C.φ id) b k o
def Ctx.T (C : Ctx) (k o : Nat) : Prop := C.fr k o ∨ C.own k o
def Ctx.held (C : Ctx) (k : Nat) : Prop := ∃ id b, C.m id = some b ∧ liesB (C.φ id) k

/-- cells that nobody writes any more hold some values -/
def Imm (w : World) (T : Nat → Nat → Prop) (k o : Nat) (vs : List Value) : Prop :=
  ∀ j v, vs[j]? = some v → w.cell? ⟨k, o + j, none⟩ = some v ∧ ¬ T k (o + j)

/-- some values, cell by cell, are a datum of a type -/
def Rep (w : World) (T : Nat → Nat → Prop) : (t : Ty) → t.den → List Value → Prop
  | .unit, _, vs => vs = []
  | .bool, b, vs => vs = [.bool b]
  | .int k, n, vs => vs = [.int k n]
  | .flt k, n, vs => vs = [.float k n]
  | .str, s, vs => vs = [.string ⟨⟨s⟩⟩]
  | .pair a b, x, vs => ∃ v1 v2, vs = v1 ++ v2 ∧ Rep w T a x.1 v1 ∧ Rep w T b x.2 v2
  | .slice e, L, vs => ∃ a cap, vs = [.slice a (List.length L) cap] ∧ List.length L ≤ cap ∧
      ∀ i x, (show List e.den from L)[i]? = some x → ∃ ad cs, a = some ad ∧ ad.spot = none ∧ Imm w T ad.block (ad.off + i * e.size) cs ∧ Rep w T e x cs
  | .ptr _, none, vs => vs = [.pointer none]
  | .ptr e, some x, vs => ∃ k o cs, vs = [.pointer (some ⟨k, o, none⟩)] ∧ Imm w T k o cs ∧ Rep w T e x cs

theorem Rep.len {w : World} {T : Nat → Nat → Prop} : ∀ {t : Ty} {x : t.den} {vs : List Value}, Rep w T t x vs → vs.length = t.size
  | .unit, _, _, h => by simp [Rep] at h; simp [h, Ty.size]
  | .bool, _, _, h => by simp [Rep] at h; simp [h, Ty.size]
  | .int _, _, _, h => by simp [Rep] at h; simp [h, Ty.size]
  | .flt _, _, _, h => by simp [Rep] at h; simp [h, Ty.size]
  | .str, _, _, h => by simp [Rep] at h; simp [h, Ty.size]
  | .pair _ _, _, _, h => by
    obtain ⟨v1, v2, rfl, h1, h2⟩ := h
    simp [Ty.size, h1.len, h2.len]
  | .slice _, _, _, h => by obtain ⟨a, cap, rfl, _⟩ := h; simp [Ty.size]
  | .ptr _, none, _, h => by simp [Rep] at h; simp [h, Ty.size]
  | .ptr _, some _, _, h => by obtain ⟨k, o, cs, rfl, _⟩ := h; simp [Ty.size]

/-- what nobody writes stays -/
def Keep (w : World) (T : Nat → Nat → Prop) (w' : World) (T' : Nat → Nat → Prop) : Prop :=
  ∀ k o v, w.cell? ⟨k, o, none⟩ = some v → ¬ T k o → w'.cell? ⟨k, o, none⟩ = some v ∧ ¬ T' k o

theorem Imm.mono {w w' : World} {T T' : Nat → Nat → Prop} (h : Keep w T w' T') {k o : Nat} {vs : List Value} (hi : Imm w T k o vs) : Imm w' T' k o vs :=
  fun j v hv => h _ _ _ (hi j v hv).1 (hi j v hv).2

theorem Rep.mono {w w' : World} {T T' : Nat → Nat → Prop} (h : Keep w T w' T') : ∀ {t : Ty} {x : t.den} {vs : List Value}, Rep w T t x vs → Rep w' T' t x vs
  | .unit, _, _, r => r
  | .bool, _, _, r => r
  | .int _, _, _, r => r
  | .flt _, _, _, r => r
  | .str, _, _, r => r
  | .pair _ _, _, _, r => by
    obtain ⟨v1, v2, rfl, h1, h2⟩ := r
    exact ⟨v1, v2, rfl, h1.mono h, h2.mono h⟩
  | .slice _, _, _, r => by
    obtain ⟨a, cap, rfl, hl, hx⟩ := r
    refine ⟨a, cap, rfl, hl, fun i x hi => ?_⟩
    obtain ⟨ad, cs, ha, hs, him, hr⟩ := hx i x hi
    exact ⟨ad, cs, ha, hs, him.mono h, hr.mono h⟩
  | .ptr _, none, _, r => r
  | .ptr _, some _, _, r => by
    obtain ⟨k, o, cs, rfl, him, hr⟩ := r
    exact ⟨k, o, cs, rfl, him.mono h, hr.mono h⟩

mutual
def VRel (C : Ctx) : AV → Value → Prop
  | .undef, _ => True
  | .bool b, v => v = .bool b
  | .int k n, v => v = .int k n
  | .flt k n, v => v = .float k n
  | .str s, v => v = .string ⟨⟨s⟩⟩
  | .nilp, v => v = .pointer none
  | .nils, v => v = .slice none 0 0
  | .ref b off, v => ∃ rb ty cs, C.m b = some (.cells ty cs) ∧ C.φ b = .cells rb ∧ v = .pointer (some ⟨rb, off, none⟩)
  | .bself b, v => ∃ rb ty cs, C.m b = some (.cells ty cs) ∧ C.φ b = .cells rb ∧ (v = .pointer none ∨ v = .pointer (some ⟨rb, 0, none⟩))
  | .pd t x off, v => ∃ k o cs, v = .pointer (some ⟨k, o + off, none⟩) ∧ Imm C.w C.T k o cs ∧ Rep C.w C.T t x cs
  | .sl t L, v => Rep C.w C.T (.slice t) L [v]
  | .sx t L, v => ∃ a, v = .slice a L.length L.length ∧ Rep C.w C.T (.slice t) L [v]
  | .own b g, v => ∃ ee t g' sh L, C.m b = some (.list ee t g' sh L) ∧ g ≤ g' ∧ ∃ a n cap, v = .slice a n cap ∧ (g = g' → C.φ b = .list a cap ∧ n = L.length)
  | .el b g i off, v => ∃ ee t g' sh L, C.m b = some (.list ee t g' sh L) ∧ g ≤ g' ∧
      ∃ k o, v = .pointer (some ⟨k, o + off, none⟩) ∧ (g = g' → ∃ a cap, C.φ b = .list (some a) cap ∧ i < L.length ∧ k = a.block ∧ o = a.off + i * t.size)
  | .fn f cap, v => ∃ vs, v = .func (.func f) #[] vs ∧ VRelL C cap vs.toList
  | .nilf, v => v = .nilFunc
  | .iface t x, v => ∃ u, v = .iface t u ∧ VRel C x u
  | .nili, v => v = .nilIface
  | .agg cs, v => ∃ vs, v = .agg vs ∧ VRelL C cs vs.toList
  | .tup cs, v => ∃ vs, v = .tuple vs ∧ VRelL C cs vs.toList
def VRelL (C : Ctx) : List AV → List Value → Prop
  | [], vs => vs = []
  | a :: as, vs => ∃ v r, vs = v :: r ∧ VRel C a v ∧ VRelL C as r
end

theorem VRelL.len {C : Ctx} : ∀ {as : List AV} {vs : List Value}, VRelL C as vs → as.length = vs.length
  | [], _, h => by simp [VRelL] at h; simp [h]
  | _ :: _, _, h => by
    obtain ⟨v, r, rfl, _, h⟩ := h
    simp [h.len]

theorem VRelL.get {C : Ctx} : ∀ {as : List AV} {vs : List Value} {i : Nat} {a : AV}, VRelL C as vs → as[i]? = some a → ∃ v, vs[i]? = some v ∧ VRel C a v
  | a :: as, _, 0, b, h, hi => by
    obtain ⟨v, r, rfl, h1, _⟩ := h
    simp only [List.getElem?_cons_zero, Option.some.injEq] at hi
    exact ⟨v, by simp, hi ▸ h1⟩
  | a :: as, _, i + 1, b, h, hi => by
    obtain ⟨v, r, rfl, _, h⟩ := h
    simpa using h.get (by simpa using hi)
  | [], _, i, b, _, hi => by simp at hi

theorem VRelL.append {C : Ctx} : ∀ {as bs : List AV} {vs ws : List Value}, VRelL C as vs → VRelL C bs ws → VRelL C (as ++ bs) (vs ++ ws)
  | [], _, _, _, h, k => by simp only [VRelL] at h; subst h; simpa using k
  | _ :: _, _, _, _, h, k => by
    obtain ⟨v, r, rfl, h1, h2⟩ := h
    exact ⟨v, r ++ _, rfl, h1, h2.append k⟩

theorem VRelL.split {C : Ctx} : ∀ {as bs : List AV} {vs : List Value}, VRelL C (as ++ bs) vs → ∃ v1 v2, vs = v1 ++ v2 ∧ VRelL C as v1 ∧ VRelL C bs v2
  | [], _, vs, h => ⟨[], vs, rfl, by simp [VRelL], h⟩
  | a :: as, bs, vs, h => by
    obtain ⟨v, r, rfl, h1, h2⟩ := h
    obtain ⟨v1, v2, rfl, h3, h4⟩ := VRelL.split h2
    exact ⟨v :: v1, v2, rfl, ⟨v, v1, rfl, h1, h3⟩, h4⟩

theorem VRelL.take {C : Ctx} {n : Nat} : ∀ {as : List AV} {vs : List Value}, VRelL C as vs → VRelL C (as.take n) (vs.take n) := by
  induction n with
  | zero => intro as vs h; simp [VRelL]
  | succ n ih =>
    intro as vs h
    cases as with
    | nil => simp only [VRelL] at h; subst h; simp [VRelL]
    | cons a as => obtain ⟨v, r, rfl, h1, h2⟩ := h; exact ⟨v, _, rfl, h1, ih h2⟩

theorem VRelL.drop {C : Ctx} {n : Nat} : ∀ {as : List AV} {vs : List Value}, VRelL C as vs → VRelL C (as.drop n) (vs.drop n) := by
  induction n with
  | zero => intro as vs h; simpa using h
  | succ n ih =>
    intro as vs h
    cases as with
    | nil => simp only [VRelL] at h; subst h; simp [VRelL]
    | cons a as => obtain ⟨v, r, rfl, h1, h2⟩ := h; simpa using ih h2

/-- how one state of the machine's memory comes out of another -/
structure Ext (C C' : Ctx) : Prop where
  cells : ∀ id ty cs, C.m id = some (.cells ty cs) → C'.φ id = C.φ id ∧ ∃ cs', C'.m id = some (.cells ty cs')
  lists : ∀ id ee t g sh L, C.m id = some (.list ee t g sh L) → ∃ g' sh' L', C'.m id = some (.list ee t g' sh' L') ∧ g ≤ g' ∧ (g = g' → C'.φ id = C.φ id ∧ L'.length = L.length)
  keep : Keep C.w C.T C'.w C'.T
  frEq : C'.fr = C.fr
  glEq : C'.gl = C.gl
  frKeep : ∀ k o v, C.w.cell? ⟨k, o, none⟩ = some v → C.fr k o → C'.w.cell? ⟨k, o, none⟩ = some v
  size : C.w.heap.size ≤ C'.w.heap.size
  old : ∀ k, k < C.w.heap.size → ¬ C.held k → C'.w.heap[k]? = C.w.heap[k]?
  held : ∀ k, C'.held k → C.held k ∨ C.w.heap.size ≤ k
  own : ∀ k o, C'.own k o → C.own k o ∨ C.w.heap.size ≤ k
  os : C'.w.os = C.w.os
  tape : C'.w.tape = C.w.tape
  output : C'.w.output = C.w.output

theorem Ext.refl (C : Ctx) : Ext C C where
  cells := fun _ _ cs h => ⟨rfl, cs, h⟩
  lists := fun _ _ _ g sh L h => ⟨g, sh, L, h, Nat.le_refl _, fun _ => ⟨rfl, rfl⟩⟩
  keep := fun _ _ _ h k => ⟨h, k⟩
  frEq := rfl
  glEq := rfl
  frKeep := fun _ _ _ h _ => h
  size := Nat.le_refl _
  old := fun _ _ _ => rfl
  held := fun _ h => .inl h
  own := fun _ _ h => .inl h
  os := rfl
  tape := rfl
  output := rfl

theorem Ext.trans {A B C : Ctx} (h : Ext A B) (k : Ext B C) : Ext A C where
  cells := fun id ty cs hm => by
    obtain ⟨e, cs', hm'⟩ := h.cells id ty cs hm
    obtain ⟨e', cs'', hm''⟩ := k.cells id ty cs' hm'
    exact ⟨e'.trans e, cs'', hm''⟩
  lists := fun id ee t g sh L hm => by
    obtain ⟨g1, sh1, L1, hm1, hg1, e1⟩ := h.lists id ee t g sh L hm
    obtain ⟨g2, sh2, L2, hm2, hg2, e2⟩ := k.lists id ee t g1 sh1 L1 hm1
    refine ⟨g2, sh2, L2, hm2, Nat.le_trans hg1 hg2, fun e => ?_⟩
    have ea : g = g1 := by omega
    have eb : g1 = g2 := by omega
    exact ⟨(e2 eb).1.trans (e1 ea).1, (e2 eb).2.trans (e1 ea).2⟩
  keep := fun a o v hv ht => by
    obtain ⟨hv', ht'⟩ := h.keep a o v hv ht
    exact k.keep a o v hv' ht'
  frEq := k.frEq.trans h.frEq
  glEq := k.glEq.trans h.glEq
  frKeep := fun a o v hv hf => k.frKeep a o v (h.frKeep a o v hv hf) (h.frEq ▸ hf)
  size := Nat.le_trans h.size k.size
  old := fun a ha hn => by
    rw [← h.old a ha hn]
    refine k.old a (Nat.lt_of_lt_of_le ha h.size) fun hh => ?_
    rcases h.held a hh with hh | hh
    · exact hn hh
    · omega
  held := fun a ha => by
    rcases k.held a ha with hh | hh
    · exact h.held a hh
    · exact .inr (Nat.le_trans h.size hh)
  own := fun a o ha => by
    rcases k.own a o ha with hh | hh
    · exact h.own a o hh
    · exact .inr (Nat.le_trans h.size hh)
  os := k.os.trans h.os
  tape := k.tape.trans h.tape
  output := k.output.trans h.output

mutual
theorem VRel.mono {C C' : Ctx} (h : Ext C C') : ∀ {a : AV} {v : Value}, VRel C a v → VRel C' a v
  | .undef, _, _ => trivial
  | .bool _, _, r => r
  | .int _ _, _, r => r
  | .flt _ _, _, r => r
  | .str _, _, r => r
  | .nilp, _, r => r
  | .nils, _, r => r
  | .ref b off, _, r => by
    obtain ⟨rb, ty, cs, hm, hp, hv⟩ := r
    obtain ⟨e, cs', hm'⟩ := h.cells b ty cs hm
    exact ⟨rb, ty, cs', hm', e.trans hp, hv⟩
  | .bself b, _, r => by
    obtain ⟨rb, ty, cs, hm, hp, hv⟩ := r
    obtain ⟨e, cs', hm'⟩ := h.cells b ty cs hm
    exact ⟨rb, ty, cs', hm', e.trans hp, hv⟩
  | .pd t x off, _, r => by
    obtain ⟨k, o, cs, hv, hi, hr⟩ := r
    exact ⟨k, o, cs, hv, hi.mono h.keep, hr.mono h.keep⟩
  | .sl t L, _, r => Rep.mono h.keep r
  | .sx t L, _, r => by
    obtain ⟨a, hv, hr⟩ := r
    exact ⟨a, hv, Rep.mono h.keep hr⟩
  | .own b g, _, r => by
    obtain ⟨ee, t, g', sh, L, hm, hg, a, n, cap, hv, hq⟩ := r
    obtain ⟨g2, sh2, L2, hm2, hg2, he⟩ := h.lists b ee t g' sh L hm
    refine ⟨ee, t, g2, sh2, L2, hm2, Nat.le_trans hg hg2, a, n, cap, hv, fun e => ?_⟩
    obtain ⟨hp, hn⟩ := hq (by omega)
    obtain ⟨e1, e2⟩ := he (by omega)
    exact ⟨e1.trans hp, hn.trans e2.symm⟩
  | .el b g i off, _, r => by
    obtain ⟨ee, t, g', sh, L, hm, hg, k, o, hv, hq⟩ := r
    obtain ⟨g2, sh2, L2, hm2, hg2, he⟩ := h.lists b ee t g' sh L hm
    refine ⟨ee, t, g2, sh2, L2, hm2, Nat.le_trans hg hg2, k, o, hv, fun e => ?_⟩
    obtain ⟨a, cap, hp, hl, hk, ho⟩ := hq (by omega)
    obtain ⟨e1, e2⟩ := he (by omega)
    exact ⟨a, cap, e1.trans hp, by omega, hk, ho⟩
  | .fn f cap, _, r => by
    obtain ⟨vs, hv, hl⟩ := r
    exact ⟨vs, hv, VRelL.mono h hl⟩
  | .nilf, _, r => r
  | .iface t x, _, r => by
    obtain ⟨u, hv, hx⟩ := r
    exact ⟨u, hv, VRel.mono h hx⟩
  | .nili, _, r => r
  | .agg cs, _, r => by
    obtain ⟨vs, hv, hl⟩ := r
    exact ⟨vs, hv, VRelL.mono h hl⟩
  | .tup cs, _, r => by
    obtain ⟨vs, hv, hl⟩ := r
    exact ⟨vs, hv, VRelL.mono h hl⟩
theorem VRelL.mono {C C' : Ctx} (h : Ext C C') : ∀ {as : List AV} {vs : List Value}, VRelL C as vs → VRelL C' as vs
  | [], _, r => r
  | _ :: _, _, r => by
    obtain ⟨v, s, hv, h1, h2⟩ := r
    exact ⟨v, s, hv, VRel.mono h h1, VRelL.mono h h2⟩
end

/-- a block of the machine's lies in the memory -/
def BlkOK (C : Ctx) (g : G) (b : Blk) : Prop :=
  match b with
  | .cells ty cs => ∃ rb c, g = .cells rb ∧ C.w.heap[rb]? = some (.cells c ty (0, 0)) ∧ VRelL C cs c.toList ∧ cs.all AV.leaf = true
  | .list ee t _ sh L => ∃ a cap, g = .list a cap ∧ 0 < t.size ∧ L.length ≤ cap ∧
      match a with
      | none => cap = 0
      | some ad => ad.spot = none ∧ ∃ c lo hi, C.w.heap[ad.block]? = some (.cells c ee (lo, hi)) ∧ ad.off + cap * t.size ≤ c.size ∧
          hi ≤ (if sh then ad.off + L.length * t.size else ad.off) ∧
          (sh = true → ∀ o, ad.off ≤ o → o < ad.off + L.length * t.size → ¬ C.T ad.block o) ∧
          ∀ i x, L[i]? = some x → Rep C.w C.T t x (seg c.toList (ad.off + i * t.size) t.size)

structure SRel (C : Ctx) : Prop where
  ok : ∀ id b, C.m id = some b → BlkOK C (C.φ id) b
  apart : ∀ id b id' b' k, C.m id = some b → C.m id' = some b' → id ≠ id' → liesB (C.φ id) k → liesB (C.φ id') k → False
  frApart : ∀ k o, C.fr k o → C.held k → False
  frOld : ∀ k o, C.fr k o → k < C.w.heap.size
  gl : ∀ k o, C.gl k o → C.w.heap[k]? = some o ∧ ¬ C.held k ∧ ∀ x, ¬ C.fr k x

theorem ownsB_lies {g : G} {b : Blk} {k o : Nat} (h : ownsB g b k o) : liesB g k := by
  unfold ownsB at h
  unfold liesB
  split at h
  · exact h
  · exact h.1
  · exact h.elim

theorem BlkOK.lt {C : Ctx} {g : G} {b : Blk} (h : BlkOK C g b) {k : Nat} (hk : liesB g k) : k < C.w.heap.size := by
  cases b with
  | cells ty cs =>
    obtain ⟨rb, c, rfl, hh, _⟩ := h
    simp only [liesB] at hk
    subst hk
    exact (Array.getElem?_eq_some_iff.1 hh).1
  | list ee t g' sh L =>
    obtain ⟨a, cap, rfl, _, _, hb⟩ := h
    cases a with
    | none => exact hk.elim
    | some ad =>
      simp only [liesB] at hk
      subst hk
      obtain ⟨_, c, lo, hi, hh, _⟩ := hb
      exact (Array.getElem?_eq_some_iff.1 hh).1

theorem BlkOK.mono {C C' : Ctx} (hE : Ext C C') {g : G} {b : Blk} (hk : ∀ k, liesB g k → C'.w.heap[k]? = C.w.heap[k]?) (h : BlkOK C g b) : BlkOK C' g b := by
  cases b with
  | cells ty cs =>
    obtain ⟨rb, c, rfl, hh, hr, hl⟩ := h
    exact ⟨rb, c, rfl, by rw [hk rb rfl]; exact hh, hr.mono hE, hl⟩
  | list ee t g' sh L =>
    obtain ⟨a, cap, rfl, hz, hc, hb⟩ := h
    refine ⟨a, cap, rfl, hz, hc, ?_⟩
    cases a with
    | none => exact hb
    | some ad =>
      obtain ⟨hsp, c, lo, hi, hh, hsz, hfz, hsh, hx⟩ := hb
      refine ⟨hsp, c, lo, hi, by rw [hk ad.block rfl]; exact hh, hsz, hfz, fun hs o h1 h2 => ?_, fun i x hi => (hx i x hi).mono hE.keep⟩
      have hlt : o < c.size := by
        have : L.length * t.size ≤ cap * t.size := Nat.mul_le_mul_right _ hc
        omega
      have hcell : C.w.cell? ⟨ad.block, o, none⟩ = some c[o] := by simp [World.cell?, hh, hlt]
      exact (hE.keep _ _ _ hcell (hsh hs o h1 h2)).2

theorem Ext.gl_ok {C C' : Ctx} (hE : Ext C C') (h : ∀ k o, C.gl k o → C.w.heap[k]? = some o ∧ ¬ C.held k ∧ ∀ x, ¬ C.fr k x) : ∀ k o, C'.gl k o → C'.w.heap[k]? = some o ∧ ¬ C'.held k ∧ ∀ x, ¬ C'.fr k x := fun k o hg => by
  rw [hE.glEq] at hg
  obtain ⟨h1, h2, h3⟩ := h k o hg
  have hlt : k < C.w.heap.size := (Array.getElem?_eq_some_iff.1 h1).1
  refine ⟨by rw [hE.old k hlt h2]; exact h1, fun hh => ?_, by rw [hE.frEq]; exact h3⟩
  rcases hE.held k hh with hh | hh
  · exact h2 hh
  · omega

def updF {α : Type} (f : Nat → α) (i : Nat) (a : α) : Nat → α := fun j => if j = i then a else f j

/-- one block of the machine's turns, or comes: what else is there stays -/
theorem upd_ok {C : Ctx} (hs : SRel C) {id : Nat} {b' : Blk} {g' : G} {w' : World}
    (hsz : C.w.heap.size ≤ w'.heap.size)
    (hoth : ∀ k, k < C.w.heap.size → ¬ (∃ b, C.m id = some b ∧ liesB (C.φ id) k) → w'.heap[k]? = C.w.heap[k]?)
    (hlies : ∀ k, liesB g' k → (∃ b, C.m id = some b ∧ liesB (C.φ id) k) ∨ C.w.heap.size ≤ k)
    (hown : ∀ k o, ownsB g' b' k o → (∃ b, C.m id = some b ∧ ownsB (C.φ id) b k o) ∨ C.w.heap.size ≤ k)
    (hkc : ∀ ty cs, C.m id = some (.cells ty cs) → g' = C.φ id ∧ ∃ cs', b' = .cells ty cs')
    (hkl : ∀ ee t g sh L, C.m id = some (.list ee t g sh L) → ∃ g2 sh2 L2, b' = .list ee t g2 sh2 L2 ∧ g ≤ g2 ∧ (g = g2 → g' = C.φ id ∧ L2.length = L.length))
    (hcell : ∀ k o v, C.w.cell? ⟨k, o, none⟩ = some v → ¬ (∃ b, C.m id = some b ∧ ownsB (C.φ id) b k o) → w'.cell? ⟨k, o, none⟩ = some v)
    (hos : w'.os = C.w.os) (htape : w'.tape = C.w.tape) (hout : w'.output = C.w.output) :
    let C' : Ctx := ⟨w', updF C.m id (some b'), updF C.φ id g', C.fr, C.gl⟩
    Ext C C' ∧ (BlkOK C' g' b' → SRel C') := by
  intro C'
  have hlt : ∀ {k o v}, C.w.cell? ⟨k, o, none⟩ = some v → k < C.w.heap.size := by
    intro k o v hv
    unfold World.cell? at hv
    split at hv
    · rename_i hh; exact (Array.getElem?_eq_some_iff.1 hh).1
    · cases hv
  have hm : ∀ j, j ≠ id → C'.m j = C.m j ∧ C'.φ j = C.φ j := fun j hj => by simp [C', updF, hj]
  have hmi : C'.m id = some b' ∧ C'.φ id = g' := by simp [C', updF]
  have hown' : ∀ k o, C'.own k o → C.own k o ∨ C.w.heap.size ≤ k := by
    rintro k o ⟨j, b, hj, hb⟩
    by_cases e : j = id
    · subst e
      rw [hmi.1] at hj
      rw [hmi.2] at hb
      cases hj
      rcases hown k o hb with ⟨b, h1, h2⟩ | h
      · exact .inl ⟨j, b, h1, h2⟩
      · exact .inr h
    · rw [(hm j e).1] at hj
      rw [(hm j e).2] at hb
      exact .inl ⟨j, b, hj, hb⟩
  have hheld' : ∀ k, C'.held k → C.held k ∨ C.w.heap.size ≤ k := by
    rintro k ⟨j, b, hj, hb⟩
    by_cases e : j = id
    · subst e
      rw [hmi.2] at hb
      rcases hlies k hb with ⟨b, h1, h2⟩ | h
      · exact .inl ⟨j, b, h1, h2⟩
      · exact .inr h
    · rw [(hm j e).1] at hj
      rw [(hm j e).2] at hb
      exact .inl ⟨j, b, hj, hb⟩
  have hE : Ext C C' := {
    cells := fun j ty cs hj => by
      by_cases e : j = id
      · subst e
        obtain ⟨h1, cs', h2⟩ := hkc ty cs hj
        exact ⟨by rw [hmi.2]; exact h1, cs', by rw [hmi.1, h2]⟩
      · exact ⟨(hm j e).2, cs, by rw [(hm j e).1]; exact hj⟩
    lists := fun j ee t g sh L hj => by
      by_cases e : j = id
      · subst e
        obtain ⟨g2, sh2, L2, h1, h2, h3⟩ := hkl ee t g sh L hj
        exact ⟨g2, sh2, L2, by rw [hmi.1, h1], h2, fun e => by rw [hmi.2]; exact h3 e⟩
      · exact ⟨g, sh, L, by rw [(hm j e).1]; exact hj, Nat.le_refl _, fun _ => ⟨(hm j e).2, rfl⟩⟩
    keep := fun k o v hv hT => by
      refine ⟨hcell k o v hv fun ⟨b, h1, h2⟩ => hT (.inr ⟨id, b, h1, h2⟩), fun hT' => ?_⟩
      rcases hT' with hf | ho
      · exact hT (.inl hf)
      · rcases hown' k o ho with h | h
        · exact hT (.inr h)
        · have := hlt hv; omega
    frEq := rfl
    glEq := rfl
    frKeep := fun k o v hv hf => hcell k o v hv fun ⟨b, h1, h2⟩ => hs.frApart k o hf ⟨id, b, h1, ownsB_lies h2⟩
    size := hsz
    old := fun k hk hh => hoth k hk fun ⟨b, h1, h2⟩ => hh ⟨id, b, h1, h2⟩
    held := hheld'
    own := hown'
    os := hos
    tape := htape
    output := hout }
  refine ⟨hE, fun hb => { ok := ?_, apart := ?_, frApart := ?_, frOld := fun k o hf => Nat.lt_of_lt_of_le (hs.frOld k o hf) hsz, gl := hE.gl_ok hs.gl }⟩
  · intro j b hj
    by_cases e : j = id
    · subst e
      rw [hmi.1] at hj
      cases hj
      rw [hmi.2]
      exact hb
    · rw [(hm j e).1] at hj
      rw [(hm j e).2]
      refine (hs.ok j b hj).mono hE fun k hk => hoth k ((hs.ok j b hj).lt hk) fun ⟨b2, h1, h2⟩ => ?_
      exact hs.apart j b id b2 k hj h1 e hk h2
  · intro i b j b2 k hi hj hne h1 h2
    by_cases ei : i = id
    · subst ei
      rw [(hm j (Ne.symm hne)).1] at hj
      rw [(hm j (Ne.symm hne)).2] at h2
      rw [hmi.2] at h1
      rcases hlies k h1 with ⟨b3, h3, h4⟩ | h
      · exact hs.apart i b3 j b2 k h3 hj hne h4 h2
      · have := (hs.ok j b2 hj).lt h2; omega
    · by_cases ej : j = id
      · subst ej
        rw [(hm i ei).1] at hi
        rw [(hm i ei).2] at h1
        rw [hmi.2] at h2
        rcases hlies k h2 with ⟨b3, h3, h4⟩ | h
        · exact hs.apart i b j b3 k hi h3 hne h1 h4
        · have := (hs.ok i b hi).lt h1; omega
      · rw [(hm i ei).1] at hi
        rw [(hm i ei).2] at h1
        rw [(hm j ej).1] at hj
        rw [(hm j ej).2] at h2
        exact hs.apart i b j b2 k hi hj hne h1 h2
  · intro k o hf hh
    rcases hheld' k hh with h | h
    · exact hs.frApart k o hf h
    · have := hs.frOld k o hf; omega

end Go.Sx
namespace Go.Sx
open Go

def aggD : TypeDesc → Bool
  | .struct _ => true
  | .array _ _ => true
  | _ => false

def sizeD (P : Program) (t : TypeId) : Nat := match P.info? t with | some i => i.size | none => 0
def aggT (P : Program) (t : TypeId) : Bool := match P.underlying t with | some d => aggD d | none => false
def fldOf (P : Program) (f : Field) : Fld := ⟨f.offset, sizeD P f.type, aggT P f.type, f.type, f.name == "_"⟩
def tdOf (P : Program) : TypeDesc → TD
  | .int k => .int k
  | .string => .str
  | .bool => .scalar
  | .pointer e => .ptr e
  | .slice e => .slice e
  | .array n e => .array n e
  | .struct fs => .struct (fs.toList.map (fldOf P))
  | _ => .other
def fieldsOK (P : Program) : TypeDesc → Bool
  | .struct fs => fs.toList.all fun f => (P.info? f.type).isSome
  | _ => true
def eqOkD (P : Program) (t : TypeId) : TypeDesc → Bool
  | .struct _ => !P.stoodInHeld t && !P.eqGuardType P.depth t
  | _ => false
def mkTI (P : Program) (t : TypeId) (ty : Option Ty) : Option TI :=
  match P.info? t, P.underlying t with
  | some i, some d => match i.zero with
    | some z => match fieldsOK P d with
      | false => none
      | true => some ⟨i.size, i.bytes, z.cells.toList.map constAV, aggD d, eqOkD P t d, ty, tdOf P d⟩
    | none => none
  | _, _ => none

structure TIOK (P : Program) (t : TypeId) (ti : TI) (i : TypeInfo) (d : TypeDesc) (z : Value) : Prop where
  info : P.info? t = some i
  und : P.underlying t = some d
  zero : i.zero = some z
  size : i.size = ti.size
  bytes : i.bytes = ti.bytes
  zeros : ti.zero = z.cells.toList.map constAV
  agg : aggD d = ti.agg
  eqOk : eqOkD P t d = ti.eqOk
  td : tdOf P d = ti.td
  flds : fieldsOK P d = true

theorem mkTI_ok {P : Program} {t : TypeId} {ty : Option Ty} {ti : TI} (h : mkTI P t ty = some ti) : ∃ i d z, TIOK P t ti i d z := by
  unfold mkTI at h
  split at h
  · rename_i i d hi hd
    split at h
    · rename_i z hz
      split at h
      · cases h
      · rename_i hf
        simp only [Option.some.injEq] at h
        subst h
        exact ⟨i, d, z, hi, hd, hz, rfl, rfl, rfl, rfl, rfl, rfl, hf⟩
    · cases h
  · cases h

/-- the tables are the program's -/
structure EnvOK (E : Env) (P : Program) : Prop where
  ti : ∀ t ti, E.T t = some ti → mkTI P t ti.ty = some ti
  mixed : P.follows .mixedOrders = true

variable {P : Program} {E : Env} {C : Ctx}

theorem EnvOK.T (h : EnvOK E P) {t : TypeId} {ti : TI} (ht : E.T t = some ti) : ∃ i d z, TIOK P t ti i d z := mkTI_ok (h.ti t ti ht)

theorem run_typeInfoS {t : TypeId} {i : TypeInfo} (h : P.info? t = some i) (w : World) : (typeInfo t).run P w = .ok i w := by
  simp [typeInfo, h]
theorem run_sizeOfS {t : TypeId} {i : TypeInfo} (h : P.info? t = some i) (w : World) : (sizeOf t).run P w = .ok i.size w := by
  simp [sizeOf, run_typeInfoS h]
theorem run_underlyingS {t : TypeId} {d : TypeDesc} (h : P.underlying t = some d) (w : World) : (underlying t).run P w = .ok d w := by
  simp [underlying, h]
theorem run_zeroValueS {t : TypeId} {i : TypeInfo} {z : Value} (h : P.info? t = some i) (hz : i.zero = some z) (w : World) : (zeroValue t).run P w = .ok z w := by
  simp [zeroValue, run_typeInfoS h, hz]
theorem run_isAggS {t : TypeId} {d : TypeDesc} (h : P.underlying t = some d) (w : World) : (isAgg t).run P w = .ok (aggD d) w := by
  simp only [isAgg, Sem.run_bind, run_underlyingS h, Result.andThen_ok]
  cases d <;> rfl

/-- constants are what they are -/
theorem constAV_rel (v : Value) : VRel C (constAV v) v := by
  unfold constAV
  split <;> simp [VRel]

/-- what one operation does: the model's run of it, and the machine's -/
def Good (P : Program) (C : Ctx) (ρ : Operand → Value) (o : Oper) (av : AV) (m' : Get) : Prop :=
  ∃ v C', ((execOp ρ o).run P C.w = .ok (.value v) C'.w ∨ ((execOp ρ o).run P C.w = .ok .skip C'.w ∧ v = undef)) ∧
    C'.m = m' ∧ SRel C' ∧ Ext C C' ∧ VRel C' av v

theorem Good.pure {ρ : Operand → Value} {o : Oper} {av : AV} {v : Value} (hs : SRel C) (hr : (execOp ρ o).run P C.w = .ok (.value v) C.w) (hv : VRel C av v) :
    Good P C ρ o av C.m := ⟨v, C, .inl hr, rfl, hs, Ext.refl C, hv⟩

theorem addr_add (k o n : Nat) : (⟨k, o, none⟩ : Addr).add n = ⟨k, o + n, none⟩ := by
  unfold Addr.add; split <;> simp_all

/-- cells that lie behind each other are loaded as a whole -/
theorem run_loadVarS {t : TypeId} {ti : TI} {i : TypeInfo} {d : TypeDesc} {z : Value} (ht : TIOK P t ti i d z) {w : World} {k o : Nat} {vs : List Value} (hl : vs.length = ti.size)
    (hc : ∀ j v, vs[j]? = some v → w.cell? ⟨k, o + j, none⟩ = some v) {u : Value} (hu : (ti.agg = true ∧ u = .agg vs.toArray) ∨ (ti.agg = false ∧ vs = [u])) :
    (loadVar t ⟨k, o, none⟩).run P w = .ok u w := by
  simp only [loadVar, Sem.run_bind, run_isAggS ht.und, Result.andThen_ok, ht.agg]
  rcases hu with ⟨ha, rfl⟩ | ⟨ha, rfl⟩
  · simp only [ha, if_true, Sem.run_bind, run_sizeOfS ht.info, Result.andThen_ok, ht.size, ← hl]
    rw [run_loadCells_list w _ vs (fun j v hj => by rw [addr_add]; exact hc j v hj)]
    simp
  · have := hc 0 u (by simp)
    simp only [Nat.add_zero] at this
    simp [ha, this]

end Go.Sx
namespace Go.Sx
open Go
variable {P : Program} {E : Env} {C : Ctx}

theorem flat_rel : ∀ {t : Ty} {x : t.den} {vs : List Value}, Rep C.w C.T t x vs → VRelL C (flat t x) vs
  | .unit, _, _, h => by simp only [Rep] at h; subst h; simp [flat, VRelL]
  | .bool, _, _, h => by simp only [Rep] at h; subst h; simp [flat, VRelL, VRel]
  | .int _, _, _, h => by simp only [Rep] at h; subst h; simp [flat, VRelL, VRel]
  | .flt _, _, _, h => by simp only [Rep] at h; subst h; simp [flat, VRelL, VRel]
  | .str, _, _, h => by simp only [Rep] at h; subst h; simp [flat, VRelL, VRel]
  | .pair _ _, _, _, h => by
    obtain ⟨v1, v2, rfl, h1, h2⟩ := h
    exact (flat_rel h1).append (flat_rel h2)
  | .slice e, L, vs, h => by
    have h' := h
    obtain ⟨a, cap, rfl, _⟩ := h
    exact ⟨_, [], rfl, h', by simp [VRelL]⟩
  | .ptr _, none, _, h => by simp only [Rep] at h; subst h; simp [flat, VRelL, VRel]
  | .ptr e, some x, _, h => by
    obtain ⟨k, o, cs, rfl, hi, hr⟩ := h
    exact ⟨_, [], rfl, ⟨k, o, cs, rfl, hi, hr⟩, by simp [VRelL]⟩

theorem flat_len : ∀ (t : Ty) (x : t.den), (flat t x).length = t.size
  | .unit, _ => rfl
  | .bool, _ => rfl
  | .int _, _ => rfl
  | .flt _, _ => rfl
  | .str, _ => rfl
  | .pair a b, x => by simp [flat, Ty.size, flat_len a, flat_len b]
  | .slice _, _ => rfl
  | .ptr _, none => rfl
  | .ptr _, some _ => rfl

theorem flat_leaf : ∀ (t : Ty) (x : t.den), (flat t x).all AV.leaf = true
  | .unit, _ => rfl
  | .bool, _ => rfl
  | .int _, _ => rfl
  | .flt _, _ => rfl
  | .str, _ => rfl
  | .pair a b, x => by simp [flat, List.all_append, flat_leaf a, flat_leaf b]
  | .slice _, _ => rfl
  | .ptr _, none => rfl
  | .ptr _, some _ => rfl

theorem cell_of {w : World} {k : Nat} {c : Array Value} {e : TypeId} {fz : Nat × Nat} (h : w.heap[k]? = some (.cells c e fz)) (o : Nat) :
    w.cell? ⟨k, o, none⟩ = c[o]? := by simp [World.cell?, h]

theorem seg_get {α : Type} (l : List α) (o n j : Nat) : (seg l o n)[j]? = if j < n then l[o + j]? else none := by
  simp [seg, List.getElem?_take, List.getElem?_drop]

theorem seg_rel {as : List AV} {vs : List Value} (h : VRelL C as vs) (o n : Nat) : VRelL C (seg as o n) (seg vs o n) := (h.drop).take

theorem beq_eq {a b : Nat} (h : Nat.beq a b = true) : a = b := Nat.eq_of_beq_eq_true h

/-- what an address leads to -/
theorem cellsAt_rel (hs : SRel C) {n : Nat} {a : AV} {v : Value} {cs : List AV} {rd : List Nat} (hv : VRel C a v) (h : cellsAt C.m n a = some (cs, rd)) :
    ∃ k o vs, v = .pointer (some ⟨k, o, none⟩) ∧ VRelL C cs vs ∧ ∀ j x, vs[j]? = some x → C.w.cell? ⟨k, o + j, none⟩ = some x := by
  unfold cellsAt at h
  split at h
  · rename_i b off
    split at h
    · rename_i cs' hm
      simp only [Option.some.injEq, Prod.mk.injEq] at h
      obtain ⟨rfl, rfl⟩ := h
      obtain ⟨rb, ty2, cs2, hm2, hp, rfl⟩ := hv
      obtain ⟨rb', c, hg, hh, hr, _⟩ := hs.ok b _ hm
      rw [hp] at hg
      cases hg
      refine ⟨rb, off, seg c.toList off n, rfl, seg_rel hr off n, fun j x hj => ?_⟩
      rw [cell_of hh, ← Array.getElem?_toList]
      rw [seg_get] at hj
      split at hj
      · exact hj
      · cases hj
    · cases h
  · rename_i t x off
    simp only [Option.some.injEq, Prod.mk.injEq] at h
    obtain ⟨rfl, rfl⟩ := h
    obtain ⟨k, o, cs2, rfl, hi, hr⟩ := hv
    refine ⟨k, o + off, seg cs2 off n, rfl, seg_rel (flat_rel hr) off n, fun j x hj => ?_⟩
    rw [seg_get] at hj
    split at hj
    · have := (hi _ _ hj).1
      rwa [show o + (off + j) = o + off + j by omega] at this
    · cases hj
  · rename_i b g i off
    split at h
    · rename_i ee t g' sh L hm
      split at h
      · rename_i hg
        simp only [Option.some.injEq, Prod.mk.injEq] at h
        obtain ⟨rfl, rfl⟩ := h
        have hg := beq_eq hg
        obtain ⟨ee2, t2, g2, sh2, L2, hm2, _, k, o', rfl, hv⟩ := hv
        rw [hm] at hm2
        cases hm2
        obtain ⟨a, cap, hp, hl, rfl, rfl⟩ := hv hg
        obtain ⟨a', cap', hgg, hz, hc, hb⟩ := hs.ok b _ hm
        rw [hp] at hgg
        cases hgg
        obtain ⟨_, c, lo, hi, hh, hsz, _, _, hx⟩ := hb
        have hxi := hx i L[i] (by simp [hl])
        have hd : L.getD i t.dflt = L[i] := by simp [List.getD, hl]
        rw [hd]
        refine ⟨a.block, a.off + i * t.size + off, seg (seg c.toList (a.off + i * t.size) t.size) off n, rfl, seg_rel (flat_rel hxi) off n, fun j x hj => ?_⟩
        rw [cell_of hh, ← Array.getElem?_toList]
        rw [seg_get, seg_get] at hj
        split at hj
        · split at hj
          · rw [← hj]; congr 1; omega
          · cases hj
        · cases hj
      · cases h
    · cases h
  · cases h

theorem mkVal_rel {agg : Bool} {cs : List AV} {vs : List Value} {av : AV} (h : VRelL C cs vs) (hm : mkVal agg cs = some av) :
    ∃ u, ((agg = true ∧ u = .agg vs.toArray) ∨ (agg = false ∧ vs = [u])) ∧ VRel C av u := by
  cases agg with
  | true =>
    simp only [mkVal, Option.some.injEq] at hm
    subst hm
    exact ⟨.agg vs.toArray, .inl ⟨rfl, rfl⟩, ⟨vs.toArray, rfl, by simpa using h⟩⟩
  | false =>
    simp only [mkVal] at hm
    split at hm
    · simp only [Option.some.injEq] at hm
      subst hm
      obtain ⟨v, r, rfl, hv, hr⟩ := h
      simp only [VRelL] at hr
      subst hr
      exact ⟨v, .inr ⟨rfl, rfl⟩, hv⟩
    · cases hm

theorem cellsAt_len {m : Get} (n : Nat) {a : AV} {cs : List AV} {rd : List Nat} (h : cellsAt m n a = some (cs, rd)) : cs.length ≤ n := by
  unfold cellsAt at h
  (repeat' split at h) <;> first
    | (cases h; done)
    | (simp only [Option.some.injEq, Prod.mk.injEq] at h; obtain ⟨rfl, _⟩ := h; simp [seg]; omega)

/-- load -/
theorem good_load (hE : EnvOK E P) (hs : SRel C) {ρ : Operand → Value} {lk : Look} (hρ : ∀ x, VRel C (evalO lk x) (ρ x)) {o : Oper} {t : TypeId} {a : Operand} (ho : o.op = .load t a)
    {ti : TI} (ht : E.T t = some ti) {cs : List AV} {rd : List Nat} (hc : cellsAt C.m ti.size (evalO lk a) = some (cs, rd)) (hn : cs.length = ti.size) {av : AV} (hv : mkVal ti.agg cs = some av) :
    Good P C ρ o av C.m := by
  obtain ⟨i, d, z, hT⟩ := hE.T ht
  obtain ⟨k, off, vs, hp, hr, hcell⟩ := cellsAt_rel hs (hρ a) hc
  obtain ⟨u, hu, hrel⟩ := mkVal_rel hr hv
  refine Good.pure hs (v := u) ?_ hrel
  simp only [execOp, ho, Instr.loadAt, hp, Instr.sureAddr, Sem.run_bind, Sem.run_pure, Result.andThen_ok]
  rw [run_loadVarS hT (by rw [← hr.len]; exact hn) hcell hu]
  rfl

end Go.Sx
namespace Go.Sx
universe u
open Go
variable {P : Program} {E : Env} {C : Ctx}

theorem nth_eq {α : Type u} : ∀ (l : List α) (i : Nat), nth l i = l[i]?
  | [], i => by simp [nth]
  | a :: r, 0 => by simp [nth]
  | a :: r, i + 1 => by simp [nth, nth_eq r i]

def updM (m : Get) (i : Nat) (b : Blk) : Get := fun j => if j = i then some b else m j
def applyM (m : Get) : Wr → Get
  | [] => m
  | (i, b) :: r => applyM (updM m i b) r

/-- what the theorem of an operation says -/
abbrev GoodR (P : Program) (C : Ctx) (ρ : Operand → Value) (o : Oper) (r : OpR) : Prop := Good P C ρ o r.v (applyM C.m r.wr)

theorem run_leaf {α : Type} {a r : α} (h : (DT.leaf a).run = some r) : r = a := (Option.some.inj h).symm
theorem run_fail {α : Type} {r : α} (h : (DT.fail : DT α).run = some r) : False := by cases h
theorem run_br {α : Type} {b : Bool} {t e : DT α} {r : α} (h : (DT.br b t e).run = some r) : (b = true ∧ t.run = some r) ∨ (b = false ∧ e.run = some r) := by
  cases b
  · exact .inr ⟨rfl, h⟩
  · exact .inl ⟨rfl, h⟩
theorem run_pureV {v : AV} {r : OpR} (h : (pureV v).run = some r) : r = ⟨v, [], []⟩ := run_leaf h
theorem run_ofO {v : Option AV} {r : OpR} (h : (ofO v).run = some r) : ∃ u, v = some u ∧ r = ⟨u, [], []⟩ := by
  cases v with
  | none => cases h
  | some u => exact ⟨u, rfl, run_leaf h⟩
theorem run_brT {α : Type} {b : Bool} {t : DT α} {r : α} (h : (DT.br b t .fail).run = some r) : b = true ∧ t.run = some r := by
  rcases run_br h with h | h
  · exact h
  · cases h.2

/-- an operation that looks at nothing but its operands -/
theorem goodR_pure {ρ : Operand → Value} {o : Oper} {r : OpR} {av : AV} {v : Value} (hs : SRel C) (hr : r = ⟨av, [], r.rd⟩) (hrun : (execOp ρ o).run P C.w = .ok (.value v) C.w)
    (hv : VRel C av v) : GoodR P C ρ o r := by
  rw [hr]
  exact Good.pure hs hrun hv

section
variable {ρ : Operand → Value} {lk : Look} {o : Oper} {r : OpR} {id : Nat}

theorem goodR_move (hs : SRel C) (hρ : ∀ x, VRel C (evalO lk x) (ρ x)) {x : Operand} (ho : o.op = .move x) (h : (opA E lk C.m id (.move x)).run = some r) : GoodR P C ρ o r := by
  rw [run_pureV h]
  exact Good.pure hs (by simp [execOp, ho]) (hρ x)

theorem goodR_assign (hs : SRel C) (hρ : ∀ x, VRel C (evalO lk x) (ρ x)) {x : Operand} (ho : o.op = .assign x) (h : (opA E lk C.m id (.assign x)).run = some r) : GoodR P C ρ o r := by
  rw [run_pureV h]
  exact Good.pure hs (by simp [execOp, ho]) (hρ x)

theorem goodR_pick (hs : SRel C) (hρ : ∀ x, VRel C (evalO lk x) (ρ x)) {c a b : Operand} (ho : o.op = .pick c a b) (h : (opA E lk C.m id (.pick c a b)).run = some r) : GoodR P C ρ o r := by
  simp only [opA] at h
  have hc := hρ c
  have ha := hρ a
  have hb := hρ b
  split at h
  · rename_i t ht
    rw [ht] at hc
    simp only [VRel] at hc
    have key : ∀ av, VRel C av (if t then ρ a else ρ b) → Good P C ρ o av C.m := fun av hv => Good.pure hs (by simp [execOp, ho, hc, asBool]) hv
    split at h
    · rename_i x y hx hy
      rw [hx] at ha; rw [hy] at hb
      rw [run_pureV h]
      refine key _ ?_
      simp only [VRel] at ha hb ⊢
      cases t <;> simp [ha, hb]
    · rcases run_br h with ⟨rfl, h⟩ | ⟨rfl, h⟩
      · rw [run_pureV h]; exact key _ (by simpa using ha)
      · rw [run_pureV h]; exact key _ (by simpa using hb)
  · exact (run_fail h).elim

theorem goodR_nilCheck (hs : SRel C) (hρ : ∀ x, VRel C (evalO lk x) (ρ x)) {x : Operand} (ho : o.op = .nilCheck x) (h : (opA E lk C.m id (.nilCheck x)).run = some r) : GoodR P C ρ o r := by
  simp only [opA] at h
  have hx := hρ x
  have key : ∀ {av : AV}, VRel C av (ρ x) → ((∃ a, ρ x = .pointer (some a)) ∨ (∃ f vs, ρ x = .func (.func f) #[] vs)) → Good P C ρ o av C.m := fun hv hp =>
    Good.pure hs (v := ρ x) (by rcases hp with ⟨a, h⟩ | ⟨f, vs, h⟩ <;> simp [execOp, ho, h]) hv
  split at h
  · rename_i b off hb
    rw [run_pureV h]; rw [hb] at hx
    have ⟨_, _, _, _, _, hv⟩ := hx
    exact key hx (.inl ⟨_, hv⟩)
  · rename_i t y off hb
    rw [run_pureV h]; rw [hb] at hx
    have ⟨_, _, _, hv, _⟩ := hx
    exact key hx (.inl ⟨_, hv⟩)
  · rename_i b g i off hb
    rw [run_pureV h]; rw [hb] at hx
    have ⟨_, _, _, _, _, _, _, _, _, hv, _⟩ := hx
    exact key hx (.inl ⟨_, hv⟩)
  · rename_i f c hb
    rw [run_pureV h]; rw [hb] at hx
    have ⟨_, hv, _⟩ := hx
    exact key hx (.inr ⟨_, _, hv⟩)
  · exact (run_fail h).elim

theorem goodR_extract (hs : SRel C) (hρ : ∀ x, VRel C (evalO lk x) (ρ x)) {x : Operand} {i : Nat} (ho : o.op = .extract x i) (h : (opA E lk C.m id (.extract x i)).run = some r) : GoodR P C ρ o r := by
  simp only [opA] at h
  have hx := hρ x
  split at h
  · rename_i vs hv
    rw [hv] at hx
    obtain ⟨us, hu, hl⟩ := hx
    obtain ⟨av, hn, rfl⟩ := run_ofO h
    have hn' : vs[i]? = some av := by rw [← nth_eq]; exact hn
    obtain ⟨v, hv', hr⟩ := hl.get hn'
    refine Good.pure hs (v := v) ?_ hr
    have : us[i]? = some v := by rw [← Array.getElem?_toList]; exact hv'
    simp [execOp, ho, hu, Instr.extract, this]
  · exact (run_fail h).elim
end

end Go.Sx
namespace Go.Sx
open Go
variable {P : Program} {E : Env} {C : Ctx}
section
variable {ρ : Operand → Value} {lk : Look} {o : Oper} {r : OpR} {id : Nat}

theorem eqGuard_int (op : BinOp) (t : TypeId) (x y : Operand) (k k' : IntKind) (a b : Int) : eqGuard op t x y (.int k a) (.int k' b) = pure () := by
  cases op <;> rfl
theorem eqGuard_str (op : BinOp) (t : TypeId) (x y : Operand) (a b : ByteArray) : eqGuard op t x y (.string a) (.string b) = pure () := by
  cases op <;> rfl

theorem goodR_binInt (hs : SRel C) {op : BinOp} {t t' : TypeId} {x y : Operand} (ho : o.op = .binOp op t x y t') {k : IntKind} {a b : Int} (hx : ρ x = .int k a) (hy : ρ y = .int k b)
    (h : (binInt op k a b).run = some r) : GoodR P C ρ o r := by
  have key : ∀ {av : AV} {v : Value}, (binOp op t (.int k a) (.int k b)).run P C.w = .ok v C.w → VRel C av v → r = ⟨av, [], []⟩ → GoodR P C ρ o r := fun hr hv e => by
    subst e
    exact Good.pure hs (by simp [execOp, ho, hx, hy, eqGuard_int, hr]) hv
  cases op <;> simp only [binInt] at h
  case quo =>
    rcases run_br h with ⟨_, h⟩ | ⟨hb, h⟩
    · exact (run_fail h).elim
    · have hb0 : b ≠ 0 := by simpa using hb
      exact key (v := .int k (k.wrap (a.tdiv b))) (by simp [binOp, Op.intDiv, hb0]) (by simp [VRel]) (run_pureV h)
  case rem =>
    rcases run_br h with ⟨_, h⟩ | ⟨hb, h⟩
    · exact (run_fail h).elim
    · have hb0 : b ≠ 0 := by simpa using hb
      exact key (v := .int k (a.tmod b)) (by simp [binOp, Op.intDiv, hb0]) (by simp [VRel]) (run_pureV h)
  all_goals first
    | exact (run_fail h).elim
    | exact key (by simp [binOp, Op.intArith, Op.intCmp]; first | rfl | done) (by simp [VRel]; first | rfl | done) (run_pureV h)

theorem goodR_binStr (hs : SRel C) {op : BinOp} {t t' : TypeId} {x y : Operand} (ho : o.op = .binOp op t x y t') {a b : List UInt8} (hx : ρ x = .string ⟨⟨a⟩⟩) (hy : ρ y = .string ⟨⟨b⟩⟩)
    (h : (binStr op a b).run = some r) : GoodR P C ρ o r := by
  have key : ∀ {av : AV} {v : Value}, (binOp op t (.string ⟨⟨a⟩⟩) (.string ⟨⟨b⟩⟩)).run P C.w = .ok v C.w → VRel C av v → r = ⟨av, [], []⟩ → GoodR P C ρ o r := fun hr hv e => by
    subst e
    exact Good.pure hs (by simp [execOp, ho, hx, hy, eqGuard_str, hr]) hv
  cases op <;> simp only [binStr] at h
  case add =>
    obtain ⟨hl, h⟩ := run_brT h
    simp only [decide_eq_true_eq] at hl
    refine key (v := .string ⟨⟨a ++ b⟩⟩) ?_ (by simp [VRel]) (run_pureV h)
    have hsz : ¬ (((ByteArray.mk ⟨a⟩).size + (ByteArray.mk ⟨b⟩).size : Nat) : Int) > IntKind.i64.max := by
      have : (ByteArray.mk ⟨a⟩).size + (ByteArray.mk ⟨b⟩).size = a.length + b.length := rfl
      rw [this]
      have : IntKind.i64.max = 9223372036854775807 := by decide
      rw [this]; omega
    simp only [binOp, Op.stringOp, hsz, if_false, Sem.run_pure]
    congr 2
  all_goals first
    | exact (run_fail h).elim
    | exact key (by simp [binOp, Op.stringOp, ByteArray.toList_eq]; first | rfl | done) (by simp [VRel]; first | rfl | done) (run_pureV h)

end
end Go.Sx
namespace Go.Sx
open Go
variable {P : Program} {E : Env} {C : Ctx}

/-- cells as a value of a type -/
def Val (agg : Bool) (vs : List Value) (v : Value) : Prop := (agg = true ∧ v = .agg vs.toArray) ∨ (agg = false ∧ vs = [v])

theorem eqf_cons' {d : Nat} {xs ys : Array Value} {f : Field} {fs : List Field} {a b : Value} {r s : Bool} {w : World} (hn : (f.name == "_") = false)
    (ha : (part f.type xs f.offset).run P w = .ok a w) (hb : (part f.type ys f.offset).run P w = .ok b w) (he : (Op.equalIn d f.type a b).run P w = .ok r w)
    (hr : (Op.eqFields d xs ys fs).run P w = .ok s w) : (Op.eqFields d xs ys (f :: fs)).run P w = .ok (r && s) w := by
  have hn' : f.name ≠ "_" := by simpa using hn
  rw [Op.eqFields]
  simp only [if_pos hn', Sem.run_bind, ha, hb, he, Result.andThen_ok]
  cases r
  · simp
  · simpa using hr

/-- a part of a struct -/
theorem part_run {t : TypeId} {ti : TI} {i : TypeInfo} {d : TypeDesc} {z : Value} (ht : TIOK P t ti i d z) (vs : List Value) (off : Nat) {v : Value} (hv : Val ti.agg (seg vs off ti.size) v) (w : World) :
    (part t vs.toArray off).run P w = .ok v w := by
  simp only [part, Sem.run_bind, run_isAggS ht.und, Result.andThen_ok, ht.agg]
  rcases hv with ⟨ha, rfl⟩ | ⟨ha, hv⟩
  · simp only [ha, if_true, Sem.run_bind, run_sizeOfS ht.info, Result.andThen_ok, ht.size, Sem.run_pure]
    congr 2
    apply Array.ext'
    simp [seg, List.take_drop]
  · have : vs[off]? = some v := by
      have h0 : (seg vs off ti.size)[0]? = some v := by rw [hv]; rfl
      rw [seg_get] at h0
      split at h0
      · simpa using h0
      · cases h0
    simp [ha, this]

theorem seg_val {ti : TI} {xs : List AV} {vs : List Value} (h : VRelL C xs vs) {off : Nat} (hl : ti.agg = true ∨ (seg xs off ti.size).length = 1) :
    ∃ v, Val ti.agg (seg vs off ti.size) v := by
  cases hb : ti.agg with
  | true => exact ⟨_, .inl ⟨rfl, rfl⟩⟩
  | false =>
    rcases hl with hl | hl
    · rw [hb] at hl; cases hl
    · have := (seg_rel h off ti.size).len
      rw [hl] at this
      match hs : seg vs off ti.size with
      | [v] => exact ⟨v, .inr ⟨rfl, rfl⟩⟩
      | [] => rw [hs] at this; simp at this
      | _ :: _ :: _ => rw [hs] at this; simp at this

theorem eqLeaf_sound {t : TypeId} {ti : TI} {i : TypeInfo} {d : TypeDesc} {z : Value} (ht : TIOK P t ti i d z) {x y : AV} {u v : Value} {b : Bool} (h : eqLeaf ti.td x y = some b)
    (hx : VRel C x u) (hy : VRel C y v) (n : Nat) : (Op.equalIn (n + 1) t u v).run P C.w = .ok b C.w := by
  have htd := ht.td
  have hu := ht.und
  unfold eqLeaf at h
  cases hd : d <;> rw [hd] at htd hu <;> simp only [tdOf] at htd <;> rw [← htd] at h <;> simp only at h <;> try (cases h; done)
  case bool =>
    split at h <;> try (cases h; done)
    simp only [Option.some.injEq] at h
    simp only [VRel] at hx hy
    subst hx hy h
    exact run_equalIn_bool' C.w n t _ _ hu
  case int k =>
    split at h <;> try (cases h; done)
    split at h <;> try (cases h; done)
    simp only [Option.some.injEq] at h
    simp only [VRel] at hx hy
    rename_i e
    subst hx hy h e
    exact run_equalIn_int C.w n t _ k _ _ hu
  case string =>
    split at h <;> try (cases h; done)
    simp only [Option.some.injEq] at h
    simp only [VRel] at hx hy
    subst hx hy h
    rw [run_equalIn_string C.w n t _ _ hu, ByteArray.toList_eq, ByteArray.toList_eq]
  case pointer e =>
    split at h <;> try (cases h; done)
    all_goals
      simp only [Option.some.injEq] at h
      subst h
    · simp only [VRel] at hx hy; subst hx hy
      simp [Op.equalIn, run_underlyingS hu]
    · obtain ⟨_, _, _, _, _, rfl⟩ := hy
      simp only [VRel] at hx; subst hx
      simp [Op.equalIn, run_underlyingS hu]
    · obtain ⟨_, _, _, rfl, _⟩ := hy
      simp only [VRel] at hx; subst hx
      simp [Op.equalIn, run_underlyingS hu]
    · obtain ⟨_, _, _, _, _, rfl⟩ := hx
      simp only [VRel] at hy; subst hy
      simp [Op.equalIn, run_underlyingS hu]
    · obtain ⟨_, _, _, rfl, _⟩ := hx
      simp only [VRel] at hy; subst hy
      simp [Op.equalIn, run_underlyingS hu]
  case slice e =>
    split at h <;> try (cases h; done)
    all_goals
      simp only [Option.some.injEq] at h
      subst h
    · simp only [VRel] at hx hy; subst hx hy
      simp [Op.equalIn, run_underlyingS hu]
    · rename_i t' a l
      simp only [VRel] at hy; subst hy
      obtain ⟨ad, cap, hv, _, hc⟩ := hx
      simp only [List.cons.injEq, and_true] at hv
      subst hv
      obtain ⟨ad', cs, rfl, _⟩ := hc 0 a (by rfl)
      simp [Op.equalIn, run_underlyingS hu]

mutual
theorem eqT_sound (hE : EnvOK E P) : ∀ (n : Nat) {t : Nat} {xs ys : List AV} {b : Bool} {vs us : List Value} {ti : TI} {u v : Value}, eqT E n t xs ys = some b → VRelL C xs vs → VRelL C ys us →
    E.T t = some ti → Val ti.agg vs u → Val ti.agg us v → ∀ d, n ≤ d → (Op.equalIn d t u v).run P C.w = .ok b C.w
  | 0, _, _, _, _, _, _, _, _, _, h, _, _ => by simp [eqT] at h
  | n + 1, t, xs, ys, b, vs, us, ti, u, v, h, hx, hy => fun hti hu hv d hd => by
    obtain ⟨d, rfl⟩ : ∃ e, d = e + 1 := ⟨d - 1, by omega⟩
    obtain ⟨i, ds, z, hT⟩ := hE.T hti
    have htd := hT.td
    unfold eqT at h
    rw [hti] at h
    simp only at h
    split at h
    · rename_i fs hfs
      split at h
      · rename_i hok
        cases hd' : ds <;> rw [hd', hfs] at htd <;> simp only [tdOf] at htd <;> try (cases htd; done)
        rename_i fields
        simp only [TD.struct.injEq] at htd
        have hagg : ti.agg = true := by rw [← hT.agg, hd']; rfl
        have hek := hT.eqOk
        rw [hd', hok] at hek
        simp only [eqOkD, Bool.and_eq_true, Bool.not_eq_true'] at hek
        rcases hu with ⟨_, rfl⟩ | ⟨ha, _⟩
        · rcases hv with ⟨_, rfl⟩ | ⟨ha, _⟩
          · have hund : P.underlying t = some (.struct fields) := by rw [hT.und, hd']
            have hf : P.fieldsOf t = fields := by simp [Program.fieldsOf, hund]
            rw [run_equalIn_struct (P := P) C.w d t vs.toArray us.toArray (by rw [hf]; exact hund) hek.1, hf]
            rw [← htd] at h
            exact eqFs_sound hE n h hx hy d (by omega)
          · rw [hagg] at ha; cases ha
        · rw [hagg] at ha; cases ha
      · cases h
    · rename_i td hns
      split at h
      · rename_i x
        split at h
        · rename_i y
          obtain ⟨v1, r1, rfl, hx1, hx2⟩ := hx
          obtain ⟨v2, r2, rfl, hy1, hy2⟩ := hy
          simp only [VRelL] at hx2 hy2
          subst hx2 hy2
          have hagg : ti.agg = false := by
            rw [← hT.agg]
            cases hd' : ds <;> first
              | rfl
              | (rw [hd'] at htd; simp only [tdOf] at htd; exact (hns _ htd.symm).elim)
              | (rw [hd'] at htd; simp only [tdOf] at htd; rw [← htd] at h; simp [eqLeaf] at h)
          rcases hu with ⟨ha, _⟩ | ⟨_, hu⟩
          · rw [hagg] at ha; cases ha
          · rcases hv with ⟨ha, _⟩ | ⟨_, hv⟩
            · rw [hagg] at ha; cases ha
            · simp only [List.cons.injEq, and_true] at hu hv
              subst hu hv
              exact eqLeaf_sound hT h hx1 hy1 d
        · cases h
      · cases h
theorem eqFs_sound (hE : EnvOK E P) : ∀ (n : Nat) {fs : List Field} {xs ys : List AV} {b : Bool} {vs us : List Value}, eqFs E n (fs.map (fldOf P)) xs ys = some b → VRelL C xs vs → VRelL C ys us →
    ∀ d, n ≤ d → (Op.eqFields d vs.toArray us.toArray fs).run P C.w = .ok b C.w
  | n, [], _, _, b, _, _, h, _, _ => fun d _ => by
    have : b = true := by cases n <;> simpa [eqFs, eq_comm] using h
    subst this
    simp [Op.eqFields]
  | 0, _ :: _, _, _, _, _, _, h, _, _ => by simp [eqFs] at h
  | n + 1, f :: fs, xs, ys, b, vs, us, h, hx, hy => fun d hd => by
    simp only [List.map_cons, eqFs] at h
    split at h
    · cases h
    · rename_i hbl
      split at h
      · cases h
      · rename_i a ha
        have hT0 : ∃ ti, E.T f.type = some ti := by
          cases hn : n with
          | zero => rw [hn] at ha; simp [eqT] at ha
          | succ m =>
            rw [hn] at ha
            simp only [eqT, fldOf] at ha
            cases ht : E.T f.type with
            | none => rw [ht] at ha; cases ha
            | some ti => exact ⟨ti, rfl⟩
        obtain ⟨ti, hti⟩ := hT0
        obtain ⟨i, ds, z, hT⟩ := hE.T hti
        have hsz : sizeD P f.type = ti.size := by simp [sizeD, hT.info, hT.size]
        have hag : aggT P f.type = ti.agg := by simp [aggT, hT.und, hT.agg]
        have hlen : ∀ (l : List AV), (ti.agg = true ∨ (seg l f.offset ti.size).length = 1) ∨ (ti.agg = false ∧ (seg l f.offset ti.size).length ≠ 1) := fun l => by
          cases ti.agg <;> by_cases hq : (seg l f.offset ti.size).length = 1 <;> simp [hq]
        simp only [fldOf, hsz] at ha
        have hone : ∀ {l l' : List AV} {a : Bool}, eqT E n f.type l l' = some a → ti.agg = false → l.length = 1 ∧ l'.length = 1 := by
          intro l l' a ha hf
          cases hn : n with
          | zero => rw [hn] at ha; simp [eqT] at ha
          | succ m =>
            rw [hn] at ha
            simp only [eqT, hti] at ha
            split at ha
            · rename_i fs' hfs'
              have htd := hT.td
              rw [hfs'] at htd
              have hagg := hT.agg
              rw [hf] at hagg
              cases hd' : ds <;> rw [hd'] at htd hagg <;> simp only [tdOf] at htd <;> first
                | (cases htd; done)
                | (simp [aggD] at hagg; done)
            · split at ha
              · split at ha
                · simp
                · cases ha
              · cases ha
        obtain ⟨u, hu⟩ : ∃ u, Val ti.agg (seg vs f.offset ti.size) u := by
          rcases hlen xs with hl | ⟨hf, hl⟩
          · exact seg_val hx hl
          · exact (hl (hone ha hf).1).elim
        obtain ⟨v, hv⟩ : ∃ v, Val ti.agg (seg us f.offset ti.size) v := by
          rcases hlen ys with hl | ⟨hf, hl⟩
          · exact seg_val hy hl
          · exact (hl (hone ha hf).2).elim
        have hpa := part_run hT vs f.offset hu C.w
        have hpb := part_run hT us f.offset hv C.w
        have he := eqT_sound hE n ha (seg_rel hx f.offset ti.size) (seg_rel hy f.offset ti.size) hti hu hv d (by omega)
        have hn' : (f.name == "_") = false := hbl
        split at h
        · simp only [Option.some.injEq] at h
          subst h
          rename_i hnil
          have hfs : fs = [] := by simpa using hnil
          subst hfs
          have := eqf_cons' (P := P) (fs := []) (s := true) hn' hpa hpb he (by simp [Op.eqFields])
          rwa [Bool.and_true] at this
        · split at h
          · cases h
          · rename_i c hc
            simp only [Option.some.injEq] at h
            subst h
            exact eqf_cons' hn' hpa hpb he (eqFs_sound hE n hc hx hy d (by omega))
end

end Go.Sx
namespace Go.Sx
open Go
variable {P : Program} {E : Env} {C : Ctx}
section
variable {ρ : Operand → Value} {lk : Look} {o : Oper} {r : OpR} {id : Nat}

/-- what a value of a leaf or a struct is, cell by cell -/
theorem cells_val {x : AV} {v : Value} (h : VRel C x v) (hx : ∀ vs, x ≠ .tup vs) : ∃ vs agg, VRelL C x.cells vs ∧ Val agg vs v ∧ (agg = true ↔ ∃ cs, x = .agg cs) := by
  cases x with
  | agg cs =>
    obtain ⟨vs, rfl, hl⟩ := h
    exact ⟨vs.toList, true, hl, .inl ⟨rfl, by simp⟩, by simp⟩
  | tup vs => exact (hx vs rfl).elim
  | _ => exact ⟨[v], false, ⟨v, [], rfl, h, by simp [VRelL]⟩, .inr ⟨rfl, rfl⟩, by simp⟩

theorem eqT_agg (hE : EnvOK E P) {n t : Nat} {xs ys : List AV} {b : Bool} (h : eqT E n t xs ys = some b) :
    ∃ ti, E.T t = some ti ∧ (ti.agg = true ∧ (P.eqGuardType P.depth t = false) ∨ (ti.agg = false ∧ xs.length = 1 ∧ ys.length = 1)) := by
  cases n with
  | zero => simp [eqT] at h
  | succ n =>
    unfold eqT at h
    split at h
    · cases h
    · rename_i ti hti
      refine ⟨ti, hti, ?_⟩
      obtain ⟨i, d, z, hT⟩ := hE.T hti
      have htd := hT.td
      have hagg := hT.agg
      split at h
      · rename_i fs hfs
        split at h
        · rename_i hok
          left
          have hek := hT.eqOk
          rw [hok] at hek
          rw [hfs] at htd
          cases d <;> simp only [tdOf] at htd <;> try (cases htd; done)
          simp only [eqOkD, Bool.and_eq_true, Bool.not_eq_true'] at hek
          exact ⟨by rw [← hagg]; rfl, hek.2⟩
        · cases h
      · rename_i hns
        right
        split at h
        · split at h
          · refine ⟨?_, by simp, by simp⟩
            rw [← hagg]
            cases d <;> first
              | rfl
              | (simp only [tdOf] at htd; exact (hns _ htd.symm).elim)
              | (simp only [tdOf] at htd; rw [← htd] at h; simp [eqLeaf] at h)
          · cases h
        · cases h

theorem eqGuard_leaf {op : BinOp} {t : TypeId} {x y : Operand} {u v : Value} (hu : ∀ cs, u ≠ .agg cs) (hv : u ≠ .nilIface) (w : World) : (eqGuard op t x y u v).run P w = .ok () w := by
  unfold eqGuard
  cases op <;> simp <;> (cases u <;> simp_all)

theorem eqLeaf_not {td : TD} {x y : AV} {b : Bool} {u : Value} (h : eqLeaf td x y = some b) (hx : VRel C x u) : (∀ cs, u ≠ .agg cs) ∧ u ≠ .nilIface := by
  unfold eqLeaf at h
  split at h <;> (try (cases h; done)) <;> (split at h <;> try (cases h; done))
  all_goals first
    | (simp only [VRel] at hx; subst hx; simp; done)
    | (obtain ⟨_, _, _, _, _, rfl⟩ := hx; simp; done)
    | (obtain ⟨_, _, _, rfl, _⟩ := hx; simp; done)
    | (obtain ⟨_, _, hv, _⟩ := hx; simp only [List.cons.injEq, and_true] at hv; subst hv; simp; done)

theorem eqT_leaf (hE : EnvOK E P) {n t : Nat} {xs ys : List AV} {b : Bool} (h : eqT E n t xs ys = some b) {ti : TI} (hti : E.T t = some ti) (ha : ti.agg = false) :
    ∃ x y td, xs = [x] ∧ ys = [y] ∧ eqLeaf td x y = some b := by
  cases n with
  | zero => simp [eqT] at h
  | succ n =>
    unfold eqT at h
    rw [hti] at h
    simp only at h
    obtain ⟨i, d, z, hT⟩ := hE.T hti
    split at h
    · rename_i fs hfs
      have htd := hT.td
      have hagg := hT.agg
      rw [hfs] at htd
      rw [ha] at hagg
      cases d <;> simp only [tdOf] at htd <;> first
        | (cases htd; done)
        | (simp [aggD] at hagg; done)
    · split at h
      · split at h
        · exact ⟨_, _, _, rfl, rfl, h⟩
        · cases h
      · cases h

/-- what a single cell is not -/
theorem not_tup_of_cells {x : AV} {y : AV} (h : x.cells = [y]) : x = y ∨ ∃ cs, x = .agg cs := by
  cases x <;> simp [AV.cells] at h <;> simp_all

theorem cells_rel {x : AV} {v : Value} (h : VRel C x v) : (∃ cs vs, x = .agg cs ∧ v = .agg vs ∧ VRelL C cs vs.toList) ∨ ((∀ cs, x ≠ .agg cs) ∧ x.cells = [x]) := by
  cases x with
  | agg cs =>
    obtain ⟨vs, rfl, hl⟩ := h
    exact .inl ⟨cs, vs, rfl, rfl, hl⟩
  | _ => exact .inr ⟨by simp, rfl⟩

/-- two values that are held against each other -/
theorem eq_run (hE : EnvOK E P) {t : Nat} {x y : AV} {u v : Value} {b : Bool} (hx : VRel C x u) (hy : VRel C y v) (h : eqA E t x y = some b) :
    (Op.equal t u v).run P C.w = .ok b C.w ∧ ∀ op (p q : Operand), (eqGuard op t p q u v).run P C.w = .ok () C.w := by
  unfold eqA at h
  have h60 : (60 : Nat) ≤ Op.maxDepth := by decide
  split at h
  · cases h
  · rename_i ti hti
    split at h
    · split at h
      · rename_i cs cs'
        split at h
        · rename_i ha
          obtain ⟨vs, rfl, hl⟩ := hx
          obtain ⟨vs', rfl, hl'⟩ := hy
          obtain ⟨ti', hti', hag⟩ := eqT_agg hE h
          rw [hti] at hti'
          cases hti'
          rcases hag with ⟨_, hg⟩ | ⟨ha', _⟩
          · refine ⟨eqT_sound hE 60 h hl hl' hti (.inl ⟨ha, by simp⟩) (.inl ⟨ha, by simp⟩) _ h60, fun op p q => ?_⟩
            exact run_eqGuard_agg C.w op t p q vs vs' hg
          · rw [ha] at ha'; cases ha'
        · cases h
      · cases h
    · split at h
      · cases h
      · split at h
        · cases h
        · rename_i ha
          obtain ⟨x', y', td, hx', hy', hl⟩ := eqT_leaf hE h hti ha
          simp only [List.cons.injEq, and_true] at hx' hy'
          subst hx' hy'
          obtain ⟨hn1, hn2⟩ := eqLeaf_not hl hx
          exact ⟨eqT_sound hE 60 h ⟨u, [], rfl, hx, by simp [VRelL]⟩ ⟨v, [], rfl, hy, by simp [VRelL]⟩ hti (.inr ⟨ha, rfl⟩) (.inr ⟨ha, rfl⟩) _ h60,
            fun op p q => eqGuard_leaf hn1 hn2 C.w⟩

/-- the values that are held against each other are neither numbers nor texts on both sides: else the machine takes another way -/
theorem binOp_eql {t : TypeId} {u v : Value} {b : Bool} (he : (Op.equal t u v).run P C.w = .ok b C.w) (hb : b = b) (hi : ∀ k a k' c, ¬ (u = .int k a ∧ v = .int k' c)) (hs : ∀ a c, ¬ (u = .string a ∧ v = .string c))
    (hf : ∀ k a k' c, ¬ (u = .float k a ∧ v = .float k' c)) (hc : ∀ k a a2 k' c c2, ¬ (u = .complex k a a2 ∧ v = .complex k' c c2)) :
    (binOp .eql t u v).run P C.w = .ok (.bool b) C.w ∧ (binOp .neq t u v).run P C.w = .ok (.bool (!b)) C.w := by
  constructor <;> cases u <;> cases v <;> first
    | exact (hi _ _ _ _ ⟨rfl, rfl⟩).elim
    | exact (hs _ _ ⟨rfl, rfl⟩).elim
    | exact (hf _ _ _ _ ⟨rfl, rfl⟩).elim
    | exact (hc _ _ _ _ _ _ ⟨rfl, rfl⟩).elim
    | simp [binOp, he]

theorem goodR_binOp (hE : EnvOK E P) (hs : SRel C) (hρ : ∀ x, VRel C (evalO lk x) (ρ x)) {op : BinOp} {t t' : TypeId} {x y : Operand} (ho : o.op = .binOp op t x y t')
    (h : (opA E lk C.m id (.binOp op t x y t')).run = some r) : GoodR P C ρ o r := by
  simp only [opA, binOpA] at h
  have hx := hρ x
  have hy := hρ y
  split at h
  · rename_i k a k' b ha hb
    split at h
    · rename_i e
      subst e
      rw [ha] at hx; rw [hb] at hy
      simp only [VRel] at hx hy
      exact goodR_binInt hs ho hx hy h
    · exact (run_fail h).elim
  · rename_i a b ha hb
    rw [ha] at hx; rw [hb] at hy
    simp only [VRel] at hx hy
    exact goodR_binStr hs ho hx hy h
  · rename_i hni hns
    have main : ∀ b, eqA E t (evalO lk x) (evalO lk y) = some b →
        (binOp .eql t (ρ x) (ρ y)).run P C.w = .ok (.bool b) C.w ∧ (binOp .neq t (ρ x) (ρ y)).run P C.w = .ok (.bool (!b)) C.w ∧ ∀ op, (eqGuard op t x y (ρ x) (ρ y)).run P C.w = .ok () C.w := by
      intro b he
      obtain ⟨h1, h2⟩ := eq_run hE hx hy he
      have hsh : (∀ k a k' c, ¬ (ρ x = .int k a ∧ ρ y = .int k' c)) ∧ (∀ a c, ¬ (ρ x = .string a ∧ ρ y = .string c)) ∧ (∀ k a k' c, ¬ (ρ x = .float k a ∧ ρ y = .float k' c)) ∧
          (∀ k a a2 k' c c2, ¬ (ρ x = .complex k a a2 ∧ ρ y = .complex k' c c2)) := by
        unfold eqA at he
        split at he
        · cases he
        · rename_i ti hti
          split at he
          · rename_i cs hcs
            rw [hcs] at hx
            obtain ⟨vs, hv, _⟩ := hx
            simp [hv]
          · split at he
            · cases he
            · split at he
              · cases he
              · rename_i ha
                obtain ⟨x', y', td, hx', hy', hl⟩ := eqT_leaf hE he hti ha
                simp only [List.cons.injEq, and_true] at hx' hy'
                subst hx' hy'
                unfold eqLeaf at hl
                split at hl <;> (try (cases hl; done)) <;> (split at hl <;> try (cases hl; done))
                all_goals
                  rename_i e1 e2
                  first
                    | (exact (hni _ _ _ _ e1 e2).elim)
                    | (exact (hns _ _ e1 e2).elim)
                    | (rw [e1] at hx; simp only [VRel] at hx; simp [hx]; done)
                    | (rw [e1] at hx; obtain ⟨_, _, _, _, hv⟩ := hx; simp [hv]; done)
                    | (rw [e1] at hx; obtain ⟨_, _, _, hv, _⟩ := hx; simp [hv]; done)
                    | (rw [e1] at hx; obtain ⟨_, _, hv, _⟩ := hx; simp only [List.cons.injEq, and_true] at hv; simp [hv]; done)
      have := binOp_eql (t := t) h1 rfl hsh.1 hsh.2.1 hsh.2.2.1 hsh.2.2.2
      exact ⟨this.1, this.2, fun op => h2 op x y⟩
    split at h
    · obtain ⟨u, hu, rfl⟩ := run_ofO h
      simp only [Option.map_eq_some_iff] at hu
      obtain ⟨b, hb, rfl⟩ := hu
      obtain ⟨h1, h2, h3⟩ := main b hb
      exact Good.pure hs (v := .bool b) (by simp [execOp, ho, h1, h3]) (by simp [VRel])
    · obtain ⟨u, hu, rfl⟩ := run_ofO h
      simp only [Option.map_eq_some_iff] at hu
      obtain ⟨b, hb, rfl⟩ := hu
      obtain ⟨h1, h2, h3⟩ := main b hb
      exact Good.pure hs (v := .bool (!b)) (by simp [execOp, ho, h2, h3]) (by simp [VRel])
    · exact (run_fail h).elim

theorem goodR_unOp (hs : SRel C) (hρ : ∀ x, VRel C (evalO lk x) (ρ x)) {op : UnOp} {t : TypeId} {x : Operand} (ho : o.op = .unOp op t x)
    (h : (opA E lk C.m id (.unOp op t x)).run = some r) : GoodR P C ρ o r := by
  simp only [opA] at h
  have hx := hρ x
  split at h
  · rename_i b hb
    rw [hb] at hx
    simp only [VRel] at hx
    rw [run_pureV h]
    exact Good.pure hs (v := .bool (!b)) (by simp [execOp, ho, hx, Op.unary]) (by simp [VRel])
  · rename_i k n hb
    rw [hb] at hx
    simp only [VRel] at hx
    rw [run_pureV h]
    exact Good.pure hs (v := .int k (k.wrap (0 - n))) (by simp [execOp, ho, hx, Op.unary, Op.intArith]) (by simp [VRel])
  · exact (run_fail h).elim

theorem td_int {t : TypeId} {ti : TI} {i : TypeInfo} {d : TypeDesc} {z : Value} (hT : TIOK P t ti i d z) {k : IntKind} (h : ti.td = .int k) : d = .int k := by
  have := hT.td
  rw [h] at this
  cases d <;> simp only [tdOf] at this <;> first
    | (cases this; rfl)
    | (cases this; done)
theorem td_str {t : TypeId} {ti : TI} {i : TypeInfo} {d : TypeDesc} {z : Value} (hT : TIOK P t ti i d z) (h : ti.td = .str) : d = .string := by
  have := hT.td
  rw [h] at this
  cases d <;> simp only [tdOf] at this <;> first
    | rfl
    | (cases this; done)
theorem td_slice {t : TypeId} {ti : TI} {i : TypeInfo} {d : TypeDesc} {z : Value} (hT : TIOK P t ti i d z) {e : Nat} (h : ti.td = .slice e) : d = .slice e := by
  have := hT.td
  rw [h] at this
  cases d <;> simp only [tdOf] at this <;> first
    | (cases this; rfl)
    | (cases this; done)
theorem td_array {t : TypeId} {ti : TI} {i : TypeInfo} {d : TypeDesc} {z : Value} (hT : TIOK P t ti i d z) {n e : Nat} (h : ti.td = .array n e) : d = .array n e := by
  have := hT.td
  rw [h] at this
  cases d <;> simp only [tdOf] at this <;> first
    | (cases this; rfl)
    | (cases this; done)
theorem td_struct {t : TypeId} {ti : TI} {i : TypeInfo} {d : TypeDesc} {z : Value} (hT : TIOK P t ti i d z) {fs : List Fld} (h : ti.td = .struct fs) : ∃ fields : Array Field, d = .struct fields ∧ fields.toList.map (fldOf P) = fs := by
  have := hT.td
  rw [h] at this
  cases d <;> simp only [tdOf] at this <;> first
    | (cases this; exact ⟨_, rfl, rfl⟩)
    | (cases this; done)

theorem goodR_convert (hE : EnvOK E P) (hs : SRel C) (hρ : ∀ x, VRel C (evalO lk x) (ρ x)) {s d : TypeId} {x : Operand} (ho : o.op = .convert s d x)
    (h : (opA E lk C.m id (.convert s d x)).run = some r) : GoodR P C ρ o r := by
  simp only [opA] at h
  have hx := hρ x
  split at h
  · rename_i si ti hsi hti
    obtain ⟨_, _, _, hS⟩ := hE.T hsi
    obtain ⟨_, _, _, hT⟩ := hE.T hti
    split at h
    · rename_i ks kd k n h1 h2 h3
      rw [h3] at hx
      simp only [VRel] at hx
      rw [run_pureV h]
      have e1 := td_int hS h1
      have e2 := td_int hT h2
      refine Good.pure hs (v := .int kd (kd.wrap n)) ?_ (by simp [VRel])
      simp [execOp, ho, hx, convert, run_underlyingS hS.und, run_underlyingS hT.und, e1, e2, Conv.intToInt]
    · rename_i a h1 h2 h3
      rw [h3] at hx
      simp only [VRel] at hx
      rw [run_pureV h]
      have e1 := td_str hS h1
      have e2 := td_str hT h2
      refine Good.pure hs (v := .string ⟨⟨a⟩⟩) ?_ (by simp [VRel])
      simp [execOp, ho, hx, convert, run_underlyingS hS.und, run_underlyingS hT.und, e1, e2]
    · exact (run_fail h).elim
  · exact (run_fail h).elim

end
end Go.Sx
namespace Go.Sx
open Go
variable {P : Program} {E : Env} {C : Ctx}
section
variable {ρ : Operand → Value} {lk : Look} {o : Oper} {r : OpR} {id : Nat}

theorem goodR_makeInterface (hE : EnvOK E P) (hs : SRel C) (hρ : ∀ x, VRel C (evalO lk x) (ρ x)) {t : TypeId} {x : Operand} (ho : o.op = .makeInterface t x)
    (h : (opA E lk C.m id (.makeInterface t x)).run = some r) : GoodR P C ρ o r := by
  simp only [opA] at h
  split at h
  · rename_i ti hti
    obtain ⟨i, d, z, hT⟩ := hE.T hti
    split at h
    · exact (run_fail h).elim
    · rename_i hne
      rw [run_pureV h]
      refine Good.pure hs (v := .iface t (ρ x)) ?_ ⟨_, rfl, hρ x⟩
      have htd := hT.td
      simp only [execOp, ho, Instr.makeInterface, Sem.run_bind, run_underlyingS hT.und, Result.andThen_ok]
      cases d <;> first
        | (simp only [tdOf] at htd; exact (hne htd.symm).elim)
        | simp
  · exact (run_fail h).elim

theorem sizeD_pos {t : TypeId} {n : Nat} (h : sizeD P t = n + 1) : ∃ i, P.info? t = some i ∧ i.size = n + 1 := by
  unfold sizeD at h
  split at h
  · rename_i i hi; exact ⟨i, hi, h⟩
  · cases h

theorem goodR_fieldAddr (hE : EnvOK E P) (hs : SRel C) (hρ : ∀ x, VRel C (evalO lk x) (ρ x)) {t : TypeId} {a : Operand} {f : Nat} (ho : o.op = .fieldAddr t a f)
    (h : (opA E lk C.m id (.fieldAddr t a f)).run = some r) : GoodR P C ρ o r := by
  simp only [opA] at h
  have ha := hρ a
  split at h
  · rename_i ti hti
    obtain ⟨i, d, z, hT⟩ := hE.T hti
    split at h
    · rename_i fs hfs
      obtain ⟨fields, hd, hm⟩ := td_struct hT hfs
      split at h
      · rename_i fl hfl
        split at h
        · exact (run_fail h).elim
        · rename_i n hn
          obtain ⟨av, hav, rfl⟩ := run_ofO h
          rw [nth_eq, ← hm, List.getElem?_map, Option.map_eq_some_iff] at hfl
          obtain ⟨fld, hfld, rfl⟩ := hfl
          obtain ⟨fi, hfi, hsz⟩ := sizeD_pos (P := P) hn
          have hff : fields[f]? = some fld := by rw [← Array.getElem?_toList]; exact hfld
          have key : ∀ k off, ρ a = .pointer (some ⟨k, off, none⟩) → VRel C av (.pointer (some ⟨k, off + fld.offset, none⟩)) → Good P C ρ o av C.m := by
            intro k off hp hv
            refine Good.pure hs (v := .pointer (some ⟨k, off + fld.offset, none⟩)) ?_ hv
            have hne : ¬ (fi.size = 0) := by omega
            simp [execOp, ho, Instr.fieldAt, run_underlyingS hT.und, hd, hff, hp, Instr.sureAddr, fieldPlace, run_sizeOfS hfi, hne, addr_add]
          unfold addOff at hav
          split at hav
          · rename_i b off n' hb
            simp only [Option.some.injEq] at hav
            subst hav
            rw [hb] at ha
            obtain ⟨rb, ty, cs, hm1, hp, hv⟩ := ha
            exact key _ _ hv ⟨rb, ty, cs, hm1, hp, rfl⟩
          · rename_i ty y off n' hb
            simp only [Option.some.injEq] at hav
            subst hav
            rw [hb] at ha
            obtain ⟨k, o', cs, hv, hi, hr⟩ := ha
            exact key _ _ hv ⟨k, o', cs, by simp only [fldOf]; congr 3; omega, hi, hr⟩
          · rename_i b g i' off n' hb
            simp only [Option.some.injEq] at hav
            subst hav
            rw [hb] at ha
            obtain ⟨ee, ty, g', sh, L, hm1, hg, k, o', hv, hq⟩ := ha
            exact key _ _ hv ⟨ee, ty, g', sh, L, hm1, hg, k, o', by simp only [fldOf]; congr 3; omega, hq⟩
          · cases hav
      · exact (run_fail h).elim
    · exact (run_fail h).elim
  · exact (run_fail h).elim

theorem goodR_load (hE : EnvOK E P) (hs : SRel C) (hρ : ∀ x, VRel C (evalO lk x) (ρ x)) {t : TypeId} {a : Operand} (ho : o.op = .load t a)
    (h : (opA E lk C.m id (.load t a)).run = some r) : GoodR P C ρ o r := by
  simp only [opA] at h
  split at h
  · rename_i ti hti
    split at h
    · rename_i cs rd hc
      split at h
      · rename_i hn
        split at h
        · rename_i v hv
          rw [run_leaf h]
          exact good_load hE hs hρ ho hti hc (beq_eq hn) hv
        · exact (run_fail h).elim
      · exact (run_fail h).elim
    · exact (run_fail h).elim
  · exact (run_fail h).elim

theorem goodR_field (hE : EnvOK E P) (hs : SRel C) (hρ : ∀ x, VRel C (evalO lk x) (ρ x)) {t : TypeId} {x : Operand} {f : Nat} (ho : o.op = .field t x f)
    (h : (opA E lk C.m id (.field t x f)).run = some r) : GoodR P C ρ o r := by
  simp only [opA] at h
  have hx := hρ x
  split at h
  · rename_i ti cs hti hcs
    obtain ⟨i, d, z, hT⟩ := hE.T hti
    rw [hcs] at hx
    obtain ⟨vs, hv, hl⟩ := hx
    split at h
    · rename_i fs hfs
      obtain ⟨fields, hd, hm⟩ := td_struct hT hfs
      split at h
      · rename_i fl hfl
        rw [nth_eq, ← hm, List.getElem?_map, Option.map_eq_some_iff] at hfl
        obtain ⟨fld, hfld, rfl⟩ := hfl
        have hff : fields[f]? = some fld := by rw [← Array.getElem?_toList]; exact hfld
        split at h
        · rename_i te hte
          obtain ⟨i', d', z', hT'⟩ := hE.T hte
          have hT'' : TIOK P fld.type te i' d' z' := hT'
          have hsz : (fldOf P fld).size = te.size := by simp [fldOf, sizeD, hT''.info, hT''.size]
          have hag : (fldOf P fld).agg = te.agg := by simp [fldOf, aggT, hT''.und, hT''.agg]
          obtain ⟨av, hav, rfl⟩ := run_ofO h
          rw [hsz, hag] at hav
          obtain ⟨u, hu, hrel⟩ := mkVal_rel (seg_rel hl (fldOf P fld).off te.size) hav
          refine Good.pure hs (v := u) ?_ hrel
          have hp := part_run hT'' vs.toList fld.offset (v := u) (by rcases hu with ⟨h1, h2⟩ | ⟨h1, h2⟩; exact .inl ⟨h1, h2⟩; exact .inr ⟨h1, h2⟩) C.w
          simp only [Array.toArray_toList] at hp
          simp [execOp, ho, Instr.field, run_underlyingS hT.und, hd, hff, hv, asAgg, hp]
        · exact (run_fail h).elim
      · exact (run_fail h).elim
    · exact (run_fail h).elim
  · exact (run_fail h).elim

/-- the list that a slice value holds -/
theorem sliceOf_rel (hs : SRel C) {x : AV} {v : Value} {t : Ty} {L : List t.den} {m : List Nat} (hv : VRel C x v) (h : sliceOf C.m x = some (.mk t L m)) :
    ∃ a cap, v = .slice a L.length cap ∧ L.length ≤ cap ∧ ∀ i y, L[i]? = some y → ∃ ad cs, a = some ad ∧ ad.spot = none ∧
      (∀ j u, cs[j]? = some u → C.w.cell? ⟨ad.block, ad.off + i * t.size + j, none⟩ = some u) ∧ Rep C.w C.T t y cs := by
  unfold sliceOf at h
  have imm : ∀ {t : Ty} {L : List t.den}, Rep C.w C.T (.slice t) L [v] → ∃ a cap, v = .slice a L.length cap ∧ L.length ≤ cap ∧ ∀ i y, L[i]? = some y → ∃ ad cs, a = some ad ∧ ad.spot = none ∧
      (∀ j u, cs[j]? = some u → C.w.cell? ⟨ad.block, ad.off + i * t.size + j, none⟩ = some u) ∧ Rep C.w C.T t y cs := by
    intro t L hr
    obtain ⟨a, cap, hv, hl, hx⟩ := hr
    simp only [List.cons.injEq, and_true] at hv
    refine ⟨a, cap, hv, hl, fun i y hy => ?_⟩
    obtain ⟨ad, cs, ha, hsp, hi, hr⟩ := hx i y hy
    exact ⟨ad, cs, ha, hsp, fun j u hu => (hi j u hu).1, hr⟩
  split at h
  · simp only [Option.some.injEq, SL.mk.injEq] at h
    obtain ⟨rfl, h, rfl⟩ := h
    cases h
    exact imm hv
  · simp only [Option.some.injEq, SL.mk.injEq] at h
    obtain ⟨rfl, h, rfl⟩ := h
    cases h
    obtain ⟨_, _, hr⟩ := hv
    exact imm hr
  · rename_i b g
    split at h
    · rename_i t' g' sh L' hm
      split at h
      · rename_i hg
        simp only [Option.some.injEq, SL.mk.injEq] at h
        obtain ⟨rfl, h, rfl⟩ := h
        cases h
        obtain ⟨ee2, t2, g2, sh2, L2, hm2, _, a, n, cap, rfl, hq⟩ := hv
        rw [hm] at hm2
        cases hm2
        obtain ⟨hp, rfl⟩ := hq (beq_eq hg)
        obtain ⟨a', cap', hgg, hz, hc, hb⟩ := hs.ok b _ hm
        rw [hp] at hgg
        cases hgg
        refine ⟨a, cap, rfl, hc, fun i y hy => ?_⟩
        cases a with
        | none =>
          simp only at hb
          have := (List.getElem?_eq_some_iff.1 hy).1
          omega
        | some ad =>
          obtain ⟨hsp, c, lo, hi, hh, hsz, _, _, hx⟩ := hb
          refine ⟨ad, _, rfl, hsp, fun j u hu => ?_, hx i y hy⟩
          rw [cell_of hh, ← Array.getElem?_toList]
          rw [seg_get] at hu
          split at hu
          · rw [← hu]
          · cases hu
      · cases h
    · cases h
  · cases h

theorem elemSize_ok (hE : EnvOK E P) {t : Nat} {es : Nat} (h : elemSize E t = some es) : ∃ e i, P.underlying t = some (.slice e) ∧ P.info? e = some i ∧ i.size = es ∧ ∃ te, E.T e = some te ∧ te.size = es := by
  unfold elemSize at h
  split at h
  · rename_i ti hti
    obtain ⟨i, d, z, hT⟩ := hE.T hti
    split at h
    · rename_i e hd
      split at h
      · rename_i te hte
        obtain ⟨i', d', z', hT'⟩ := hE.T hte
        simp only [Option.some.injEq] at h
        have := td_slice hT hd
        exact ⟨e, i', by rw [hT.und, this], hT'.info, by rw [hT'.size, h], te, hte, h⟩
      · cases h
    · cases h
  · cases h

theorem getD_of {α : Type} {l : List α} {i : Nat} (h : i < l.length) (d : α) : l[i]? = some (l.getD i d) := by
  simp [List.getD, List.getElem?_eq_getElem h]

theorem inI_ok {n : Int} {k : Nat} (h : inI n k = true) : 0 ≤ n ∧ n < (k : Int) := by
  simpa [inI] using h

theorem goodR_indexAddr (hE : EnvOK E P) (hs : SRel C) (hρ : ∀ x, VRel C (evalO lk x) (ρ x)) {t : TypeId} {x i : Operand} (ho : o.op = .indexAddr t x i)
    (h : (opA E lk C.m id (.indexAddr t x i)).run = some r) : GoodR P C ρ o r := by
  simp only [opA] at h
  have hx := hρ x
  have hi := hρ i
  split at h
  · rename_i es hes
    obtain ⟨e, ei, hund, hinf, hsz, _⟩ := elemSize_ok hE hes
    unfold indexAddrA at h
    split at h
    · rename_i k n hin
      rw [hin] at hi
      simp only [VRel] at hi
      have key : ∀ {av : AV} {ad : Addr} {len cap : Nat}, ad.spot = none → ρ x = .slice (some ad) len cap → inI n len = true → VRel C av (.pointer (some ⟨ad.block, ad.off + n.toNat * es, none⟩)) → Good P C ρ o av C.m := by
        intro av ad len cap hsp hv hn hr
        obtain ⟨h0, h1⟩ := inI_ok hn
        refine Good.pure hs (v := .pointer (some ⟨ad.block, ad.off + n.toNat * es, none⟩)) ?_ hr
        obtain ⟨bk, of, sp⟩ := ad
        simp only at hsp
        subst hsp
        simp [execOp, ho, Instr.indexAt, hi, hv, asIntOf, run_underlyingS hund, h0, h1, run_sizeOfS hinf, hsz, addr_add]
      have imm : ∀ {t' : Ty} {L : List t'.den}, Rep C.w C.T (.slice t') L [ρ x] → Nat.beq t'.size es = true → inI n L.length = true → Good P C ρ o (.pd t' (L.getD n.toNat t'.dflt) 0) C.m := by
        intro t' L hr hse hn
        obtain ⟨a, cap, hv, hl, hc⟩ := hr
        simp only [List.cons.injEq, and_true] at hv
        obtain ⟨h0, h1⟩ := inI_ok hn
        have hlt : n.toNat < L.length := by omega
        obtain ⟨ad, cs, rfl, hsp, hi', hr'⟩ := hc n.toNat _ (getD_of hlt t'.dflt)
        exact key hsp hv hn ⟨ad.block, ad.off + n.toNat * es, cs, rfl, (beq_eq hse) ▸ hi', hr'⟩
      split at h
      · rename_i t' L hl
        split at h
        · rename_i hse
          obtain ⟨hn, h⟩ := run_brT h
          rw [run_pureV h]
          rw [hl] at hx
          exact imm hx hse hn
        · exact (run_fail h).elim
      · rename_i t' L hl
        split at h
        · rename_i hse
          obtain ⟨hn, h⟩ := run_brT h
          rw [run_pureV h]
          rw [hl] at hx
          obtain ⟨_, _, hr⟩ := hx
          exact imm hr hse hn
        · exact (run_fail h).elim
      · rename_i b g hl
        split at h
        · rename_i ee t' g' sh L hm
          split at h
          · rename_i hg
            simp only [Bool.and_eq_true] at hg
            obtain ⟨hg, hse⟩ := hg
            obtain ⟨hn, h⟩ := run_brT h
            rw [run_leaf h]
            rw [hl] at hx
            obtain ⟨ee2, t2, g2, sh2, L2, hm2, hle, a, n', cap, hv, hq⟩ := hx
            rw [hm] at hm2
            cases hm2
            obtain ⟨hp, rfl⟩ := hq (beq_eq hg)
            obtain ⟨h0, h1⟩ := inI_ok hn
            obtain ⟨a', cap', hgg, hz, hc, hb⟩ := hs.ok b _ hm
            rw [hp] at hgg
            cases hgg
            cases a with
            | none =>
              simp only at hb
              have h2 : L.length ≤ cap := hc
              omega
            | some ad =>
              exact key hb.1 hv hn ⟨ee, t', g', sh, L, hm, hle, ad.block, ad.off + n.toNat * es, rfl, fun _ => ⟨ad, cap, hp, by omega, rfl, by rw [beq_eq hse]⟩⟩
          · exact (run_fail h).elim
        · exact (run_fail h).elim
      · exact (run_fail h).elim
    · exact (run_fail h).elim
  · exact (run_fail h).elim

end
end Go.Sx
namespace Go.Sx
open Go
variable {P : Program} {E : Env} {C : Ctx}

/-- the content of some lists is written by nobody any more -/
def Shut (C : Ctx) (ms : List Nat) (T' : Nat → Nat → Prop) : Prop :=
  ∀ b ∈ ms, ∀ ee t g sh L, C.m b = some (.list ee t g sh L) → ∀ ad cap, C.φ b = .list (some ad) cap → ∀ o, ad.off ≤ o → o < ad.off + L.length * t.size → ¬ T' ad.block o

theorem castL_some {t t' : Ty} {L : List t.den} {L' : List t'.den} (h : castL t t' L = some L') : ∃ e : t = t', L' = e ▸ L := by
  unfold castL at h
  split at h
  · rename_i e
    exact ⟨e, (Option.some.inj h).symm⟩
  · cases h
theorem castTo_some {t t' : Ty} {x : t.den} {x' : t'.den} (h : castTo t t' x = some x') : ∃ e : t = t', x' = e ▸ x := by
  unfold castTo at h
  split at h
  · rename_i e
    exact ⟨e, (Option.some.inj h).symm⟩
  · cases h

theorem Rep.monoT {w : World} {T T' : Nat → Nat → Prop} (h : ∀ k o, T' k o → T k o) {t : Ty} {x : t.den} {vs : List Value} (r : Rep w T t x vs) : Rep w T' t x vs :=
  r.mono fun _ _ _ hc hn => ⟨hc, fun hh => hn (h _ _ hh)⟩

theorem Shut.left {ms ms' : List Nat} {T' : Nat → Nat → Prop} (h : Shut C (ms ++ ms') T') : Shut C ms T' := fun b hb => h b (List.mem_append_left _ hb)
theorem Shut.right {ms ms' : List Nat} {T' : Nat → Nat → Prop} (h : Shut C (ms ++ ms') T') : Shut C ms' T' := fun b hb => h b (List.mem_append_right _ hb)

/-- an own list, seen as data -/
theorem own_rep (hs : SRel C) {b g : Nat} {v : Value} {ee : Nat} {t : Ty} {g' : Nat} {sh : Bool} {L : List t.den} (hv : VRel C (.own b g) v) (hm : C.m b = some (.list ee t g' sh L)) (hg : g = g')
    {T' : Nat → Nat → Prop} (hT : ∀ k o, T' k o → C.T k o) (hsh : Shut C [b] T') : Rep C.w T' (.slice t) L [v] := by
  obtain ⟨ee2, t2, g2, sh2, L2, hm2, _, a, n, cap, rfl, hq⟩ := hv
  rw [hm] at hm2
  cases hm2
  obtain ⟨hp, rfl⟩ := hq hg
  obtain ⟨a', cap', hgg, hz, hc, hb⟩ := hs.ok b _ hm
  rw [hp] at hgg
  cases hgg
  refine ⟨a, cap, rfl, hc, fun i y hy => ?_⟩
  have hil : i < L.length := (List.getElem?_eq_some_iff.1 hy).1
  cases a with
  | none => simp only at hb; omega
  | some ad =>
    obtain ⟨hsp, c, lo, hi, hh, hsz, _, _, hx⟩ := hb
    refine ⟨ad, _, rfl, hsp, fun j u hu => ?_, (hx i y hy).monoT hT⟩
    rw [seg_get] at hu
    split at hu
    · rename_i hj
      refine ⟨by rw [cell_of hh, ← Array.getElem?_toList, ← hu], ?_⟩
      refine hsh b (by simp) ee t g' sh L hm ad cap hp _ (by omega) ?_
      have : (i + 1) * t.size ≤ L.length * t.size := Nat.mul_le_mul_right _ hil
      rw [Nat.add_mul] at this
      omega
    · cases hu

theorem unflat_rel (hs : SRel C) : ∀ {t : Ty} {cs : List AV} {vs : List Value} {x : t.den} {rest : List AV} {ms : List Nat}, unflat C.m t cs = some (x, rest, ms) → VRelL C cs vs →
    ∃ v1 v2, vs = v1 ++ v2 ∧ VRelL C rest v2 ∧ v1.length = t.size ∧ cs.length = t.size + rest.length ∧
      ∀ T' : Nat → Nat → Prop, (∀ k o, T' k o → C.T k o) → Shut C ms T' → Rep C.w T' t x v1
  | .unit, cs, vs, x, rest, ms, h, hv => by
    simp only [unflat, Option.some.injEq, Prod.mk.injEq] at h
    obtain ⟨_, rfl, _⟩ := h
    exact ⟨[], vs, rfl, hv, rfl, by simp [Ty.size], fun _ _ _ => by simp [Rep]⟩
  | .pair a b, cs, vs, x, rest, ms, h, hv => by
    simp only [unflat] at h
    split at h
    · rename_i x1 r1 m1 h1
      split at h
      · rename_i y1 r2 m2 h2
        simp only [Option.some.injEq, Prod.mk.injEq] at h
        obtain ⟨rfl, rfl, rfl⟩ := h
        obtain ⟨v1, v2, rfl, hr, hl, hc, hR⟩ := unflat_rel hs h1 hv
        obtain ⟨v3, v4, rfl, hr', hl', hc', hR'⟩ := unflat_rel hs h2 hr
        refine ⟨v1 ++ v3, v4, by simp, hr', by simp [Ty.size, hl, hl'], by simp [Ty.size]; omega, fun T' hT hS => ⟨v1, v3, rfl, hR T' hT hS.left, hR' T' hT hS.right⟩⟩
      · cases h
    · cases h
  | .bool, cs, vs, x, rest, ms, h, hv => by
    simp only [unflat] at h
    split at h
    · simp only [Option.some.injEq, Prod.mk.injEq] at h
      obtain ⟨rfl, rfl, rfl⟩ := h
      obtain ⟨v, r, rfl, h1, h2⟩ := hv
      exact ⟨[v], r, rfl, h2, rfl, by simp [Ty.size]; omega, fun _ _ _ => by simp only [VRel] at h1; simp [Rep, h1]⟩
    · cases h
  | .int k, cs, vs, x, rest, ms, h, hv => by
    simp only [unflat] at h
    split at h
    · split at h
      · rename_i e
        subst e
        simp only [Option.some.injEq, Prod.mk.injEq] at h
        obtain ⟨rfl, rfl, rfl⟩ := h
        obtain ⟨v, r, rfl, h1, h2⟩ := hv
        exact ⟨[v], r, rfl, h2, rfl, by simp [Ty.size]; omega, fun _ _ _ => by simp only [VRel] at h1; simp [Rep, h1]⟩
      · cases h
    · cases h
  | .flt k, cs, vs, x, rest, ms, h, hv => by
    simp only [unflat] at h
    split at h
    · split at h
      · rename_i e
        subst e
        simp only [Option.some.injEq, Prod.mk.injEq] at h
        obtain ⟨rfl, rfl, rfl⟩ := h
        obtain ⟨v, r, rfl, h1, h2⟩ := hv
        exact ⟨[v], r, rfl, h2, rfl, by simp [Ty.size]; omega, fun _ _ _ => by simp only [VRel] at h1; simp [Rep, h1]⟩
      · cases h
    · cases h
  | .str, cs, vs, x, rest, ms, h, hv => by
    simp only [unflat] at h
    split at h
    · simp only [Option.some.injEq, Prod.mk.injEq] at h
      obtain ⟨rfl, rfl, rfl⟩ := h
      obtain ⟨v, r, rfl, h1, h2⟩ := hv
      exact ⟨[v], r, rfl, h2, rfl, by simp [Ty.size]; omega, fun _ _ _ => by simp only [VRel] at h1; simp [Rep, h1]⟩
    · cases h
  | .slice e, cs, vs, x, rest, ms, h, hv => by
    simp only [unflat] at h
    split at h
    · split at h
      · rename_i L' hc
        obtain ⟨rfl, rfl⟩ := castL_some hc
        simp only [Option.some.injEq, Prod.mk.injEq] at h
        obtain ⟨rfl, rfl, rfl⟩ := h
        obtain ⟨v, r, rfl, h1, h2⟩ := hv
        exact ⟨[v], r, rfl, h2, rfl, by simp [Ty.size]; omega, fun T' hT _ => Rep.monoT hT h1⟩
      · cases h
    · split at h
      · rename_i L' hc
        obtain ⟨rfl, rfl⟩ := castL_some hc
        simp only [Option.some.injEq, Prod.mk.injEq] at h
        obtain ⟨rfl, rfl, rfl⟩ := h
        obtain ⟨v, r, rfl, ⟨_, _, h1⟩, h2⟩ := hv
        exact ⟨[v], r, rfl, h2, rfl, by simp [Ty.size]; omega, fun T' hT _ => Rep.monoT hT h1⟩
      · cases h
    · split at h
      · rename_i e' g' sh L hm
        split at h
        · rename_i hg
          split at h
          · rename_i L' hc
            obtain ⟨rfl, rfl⟩ := castL_some hc
            simp only [Option.some.injEq, Prod.mk.injEq] at h
            obtain ⟨rfl, rfl, rfl⟩ := h
            obtain ⟨v, r, rfl, h1, h2⟩ := hv
            exact ⟨[v], r, rfl, h2, rfl, by simp [Ty.size]; omega, fun T' hT hS => own_rep hs h1 hm (beq_eq hg) hT hS⟩
          · cases h
        · cases h
      · cases h
    · simp only [Option.some.injEq, Prod.mk.injEq] at h
      obtain ⟨rfl, rfl, rfl⟩ := h
      obtain ⟨v, r, rfl, h1, h2⟩ := hv
      simp only [VRel] at h1
      subst h1
      exact ⟨[_], r, rfl, h2, rfl, by simp [Ty.size]; omega, fun T' hT _ => ⟨none, 0, rfl, Nat.le_refl _, fun i x hx => by cases hx⟩⟩
    · cases h
  | .ptr e, cs, vs, x, rest, ms, h, hv => by
    simp only [unflat] at h
    split at h
    · simp only [Option.some.injEq, Prod.mk.injEq] at h
      obtain ⟨rfl, rfl, rfl⟩ := h
      obtain ⟨v, r, rfl, h1, h2⟩ := hv
      exact ⟨[v], r, rfl, h2, rfl, by simp [Ty.size]; omega, fun T' hT _ => by simp only [VRel] at h1; simp [Rep, h1]⟩
    · split at h
      · rename_i x' hc
        obtain ⟨rfl, rfl⟩ := castTo_some hc
        simp only [Option.some.injEq, Prod.mk.injEq] at h
        obtain ⟨rfl, rfl, rfl⟩ := h
        obtain ⟨v, r, rfl, h1, h2⟩ := hv
        refine ⟨[v], r, rfl, h2, rfl, by simp [Ty.size]; omega, fun T' hT _ => ?_⟩
        obtain ⟨k, o, cs', rfl, hi, hr⟩ := h1
        exact ⟨k, o, cs', rfl, fun j u hu => ⟨(hi j u hu).1, fun hh => (hi j u hu).2 (hT _ _ hh)⟩, hr.monoT hT⟩
      · cases h
    · cases h

end Go.Sx
namespace Go.Sx
open Go
variable {P : Program} {E : Env} {C : Ctx}

theorem shut_nil (T' : Nat → Nat → Prop) : Shut C [] T' := fun b hb => by cases hb

/-- cells as a row of data -/
theorem listOf_rel (hs : SRel C) {t : Ty} : ∀ {n : Nat} {cs : List AV} {vs : List Value} {L : List t.den} {ms : List Nat}, listOfCells C.m t n cs = some (L, ms) → VRelL C cs vs →
    L.length = n ∧ vs.length = n * t.size ∧ ∀ T' : Nat → Nat → Prop, (∀ k o, T' k o → C.T k o) → Shut C ms T' → ∀ i x, L[i]? = some x → Rep C.w T' t x (seg vs (i * t.size) t.size)
  | 0, cs, vs, L, ms, h, hv => by
    cases cs with
    | nil =>
      simp only [listOfCells, Option.some.injEq, Prod.mk.injEq] at h
      obtain ⟨rfl, rfl⟩ := h
      simp only [VRelL] at hv
      subst hv
      exact ⟨rfl, by simp, fun _ _ _ i x hx => by simp at hx⟩
    | cons a as => simp [listOfCells] at h
  | n + 1, cs, vs, L, ms, h, hv => by
    simp only [listOfCells] at h
    split at h
    · rename_i x r m hu
      split at h
      · rename_i l m' hl
        simp only [Option.some.injEq, Prod.mk.injEq] at h
        obtain ⟨rfl, rfl⟩ := h
        obtain ⟨v1, v2, rfl, hr, hlen, _, hR⟩ := unflat_rel hs hu hv
        obtain ⟨h1, h2, h3⟩ := listOf_rel hs hl hr
        refine ⟨by simp [h1], by simp [hlen, h2, Nat.add_mul]; omega, fun T' hT hS i y hy => ?_⟩
        cases i with
        | zero =>
          simp only [List.getElem?_cons_zero, Option.some.injEq] at hy
          subst hy
          have : seg (v1 ++ v2) (0 * t.size) t.size = v1 := by simp [seg, ← hlen]
          rw [this]
          exact hR T' hT hS.left
        | succ i =>
          have := h3 T' hT hS.right i y (by simpa using hy)
          have e : seg (v1 ++ v2) ((i + 1) * t.size) t.size = seg v2 (i * t.size) t.size := by
            rw [Nat.add_mul, Nat.one_mul]
            unfold seg
            rw [List.drop_append, List.drop_eq_nil_of_le (by omega)]
            simp only [List.nil_append]
            congr 2
            omega
          rw [e]
          exact this
      · cases h
    · cases h

theorem unflat_nil {get : Get} (hg : ∀ b, get b = none) : ∀ {t : Ty} {cs : List AV} {x : t.den} {rest : List AV} {ms : List Nat}, unflat get t cs = some (x, rest, ms) → ms = [] ∧ ∀ get', unflat get' t cs = some (x, rest, [])
  | .unit, cs, x, rest, ms, h => by
    simp only [unflat, Option.some.injEq, Prod.mk.injEq] at h
    obtain ⟨_, rfl, rfl⟩ := h
    exact ⟨rfl, fun _ => rfl⟩
  | .pair a b, cs, x, rest, ms, h => by
    simp only [unflat] at h
    split at h
    · rename_i x1 r1 m1 h1
      split at h
      · rename_i y1 r2 m2 h2
        simp only [Option.some.injEq, Prod.mk.injEq] at h
        obtain ⟨rfl, rfl, rfl⟩ := h
        obtain ⟨rfl, e1⟩ := unflat_nil hg h1
        obtain ⟨rfl, e2⟩ := unflat_nil hg h2
        exact ⟨rfl, fun g => by simp [unflat, e1, e2]⟩
      · cases h
    · cases h
  | .bool, cs, x, rest, ms, h => by
    simp only [unflat] at h
    split at h
    · simp only [Option.some.injEq, Prod.mk.injEq] at h
      obtain ⟨rfl, rfl, rfl⟩ := h
      exact ⟨rfl, fun _ => by simp [unflat]⟩
    · cases h
  | .int k, cs, x, rest, ms, h => by
    simp only [unflat] at h
    split at h
    · split at h
      · rename_i e
        subst e
        simp only [Option.some.injEq, Prod.mk.injEq] at h
        obtain ⟨rfl, rfl, rfl⟩ := h
        exact ⟨rfl, fun _ => by simp [unflat]⟩
      · cases h
    · cases h
  | .flt k, cs, x, rest, ms, h => by
    simp only [unflat] at h
    split at h
    · split at h
      · rename_i e
        subst e
        simp only [Option.some.injEq, Prod.mk.injEq] at h
        obtain ⟨rfl, rfl, rfl⟩ := h
        exact ⟨rfl, fun _ => by simp [unflat]⟩
      · cases h
    · cases h
  | .str, cs, x, rest, ms, h => by
    simp only [unflat] at h
    split at h
    · simp only [Option.some.injEq, Prod.mk.injEq] at h
      obtain ⟨rfl, rfl, rfl⟩ := h
      exact ⟨rfl, fun _ => by simp [unflat]⟩
    · cases h
  | .slice e, cs, x, rest, ms, h => by
    simp only [unflat] at h
    split at h
    · split at h
      · rename_i hc
        simp only [Option.some.injEq, Prod.mk.injEq] at h
        obtain ⟨rfl, rfl, rfl⟩ := h
        exact ⟨rfl, fun _ => by simp [unflat, hc]⟩
      · cases h
    · split at h
      · rename_i hc
        simp only [Option.some.injEq, Prod.mk.injEq] at h
        obtain ⟨rfl, rfl, rfl⟩ := h
        exact ⟨rfl, fun _ => by simp [unflat, hc]⟩
      · cases h
    · rw [hg] at h
      simp at h
    · simp only [Option.some.injEq, Prod.mk.injEq] at h
      obtain ⟨rfl, rfl, rfl⟩ := h
      exact ⟨rfl, fun _ => by simp [unflat]⟩
    · cases h
  | .ptr e, cs, x, rest, ms, h => by
    simp only [unflat] at h
    split at h
    · simp only [Option.some.injEq, Prod.mk.injEq] at h
      obtain ⟨rfl, rfl, rfl⟩ := h
      exact ⟨rfl, fun _ => by simp [unflat]⟩
    · split at h
      · rename_i hc
        simp only [Option.some.injEq, Prod.mk.injEq] at h
        obtain ⟨rfl, rfl, rfl⟩ := h
        exact ⟨rfl, fun _ => by simp [unflat, hc]⟩
      · cases h
    · cases h

theorem listOf_nil {get : Get} (hg : ∀ b, get b = none) {t : Ty} : ∀ {n : Nat} {cs : List AV} {L : List t.den} {ms : List Nat}, listOfCells get t n cs = some (L, ms) → ms = [] ∧ ∀ get', listOfCells get' t n cs = some (L, [])
  | 0, cs, L, ms, h => by
    cases cs with
    | nil =>
      simp only [listOfCells, Option.some.injEq, Prod.mk.injEq] at h
      obtain ⟨rfl, rfl⟩ := h
      exact ⟨rfl, fun _ => rfl⟩
    | cons a as => simp [listOfCells] at h
  | n + 1, cs, L, ms, h => by
    simp only [listOfCells] at h
    split at h
    · rename_i x r m hu
      split at h
      · rename_i l m' hl
        simp only [Option.some.injEq, Prod.mk.injEq] at h
        obtain ⟨rfl, rfl⟩ := h
        obtain ⟨rfl, e1⟩ := unflat_nil hg hu
        obtain ⟨rfl, e2⟩ := listOf_nil hg hl
        exact ⟨rfl, fun g => by simp [listOfCells, e1, e2]⟩
      · cases h
    · cases h

section
variable {ρ : Operand → Value} {lk : Look} {o : Oper} {r : OpR} {id : Nat}

theorem bytes_get (l : List UInt8) (n : Nat) : (ByteArray.mk ⟨l⟩)[n]? = l[n]? := by
  by_cases h : n < l.length
  · have h' : n < (ByteArray.mk ⟨l⟩).size := h
    rw [List.getElem?_eq_getElem h, getElem?_pos (ByteArray.mk ⟨l⟩) n h']
    rfl
  · have h' : ¬ n < (ByteArray.mk ⟨l⟩).size := h
    rw [List.getElem?_eq_none (by omega), getElem?_neg (ByteArray.mk ⟨l⟩) n h']

theorem goodR_index (hE : EnvOK E P) (hs : SRel C) (hρ : ∀ x, VRel C (evalO lk x) (ρ x)) {t : TypeId} {x i : Operand} (ho : o.op = .index t x i)
    (h : (opA E lk C.m id (.index t x i)).run = some r) : GoodR P C ρ o r := by
  simp only [opA, indexA] at h
  have hx := hρ x
  have hi := hρ i
  split at h
  · rename_i k n hin
    rw [hin] at hi
    simp only [VRel] at hi
    split at h
    · rename_i s hsx
      rw [hsx] at hx
      simp only [VRel] at hx
      split at h
      · rename_i ti hti
        obtain ⟨_, _, _, hT⟩ := hE.T hti
        split at h
        · rename_i htd
          obtain ⟨hn, h⟩ := run_brT h
          rw [run_pureV h]
          obtain ⟨h0, h1⟩ := inI_ok hn
          have hlt : n.toNat < s.length := by omega
          refine Good.pure hs (v := .int .u8 (s.getD n.toNat 0).toNat) ?_ (by simp [VRel])
          have e := td_str hT htd
          simp only [execOp, ho, Instr.index, hi, hx, asIntOf, Sem.run_bind, Sem.run_pure, Result.andThen_ok, run_underlyingS hT.und, e, h0, if_true, bytes_get, getD_of hlt 0]
        · exact (run_fail h).elim
      · exact (run_fail h).elim
    · rename_i cs hcs
      rw [hcs] at hx
      obtain ⟨vs, hv, hl⟩ := hx
      split at h
      · rename_i ti hti
        obtain ⟨_, _, _, hT⟩ := hE.T hti
        split at h
        · rename_i len e htd
          split at h
          · rename_i te hte
            obtain ⟨_, _, _, hT'⟩ := hE.T hte
            split at h
            · rename_i ty hty
              split at h
              · rename_i L ms hsz hL
                obtain ⟨hn, h⟩ := run_brT h
                obtain ⟨av, hav, rfl⟩ := run_ofO h
                obtain ⟨h0, h1⟩ := inI_ok hn
                obtain ⟨rfl, hL'⟩ := listOf_nil (fun _ => rfl) hL
                obtain ⟨hlen, hvl, hR⟩ := listOf_rel hs (hL' C.m) hl
                have hlt : n.toNat < L.length := by omega
                have hrep := hR C.T (fun _ _ h => h) (shut_nil _) _ _ (getD_of hlt ty.dflt)
                have hsz := beq_eq hsz
                obtain ⟨u, hu, hrel⟩ := mkVal_rel (flat_rel hrep) hav
                refine Good.pure hs (v := u) ?_ hrel
                have e' := td_array hT htd
                have hp := part_run hT' vs.toList (n.toNat * te.size) (v := u) (by rw [← hsz]; rcases hu with ⟨h1, h2⟩ | ⟨h1, h2⟩; exact .inl ⟨h1, h2⟩; exact .inr ⟨h1, h2⟩) C.w
                simp only [Array.toArray_toList] at hp
                have hc : 0 ≤ n ∧ n < (len : Int) := ⟨h0, h1⟩
                simp only [execOp, ho, Instr.index, hi, hv, asIntOf, Sem.run_bind, Sem.run_pure, Result.andThen_ok, run_underlyingS hT.und, e', hc, and_self, if_true, run_sizeOfS hT'.info, hT'.size, hp]
              · exact (run_fail h).elim
            · exact (run_fail h).elim
          · exact (run_fail h).elim
        · exact (run_fail h).elim
      · exact (run_fail h).elim
    · exact (run_fail h).elim
  · exact (run_fail h).elim

theorem goodR_len (hE : EnvOK E P) (hs : SRel C) (hρ : ∀ x, VRel C (evalO lk x) (ρ x)) {a : Operand} {t : TypeId} {av : AV} {n : Nat} {as : Array Operand} {ts : Array TypeId}
    (ho : o.op = .call { callee := .builtin .len, args := as, argTypes := ts }) (ha : as.toList = [a]) (ht : ts.toList = [t])
    {ti : TI} (hti : E.T t = some ti) (hc : (ti.td = .str ∧ ∃ s, evalO lk a = .str s ∧ n = s.length) ∨ (∃ e, ti.td = .slice e ∧ ((evalO lk a = .nils ∧ n = 0) ∨ ∃ t L m, sliceOf C.m (evalO lk a) = some (.mk t L m) ∧ n = L.length))) :
    Good P C ρ o (.int .i64 n) C.m := by
  have hx := hρ a
  obtain ⟨i, d, z, hT⟩ := hE.T hti
  have has : as = #[a] := by apply Array.ext'; simpa using ha
  have hts : ts = #[t] := by apply Array.ext'; simpa using ht
  subst has hts
  refine Good.pure hs (v := .int .i64 n) ?_ (by simp [VRel])
  rcases hc with ⟨htd, s, hsv, rfl⟩ | ⟨e, htd, hc⟩
  · rw [hsv] at hx
    simp only [VRel] at hx
    have e := td_str hT htd
    simp [execOp, ho, resolve, hx, invoke, builtin, Builtin.len_, run_underlyingS hT.und, e, goInt]
    rfl
  · have e' := td_slice hT htd
    rcases hc with ⟨hn, rfl⟩ | ⟨t', L, m, hL, rfl⟩
    · rw [hn] at hx
      simp only [VRel] at hx
      simp [execOp, ho, resolve, hx, invoke, builtin, Builtin.len_, run_underlyingS hT.und, e', goInt]
    · obtain ⟨ad, cap, hv, _⟩ := sliceOf_rel hs hx hL
      simp [execOp, ho, resolve, hv, invoke, builtin, Builtin.len_, run_underlyingS hT.und, e', goInt]

theorem goodR_max (hs : SRel C) (hρ : ∀ x, VRel C (evalO lk x) (ρ x)) {a b : Operand} {as : Array Operand} {ts : Array TypeId}
    (ho : o.op = .call { callee := .builtin .max, args := as, argTypes := ts }) (ha : as.toList = [a, b]) {k : IntKind} {x y : Int} (hx : evalO lk a = .int k x) (hy : evalO lk b = .int k y) :
    Good P C ρ o (.int k (bif decide (x < y) then y else x)) C.m := by
  have h1 := hρ a
  have h2 := hρ b
  rw [hx] at h1
  rw [hy] at h2
  simp only [VRel] at h1 h2
  have has : as = #[a, b] := by apply Array.ext'; simpa using ha
  subst has
  refine Good.pure hs (v := .int k (bif decide (x < y) then y else x)) ?_ (by simp [VRel])
  simp only [execOp, ho, resolve, invoke, builtin, Builtin.max_, Sem.run_bind, Sem.run_pure, Result.andThen_ok]
  simp only [List.map_toArray, List.map_cons, List.map_nil, h1, h2, List.foldlM, Builtin.max2, Sem.run_bind, Sem.run_pure, Result.andThen_ok]
  congr 3
  by_cases hlt : x < y <;> simp [hlt]

end
end Go.Sx
namespace Go.Sx
open Go
variable {P : Program} {E : Env} {C : Ctx}

/-- a new block of the memory's -/
theorem push_ok (hs : SRel C) {id : Nat} (hid : C.m id = none) {b' : Blk} {g' : G} {o : Obj} {w' : World}
    (hw : w'.heap = C.w.heap.push o) (hlies : ∀ k, liesB g' k → k = C.w.heap.size) (hos : w'.os = C.w.os) (htape : w'.tape = C.w.tape) (hout : w'.output = C.w.output) :
    let C' : Ctx := ⟨w', updF C.m id (some b'), updF C.φ id g', C.fr, C.gl⟩
    Ext C C' ∧ (BlkOK C' g' b' → SRel C') := by
  refine upd_ok hs (by rw [hw]; simp) ?_ ?_ ?_ ?_ ?_ ?_ hos htape hout
  · intro k hk _
    rw [hw, Array.getElem?_push, if_neg (by omega)]
  · intro k hk; exact .inr (by rw [hlies k hk]; exact Nat.le_refl _)
  · intro k o' hk; exact .inr (by rw [hlies k (ownsB_lies hk)]; exact Nat.le_refl _)
  · intro _ cs h; rw [hid] at h; cases h
  · intro ee t g sh L h; rw [hid] at h; cases h
  · intro k o' v hv _
    have hk : k < C.w.heap.size := by
      unfold World.cell? at hv
      split at hv
      · rename_i hh; exact (Array.getElem?_eq_some_iff.1 hh).1
      · cases hv
    unfold World.cell? at hv ⊢
    rw [hw, Array.getElem?_push, if_neg (show ¬ k = C.w.heap.size by omega)]
    exact hv

/-- nothing of the memory turns: a block of the machine's is seen with other eyes, or there is one more that has no place yet -/
theorem same_ok (hs : SRel C) {id : Nat} {b' : Blk} {g' : G}
    (hlies : ∀ k, liesB g' k → (∃ b, C.m id = some b ∧ liesB (C.φ id) k))
    (hown : ∀ k o, ownsB g' b' k o → (∃ b, C.m id = some b ∧ ownsB (C.φ id) b k o))
    (hkc : ∀ ty cs, C.m id = some (.cells ty cs) → g' = C.φ id ∧ ∃ cs', b' = .cells ty cs')
    (hkl : ∀ ee t g sh L, C.m id = some (.list ee t g sh L) → ∃ g2 sh2 L2, b' = .list ee t g2 sh2 L2 ∧ g ≤ g2 ∧ (g = g2 → g' = C.φ id ∧ L2.length = L.length)) :
    let C' : Ctx := ⟨C.w, updF C.m id (some b'), updF C.φ id g', C.fr, C.gl⟩
    Ext C C' ∧ (BlkOK C' g' b' → SRel C') :=
  upd_ok hs (Nat.le_refl _) (fun _ _ _ => rfl) (fun k hk => .inl (hlies k hk)) (fun k o hk => .inl (hown k o hk)) hkc hkl (fun _ _ _ hv _ => hv) rfl rfl rfl

theorem updM_eq (m : Get) (i : Nat) (b : Blk) : updM m i b = updF m i (some b) := rfl

theorem applyM_one (m : Get) (i : Nat) (b : Blk) : applyM m [(i, b)] = updF m i (some b) := rfl

section
variable {ρ : Operand → Value} {lk : Look} {o : Oper} {r : OpR} {id : Nat}

theorem consts_rel (C : Ctx) : ∀ (vs : List Value), VRelL C (vs.map constAV) vs
  | [] => by simp [VRelL]
  | v :: r => ⟨v, r, rfl, constAV_rel v, consts_rel C r⟩

/-- a variable comes -/
theorem good_newVar (hs : SRel C) (hid : C.m id = none) {cs : List AV} {vs : Array Value} {t : TypeId} (hrel : VRelL C cs vs.toList) (hleaf : cs.all AV.leaf = true)
    (hrun : (execOp ρ o).run P C.w = .ok (.value (.pointer (some ⟨C.w.heap.size, 0, none⟩))) { C.w with heap := C.w.heap.push (.cells vs t) }) :
    Good P C ρ o (.ref id 0) (applyM C.m [(id, .cells t cs)]) := by
  obtain ⟨hE, hok⟩ := push_ok hs hid (b' := .cells t cs) (g' := .cells C.w.heap.size) (o := .cells vs t) (w' := { C.w with heap := C.w.heap.push (.cells vs t) }) rfl (fun k hk => hk) rfl rfl rfl
  refine ⟨_, _, .inl hrun, rfl, hok ?_, hE, ?_⟩
  · exact ⟨C.w.heap.size, vs, rfl, by simp, hrel.mono hE, hleaf⟩
  · exact ⟨C.w.heap.size, t, cs, by simp [updF], by simp [updF], rfl⟩

theorem goodR_alloc (hE : EnvOK E P) (hs : SRel C) (hid : C.m id = none) {t : TypeId} (ho : o.op = .alloc t)
    (h : (opA E lk C.m id (.alloc t)).run = some r) : GoodR P C ρ o r := by
  simp only [opA] at h
  split at h
  · rename_i ti hti
    obtain ⟨i, d, z, hT⟩ := hE.T hti
    split at h
    · rename_i hl
      rw [run_leaf h]
      refine good_newVar hs hid (cs := ti.zero) (vs := z.cells) (t := t) (by rw [hT.zeros]; exact consts_rel C _) hl ?_
      simp [execOp, ho, Instr.alloc, run_zeroValueS hT.info hT.zero, newVar, newRow]
    · exact (run_fail h).elim
  · exact (run_fail h).elim

/-- the cells of a value that may stand in cells -/
theorem leaf_cells {x : AV} {v : Value} (h : VRel C x v) (hl : x.cells.all AV.leaf = true) : VRelL C x.cells v.cells.toList ∧ v.cells.size = x.cells.length := by
  cases x with
  | agg cs =>
    obtain ⟨vs, rfl, hr⟩ := h
    exact ⟨hr, by simpa [AV.cells, Value.cells] using hr.len.symm⟩
  | undef => simp [AV.cells, AV.leaf] at hl
  | tup vs => simp [AV.cells, AV.leaf] at hl
  | _ =>
    have : v.cells = #[v] := by
      simp only [VRel] at h
      first
        | (subst h; rfl)
        | (obtain ⟨_, _, _, _, _, rfl | rfl⟩ := h <;> rfl)
        | (obtain ⟨_, _, _, _, _, rfl⟩ := h; rfl)
        | (obtain ⟨_, _, _, rfl, _⟩ := h; rfl)
        | (obtain ⟨_, rfl, _⟩ := h; rfl)
        | (obtain ⟨_, _, hv, _⟩ := h; simp only [List.cons.injEq, and_true] at hv; subst hv; rfl)
        | (obtain ⟨_, _, _, _, _, _, _, _, _, rfl, _⟩ := h; rfl)
        | (obtain ⟨_, _, _, _, _, _, _, _, _, _, rfl, _⟩ := h; rfl)
    rw [this]
    exact ⟨⟨v, [], rfl, h, by simp [VRelL]⟩, by simp [AV.cells]⟩

end
end Go.Sx
namespace Go.Sx
open Go
variable {P : Program} {E : Env} {C : Ctx}

theorem fold_splice (off : Nat) : ∀ (l : List Value) (j : Nat) (cs : Array Value), off + j + l.length ≤ cs.size →
    ((l.zipIdx j).foldl (fun cs (x : Value × Nat) => cs.setIfInBounds (off + x.2) x.1) cs).toList = cs.toList.take (off + j) ++ l ++ cs.toList.drop (off + j + l.length)
  | [], j, cs, h => by simp
  | v :: l, j, cs, h => by
    simp only [List.length_cons] at h
    simp only [List.zipIdx_cons, List.foldl_cons]
    rw [fold_splice off l (j + 1) _ (by simp; omega)]
    have hlt : off + j < cs.toList.length := by simp; omega
    simp only [Array.toList_setIfInBounds]
    rw [show off + (j + 1) = off + j + 1 by omega]
    rw [List.take_set, List.drop_set_of_lt (by omega)]
    rw [List.take_succ_eq_append_getElem hlt]
    simp only [List.length_cons]
    rw [show off + j + 1 + l.length = off + j + (l.length + 1) by omega]
    have hm : min (off + j) cs.toList.length = off + j := Nat.min_eq_left (Nat.le_of_lt hlt)
    have hs : (cs.toList.take (off + j) ++ [cs.toList[off + j]]).set (off + j) v = cs.toList.take (off + j) ++ [v] := by
      rw [List.set_append, if_neg (by rw [List.length_take, hm]; omega), List.length_take, hm, Nat.sub_self]
      rfl
    rw [hs]
    simp

theorem fill_step {place : Nat → Option (Nat × Nat)} {cells : Array Value} {i off size : Nat} {v : Value} {rest : List (Nat × Value)} (hp : place i = some (off, size)) (hv : v.cells.size = size) (hl : off + size ≤ cells.size) :
    ∃ cells', Instr.fill place cells ((i, v) :: rest) = Instr.fill place cells' rest ∧ cells'.toList = cells.toList.take off ++ v.cells.toList ++ cells.toList.drop (off + size) ∧ cells'.size = cells.size := by
  have hc : (v.cells.size ≠ size || decide (off + v.cells.size > cells.size)) = false := by simp [hv]; omega
  refine ⟨v.cells.zipIdx.foldl (fun cs x => cs.setIfInBounds (off + x.2) x.1) cells, ?_, ?_, ?_⟩
  · simp only [Instr.fill, hp]
    rw [if_neg (by simpa using hc)]
  · rw [← Array.foldl_toList, Array.toList_zipIdx]
    rw [fold_splice off v.cells.toList 0 cells (by simp; omega)]
    simp [hv]
  · have h1 : (v.cells.zipIdx.foldl (fun cs x => cs.setIfInBounds (off + x.2) x.1) cells).toList.length = cells.toList.length := by
      rw [← Array.foldl_toList, Array.toList_zipIdx, fold_splice off v.cells.toList 0 cells (by simp; omega)]
      simp [hv]; omega
    simpa using h1

/-- parts that come in their order fill a row -/
theorem gather_rel {ρ : Operand → Value} {lk : Look} (hρ : ∀ x, VRel C (evalO lk x) (ρ x)) {place : Nat → Option (Nat × Nat)} : ∀ (fs : List Fld) (i off : Nat) (ps : List (Nat × Operand)) (z r : List AV) (cells : Array Value),
    gather lk i fs ps z = some r → (∀ k f, fs[k]? = some f → place (i + k) = some (f.off, f.size)) → contig off fs cells.size = true → off ≤ cells.size → VRelL C z (cells.toList.drop off) →
    ∃ cells', Instr.fill place cells (ps.map fun p => (p.1, ρ p.2)) = some cells' ∧ cells'.size = cells.size ∧ cells'.toList.take off = cells.toList.take off ∧ VRelL C r (cells'.toList.drop off)
  | [], i, off, ps, z, r, cells, hg, hp, hc, hle, hz => by
    cases ps with
    | cons a as => simp [gather] at hg
    | nil =>
      simp only [gather, Option.some.injEq] at hg
      subst hg
      refine ⟨cells, rfl, rfl, rfl, ?_⟩
      have := beq_eq hc
      rw [List.drop_eq_nil_of_le (by simp; omega)]
      simp [VRelL]
  | f :: fs, i, off, ps, z, r, cells, hg, hp, hc, hle, hz => by
    simp only [contig] at hc
    split at hc
    · rename_i hoff
      have hoff := beq_eq hoff
      have hp' : ∀ k g, fs[k]? = some g → place (i + 1 + k) = some (g.off, g.size) := fun k g hk => by
        have := hp (k + 1) g (by simpa using hk)
        rwa [show i + (k + 1) = i + 1 + k by omega] at this
      have hle2 : ∀ {a : Nat} {l : List Fld} {n : Nat}, contig a l n = true → a ≤ n := by
        intro a l
        induction l generalizing a with
        | nil => intro n h; exact Nat.le_of_eq (beq_eq h)
        | cons g l ih =>
          intro n h
          simp only [contig] at h
          split at h
          · have := ih h; omega
          · cases h
      have hle3 := hle2 hc
      have zd : VRelL C (z.drop f.size) (cells.toList.drop (off + f.size)) := by
        have := hz.drop (n := f.size)
        rwa [List.drop_drop] at this
      have keep : ∀ {ps : List (Nat × Operand)} {r' : List AV}, gather lk (i + 1) fs ps (z.drop f.size) = some r' → r = z.take f.size ++ r' →
          ∃ cells', Instr.fill place cells (ps.map fun p => (p.1, ρ p.2)) = some cells' ∧ cells'.size = cells.size ∧ cells'.toList.take off = cells.toList.take off ∧ VRelL C r (cells'.toList.drop off) := by
        intro ps r' hg' hr
        obtain ⟨cells', h1, h2, h3, h4⟩ := gather_rel hρ fs (i + 1) (off + f.size) ps _ r' cells hg' hp' hc hle3 zd
        refine ⟨cells', h1, h2, ?_, ?_⟩
        · have := congrArg (List.take off) h3
          simpa [List.take_take] using this
        · have e : cells'.toList.drop off = (cells.toList.drop off).take f.size ++ cells'.toList.drop (off + f.size) := by
            have h5 : (cells'.toList.drop off).take f.size = (cells.toList.drop off).take f.size := by
              have := congrArg (List.drop off) h3
              rw [List.drop_take, List.drop_take] at this
              simpa using this
            rw [← h5, ← List.drop_drop, List.take_append_drop]
          rw [e, hr]
          exact (hz.take).append h4
      cases ps with
      | nil =>
        simp only [gather] at hg
        split at hg
        · rename_i r' hr'
          simp only [Option.some.injEq] at hg
          exact keep hr' hg.symm
        · cases hg
      | cons p ps =>
        obtain ⟨j, x⟩ := p
        simp only [gather] at hg
        split at hg
        · rename_i hij
          have hij := beq_eq hij
          subst hij
          split at hg
          · rename_i hvs
            simp only [Bool.and_eq_true] at hvs
            obtain ⟨hlen, hleaf⟩ := hvs
            have hlen := beq_eq hlen
            split at hg
            · rename_i r' hr'
              simp only [Option.some.injEq] at hg
              obtain ⟨hrel, hsz⟩ := leaf_cells (hρ x) hleaf
              obtain ⟨cells1, e1, e2, e3⟩ := fill_step (rest := ps.map fun p => (p.1, ρ p.2)) (hp 0 f (by simp)) (show (ρ x).cells.size = f.size by rw [hsz, hlen]) (by rw [hoff]; exact hle3)
              rw [hoff] at e2
              have hvl : (ρ x).cells.toList.length = f.size := by simp [hsz, hlen]
              have hofl : (cells.toList.take off).length = off := by simp; omega
              have d1 : cells1.toList.drop (off + f.size) = cells.toList.drop (off + f.size) := by
                rw [e2, List.drop_append, List.drop_eq_nil_of_le (by simp [hofl, hvl])]
                simp only [List.nil_append, List.length_append, hofl, hvl, Nat.sub_self, List.drop_zero]
              obtain ⟨cells', h1, h2, h3, h4⟩ := gather_rel hρ fs (i + 1) (off + f.size) ps _ r' cells1 hr' hp' (by rw [e3]; exact hc) (by rw [e3]; exact hle3) (by rw [d1]; exact zd)
              refine ⟨cells', ?_, by rw [h2, e3], ?_, ?_⟩
              · simp only [List.map_cons, Nat.add_zero] at e1 ⊢
                rw [e1]
                exact h1
              · have := congrArg (List.take off) h3
                simp only [List.take_take, Nat.min_eq_left (show off ≤ off + f.size by omega)] at this
                rw [this, e2, List.append_assoc, List.take_append, hofl, Nat.sub_self]
                simp [List.take_take]
              · have e : cells'.toList.drop off = (ρ x).cells.toList ++ cells'.toList.drop (off + f.size) := by
                  have h5 : (cells'.toList.drop off).take f.size = (ρ x).cells.toList := by
                    have := congrArg (List.drop off) h3
                    rw [List.drop_take, List.drop_take] at this
                    simp only [Nat.add_sub_cancel_left] at this
                    rw [this, e2, List.append_assoc, List.drop_append, List.drop_eq_nil_of_le (by omega)]
                    simp [hofl, ← hvl]
                  rw [← h5, ← List.drop_drop, List.take_append_drop]
                rw [e, ← hg]
                exact hrel.append h4
            · cases hg
          · cases hg
        · split at hg
          · rename_i r' hr'
            simp only [Option.some.injEq] at hg
            exact keep hr' hg.symm
          · cases hg
    · cases hc

end Go.Sx
namespace Go.Sx
open Go
variable {P : Program} {E : Env} {C : Ctx}
section
variable {ρ : Operand → Value} {lk : Look} {o : Oper} {r : OpR} {id : Nat}

theorem goodR_box (hs : SRel C) (hρ : ∀ x, VRel C (evalO lk x) (ρ x)) (hid : C.m id = none) {t : TypeId} {x : Operand} (ho : o.op = .box t x)
    (h : (opA E lk C.m id (.box t x)).run = some r) : GoodR P C ρ o r := by
  simp only [opA] at h
  split at h
  · rename_i hl
    rw [run_leaf h]
    obtain ⟨h1, h2⟩ := leaf_cells (hρ x) hl
    exact good_newVar hs hid (cs := (evalO lk x).cells) (vs := (ρ x).cells) (t := t) h1 hl (by simp [execOp, ho, Instr.box, newVar, newRow])
  · exact (run_fail h).elim

theorem arr_get (n : Nat) (te : TI) (k : Nat) {f : Fld} (h : (arrFlds n te)[k]? = some f) : f = ⟨k * te.size, te.size, te.agg, 0, false⟩ ∧ k < n := by
  simp only [arrFlds, List.getElem?_map, Option.map_eq_some_iff] at h
  obtain ⟨a, ha, rfl⟩ := h
  obtain ⟨hl, he⟩ := List.getElem?_eq_some_iff.1 ha
  have hk : k < n := by simpa using hl
  have : a = k := by simpa using he.symm
  subst this
  exact ⟨rfl, hk⟩

theorem places_of : ∀ (fs : List Field), (∀ f ∈ fs, (P.info? f.type).isSome = true) →
    ∃ places, fs.mapM (fun f => (P.info? f.type).map fun i => (f.offset, i.size)) = some places ∧ ∀ (k : Nat) (f : Field), fs[k]? = some f → places[k]? = some (f.offset, sizeD P f.type)
  | [], _ => ⟨[], rfl, fun k f h => by simp at h⟩
  | f :: fs, h => by
    obtain ⟨places, h1, h2⟩ := places_of fs fun g hg => h g (List.mem_cons_of_mem _ hg)
    obtain ⟨i, hi⟩ := Option.isSome_iff_exists.1 (h f (by simp))
    refine ⟨(f.offset, i.size) :: places, by simp [List.mapM_cons, hi, h1], fun k g hk => ?_⟩
    cases k with
    | zero =>
      simp only [List.getElem?_cons_zero, Option.some.injEq] at hk
      subst hk
      simp [sizeD, hi]
    | succ k => simpa using h2 k g (by simpa using hk)

theorem fillA_rel {ρ : Operand → Value} {lk : Look} (hρ : ∀ x, VRel C (evalO lk x) (ρ x)) {place : Nat → Option (Nat × Nat)} {fs : List Fld} (hp : ∀ k f, fs[k]? = some f → place k = some (f.off, f.size)) :
    ∀ (ps : List (Nat × Operand)) (z r : List AV) (cells : Array Value), fillA lk fs ps z = some r → VRelL C z cells.toList → ∃ cells', Instr.fill place cells (ps.map fun p => (p.1, ρ p.2)) = some cells' ∧ VRelL C r cells'.toList
  | [], z, r, cells, h, hz => by
    simp only [fillA, Option.some.injEq] at h
    subst h
    exact ⟨cells, by simp [Instr.fill], hz⟩
  | (j, x) :: ps, z, r, cells, h, hz => by
    simp only [fillA] at h
    split at h
    · cases h
    · rename_i f hf
      rw [nth_eq] at hf
      split at h
      · rename_i hck
        simp only [Bool.and_eq_true] at hck
        obtain ⟨hlen, hleaf, hle⟩ := hck
        have hlen := beq_eq hlen
        have hle := Nat.le_of_ble_eq_true hle
        have hzl := hz.len
        obtain ⟨hrel, hsz⟩ := leaf_cells (hρ x) hleaf
        obtain ⟨cells1, e1, e2, e3⟩ := fill_step (cells := cells) (rest := ps.map fun p => (p.1, ρ p.2)) (hp j f hf) (show (ρ x).cells.size = f.size by rw [hsz, hlen]) (by simp at hzl; omega)
        obtain ⟨cells', h1, h2⟩ := fillA_rel hρ hp ps _ r cells1 h (by
          rw [e2]
          exact ((hz.take).append hrel).append hz.drop)
        exact ⟨cells', by simp only [List.map_cons]; rw [e1]; exact h1, h2⟩
      · cases h

theorem goodR_build (hE : EnvOK E P) (hs : SRel C) (hρ : ∀ x, VRel C (evalO lk x) (ρ x)) {t : TypeId} {ps : Array (Nat × Operand)} (ho : o.op = .build t ps)
    (h : (opA E lk C.m id (.build t ps)).run = some r) : GoodR P C ρ o r := by
  simp only [opA] at h
  split at h
  · rename_i ti hti
    obtain ⟨i, d, z, hT⟩ := hE.T hti
    have hz : VRelL C ti.zero (z.cells.toList.drop 0) := by rw [hT.zeros]; exact consts_rel C _
    have hzl : ti.zero.length = z.cells.size := by rw [hT.zeros]; simp
    have fin : ∀ {cs : List AV} {cells : Array Value}, P.built t ((ps.map fun p => (p.1, ρ p.2)).toList) = some cells → VRelL C cs cells.toList → Good P C ρ o (.agg cs) C.m := by
      intro cs cells hb hr
      refine Good.pure hs (v := .agg cells) ?_ ⟨cells, rfl, hr⟩
      have := run_build (P := P) C.w t (ps.map fun p => (p.1, ρ p.2)) cells hb
      simp [execOp, ho, this]
    split at h
    · rename_i fs hfs
      obtain ⟨fields, hd, hm⟩ := td_struct hT hfs
      split at h
      · rename_i hc
        obtain ⟨av, hav, rfl⟩ := run_ofO h
        simp only [Option.map_eq_some_iff] at hav
        obtain ⟨cs, hg, rfl⟩ := hav
        have hfl := hT.flds
        rw [hd] at hfl
        obtain ⟨places, hp1, hp2⟩ := places_of (P := P) fields.toList fun f hf => List.all_eq_true.1 hfl f hf
        unfold gatherS at hg
        split at hg
        rotate_left
        · obtain ⟨cells', h1, h4⟩ := fillA_rel hρ (place := (places.toArray[·]?)) (fs := fs) (fun k f hk => by
            rw [← hm, List.getElem?_map, Option.map_eq_some_iff] at hk
            obtain ⟨fl, hk, rfl⟩ := hk
            simpa [fldOf] using hp2 k fl hk) ps.toList ti.zero cs z.cells hg (by simpa using hz)
          refine fin (cells := cells') ?_ h4
          unfold Program.built
          rw [hT.info, hT.und, hd]
          simp only [hT.zero, hp1]
          simpa using h1
        rename_i cs' hg'
        simp only [Option.some.injEq] at hg
        rw [hg] at hg'
        have hg := hg'
        obtain ⟨cells', h1, h2, h3, h4⟩ := gather_rel hρ (place := (places.toArray[·]?)) fs 0 0 ps.toList ti.zero cs z.cells hg (fun k f hk => by
          rw [← hm, List.getElem?_map, Option.map_eq_some_iff] at hk
          obtain ⟨fl, hk, rfl⟩ := hk
          simpa [fldOf] using hp2 k fl hk) (by rw [← hzl]; exact hc) (Nat.zero_le _) hz
        refine fin (cells := cells') ?_ (by simpa using h4)
        unfold Program.built
        rw [hT.info, hT.und, hd]
        simp only [hT.zero, hp1]
        simpa using h1
      · exact (run_fail h).elim
    · rename_i n e htd
      have hd := td_array hT htd
      split at h
      · rename_i te hte
        obtain ⟨i', d', z', hT'⟩ := hE.T hte
        split at h
        · rename_i hc
          obtain ⟨av, hav, rfl⟩ := run_ofO h
          simp only [Option.map_eq_some_iff] at hav
          obtain ⟨cs, hg, rfl⟩ := hav
          obtain ⟨cells', h1, h2, h3, h4⟩ := gather_rel hρ (place := fun i => some (i * te.size, te.size)) (arrFlds n te) 0 0 ps.toList ti.zero cs z.cells hg (fun k f hk => by
            obtain ⟨rfl, _⟩ := arr_get n te k hk
            simp) (by rw [← hzl]; exact hc) (Nat.zero_le _) hz
          refine fin (cells := cells') ?_ (by simpa using h4)
          unfold Program.built
          rw [hT.info, hT.und, hd]
          simp only [hT.zero, hT'.info, hT'.size]
          simpa using h1
        · exact (run_fail h).elim
      · exact (run_fail h).elim
    · exact (run_fail h).elim
  · exact (run_fail h).elim

end
end Go.Sx
namespace Go.Sx
open Go
variable {P : Program} {E : Env} {C : Ctx}

theorem updF_self {α : Type} (f : Nat → α) (i : Nat) : updF f i (f i) = f := by
  funext j
  unfold updF
  split
  · rename_i e; rw [e]
  · rfl

theorem ownsB_share {G' : G} {ee : Nat} {t : Ty} {g g2 : Nat} {sh : Bool} {L : List t.den} {k o : Nat} (h : ownsB G' (.list ee t g true L) k o) : ownsB G' (.list ee t g2 sh L) k o := by
  cases G' with
  | cells rb => exact h.elim
  | list a cap =>
    cases a with
    | none => exact h.elim
    | some ad =>
      simp only [ownsB, if_true] at h ⊢
      refine ⟨h.1, ?_, h.2.2⟩
      split
      · exact h.2.1
      · have := h.2.1; omega

/-- a list's content is shared from now on -/
theorem share_one (hs : SRel C) {b : Nat} {ee : Nat} {t : Ty} {g : Nat} {sh : Bool} {L : List t.den} (hm : C.m b = some (.list ee t g sh L)) :
    let C' : Ctx := ⟨C.w, updF C.m b (some (.list ee t g true L)), C.φ, C.fr, C.gl⟩
    SRel C' ∧ Ext C C' ∧ Shut C [b] C'.T := by
  intro C'
  have hsub : ∀ k o, ownsB (C.φ b) (.list ee t g true L) k o → ownsB (C.φ b) (.list ee t g sh L) k o := fun k o h => ownsB_share h
  have key := same_ok hs (id := b) (b' := .list ee t g true L) (g' := C.φ b) (fun k hk => ⟨_, hm, hk⟩) (fun k o hk => ⟨_, hm, hsub k o hk⟩)
    (fun _ cs h => by rw [hm] at h; cases h) (fun ee2 t2 g2 sh2 L2 h => by rw [hm] at h; cases h; exact ⟨g, true, L, rfl, Nat.le_refl _, fun _ => ⟨rfl, rfl⟩⟩)
  simp only [updF_self] at key
  obtain ⟨hE, hok⟩ := key
  obtain ⟨a, cap, hp, hz, hc, hb⟩ := hs.ok b _ hm
  have hshut : ∀ ad cap', C.φ b = .list (some ad) cap' → ∀ o, ad.off ≤ o → o < ad.off + L.length * t.size → ¬ C'.T ad.block o := by
    intro ad cap' hp' o h1 h2 hT
    rw [hp'] at hp
    cases hp
    rcases hT with hf | ⟨j, bj, hj, ho⟩
    · exact hs.frApart _ _ hf ⟨b, _, hm, by rw [hp']; rfl⟩
    · by_cases e : j = b
      · subst e
        simp only [C', updF, if_true, Option.some.injEq] at hj
        subst hj
        simp only [C', hp', ownsB, if_true] at ho
        omega
      · simp only [C', updF, if_neg e] at hj
        exact hs.apart j bj b _ _ hj hm e (ownsB_lies ho) (by rw [hp']; rfl)
  refine ⟨hok ⟨a, cap, hp, hz, hc, ?_⟩, hE, fun b' hb' ee2 t2 g2 sh2 L2 hm2 ad cap' hp' o h1 h2 => ?_⟩
  · cases a with
    | none => exact hb
    | some ad =>
      obtain ⟨hsp, c, lo, hi, hh, hsz, hfz, _, hx⟩ := hb
      exact ⟨hsp, c, lo, hi, hh, hsz, by { cases sh with | true => exact hfz | false => (simp only [Bool.false_eq_true, if_false, if_true] at hfz ⊢; omega) }, fun _ o h1 h2 => hshut ad cap hp o h1 h2, fun i x hi => (hx i x hi).mono hE.keep⟩
  · simp only [List.mem_singleton] at hb'
    subst hb'
    rw [hm] at hm2
    cases hm2
    exact hshut ad cap' hp' o h1 h2

theorem T_sub {C C' : Ctx} (hE : Ext C C') (hw : C'.w = C.w) (hφ : C'.φ = C.φ) (hm : ∀ id b, C'.m id = some b → ∃ b0, C.m id = some b0 ∧ ∀ k o, ownsB (C.φ id) b k o → ownsB (C.φ id) b0 k o) : ∀ k o, C'.T k o → C.T k o := by
  intro k o h
  rcases h with h | ⟨id, b, h1, h2⟩
  · exact .inl (hE.frEq ▸ h)
  · obtain ⟨b0, h3, h4⟩ := hm id b h1
    rw [hφ] at h2
    exact .inr ⟨id, b0, h3, h4 k o h2⟩

/-- the content of some lists is shared -/
theorem share_ok (hs : SRel C) : ∀ (ms : List Nat), ∃ C', SRel C' ∧ Ext C C' ∧ C'.m = applyM C.m (shareWr C.m ms) ∧ C'.w = C.w ∧ C'.φ = C.φ ∧ C'.fr = C.fr ∧ Shut C ms C'.T ∧ (∀ k o, C'.T k o → C.T k o) := by
  suffices H : ∀ (ms : List Nat) (C1 : Ctx), SRel C1 → Ext C C1 → C1.w = C.w → C1.φ = C.φ → C1.fr = C.fr → (∀ k o, C1.T k o → C.T k o) →
      (∀ j, C1.m j = C.m j ∨ ∃ ee t g sh L, C.m j = some (.list ee t g sh L) ∧ C1.m j = some (.list ee t g true L)) →
      ∃ C', SRel C' ∧ Ext C C' ∧ C'.m = applyM C1.m (shareWr C.m ms) ∧ C'.w = C.w ∧ C'.φ = C.φ ∧ C'.fr = C.fr ∧ Shut C ms C'.T ∧ (∀ k o, C'.T k o → C1.T k o) by
    intro ms
    exact H ms C hs (Ext.refl C) rfl rfl rfl (fun _ _ h => h) (fun j => .inl rfl)
  intro ms
  induction ms with
  | nil => intro C1 h1 h2 h3 h4 h5 h6 h7; exact ⟨C1, h1, h2, rfl, h3, h4, h5, shut_nil _, fun _ _ h => h⟩
  | cons b ms ih =>
    intro C1 h1 h2 h3 h4 h5 h6 h7
    cases hm : C.m b with
    | none =>
      obtain ⟨C', k1, k2, k3, k4, k5, k6, k7, k8⟩ := ih C1 h1 h2 h3 h4 h5 h6 h7
      refine ⟨C', k1, k2, ?_, k4, k5, k6, fun b' hb' ee t g sh L hL => ?_, k8⟩
      · rw [k3]; simp [shareWr, hm]
      · rcases List.mem_cons.1 hb' with e | hb'
        · subst e; rw [hm] at hL; cases hL
        · exact k7 b' hb' ee t g sh L hL
    | some blk =>
      cases blk with
      | cells ty cs =>
        obtain ⟨C', k1, k2, k3, k4, k5, k6, k7, k8⟩ := ih C1 h1 h2 h3 h4 h5 h6 h7
        refine ⟨C', k1, k2, ?_, k4, k5, k6, fun b' hb' ee t g sh L hL => ?_, k8⟩
        · rw [k3]; simp [shareWr, hm]
        · rcases List.mem_cons.1 hb' with e | hb'
          · subst e; rw [hm] at hL; cases hL
          · exact k7 b' hb' ee t g sh L hL
      | list ee t g sh L =>
        obtain ⟨sh1, hm1⟩ : ∃ sh1, C1.m b = some (.list ee t g sh1 L) := by
          rcases h7 b with e | ⟨ee2, t2, g2, sh2, L2, e1, e2⟩
          · exact ⟨sh, by rw [e, hm]⟩
          · rw [hm] at e1; cases e1; exact ⟨true, e2⟩
        obtain ⟨s1, s2, s3⟩ := share_one h1 hm1
        have hsub : ∀ k o, (Ctx.mk C1.w (updF C1.m b (some (.list ee t g true L))) C1.φ C1.fr C1.gl).T k o → C1.T k o := by
          refine T_sub s2 rfl rfl fun id b' hid => ?_
          simp only [updF] at hid
          split at hid
          · rename_i e
            subst e
            cases hid
            exact ⟨_, hm1, fun k o h => ownsB_share h⟩
          · exact ⟨b', hid, fun _ _ h => h⟩
        obtain ⟨C', k1, k2, k3, k4, k5, k6, k7, k8⟩ := ih _ s1 (h2.trans s2) h3 h4 h5 (fun k o h => h6 k o (hsub k o h)) (fun j => by
          by_cases e : j = b
          · subst e
            exact .inr ⟨ee, t, g, sh, L, hm, by simp [updF]⟩
          · simpa [updF, e] using h7 j)
        refine ⟨C', k1, k2, ?_, k4, k5, k6, fun b' hb' ee2 t2 g2 sh2 L2 hL ad cap hp o o1 o2 hT => ?_, fun k o h => hsub k o (k8 k o h)⟩
        · rw [k3]; simp [shareWr, hm, applyM, updM_eq]
        · rcases List.mem_cons.1 hb' with e | hb'
          · subst e
            rw [hm] at hL
            cases hL
            exact s3 b' (by simp) ee t g sh1 L hm1 ad cap (by rw [h4]; exact hp) o o1 o2 (k8 _ _ hT)
          · exact k7 b' hb' ee2 t2 g2 sh2 L2 hL ad cap hp o o1 o2 hT

theorem applyM_append (m : Get) : ∀ (a b : Wr), applyM m (a ++ b) = applyM (applyM m a) b
  | [], b => rfl
  | (i, x) :: a, b => applyM_append (updM m i x) a b

theorem applyM_get {m : Get} {i : Nat} {x : Blk} : ∀ {a : Wr}, (∀ p ∈ a, p.1 ≠ i) → applyM (updM m i x) a i = some x
  | [], _ => by simp [applyM, updM]
  | (j, y) :: a, h => by
    have hj : j ≠ i := h (j, y) (by simp)
    have : updM (updM m i x) j y = updM (updM m j y) i x := by
      funext k
      unfold updM
      by_cases e1 : k = j <;> by_cases e2 : k = i <;> simp_all
    simp only [applyM]
    rw [this]
    exact applyM_get fun p hp => h p (by simp [hp])

theorem applyM_comm {m : Get} {i : Nat} {x : Blk} : ∀ {a : Wr}, (∀ p ∈ a, p.1 ≠ i) → applyM (updM m i x) a = updM (applyM m a) i x
  | [], _ => rfl
  | (j, y) :: a, h => by
    have hj : j ≠ i := h (j, y) (by simp)
    have : updM (updM m i x) j y = updM (updM m j y) i x := by
      funext k
      unfold updM
      by_cases e1 : k = j <;> by_cases e2 : k = i <;> simp_all
    simp only [applyM]
    rw [this]
    exact applyM_comm fun p hp => h p (by simp [hp])

theorem shareWr_mem {m : Get} {ms : List Nat} {p : Nat × Blk} (h : p ∈ shareWr m ms) : p.1 ∈ ms ∧ ∃ ee t g sh L, m p.1 = some (.list ee t g sh L) := by
  simp only [shareWr, List.mem_filterMap] at h
  obtain ⟨b, hb, hp⟩ := h
  split at hp
  · rename_i ee t g sh L hm
    cases hp
    exact ⟨hb, ee, t, g, sh, L, hm⟩
  · cases hp

end Go.Sx
namespace Go.Sx
open Go
variable {P : Program} {E : Env} {C : Ctx}
section
variable {ρ : Operand → Value} {lk : Look} {o : Oper} {r : OpR} {id : Nat}

/-- a list comes, in new memory -/
theorem good_newList (hs : SRel C) (hid : C.m id = none) {ms : List Nat} {t : Ty} {L : List t.den} {cells : Array Value} {e : TypeId} {cap : Nat} {w' : World}
    (hw : w'.heap = C.w.heap.push (.cells cells e)) (hos : w'.os = C.w.os) (htape : w'.tape = C.w.tape) (hout : w'.output = C.w.output)
    (hz : 0 < t.size) (hl : L.length ≤ cap) (hsz : cap * t.size ≤ cells.size)
    (hrep : ∀ T' : Nat → Nat → Prop, (∀ k o, T' k o → C.T k o) → Shut C ms T' → ∀ i x, L[i]? = some x → Rep C.w T' t x (seg cells.toList (i * t.size) t.size))
    (hrun : (execOp ρ o).run P C.w = .ok (.value (.slice (some ⟨C.w.heap.size, 0, none⟩) L.length cap)) w') :
    Good P C ρ o (.own id 0) (applyM C.m ((id, .list e t 0 false L) :: shareWr C.m ms)) := by
  obtain ⟨C1, h1, h2, h3, h4, h5, h6, h7, h8⟩ := share_ok hs ms
  have hne : ∀ p ∈ shareWr C.m ms, p.1 ≠ id := fun p hp e => by
    obtain ⟨_, ee2, t2, g2, sh2, L2, hm⟩ := shareWr_mem hp
    rw [e, hid] at hm
    cases hm
  have hid1 : C1.m id = none := by
    rw [h3]
    have : ∀ (a : Wr) (m : Get), m id = none → (∀ p ∈ a, p.1 ≠ id) → applyM m a id = none := by
      intro a
      induction a with
      | nil => intro m hm _; exact hm
      | cons p a ih =>
        intro m hm hp
        obtain ⟨j, y⟩ := p
        simp only [applyM]
        refine ih _ ?_ fun q hq => hp q (by simp [hq])
        have := hp (j, y) (by simp)
        simp only [updM]
        rw [if_neg (Ne.symm this)]
        exact hm
    exact this _ _ hid hne
  obtain ⟨hE, hok⟩ := push_ok h1 hid1 (b' := .list e t 0 false L) (g' := .list (some ⟨C.w.heap.size, 0, none⟩) cap) (o := .cells cells e) (w' := w') (by rw [h4]; exact hw)
    (fun k hk => by rw [h4]; exact hk) (by rw [h4]; exact hos) (by rw [h4]; exact htape) (by rw [h4]; exact hout)
  have hheap : w'.heap[C.w.heap.size]? = some (.cells cells e (0, 0)) := by rw [hw]; simp
  have hS : SRel ⟨w', updF C1.m id (some (.list e t 0 false L)), updF C1.φ id (.list (some ⟨C.w.heap.size, 0, none⟩) cap), C1.fr, C1.gl⟩ := by
    refine hok ⟨_, cap, rfl, hz, hl, rfl, cells, 0, 0, hheap, by simpa using hsz, by simp, fun hh => (by cases hh), fun i x hi => ?_⟩
    have := hrep C1.T h8 h7 i x hi
    rw [← h4] at this
    simpa using this.mono hE.keep
  refine ⟨_, _, .inl hrun, ?_, hS, h2.trans hE, ?_⟩
  · simp only [applyM]
    rw [applyM_comm hne, ← h3]
    rfl
  · exact ⟨e, t, 0, false, L, by simp [updF], Nat.le_refl _, some ⟨C.w.heap.size, 0, none⟩, L.length, cap, rfl, fun _ => ⟨by simp [updF], rfl⟩⟩

theorem range_mod (z : Array Value) (s : Nat) (hz : z.size = s) (hs : 0 < s) : ∀ n, (List.range (n * s)).map (fun j => z[j % s]!) = (List.replicate n z.toList).flatten
  | 0 => by simp
  | n + 1 => by
    rw [List.replicate_succ', List.flatten_append, Nat.add_mul, Nat.one_mul, List.range_add, List.map_append, range_mod z s hz hs n]
    congr 1
    simp only [List.map_map, List.flatten_cons, List.flatten_nil, List.append_nil]
    apply List.ext_getElem
    · simp [hz]
    · intro i h1 h2
      simp only [List.length_map, List.length_range] at h1
      simp only [List.getElem_map, List.getElem_range, Function.comp_apply]
      rw [Nat.add_comm, Nat.add_mul_mod_self_right, Nat.mod_eq_of_lt h1]
      simp [getElem!_pos, hz, h1]

theorem flat_rep : ∀ (n : Nat) {as : List AV} {vs : List Value}, VRelL C as vs → VRelL C ((List.replicate n as).flatten) ((List.replicate n vs).flatten)
  | 0, _, _, _ => by simp [VRelL]
  | n + 1, _, _, h => by
    rw [List.replicate_succ, List.replicate_succ, List.flatten_cons, List.flatten_cons]
    exact h.append (flat_rep n h)

theorem goodR_buildSlice (hE : EnvOK E P) (hs : SRel C) (hρ : ∀ x, VRel C (evalO lk x) (ρ x)) (hid : C.m id = none) {t : TypeId} {len : Nat} {ps : Array (Nat × Operand)} (ho : o.op = .buildSlice t len ps)
    (h : (opA E lk C.m id (.buildSlice t len ps)).run = some r) : GoodR P C ρ o r := by
  simp only [opA] at h
  split at h
  · rename_i ti hti
    obtain ⟨i, d, z, hT⟩ := hE.T hti
    split at h
    · rename_i e htd
      have hd := td_slice hT htd
      split at h
      · rename_i te hte
        obtain ⟨i', d', z', hT'⟩ := hE.T hte
        split at h
        · rename_i ty hty
          split at h
          · rename_i cs hck hg
            simp only [Bool.and_eq_true] at hck
            obtain ⟨c1, c2, c3, c4⟩ := hck
            have c1 := beq_eq c1
            have c4 := beq_eq c4
            have c2 : 1 ≤ te.size := Nat.le_of_ble_eq_true c2
            have c3 : len * te.size ≤ 4096 := Nat.le_of_ble_eq_true c3
            split at h
            · rename_i L m hL
              rw [run_leaf h]
              have hzs : z'.cells.size = te.size := by rw [← c4, hT'.zeros]; simp
              have hz : VRelL C te.zero z'.cells.toList := by rw [hT'.zeros]; exact consts_rel C _
              have hrow : ((Array.range (len * te.size)).map fun j => z'.cells[j % z'.cells.size]!).toList = (List.replicate len z'.cells.toList).flatten := by
                rw [Array.toList_map, Array.toList_range, hzs]
                exact range_mod z'.cells te.size hzs c2 len
              obtain ⟨cells', h1, h2, h3, h4⟩ := gather_rel hρ (place := fun i => some (i * te.size, te.size)) (arrFlds len te) 0 0 ps.toList _ cs ((Array.range (len * te.size)).map fun j => z'.cells[j % z'.cells.size]!) hg
                (fun k f hk => by obtain ⟨rfl, _⟩ := arr_get len te k hk; simp)
                (by
                  have : ∀ n a, contig (a * te.size) ((List.range' a n).map fun i => (⟨i * te.size, te.size, te.agg, 0, false⟩ : Fld)) ((a + n) * te.size) = true := by
                    intro n
                    induction n with
                    | zero => intro a; simp [contig]
                    | succ n ih =>
                      intro a
                      simp only [List.range'_succ, List.map_cons, contig, Nat.beq_refl]
                      have := ih (a + 1)
                      rw [show a + 1 + n = a + (n + 1) by omega, Nat.add_mul, Nat.one_mul] at this
                      exact this
                  have := this len 0
                  simpa [arrFlds, List.range_eq_range'] using this)
                (Nat.zero_le _) (by rw [hrow]; simpa using flat_rep len hz)
              simp only [List.drop_zero] at h4
              obtain ⟨k1, k2, k3⟩ := listOf_rel hs hL h4
              have hcs : cells'.size = len * te.size := by rw [h2]; simp
              refine good_newList hs hid (ms := m) (cells := cells') (e := e) (cap := len) (w' := { C.w with heap := C.w.heap.push (.cells cells' e) }) rfl rfl rfl rfl (by omega) (by omega) (by rw [hcs, c1]; exact Nat.le_refl _) k3 ?_
              have hbig : ¬ (len * te.size > 2 ^ 24) := by have : (2 : Nat) ^ 24 = 16777216 := by decide
                                                           omega
              rw [k1]
              simp only [execOp, ho, Instr.buildSlice, Sem.run_bind, run_underlyingS hT.und, hd, Result.andThen_ok, run_sizeOfS hT'.info, hT'.size, Sem.run_ite, hbig, if_false, Sem.run_pure]
              have hfill : Instr.fill (fun i => some (i * te.size, te.size)) ((Array.range (len * te.size)).map fun j => z'.cells[j % z'.cells.size]!) (ps.map fun x => (x.1, ρ x.2)).toList = some cells' := by simpa using h1
              by_cases h0 : len * te.size = 0
              · have e0 : ((Array.range (len * te.size)).map fun j => z'.cells[j % z'.cells.size]!) = #[] := by rw [h0]; simp
                rw [e0] at hfill
                simp only [h0, if_true, Sem.run_pure, Result.andThen_ok]
                have e1 : ((Array.range 0).map fun j => (#[] : Array Value)[j % (#[] : Array Value).size]!) = #[] := by simp
                rw [e1, hfill]
                simp [newRow]
              · simp only [h0, if_false, Sem.run_bind, run_zeroValueS hT'.info hT'.zero, Result.andThen_ok, Sem.run_pure, hfill]
                simp [newRow]
            · exact (run_fail h).elim
          · exact (run_fail h).elim
        · exact (run_fail h).elim
      · exact (run_fail h).elim
    · exact (run_fail h).elim
  · exact (run_fail h).elim

end
end Go.Sx
namespace Go.Sx
open Go
variable {P : Program} {E : Env} {C : Ctx}
section
variable {ρ : Operand → Value} {lk : Look} {o : Oper} {r : OpR} {id : Nat}

theorem seg_rep {z : List Value} {s : Nat} (hz : z.length = s) : ∀ (n i : Nat), i < n → seg ((List.replicate n z).flatten) (i * s) s = z
  | 0, i, h => by omega
  | n + 1, 0, _ => by
    rw [List.replicate_succ, List.flatten_cons]
    simp [seg, ← hz]
  | n + 1, i + 1, h => by
    rw [List.replicate_succ, List.flatten_cons, Nat.add_mul, Nat.one_mul]
    have := seg_rep hz n i (by omega)
    unfold seg at this ⊢
    rw [List.drop_append, List.drop_eq_nil_of_le (by omega), List.nil_append, hz, Nat.add_sub_cancel]
    exact this

theorem wrap_small {n : Int} (h0 : 0 ≤ n) (h1 : n < 2 ^ 62) : IntKind.i64.wrap n = n := by
  have e64 : (2 : Int) ^ 64 = 18446744073709551616 := by decide
  have e63 : (2 : Int) ^ 63 = 9223372036854775808 := by decide
  have e62 : (2 : Int) ^ 62 = 4611686018427387904 := by decide
  rw [e62] at h1
  have hm : n % 18446744073709551616 = n := Int.emod_eq_of_lt h0 (by omega)
  simp only [IntKind.wrap, IntKind.bits, e64, hm, Nat.reduceSub, e63]
  rw [if_neg]
  simp
  omega

theorem inR_ok {n : Int} (h : inR n = true) : 0 ≤ n ∧ n < (maxRoom : Int) := by
  simp only [inR, Bool.and_eq_true, decide_eq_true_eq] at h
  omega

theorem goodR_makeSlice (hE : EnvOK E P) (hs : SRel C) (hρ : ∀ x, VRel C (evalO lk x) (ρ x)) (hid : C.m id = none) {t : TypeId} {l c : Operand} (ho : o.op = .makeSlice t l c)
    (h : (opA E lk C.m id (.makeSlice t l c)).run = some r) : GoodR P C ρ o r := by
  simp only [opA] at h
  have hl := hρ l
  have hc := hρ c
  split at h
  · rename_i ti n n' hti hln hcn
    rw [hln] at hl
    rw [hcn] at hc
    simp only [VRel] at hl hc
    obtain ⟨i, d, z, hT⟩ := hE.T hti
    split at h
    · rename_i e htd
      have hd := td_slice hT htd
      split at h
      · rename_i te hte
        obtain ⟨i', d', z', hT'⟩ := hE.T hte
        split at h
        · rename_i ty hty
          split at h
          · rename_i x0 ms hck hu
            simp only [Bool.and_eq_true] at hck
            obtain ⟨c1, c2, c3, c4⟩ := hck
            have c1 := beq_eq c1
            have c4 := beq_eq c4
            have c2 : 1 ≤ te.size := Nat.le_of_ble_eq_true c2
            have c3 : te.bytes ≤ 2048 := Nat.le_of_ble_eq_true c3
            obtain ⟨hb, h'⟩ := run_brT h
            clear h
            simp only [Bool.and_eq_true, beq_iff_eq] at hb
            obtain ⟨hn, rfl⟩ := hb
            obtain ⟨h0, h1⟩ := inR_ok hn
            rw [run_leaf h']
            obtain ⟨rfl, hu'⟩ := unflat_nil (fun _ => rfl) hu
            have hz : VRelL C te.zero z'.cells.toList := by rw [hT'.zeros]; exact consts_rel C _
            have hzs : z'.cells.size = te.size := by rw [← c4, hT'.zeros]; simp
            obtain ⟨v1, v2, hv, hr2, hv1, _, hR⟩ := unflat_rel hs (hu' C.m) hz
            simp only [VRelL] at hr2
            subst hr2
            rw [List.append_nil] at hv
            have hmr : (maxRoom : Int) = 68719476736 := by decide
            have hrow : ((Array.range (n.toNat * te.size)).map fun j => z'.cells[j % z'.cells.size]!).toList = (List.replicate n.toNat z'.cells.toList).flatten := by
              rw [Array.toList_map, Array.toList_range, hzs]
              exact range_mod z'.cells te.size hzs c2 n.toNat
            have key := good_newList (P := P) (ρ := ρ) (o := o) hs hid (ms := []) (t := ty) (L := List.replicate n.toNat x0) (cells := (Array.range (n.toNat * te.size)).map fun j => z'.cells[j % z'.cells.size]!) (e := e) (cap := n.toNat)
              (w' := { C.w with heap := C.w.heap.push (.cells ((Array.range (n.toNat * te.size)).map fun j => z'.cells[j % z'.cells.size]!) e) }) rfl rfl rfl rfl (by omega) (by simp) (by simp [c1])
              (fun T' hT hS i x hi => by
                have hi' : i < n.toNat := by have := (List.getElem?_eq_some_iff.1 hi).1; simpa using this
                have hx : x = x0 := by have := (List.getElem?_eq_some_iff.1 hi).2; simpa using this.symm
                subst hx
                rw [hrow, c1, seg_rep (by simp [hzs]) n.toNat i hi', hv]
                exact hR T' hT (shut_nil _)) ?_
            · exact key
            · have w0 : IntKind.i64.wrap n = n := wrap_small h0 (by omega)
              have hlt : ¬ n < 0 := by omega
              have hbig : ¬ ((te.bytes : Int) * n > 2 ^ 48) := by
                have e48 : (2 : Int) ^ 48 = 281474976710656 := by decide
                rw [e48]
                have h3 : (te.bytes : Int) * n ≤ 2048 * n := Int.mul_le_mul_of_nonneg_right (by omega) h0
                omega
              simp only [List.length_replicate]
              have d1 : decide (n < 0) = false := by simpa using hlt
              have d2 : decide ((te.bytes : Int) * n > 2 ^ 48) = false := decide_eq_false hbig
              have d3 : decide (n > n) = false := by simp
              simp only [execOp, ho, Instr.makeSlice, hl, hc, Sem.run_bind, run_underlyingS hT.und, hd, Result.andThen_ok, asInt, asIntOf, Sem.run_pure, run_typeInfoS hT'.info, hT'.bytes, w0, Sem.run_ite, d1, d2, d3,
                Bool.or_self, Bool.or_false, Bool.false_eq_true, if_false, run_askRoom, run_sizeOfS hT'.info, hT'.size]
              by_cases hz0 : n.toNat * te.size = 0
              · have e0 : ∀ f : Nat → Value, Array.map f (Array.range 0) = #[] := fun f => by simp
                simp only [hz0, if_true, Sem.run_pure, Result.andThen_ok, e0]
                simp [newRow]
              · simp only [hz0, if_false, Sem.run_bind, run_zeroValueS hT'.info hT'.zero, Result.andThen_ok, Sem.run_pure]
                simp [newRow]
          · exact (run_fail h).elim
        · exact (run_fail h).elim
      · exact (run_fail h).elim
    · exact (run_fail h).elim
  · exact (run_fail h).elim

end
end Go.Sx
namespace Go.Sx
open Go
variable {P : Program} {E : Env} {C : Ctx}
section
variable {ρ : Operand → Value} {lk : Look} {o : Oper} {r : OpR} {id : Nat}

/-- a row of cells is written -/
theorem row_ok (hs : SRel C) {id : Nat} {b b' : Blk} {k0 : Nat} {c c' : Array Value} {e : TypeId} {fz : Nat × Nat} (hm : C.m id = some b) (hh : C.w.heap[k0]? = some (.cells c e fz)) (hl : liesB (C.φ id) k0)
    (hown : ∀ k o, ownsB (C.φ id) b' k o → ownsB (C.φ id) b k o)
    (hkc : ∀ (ty : Nat) (cs : List AV), b = .cells ty cs → ∃ cs', b' = .cells ty cs')
    (hkl : ∀ (ee : Nat) t g sh L, b = .list ee t g sh L → ∃ g2 sh2 L2, b' = .list ee t g2 sh2 L2 ∧ g ≤ g2 ∧ (g = g2 → L2.length = L.length))
    (hsame : ∀ j, ¬ ownsB (C.φ id) b k0 j → c'[j]? = c[j]?) :
    let C' : Ctx := ⟨C.w.setRow k0 c', updF C.m id (some b'), C.φ, C.fr, C.gl⟩
    Ext C C' ∧ (BlkOK C' (C.φ id) b' → SRel C') := by
  have key := upd_ok hs (id := id) (b' := b') (g' := C.φ id) (w' := C.w.setRow k0 c') (by simp) (fun k hk hn => ?_) (fun k hk => .inl ⟨b, hm, hk⟩) (fun k o ho => .inl ⟨b, hm, hown k o ho⟩)
    (fun ty cs h => by rw [hm] at h; cases h; exact ⟨rfl, hkc ty cs rfl⟩) (fun ee t g sh L h => by
      rw [hm] at h
      cases h
      obtain ⟨g2, sh2, L2, h1, h2, h3⟩ := hkl ee t g sh L rfl
      exact ⟨g2, sh2, L2, h1, h2, fun e => ⟨rfl, h3 e⟩⟩) (fun k o v hv hn => ?_) rfl rfl rfl
  · simp only [updF_self] at key
    exact key
  · rw [setRow_other]
    intro e
    subst e
    exact hn ⟨b, hm, hl⟩
  · by_cases e : k = k0
    · subst e
      rw [cell_setRow_same C.w k o c c' _ fz hh, hsame o fun hh => hn ⟨b, hm, hh⟩, ← cell_of hh]
      exact hv
    · rw [cell_setRow_other]
      · exact hv
      · exact e

theorem leaf_one {x : AV} {v : Value} (h : VRel C x v) (hl : x.leaf = true) : v.oneCell' = true := by
  cases x <;> simp [AV.leaf] at hl <;> simp only [VRel] at h <;> first
    | (subst h; rfl)
    | (obtain ⟨_, _, _, _, _, rfl | rfl⟩ := h <;> rfl)
    | (obtain ⟨_, _, _, _, rfl⟩ := h; rfl)
    | (obtain ⟨_, _, _, rfl, _⟩ := h; rfl)
    | (obtain ⟨_, rfl, _⟩ := h; rfl)
    | (obtain ⟨_, _, hv, _⟩ := h; simp only [List.cons.injEq, and_true] at hv; subst hv; rfl)
    | (obtain ⟨_, _, _, _, _, _, _, _, rfl, _⟩ := h; rfl)
    | (obtain ⟨_, _, _, _, _, _, _, _, _, rfl, _⟩ := h; rfl)
    | (obtain ⟨_, _, _, _, _, _, _, _, _, _, rfl, _⟩ := h; rfl)

theorem leafs_one : ∀ {as : List AV} {vs : List Value}, VRelL C as vs → as.all AV.leaf = true → ∀ v ∈ vs, v.oneCell' = true
  | [], _, h, _ => by simp only [VRelL] at h; subst h; simp
  | a :: as, _, h, hl => by
    obtain ⟨v, r, rfl, h1, h2⟩ := h
    simp only [List.all_cons, Bool.and_eq_true] at hl
    intro u hu
    rcases List.mem_cons.1 hu with e | hu
    · subst e; exact leaf_one h1 hl.1
    · exact leafs_one h2 hl.2 u hu

theorem splice_rel {C : Ctx} {cs xs : List AV} {vs us : List Value} (h : VRelL C cs vs) (k : VRelL C xs us) (off : Nat) : VRelL C (splice cs off xs) (vs.take off ++ us ++ vs.drop (off + us.length)) := by
  unfold splice
  rw [k.len, List.append_assoc]
  exact (h.take).append (k.append h.drop)

theorem goodR_storeRef (hE : EnvOK E P) (hs : SRel C) (hρ : ∀ x, VRel C (evalO lk x) (ρ x)) {t : TypeId} {a x : Operand} (ho : o.op = .store t a x) {ti : TI} (hti : E.T t = some ti)
    (hsz : (evalO lk x).cells.length = ti.size) (hleaf : (evalO lk x).cells.all AV.leaf = true) {b off : Nat} (ha : evalO lk a = .ref b off) {ty : Nat} {cs : List AV} (hm : C.m b = some (.cells ty cs)) (hle : off + (evalO lk x).cells.length ≤ cs.length) :
    Good P C ρ o (.tup []) (updF C.m b (some (.cells ty (splice cs off (evalO lk x).cells)))) := by
  obtain ⟨i, d, z, hT⟩ := hE.T hti
  have hra := hρ a
  rw [ha] at hra
  obtain ⟨rb, ty2, cs2, hm2, hp, hv⟩ := hra
  rw [hm] at hm2
  cases hm2
  obtain ⟨rb', c, hg, hh, hr, hlf⟩ := hs.ok b _ hm
  rw [hp] at hg
  cases hg
  obtain ⟨h1, h2⟩ := leaf_cells (hρ x) hleaf
  have hcl : cs.length = c.size := by rw [hr.len]; simp
  have hvl : (ρ x).cells.toList.length = (evalO lk x).cells.length := by simpa using h2
  have hst := run_storeCells_atF P rb off ty (0, 0) (ρ x).cells.toList 0 c C.w hh (Nat.zero_le _) (by rw [hvl, ← hcl]; exact hle) (leafs_one h1 hleaf)
  simp only [Nat.add_zero] at hst
  obtain ⟨hE', hok⟩ := row_ok hs (b' := .cells ty (splice cs off (evalO lk x).cells)) (c' := (c.toList.take off ++ (ρ x).cells.toList ++ c.toList.drop (off + (ρ x).cells.toList.length)).toArray) hm hh (by rw [hp]; rfl) (fun k o' h => by rw [hp] at h ⊢; exact h)
    (fun _ _ h => by cases h; exact ⟨_, rfl⟩) (fun _ _ _ _ _ h => by cases h) (fun j hn => (hn (by rw [hp]; rfl)).elim)
  refine ⟨undef, _, .inr ⟨?_, rfl⟩, rfl, hok ?_, hE', ⟨#[], rfl, by simp [VRelL]⟩⟩
  · have hne : ¬ ((ρ x).cells.size ≠ i.size) := by rw [h2, hsz, hT.size]; simp
    simp only [execOp, ho, Instr.storeAt, hv, Instr.sureAddr, storeVar, Sem.run_bind, Sem.run_pure, Result.andThen_ok, run_sizeOfS hT.info, hne, if_false, hst]
  · refine ⟨rb, _, hp, setRow_heap C.w rb c _ ty (0, 0) hh, ?_, ?_⟩
    · exact splice_rel (hr.mono hE') (h1.mono hE') off
    · simp only [splice, List.all_append, Bool.and_eq_true]
      refine ⟨?_, hleaf, ?_⟩
      · exact List.all_eq_true.2 fun y hy => List.all_eq_true.1 hlf y (List.mem_of_mem_take hy)
      · exact List.all_eq_true.2 fun y hy => List.all_eq_true.1 hlf y (List.mem_of_mem_drop hy)

end
end Go.Sx
namespace Go.Sx
open Go
variable {P : Program} {E : Env} {C : Ctx}
section
variable {ρ : Operand → Value} {lk : Look} {o : Oper} {r : OpR} {id : Nat}

theorem applyM_none {m : Get} {i : Nat} : ∀ {a : Wr}, (∀ p ∈ a, p.1 ≠ i) → applyM m a i = m i
  | [], _ => rfl
  | (j, y) :: a, h => by
    simp only [applyM]
    rw [applyM_none fun p hp => h p (by simp [hp])]
    have := h (j, y) (by simp)
    simp only [updM]
    rw [if_neg (Ne.symm this)]

theorem seg_in {α : Type} (c vs : List α) (A s off : Nat) (hA : A + s ≤ c.length) (ho : off + vs.length ≤ s) :
    seg (c.take (A + off) ++ vs ++ c.drop (A + off + vs.length)) A s = (seg c A s).take off ++ vs ++ (seg c A s).drop (off + vs.length) := by
  apply List.ext_getElem?
  intro j
  rw [seg_get]
  by_cases hj : j < s
  · rw [if_pos hj]
    have l1 : (c.take (A + off)).length = A + off := by simp; omega
    have l2 : ((seg c A s).take off).length = off := by simp [seg]; omega
    by_cases h1 : j < off
    · rw [List.append_assoc, List.getElem?_append_left (by omega), List.getElem?_take, if_pos (by omega), List.append_assoc, List.getElem?_append_left (by omega), List.getElem?_take, if_pos h1, seg_get, if_pos hj]
    · by_cases h2 : j < off + vs.length
      · rw [List.append_assoc, List.getElem?_append_right (by omega), l1, List.getElem?_append_left (by omega), List.append_assoc, List.getElem?_append_right (by omega), l2, List.getElem?_append_left (by omega)]
        congr 1
        omega
      · rw [List.getElem?_append_right (by simp; omega), List.getElem?_append_right (by simp [l2]; omega)]
        simp only [List.length_append, l1, l2, List.getElem?_drop, seg_get]
        rw [if_pos (by omega)]
        congr 1
        omega
  · rw [if_neg hj]
    symm
    apply List.getElem?_eq_none
    simp [seg]
    omega

theorem seg_out {α : Type} (c vs : List α) (B A n : Nat) (hB : B + vs.length ≤ c.length) (h : A + n ≤ B ∨ B + vs.length ≤ A) :
    seg (c.take B ++ vs ++ c.drop (B + vs.length)) A n = seg c A n := by
  apply List.ext_getElem?
  intro j
  rw [seg_get, seg_get]
  by_cases hj : j < n
  · rw [if_pos hj, if_pos hj]
    have l1 : (c.take B).length = B := by simp; omega
    rcases h with h | h
    · rw [List.append_assoc, List.getElem?_append_left (by omega), List.getElem?_take, if_pos (by omega)]
    · rw [List.getElem?_append_right (by simp; omega)]
      simp only [List.length_append, l1, List.getElem?_drop]
      congr 1
      omega
  · rw [if_neg hj, if_neg hj]

theorem goodR_storeEl (hE : EnvOK E P) (hs : SRel C) (hρ : ∀ x, VRel C (evalO lk x) (ρ x)) {t : TypeId} {a x : Operand} (ho : o.op = .store t a x) {ti : TI} (hti : E.T t = some ti)
    (hsz : (evalO lk x).cells.length = ti.size) (hleaf : (evalO lk x).cells.all AV.leaf = true) {b g i off : Nat} (ha : evalO lk a = .el b g i off) {ee : Nat} {ty : Ty} {L : List ty.den} (hm : C.m b = some (.list ee ty g false L))
    (hle : off + (evalO lk x).cells.length ≤ ty.size) {y : ty.den} {ms : List Nat} (hu : unflat C.m ty (splice (flat ty (L.getD i ty.dflt)) off (evalO lk x).cells) = some (y, [], ms)) (hb : b ∉ ms) :
    Good P C ρ o (.tup []) (applyM C.m ((b, .list ee ty g false (L.set i y)) :: shareWr C.m ms)) := by
  obtain ⟨inf, d, z, hT⟩ := hE.T hti
  have hra := hρ a
  rw [ha] at hra
  obtain ⟨ee2, t2, g2, sh2, L2, hm2, _, k, o', hv, hq⟩ := hra
  rw [hm] at hm2
  cases hm2
  obtain ⟨ad, cap, hp, hil, rfl, rfl⟩ := hq rfl
  obtain ⟨a', cap', hgg, hz, hc, hbk⟩ := hs.ok b _ hm
  rw [hp] at hgg
  cases hgg
  obtain ⟨hsp, c, lo, hi, hh, hcs, hfz, _, hx⟩ := hbk
  simp only [Bool.false_eq_true, if_false] at hfz
  obtain ⟨h1, h2⟩ := leaf_cells (hρ x) hleaf
  have hvl : (ρ x).cells.toList.length = (evalO lk x).cells.length := by simpa using h2
  have hil2 : (i + 1) * ty.size ≤ cap * ty.size := Nat.mul_le_mul_right _ (by omega)
  rw [Nat.add_mul, Nat.one_mul] at hil2
  have hst := run_storeCells_atF P ad.block (ad.off + i * ty.size + off) ee (lo, hi) (ρ x).cells.toList 0 c C.w hh (by simp only; omega) (by rw [hvl]; omega) (leafs_one h1 hleaf)
  simp only [Nat.add_zero] at hst
  obtain ⟨C1, s1, s2, s3, s4, s5, s6, s7, s8⟩ := share_ok hs ms
  have hne : ∀ p ∈ shareWr C.m ms, p.1 ≠ b := fun p hp e => hb (e ▸ (shareWr_mem hp).1)
  have hm1 : C1.m b = some (.list ee ty g false L) := by rw [s3, applyM_none hne, hm]
  have hvs : VRelL C (splice (flat ty (L.getD i ty.dflt)) off (evalO lk x).cells) ((seg c.toList (ad.off + i * ty.size) ty.size).take off ++ (ρ x).cells.toList ++ (seg c.toList (ad.off + i * ty.size) ty.size).drop (off + (ρ x).cells.toList.length)) := by
    refine splice_rel ?_ h1 off
    have := hx i L[i] (by simp [hil])
    have hd : L.getD i ty.dflt = L[i] := by simp [List.getD, hil]
    rw [hd]
    exact flat_rel this
  obtain ⟨v1, v2, hv12, hr2, hv1, _, hR⟩ := unflat_rel hs hu hvs
  simp only [VRelL] at hr2
  subst hr2
  rw [List.append_nil] at hv12
  have hcl : (c.toList).length = c.size := by simp
  obtain ⟨c', hc'⟩ : ∃ c' : Array Value, c' = (c.toList.take (ad.off + i * ty.size + off) ++ (ρ x).cells.toList ++ c.toList.drop (ad.off + i * ty.size + off + (ρ x).cells.toList.length)).toArray := ⟨_, rfl⟩
  rw [← hc'] at hst
  have hcl' : c'.toList = c.toList.take (ad.off + i * ty.size + off) ++ (ρ x).cells.toList ++ c.toList.drop (ad.off + i * ty.size + off + (ρ x).cells.toList.length) := by rw [hc']
  have hsame : ∀ j, ¬ ownsB (C1.φ b) (.list ee ty g false L) ad.block j → c'[j]? = c[j]? := by
    intro j hn
    rw [s5, hp] at hn
    simp only [ownsB, Bool.false_eq_true, if_false, true_and] at hn
    have := seg_out c.toList (ρ x).cells.toList (ad.off + i * ty.size + off) j 1 (by rw [hvl]; omega) (by rw [hvl]; omega)
    rw [← hcl'] at this
    have := congrArg (·[0]?) this
    simpa [seg_get] using this
  obtain ⟨hE', hok⟩ := row_ok s1 (b' := .list ee ty g false (L.set i y)) (c' := c')
    hm1 (by rw [s4]; exact hh) (by rw [s5, hp]; rfl) (fun k o' h => by rw [s5, hp] at h ⊢; simpa [ownsB] using h) (fun _ _ h => by cases h) (fun _ t2 g2 sh2 L2 h => by cases h; exact ⟨g, false, L.set i y, rfl, Nat.le_refl _, fun _ => by simp⟩) hsame
  refine ⟨undef, _, .inr ⟨?_, rfl⟩, ?_, hok ?_, s2.trans hE', ⟨#[], rfl, by simp [VRelL]⟩⟩
  · have hne : ¬ ((ρ x).cells.size ≠ inf.size) := by rw [h2, hsz, hT.size]; simp
    simp only [execOp, ho, Instr.storeAt, hv, Instr.sureAddr, storeVar, Sem.run_bind, Sem.run_pure, Result.andThen_ok, run_sizeOfS hT.info, hne, if_false, hst]
    rw [s4]
  · simp only [applyM]
    rw [applyM_comm hne, ← s3]
    rfl
  · refine ⟨some ad, cap, by rw [s5]; exact hp, hz, by simpa using hc, hsp, c', lo, hi, ?_, ?_, by simpa using hfz, fun h => (by cases h), fun j u hj => ?_⟩
    · rw [s4]
      exact setRow_heap C.w ad.block c _ ee (lo, hi) hh
    · have : c'.toList.length = c.size := by
        rw [hcl']
        simp only [List.length_append, List.length_take, List.length_drop, hcl, hvl]
        omega
      have : c'.size = c.size := by simpa using this
      rw [this]
      exact hcs
    · rw [hcl']
      by_cases e' : j = i
      · subst e'
        have hy : u = y := by
          rw [List.getElem?_set_self (by simpa using hil)] at hj
          exact (Option.some.inj hj).symm
        subst hy
        rw [seg_in c.toList _ (ad.off + j * ty.size) ty.size off (by omega) (by rw [hvl]; exact hle), hv12]
        have := hR C1.T s8 s7
        rw [← s4] at this
        exact this.mono hE'.keep
      · rw [List.getElem?_set_ne (Ne.symm e')] at hj
        have hjl : j < L.length := (List.getElem?_eq_some_iff.1 hj).1
        have hj2 : (j + 1) * ty.size ≤ cap * ty.size := Nat.mul_le_mul_right _ (by omega)
        rw [Nat.add_mul, Nat.one_mul] at hj2
        rw [seg_out c.toList _ (ad.off + i * ty.size + off) (ad.off + j * ty.size) ty.size (by rw [hvl]; omega) (by
          rcases Nat.lt_or_gt_of_ne e' with h | h
          · have : (j + 1) * ty.size ≤ i * ty.size := Nat.mul_le_mul_right _ h
            rw [Nat.add_mul, Nat.one_mul] at this
            left; omega
          · have : (i + 1) * ty.size ≤ j * ty.size := Nat.mul_le_mul_right _ h
            rw [Nat.add_mul, Nat.one_mul] at this
            right; rw [hvl]; omega)]
        have := (hx j u hj).mono s2.keep
        exact this.mono hE'.keep

theorem goodR_store (hE : EnvOK E P) (hs : SRel C) (hρ : ∀ x, VRel C (evalO lk x) (ρ x)) {t : TypeId} {a x : Operand} (ho : o.op = .store t a x)
    (h : (opA E lk C.m id (.store t a x)).run = some r) : GoodR P C ρ o r := by
  simp only [opA] at h
  split at h
  · rename_i ti hti
    split at h
    · rename_i hn
      have hn := beq_eq hn
      split at h
      · rename_i r' hst
        rw [run_leaf h]
        unfold storeA at hst
        split at hst
        · cases hst
        · rename_i hleaf
          split at hst
          · rename_i b off ha
            split at hst
            · rename_i ty cs hm
              split at hst
              · rename_i hle
                simp only [Option.some.injEq] at hst
                subst hst
                exact goodR_storeRef hE hs hρ ho hti hn hleaf ha hm (Nat.le_of_ble_eq_true hle)
              · cases hst
            · cases hst
          · rename_i b g i off ha
            split at hst
            · rename_i ty g' L hm
              split at hst
              · rename_i hck
                simp only [Bool.and_eq_true] at hck
                have hg := beq_eq hck.1
                subst hg
                split at hst
                · rename_i y ms hu
                  split at hst
                  · cases hst
                  · rename_i hb
                    simp only [Option.some.injEq] at hst
                    subst hst
                    refine goodR_storeEl hE hs hρ ho hti hn hleaf ha hm (Nat.le_of_ble_eq_true hck.2) hu fun hmem => ?_
                    have : ms.any (Nat.beq b) = true := List.any_eq_true.2 ⟨b, hmem, by simp⟩
                    rw [hb] at this
                    cases this
                · cases hst
              · cases hst
            · cases hst
          · cases hst
      · exact (run_fail h).elim
    · exact (run_fail h).elim
  · exact (run_fail h).elim

end
end Go.Sx
namespace Go.Sx
open Go
variable {P : Program} {E : Env} {C : Ctx}
section
variable {ρ : Operand → Value} {lk : Look} {o : Oper} {r : OpR} {id : Nat}

theorem inB_ok {l h : Int} {n : Nat} (hb : inB l h n = true) : 0 ≤ l ∧ l ≤ h ∧ h ≤ (n : Int) := by
  simpa [inB] using hb

theorem intOf_ok {a : AV} {n : Int} {v : Value} (h : intOf? a = some n) (hv : VRel C a v) : v = .int .i64 n := by
  unfold intOf? at h
  split at h
  · cases h; simpa [VRel] using hv
  · cases h

theorem run_sliceBound {k : IntKind} {i : Int} {y : Nat} {code : BoundsCode} (h0 : 0 ≤ i) (h1 : i ≤ (y : Int)) (w : World) : (Instr.sliceBound (.int k i) y code).run P w = .ok i.toNat w := by
  simp [Instr.sliceBound, asIntOf, h0, h1]

/-- bounds that fit -/
theorem run_bounds (hρ : ∀ x, VRel C (evalO lk x) (ρ x)) {len cap : Nat} {lo hi : Option Operand} {l h : Int} (hl : loOf lk lo = some l) (hh : hiOf lk len hi = some h) (h0 : 0 ≤ l) (h1 : l ≤ h) (h2 : h ≤ (len : Int)) (hc : len ≤ cap) (isS : Bool) (w : World) :
    (Instr.sliceBounds isS len cap (lo.map ρ) (hi.map ρ) none).run P w = .ok (l.toNat, h.toNat, cap) w := by
  cases hi with
  | none =>
    simp only [hiOf, Option.some.injEq] at hh
    subst hh
    cases lo with
    | none =>
      simp only [loOf, Option.some.injEq] at hl
      subst hl
      simp [Instr.sliceBounds]
    | some b =>
      simp only [loOf] at hl
      have e2 := intOf_ok hl (hρ b)
      have := fun code => run_sliceBound (P := P) (k := .i64) (i := l) (y := len) (code := code) h0 (by omega) w
      simp [Instr.sliceBounds, e2, this]
  | some a =>
    simp only [hiOf] at hh
    have e1 := intOf_ok hh (hρ a)
    have g1 := fun code => run_sliceBound (P := P) (k := .i64) (i := h) (y := cap) (code := code) (by omega) (by omega) w
    cases lo with
    | none =>
      simp only [loOf, Option.some.injEq] at hl
      subst hl
      simp [Instr.sliceBounds, e1, g1]
    | some b =>
      simp only [loOf] at hl
      have e2 := intOf_ok hl (hρ b)
      have g2 := fun code => run_sliceBound (P := P) (k := .i64) (i := l) (y := h.toNat) (code := code) h0 (by omega) w
      simp [Instr.sliceBounds, e1, g1, e2, g2]

/-- a piece of a list -/
theorem piece_rep {w : World} {T : Nat → Nat → Prop} {t : Ty} {L : List t.den} {a : Option Addr} {cap : Nat} (hr : Rep w T (.slice t) L [.slice a L.length cap]) {l h : Nat} (h1 : l ≤ h) (h2 : h ≤ L.length) :
    Rep w T (.slice t) ((L.take h).drop l) [.slice (if cap = l then a else a.map (·.add (l * t.size))) (h - l) (cap - l)] := by
  obtain ⟨a', cap', hv, hc, hx⟩ := hr
  simp only [List.cons.injEq, Value.slice.injEq, and_true, true_and] at hv
  obtain ⟨rfl, rfl⟩ := hv
  have hlen : ((L.take h).drop l).length = h - l := by simp; omega
  have hc' : L.length ≤ cap := hc
  refine ⟨_, _, by rw [hlen], by rw [hlen]; omega, fun i x hi => ?_⟩
  have hil : i < h - l := by
    have := (List.getElem?_eq_some_iff.1 hi).1
    have h3 : i < ((L.take h).drop l).length := this
    omega
  have hne : ¬ cap = l := by omega
  have hi' : L[l + i]? = some x := by
    have : ((L.take h).drop l)[i]? = some x := hi
    rw [List.getElem?_drop, List.getElem?_take, if_pos (by omega)] at this
    exact this
  obtain ⟨ad, cs, rfl, hsp, him, hrp⟩ := hx _ _ hi'
  obtain ⟨bk, of, sp⟩ := ad
  simp only at hsp
  subst hsp
  refine ⟨⟨bk, of + l * t.size, none⟩, cs, by rw [if_neg hne]; simp [addr_add], rfl, ?_, hrp⟩
  simp only
  have e : of + l * t.size + i * t.size = of + (l + i) * t.size := by rw [Nat.add_mul]; omega
  rw [e]
  exact him

theorem run_slice_slice {t : TypeId} {x : Operand} {lo hi : Option Operand} (hρ : ∀ x, VRel C (evalO lk x) (ρ x)) (hE : EnvOK E P) {es : Nat} (hes : elemSize E t = some es) (ho : o.op = .slice t x lo hi none) {a : Option Addr} {len cap : Nat} (hv : ρ x = .slice a len cap)
    {l h : Int} (hl : loOf lk lo = some l) (hh : hiOf lk len hi = some h) (h0 : 0 ≤ l) (h1 : l ≤ h) (h2 : h ≤ (len : Int)) (hc : len ≤ cap) :
    (execOp ρ o).run P C.w = .ok (.value (.slice (if cap = l.toNat then a else a.map (·.add (l.toNat * es))) (h.toNat - l.toNat) (cap - l.toNat))) C.w := by
  obtain ⟨e, ei, hund, hinf, hsz, _⟩ := elemSize_ok hE hes
  have hb := run_bounds (P := P) (C := C) hρ hl hh h0 h1 h2 hc true C.w
  simp [execOp, ho, Instr.sliceAt, Instr.slice, run_underlyingS hund, hv, hb, run_sizeOfS hinf, hsz]

theorem goodR_slice_sl (hE : EnvOK E P) (hs : SRel C) (hρ : ∀ x, VRel C (evalO lk x) (ρ x)) {t : TypeId} {x : Operand} {lo hi : Option Operand} (ho : o.op = .slice t x lo hi none) {es : Nat} (hes : elemSize E t = some es)
    {ty : Ty} {L : List ty.den} (hr : Rep C.w C.T (.slice ty) L [ρ x]) (hse : ty.size = es) {l h : Int} (hl : loOf lk lo = some l) (hh : hiOf lk L.length hi = some h) (hb : inB l h L.length = true) :
    Good P C ρ o (.sl ty ((L.take h.toNat).drop l.toNat)) C.m := by
  obtain ⟨h0, h1, h2⟩ := inB_ok hb
  have hr' := hr
  obtain ⟨a, cap, hv, hc, _⟩ := hr
  simp only [List.cons.injEq, and_true] at hv
  have hc' : L.length ≤ cap := hc
  have hrun := run_slice_slice (P := P) (C := C) hρ hE hes ho hv hl hh h0 h1 h2 hc'
  refine Good.pure hs hrun ?_
  rw [hv] at hr'
  have := piece_rep hr' (l := l.toNat) (h := h.toNat) (by omega) (by omega)
  rw [hse] at this
  exact this

theorem goodR_slice_str (hE : EnvOK E P) (hs : SRel C) (hρ : ∀ x, VRel C (evalO lk x) (ρ x)) {t : TypeId} {x : Operand} {lo hi : Option Operand} (ho : o.op = .slice t x lo hi none) {ti : TI} (hti : E.T t = some ti) (htd : ti.td = .str)
    {s : List UInt8} (hx : evalO lk x = .str s) {l h : Int} (hl : loOf lk lo = some l) (hh : hiOf lk s.length hi = some h) (hb : inB l h s.length = true) :
    Good P C ρ o (.str ((s.take h.toNat).drop l.toNat)) C.m := by
  obtain ⟨h0, h1, h2⟩ := inB_ok hb
  obtain ⟨_, _, _, hT⟩ := hE.T hti
  have hd := td_str hT htd
  have hv := hρ x
  rw [hx] at hv
  simp only [VRel] at hv
  have hb' := run_bounds (P := P) (C := C) hρ hl hh h0 h1 h2 (Nat.le_refl _) false C.w
  have hsz : (ByteArray.mk ⟨s⟩).size = s.length := rfl
  refine Good.pure hs (v := .string ⟨⟨(s.take h.toNat).drop l.toNat⟩⟩) ?_ (by simp [VRel])
  have hex : (ByteArray.mk ⟨s⟩).extract l.toNat h.toNat = ⟨⟨(s.take h.toNat).drop l.toNat⟩⟩ := by
    apply WideShapes.bytes_inj
    simp [ByteArray.data_extract, Array.toList_extract, List.extract_eq_take_drop, List.drop_take]
  simp [execOp, ho, Instr.sliceAt, Instr.slice, run_underlyingS hT.und, hd, hv, hsz, hb', hex]

/-- own lists: what is known of one -/
theorem own_info (hs : SRel C) {b g : Nat} {v : Value} {ee : Nat} {t : Ty} {sh : Bool} {L : List t.den} (hv : VRel C (.own b g) v) (hm : C.m b = some (.list ee t g sh L)) :
    ∃ a cap, C.φ b = .list a cap ∧ v = .slice a L.length cap ∧ L.length ≤ cap ∧ 0 < t.size := by
  obtain ⟨ee2, t2, g2, sh2, L2, hm2, _, a, n, cap, rfl, hq⟩ := hv
  rw [hm] at hm2
  cases hm2
  obtain ⟨hp, rfl⟩ := hq rfl
  obtain ⟨a', cap', hgg, hz, hc, _⟩ := hs.ok b _ hm
  rw [hp] at hgg
  cases hgg
  exact ⟨a, cap, hp, rfl, hc, hz⟩

theorem goodR_slice_snap (hE : EnvOK E P) (hs : SRel C) (hρ : ∀ x, VRel C (evalO lk x) (ρ x)) {t : TypeId} {x : Operand} {lo hi : Option Operand} (ho : o.op = .slice t x lo hi none) {es : Nat} (hes : elemSize E t = some es)
    {b g : Nat} (hx : evalO lk x = .own b g) {ee : Nat} {ty : Ty} {sh : Bool} {L : List ty.den} (hm : C.m b = some (.list ee ty g sh L)) (hse : ty.size = es) {l h : Int} (hl : loOf lk lo = some l) (hh : hiOf lk L.length hi = some h) (hb : inB l h L.length = true) :
    Good P C ρ o (.sl ty ((L.take h.toNat).drop l.toNat)) (applyM C.m (shareWr C.m [b])) := by
  obtain ⟨h0, h1, h2⟩ := inB_ok hb
  have hvr := hρ x
  rw [hx] at hvr
  obtain ⟨a, cap, hp, hv, hc, hz⟩ := own_info hs hvr hm
  have hrun := run_slice_slice (P := P) (C := C) hρ hE hes ho hv hl hh h0 h1 h2 hc
  obtain ⟨C1, s1, s2, s3, s4, s5, s6, s7, s8⟩ := share_ok hs [b]
  refine ⟨_, C1, .inl (by rw [s4]; exact hrun), s3, s1, s2, ?_⟩
  have hr := own_rep hs hvr hm rfl s8 s7
  rw [hv, ← s4] at hr
  have := piece_rep hr (l := l.toNat) (h := h.toNat) (by omega) (by omega)
  rw [hse] at this
  exact this

theorem goodR_slice_cut (hE : EnvOK E P) (hs : SRel C) (hρ : ∀ x, VRel C (evalO lk x) (ρ x)) {t : TypeId} {x : Operand} {hi : Option Operand} (ho : o.op = .slice t x none hi none) {es : Nat} (hes : elemSize E t = some es)
    {b g : Nat} (hx : evalO lk x = .own b g) {ee : Nat} {ty : Ty} {L : List ty.den} (hm : C.m b = some (.list ee ty g false L)) {h : Int} (hh : hiOf lk L.length hi = some h) (hb : inB 0 h L.length = true) :
    Good P C ρ o (.own b (g + 1)) (updF C.m b (some (.list ee ty (g + 1) false (L.take h.toNat)))) := by
  obtain ⟨h0, h1, h2⟩ := inB_ok hb
  have hvr := hρ x
  rw [hx] at hvr
  obtain ⟨a, cap, hp, hv, hc, hz⟩ := own_info hs hvr hm
  have hrun := run_slice_slice (P := P) (C := C) hρ hE hes ho hv (l := 0) rfl hh h0 h1 h2 hc
  have hva : (Value.slice (if cap = (0 : Int).toNat then a else a.map (·.add ((0 : Int).toNat * es))) (h.toNat - (0 : Int).toNat) (cap - (0 : Int).toNat)) = .slice a h.toNat cap := by
    have e0 : (0 : Int).toNat = 0 := rfl
    rw [e0]
    congr 1
    split
    · rfl
    · cases a with
      | none => rfl
      | some ad => simp [Addr.add]
  rw [hva] at hrun
  obtain ⟨a', cap', hgg, _, _, hbk⟩ := hs.ok b _ hm
  rw [hp] at hgg
  cases hgg
  have hlen : (L.take h.toNat).length = h.toNat := by simp; omega
  have key := same_ok hs (id := b) (b' := .list ee ty (g + 1) false (L.take h.toNat)) (g' := C.φ b) (fun k hk => ⟨_, hm, hk⟩) (fun k o' hk => ⟨_, hm, by rw [hp] at hk ⊢; cases a with | none => exact hk.elim | some ad => simpa [ownsB] using hk⟩)
    (fun _ cs h => by rw [hm] at h; cases h) (fun _ t2 g2 sh2 L2 h => by rw [hm] at h; cases h; exact ⟨g + 1, false, _, rfl, by omega, fun e => by omega⟩)
  simp only [updF_self] at key
  obtain ⟨hEx, hok⟩ := key
  refine ⟨_, ⟨C.w, updF C.m b (some (.list ee ty (g + 1) false (L.take h.toNat))), C.φ, C.fr, C.gl⟩, .inl hrun, rfl, hok ⟨a, cap, hp, hz, by rw [hlen]; omega, ?_⟩, hEx, ?_⟩
  · cases a with
    | none => exact hbk
    | some ad =>
      obtain ⟨hsp, c, lo, hi', hh', hsz, hfz, _, hxx⟩ := hbk
      refine ⟨hsp, c, lo, hi', hh', hsz, by simpa using hfz, fun h => (by cases h), fun i y hy => ?_⟩
      have hy' : L[i]? = some y := by
        rw [List.getElem?_take] at hy
        split at hy
        · exact hy
        · cases hy
      exact (hxx i y hy').mono hEx.keep
  · exact ⟨ee, ty, g + 1, false, L.take h.toNat, by simp [updF], Nat.le_refl _, a, h.toNat, cap, rfl, fun _ => ⟨hp, hlen.symm⟩⟩

theorem goodR_slice3 (hE : EnvOK E P) (hs : SRel C) (hρ : ∀ x, VRel C (evalO lk x) (ρ x)) {t : TypeId} {x hi mx : Operand} (ho : o.op = .slice t x none (some hi) (some mx)) {es : Nat} (hes : elemSize E t = some es)
    {b g : Nat} (hx : evalO lk x = .own b g) {ee : Nat} {ty : Ty} {sh : Bool} {L : List ty.den} (hm : C.m b = some (.list ee ty g sh L)) {h : Int} (hh : intOf? (evalO lk hi) = some h) (hmx : intOf? (evalO lk mx) = some h) (hb : inB 0 h L.length = true) :
    Good P C ρ o (.sx ty (L.take h.toNat)) (applyM C.m (shareWr C.m [b])) := by
  obtain ⟨_, h0, h2⟩ := inB_ok hb
  have hvr := hρ x
  rw [hx] at hvr
  obtain ⟨a, cap, hp, hv, hc, hz⟩ := own_info hs hvr hm
  obtain ⟨e, ei, hund, hinf, hsz, _⟩ := elemSize_ok hE hes
  have e1 := intOf_ok hh (hρ hi)
  have e2 := intOf_ok hmx (hρ mx)
  have g1 := fun code => run_sliceBound (P := P) (k := .i64) (i := h) (y := cap) (code := code) h0 (by omega) C.w
  have g2 := fun code => run_sliceBound (P := P) (k := .i64) (i := h) (y := h.toNat) (code := code) h0 (by omega) C.w
  obtain ⟨C1, s1, s2, s3, s4, s5, s6, s7, s8⟩ := share_ok hs [b]
  have hlen : (L.take h.toNat).length = h.toNat := by simp; omega
  have hrun : (execOp ρ o).run P C.w = .ok (.value (.slice a h.toNat h.toNat)) C.w := by
    have haa : a.map (fun x => x.add 0) = a := by
      cases a with
      | none => rfl
      | some ad => simp [Addr.add]
    simp [execOp, ho, Instr.sliceAt, Instr.slice, run_underlyingS hund, hv, Instr.sliceBounds, e1, e2, g1, g2, run_sizeOfS hinf, hsz, haa]
  have hr := own_rep hs hvr hm rfl s8 s7
  rw [hv, ← s4] at hr
  refine ⟨_, C1, .inl (by rw [s4]; exact hrun), s3, s1, s2, a, by rw [hlen], ?_⟩
  obtain ⟨a', cap', hv', _, hxx⟩ := hr
  simp only [List.cons.injEq, Value.slice.injEq, and_true, true_and] at hv'
  obtain ⟨rfl, rfl⟩ := hv'
  refine ⟨a, h.toNat, by rw [hlen], by rw [hlen]; exact Nat.le_refl _, fun i y hy => hxx i y ?_⟩
  have hy' : (L.take h.toNat)[i]? = some y := hy
  rw [List.getElem?_take] at hy'
  split at hy'
  · exact hy'
  · cases hy'

theorem goodR_slice (hE : EnvOK E P) (hs : SRel C) (hρ : ∀ x, VRel C (evalO lk x) (ρ x)) {t : TypeId} {x : Operand} {lo hi mx : Option Operand} (ho : o.op = .slice t x lo hi mx)
    (h : (opA E lk C.m id (.slice t x lo hi mx)).run = some r) : GoodR P C ρ o r := by
  simp only [opA] at h
  split at h
  · rename_i s hx
    split at h
    · rename_i ti hti
      split at h
      · rename_i htd
        simp only [sliceA] at h
        split at h
        · rename_i l h' hl hh
          obtain ⟨hb, h⟩ := run_brT h
          rw [run_pureV h]
          exact goodR_slice_str hE hs hρ ho hti htd hx hl hh hb
        · exact (run_fail h).elim
      · exact (run_fail h).elim
    · exact (run_fail h).elim
  · rename_i v mx' hne
    split at h
    · rename_i es hes
      unfold sliceA at h
      split at h
      · rename_i m
        split at h
        · rename_i b g hi hx
          split at h
          · rename_i ty g' sh L hm
            split at h
            · rename_i hck
              simp only [Bool.and_eq_true] at hck
              have hg := beq_eq hck.1
              subst hg
              split at h
              · rename_i hh1 mm e1 e2
                obtain ⟨hb, h'⟩ := run_brT h
                clear h
                simp only [Bool.and_eq_true, beq_iff_eq] at hb
                obtain ⟨hb, rfl⟩ := hb
                rw [run_leaf h']
                exact goodR_slice3 hE hs hρ ho hes hx hm e1 e2 hb
              · exact (run_fail h).elim
            · exact (run_fail h).elim
          · exact (run_fail h).elim
        · rename_i hi hx
          split at h
          · rename_i hh1 mm e1 e2
            obtain ⟨hb, h'⟩ := run_brT h
            clear h
            simp only [Bool.and_eq_true, beq_iff_eq] at hb
            obtain ⟨rfl, rfl⟩ := hb
            rw [run_pureV h']
            obtain ⟨e, ei, hund, hinf, hsz, _⟩ := elemSize_ok hE hes
            have hv := hρ x
            rw [hx] at hv
            simp only [VRel] at hv
            have k1 := intOf_ok e1 (hρ hi)
            have k2 := intOf_ok e2 (hρ m)
            have g1 := fun code => run_sliceBound (P := P) (k := .i64) (i := 0) (y := 0) (code := code) (by omega) (by omega) C.w
            refine Good.pure hs (v := .slice none 0 0) ?_ (by simp [VRel])
            simp [execOp, ho, Instr.sliceAt, Instr.slice, run_underlyingS hund, hv, Instr.sliceBounds, k1, k2, g1, run_sizeOfS hinf, hsz]
          · exact (run_fail h).elim
        · exact (run_fail h).elim
      · split at h
        · rename_i s hx
          exact (hne s hx rfl).elim
        · rename_i b g hx
          split at h
          · rename_i ty g' sh L hm
            split at h
            · rename_i l h' hck hl hh
              simp only [Bool.and_eq_true] at hck
              have hg := beq_eq hck.1
              subst hg
              split at h
              · rename_i hsh hlo
                obtain ⟨hb, h⟩ := run_brT h
                rw [run_leaf h]
                exact goodR_slice_cut hE hs hρ ho hes hx hm hh hb
              · obtain ⟨hb, h⟩ := run_brT h
                rw [run_leaf h]
                exact goodR_slice_snap hE hs hρ ho hes hx hm (beq_eq hck.2) hl hh hb
            · exact (run_fail h).elim
          · exact (run_fail h).elim
        · rename_i ty L hx
          split at h
          · rename_i l h' hse hl hh
            obtain ⟨hb, h⟩ := run_brT h
            rw [run_pureV h]
            have hr := hρ x
            rw [hx] at hr
            exact goodR_slice_sl hE hs hρ ho hes hr (beq_eq hse) hl hh hb
          · exact (run_fail h).elim
        · rename_i ty L hx
          split at h
          · rename_i l h' hse hl hh
            obtain ⟨hb, h⟩ := run_brT h
            rw [run_pureV h]
            have hr := hρ x
            rw [hx] at hr
            obtain ⟨_, _, hr⟩ := hr
            exact goodR_slice_sl hE hs hρ ho hes hr (beq_eq hse) hl hh hb
          · exact (run_fail h).elim
        · exact (run_fail h).elim
    · exact (run_fail h).elim

end
end Go.Sx
