/- A part of the proof: see the row's text. -/
import Derived.Calls
import Derived.Below
import Derived.Laws.Cells
import Derived.Laws.Entries
import Derived.Lib.FrozenHead
import Derived.ChangeKeysEq
set_option linter.unusedVariables false
set_option linter.unusedSimpArgs false
noncomputable section
namespace Go.Sx
open Go
inductive Ty where
 |unit|bool|int (k:IntKind)|flt (k:FloatKind)|str
 |pair (a b:Ty)
 |slice (e:Ty)
 |ptr (e:Ty)
 deriving DecidableEq
def Ty.den:Ty→Type
 | .unit=>Unit
 | .bool=>Bool
 | .int _=>Int
 | .flt _=>Nat
 | .str=>List UInt8
 | .pair a b=>a.den×b.den
 | .slice e=>List e.den
 | .ptr e=>Option e.den
def Ty.dflt:(t:Ty)→t.den
 | .unit=>()
 | .bool=>false
 | .int _=>(0:Int)
 | .flt _=>(0:Nat)
 | .str=>([]:List UInt8)
 | .pair a b=>(a.dflt,b.dflt)
 | .slice e=>([]:List e.den)
 | .ptr e=>(none:Option e.den)
def Ty.size:Ty→Nat
 | .unit=>0
 | .pair a b=>a.size+b.size
 |_=>1
inductive AV where
 |undef
 |bool (b:Bool)
 |int (k:IntKind) (n:Int)
 |flt (k:FloatKind) (bits:Nat)
 |str (s:List UInt8)
 |nilp
 |nils
 |ref (b off:Nat)
 |bself (b:Nat)
 |anyp
 |pd (t:Ty) (x:t.den) (off:Nat)
 |sl (t:Ty) (L:List t.den)
 |sx (t:Ty) (L:List t.den)
 |own (b g:Nat)
 |el (b g i off:Nat)
 |fn (f:Nat) (cap:List AV)
 |nilf
 |iface (t:Nat) (v:AV)
 |nili
 |agg (cs:List AV)
 |tup (vs:List AV)
def AV.cells:AV→List AV
 | .agg cs=>cs
 |v=>[v]
def AV.leaf:AV→Bool
 | .undef| .agg _| .tup _=>false
 |_=>true
def flat:(t:Ty)→t.den→List AV
 | .unit,_=>[]
 | .bool,b=>[.bool b]
 | .int k,n=>[.int k n]
 | .flt k,n=>[.flt k n]
 | .str,s=>[.str s]
 | .pair a b,x=>flat a x.1++flat b x.2
 | .slice e,L=>[.sl e L]
 | .ptr _,none=>[.nilp]
 | .ptr e,some x=>[.pd e x 0]
inductive Blk where
 |cells (ty:Nat) (cs:List AV)
 |list (ee:Nat) (t:Ty) (g:Nat) (sh:Bool) (L:List t.den)
abbrev gU:=List (Nat×Blk)
abbrev Get:=Nat→Option Blk
abbrev Wr:=List (Nat×Blk)
def aC:gU→Get
 |[],_=>none
 |(i,b)::r,j=>match Nat.beq i j with
  |true=>some b
  |false=>aC r j
inductive DT(α:Type)where
 |leaf (a:α)|fail|br (b:Bool) (t e:DT α)
def DT.run{α:Type}:DT α→Option α
 | .leaf a=>some a
 | .fail=>none
 | .br b t e=>match b with
  |true=>t.run
  |false=>e.run
inductive Rs(α:Type)where
 |ok (a:α)|err (why:Nat)
def DT.bindK{α R:Type}(pos:Nat):DT α→(α→Rs R)→Rs R
 | .leaf a,k=>k a
 | .fail,_=>.err pos
 | .br b t e,k=>match b with
  |true=>t.bindK pos k
  |false=>e.bindK pos k
universe u
def nth{α:Type u}:List α→Nat→Option α
 |[],_=>none
 |a::_,0=>some a
 |_::r,n+1=>nth r n
def xD(t t':Ty)(x:t.den):Option t'.den:=
 if h:t=t' then some (h▸x)else none
def dc(t t':Ty)(x:List t.den):Option (List t'.den):=
 if h:t=t' then some (h▸x)else none
def aV(get:Get):(t:Ty)→List AV→Option (t.den×List AV×List Nat)
 | .unit,cs=>some ((),cs,[])
 | .bool,cs=>match cs with
  | .bool b::r=>some (b,r,[])
  |_=>none
 | .int k,cs=>match cs with
  | .int k' n::r=>if k=k' then some (n,r,[])else none
  |_=>none
 | .flt k,cs=>match cs with
  | .flt k' n::r=>if k=k' then some (n,r,[])else none
  |_=>none
 | .str,cs=>match cs with
  | .str s::r=>some (s,r,[])
  |_=>none
 | .pair a b,cs=>match aV get a cs with
  |some (x,r,m)=>match aV get b r with
   |some (y,r',m')=>some ((x,y),r',m++m')
   |none=>none
  |none=>none
 | .slice e,cs=>match cs with
  | .sl e' L::r=>(match dc e' e L with|some L'=>some (L',r,[])|none=>none)
  | .sx e' L::r=>(match dc e' e L with|some L'=>some (L',r,[])|none=>none)
  | .own b g::r=>(match get b with
   |some (.list _ e' g' _ L)=>match Nat.beq g g' with
    |true=>(match dc e' e L with|some L'=>some (L',r,[b])|none=>none)
    |false=>none
   |_=>none)
  | .nils::r=>some (([]:List e.den),r,[])
  |_=>none
 | .ptr e,cs=>match cs with
  | .nilp::r=>some ((none:Option e.den),r,[])
  | .pd e' x 0::r=>(match xD e' e x with|some x'=>some (some x',r,[])|none=>none)
  |_=>none
def bw(get:Get)(m:List Nat):Wr:=
 m.filterMap fun b=>match get b with
  |some (.list ee t g _ L)=>some (b,.list ee t g true L)
  |_=>none
structure Fld where
 off:Nat
 size:Nat
 agg:Bool
 t:Nat
 blank:Bool
inductive TD where
 |scalar|int (k:IntKind)|str|ptr (e:Nat)|slice (e:Nat)|array (n e:Nat)|struct (fs:List Fld)|iface|other
structure TI where
 size:Nat
 bytes:Nat
 zero:List AV
 agg:Bool
 eqOk:Bool
 ty:Option Ty
 td:TD
structure FI where
 code:Code
 ntmps:Nat
 results:List ResultVar
abbrev kf:=List (Nat×AV)
abbrev bc:=Nat→AV
def look:kf→bc
 |[],_=>.undef
 |(i,v)::r,j=>match Nat.beq i j with
  |true=>v
  |false=>look r j
structure St where
 tmps:kf
 blks:gU
 next:Nat
inductive Out where
 |ret (v:AV)|panic (v:AV)
abbrev Callee:=(R:Type)→Nat→List AV→List Blk→((Out×List Blk)→Rs R)→Rs R
abbrev aQ:=(R:Type)→List AV→List Blk→((Out×List Blk)→Rs R)→Rs R
structure Env where
 ti:List (Option TI)
 fi:List (Option FI)
 intr:List (Option aQ)
def Env.T(E:Env)(t:Nat):Option TI:=
 match nth E.ti t with
 |some x=>x
 |none=>none
structure OpR where
 v:AV
 wr:Wr
 rd:List Nat
def bD(v:AV):DT OpR:=.leaf ⟨v,[],[]⟩
def ofO:Option AV→DT OpR
 |some v=>bD v
 |none=>.fail
def gq:Value→AV
 | .bool b=>.bool b
 | .int k n=>.int k n
 | .float k b=>.flt k b
 | .string s=>.str s.data.toList
 | .pointer none=>.nilp
 | .slice none 0 0=>.nils
 | .nilFunc=>.nilf
 | .nilIface=>.nili
 |_=>.undef
def al(lk:bc):Operand→AV
 | .tmp t=>lk t
 | .const v=>gq v
 | .global _=>.undef
 | .func f=>.fn f []
def seg{α:Type}(l:List α)(off n:Nat):List α:=(l.drop off).take n
def gZ(l:List AV)(off:Nat)(vs:List AV):List AV:=l.take off++(vs++l.drop (off+vs.length))
def mJ(agg:Bool)(cs:List AV):Option AV:=
 match agg with
 |true=>some (.agg cs)
 |false=>match cs with
  |[v]=>some v
  |_=>none
inductive SL where
 |mk (t:Ty) (L:List t.den) (b:List Nat)
def dd(get:Get):AV→Option SL
 | .sl t L=>some (.mk t L [])
 | .sx t L=>some (.mk t L [])
 | .own b g=>match get b with
  |some (.list _ t g' _ L)=>match Nat.beq g g' with
   |true=>some (.mk t L [b])
   |false=>none
  |_=>none
 |_=>none
def eA(get:Get)(n:Nat):AV→Option (List AV×List Nat)
 | .ref b off=>match get b with
  |some (.cells _ cs)=>some (seg cs off n,[b])
  |_=>none
 | .pd t x off=>some (seg (flat t x) off n,[])
 | .el b g i off=>match get b with
  |some (.list _ t g' _ L)=>match Nat.beq g g' with
   |true=>some (seg (flat t (L.getD i t.dflt)) off n,[b])
   |false=>none
  |_=>none
 |_=>none
def C7:AV→Nat→Option AV
 | .ref b o,n=>some (.ref b (o+n))
 | .pd t x o,n=>some (.pd t x (o+n))
 | .el b g i o,n=>some (.el b g i (o+n))
 |_,_=>none
def gO(td:TD)(a b:AV):Option Bool:=
 match td with
 | .scalar=>match a,b with
  | .bool a,.bool b=>some (a==b)
  |_,_=>none
 | .int _=>match a,b with
  | .int k a,.int k' b=>if k=k' then some (a==b)else none
  |_,_=>none
 | .str=>match a,b with
  | .str a,.str b=>some (a==b)
  |_,_=>none
 | .ptr _=>match a,b with
  | .nilp,.nilp=>some true
  | .nilp,.ref _ _=>some false
  | .nilp,.pd _ _ _=>some false
  | .ref _ _,.nilp=>some false
  | .pd _ _ _,.nilp=>some false
  |_,_=>none
 | .slice _=>match a,b with
  | .nils,.nils=>some true
  | .sl _ (_::_),.nils=>some false
  |_,_=>none
 |_=>none
mutual
def eqT(E:Env):Nat→Nat→List AV→List AV→Option Bool
 |0,_,_,_=>none
 |n+1,t,xs,ys=>match E.T t with
  |none=>none
  |some ti=>match ti.td with
   | .struct fs=>(match ti.eqOk with
    |true=>zY E n fs xs ys
    |false=>none)
   |td=>match xs with
    |[x]=>(match ys with
     |[y]=>gO td x y
     |_=>none)
    |_=>none
def zY(E:Env):Nat→List Fld→List AV→List AV→Option Bool
 |_,[],_,_=>some true
 |0,_::_,_,_=>none
 |n+1,f::fs,xs,ys=>match f.blank with
  |true=>none
  |false=>match eqT E n f.t (seg xs f.off f.size) (seg ys f.off f.size)with
   |none=>none
   |some a=>match fs with
    |[]=>some a
    |fs=>match zY E n fs xs ys with
     |none=>none
     |some b=>some (a&&b)
end
def eqA(E:Env)(t:Nat)(x y:AV):Option Bool:=
 match E.T t with
 |none=>none
 |some ti=>match x with
  | .agg a=>match y with
   | .agg b=>(match ti.agg with
    |true=>eqT E 60 t a b
    |false=>none)
   |_=>none
  |x=>match y with
   | .agg _=>none
   |y=>(match ti.agg with
    |true=>none
    |false=>eqT E 60 t [x] [y])
def wM(op:BinOp)(k:IntKind)(a b:Int):DT OpR:=
 match op with
 | .add=>bD (.int k (k.wrap (a+b)))
 | .sub=>bD (.int k (k.wrap (a-b)))
 | .mul=>bD (.int k (k.wrap (a*b)))
 | .quo=>.br (b==0) .fail (bD (.int k (k.wrap (a.tdiv b))))
 | .rem=>.br (b==0) .fail (bD (.int k (a.tmod b)))
 | .eql=>bD (.bool (a==b))
 | .neq=>bD (.bool (a !=b))
 | .lss=>bD (.bool (decide (a<b)))
 | .leq=>bD (.bool (decide (a≤b)))
 | .gtr=>bD (.bool (decide (a>b)))
 | .geq=>bD (.bool (decide (a≥b)))
 |_=>.fail
def wg(op:BinOp)(a b:List UInt8):DT OpR:=
 match op with
 | .add=>.br (decide (a.length+b.length<2^62)) (bD (.str (a++b))) .fail
 | .eql=>bD (.bool (a==b))
 | .neq=>bD (.bool (!(a==b)))
 |_=>.fail
def sL(E:Env)(t:Nat)(op:BinOp)(x y:AV):DT OpR:=
 match x,y with
 | .int k a,.int k' b=>if k=k' then wM op k a b else .fail
 | .str a,.str b=>wg op a b
 |x,y=>match op with
  | .eql=>ofO ((eqA E t x y).map .bool)
  | .neq=>ofO ((eqA E t x y).map fun b=>.bool (!b))
  |_=>.fail
def rN:Operand→Bool
 | .const .nilIface=>true
 |_=>false
def w7(E:Env)(t:Nat)(op:BinOp)(x y:AV):DT OpR:=
 match E.T t with
 |some ti=>(match ti.td with
  | .iface=>(match op,x with
   | .eql,.nili=>bD (.bool true)
   | .neq,.nili=>bD (.bool false)
   | .eql,.iface _ _=>bD (.bool false)
   | .neq,.iface _ _=>bD (.bool true)
   |_,_=>.fail)
  |_=>sL E t op x y)
 |none=>.fail
def cj(lk:bc):Nat→List Fld→List (Nat×Operand)→List AV→Option (List AV)
 |_,[],[],_=>some []
 |_,[],_::_,_=>none
 |i,f::fs,[],z=>match cj lk (i+1) fs [] (z.drop f.size)with
  |some r=>some (z.take f.size++r)
  |none=>none
 |i,f::fs,(j,x)::ps,z=>match Nat.beq i j with
  |true=>
   let vs:=(al lk x).cells
   match Nat.beq vs.length f.size&&vs.all AV.leaf with
   |true=>(match cj lk (i+1) fs ps (z.drop f.size)with
    |some r=>some (vs++r)
    |none=>none)
   |false=>none
  |false=>match cj lk (i+1) fs ((j,x)::ps) (z.drop f.size)with
   |some r=>some (z.take f.size++r)
   |none=>none
def jL(lk:bc)(fs:List Fld):List (Nat×Operand)→List AV→Option (List AV)
 |[],z=>some z
 |(j,x)::ps,z=>match nth fs j with
  |none=>none
  |some f=>
   let vs:=(al lk x).cells
   match Nat.beq vs.length f.size&&(vs.all AV.leaf&&Nat.ble (f.off+f.size) z.length)with
   |true=>jL lk fs ps (z.take f.off++vs++z.drop (f.off+f.size))
   |false=>none
def sR(lk:bc)(fs:List Fld)(ps:List (Nat×Operand))(z:List AV):Option (List AV):=
 match cj lk 0 fs ps z with
 |some r=>some r
 |none=>jL lk fs ps z
def fK:Nat→List Fld→Nat→Bool
 |i,[],n=>Nat.beq i n
 |i,f::fs,n=>match Nat.beq f.off i with
  |true=>fK (i+f.size) fs n
  |false=>false
def fC(n:Nat)(te:TI):List Fld:=(List.range n).map fun i=>⟨i*te.size,te.size,te.agg,0,false⟩
def intOf? :AV→Option Int
 | .int .i64 n=>some n
 |_=>none
def ar:Nat:=2^36
def inR(n:Int):Bool:=decide (0≤n)&&decide (n.toNat<ar)
def bn(get:Get)(t:Ty):Nat→List AV→Option (List t.den×List Nat)
 |0,[]=>some ([],[])
 |0,_::_=>none
 |n+1,cs=>match aV get t cs with
  |some (x,r,m)=>match bn get t n r with
   |some (l,m')=>some (x::l,m++m')
   |none=>none
  |none=>none
def dC(get:Get)(id:Nat)(et es by_:Nat)(s:AV)(t:Ty)(X:List t.den)(m:List Nat):DT OpR:=
 match Nat.beq t.size es&&(Nat.ble 1 es&&Nat.ble by_ 1024)with
 |false=>.fail
 |true=>match s with
 | .nils=>.br (decide (X.length<ar)) (.leaf ⟨.own id 0,(id,.list et t 0 false X)::[],m⟩) .fail
 | .own b g=>match get b with
  |some (.list ee t' g' sh L)=>match Nat.beq g g'&&Nat.beq ee et with
   |true=>(match dc t t' X with
    |some X'=>.br (decide (L.length+X.length<ar)) (.leaf ⟨.own b (g+1),[(b,.list ee t' (g+1) sh (L++X'))],b::m⟩) .fail
    |none=>.fail)
   |false=>.fail
  |_=>.fail
 | .sx t' L=>match dc t t' X with
  |some X'=>.br (decide (0<X.length)&&decide (L.length+X.length<ar)) (.leaf ⟨.own id 0,[(id,.list et t' 0 false (L++X'))],m⟩) .fail
  |none=>.fail
 |_=>.fail
def kJ(get:Get)(id:Nat)(et es by_:Nat)(s x:AV):DT OpR:=
 match x with
 | .nils=>(match s with| .nils=>bD .nils|_=>.fail)
 | .str c=>dC get id et es by_ s (.int .u8) (c.map fun b=>(b.toNat:Int)) []
 |x=>match dd get x with
  |some (.mk t X m)=>dC get id et es by_ s t X m
  |none=>.fail
def kj(lk:bc)(n:Nat):Option Operand→Option Int
 |some a=>intOf? (al lk a)
 |none=>some (n:Int)
def jz(lk:bc):Option Operand→Option Int
 |some a=>intOf? (al lk a)
 |none=>some 0
def inB(l h:Int)(n:Nat):Bool:=decide (0≤l)&&(decide (l≤h)&&decide (h≤(n:Int)))
def inI(i:Int)(n:Nat):Bool:=decide (0≤i)&&decide (i<(n:Int))
def fL(get:Get)(lk:bc)(es:Nat)(x:AV)(lo hi mx:Option Operand):DT OpR:=
 match mx with
 |some m=>match x,hi,lo with
  | .own b g,some h,none=>match get b with
   |some (.list _ t g' _ L)=>match Nat.beq g g'&&Nat.beq t.size es with
    |true=>(match intOf? (al lk h),intOf? (al lk m)with
     |some h,some m=>.br (inB 0 h L.length&&(h==m)) (.leaf ⟨.sx t (L.take h.toNat),bw get [b],[b]⟩) .fail
     |_,_=>.fail)
    |false=>.fail
   |_=>.fail
  | .nils,some h,none=>match intOf? (al lk h),intOf? (al lk m)with
   |some h,some m=>.br ((h==0)&&(m==0)) (bD .nils) .fail
   |_,_=>.fail
  |_,_,_=>.fail
 |none=>match x with
  | .str s=>match jz lk lo,kj lk s.length hi with
   |some l,some h=>.br (inB l h s.length) (bD (.str ((s.take h.toNat).drop l.toNat))) .fail
   |_,_=>.fail
  | .own b g=>match get b with
   |some (.list ee t g' sh L)=>match Nat.beq g g'&&Nat.beq t.size es,jz lk lo,kj lk L.length hi with
    |true,some l,some h=>(match sh,lo with
     |false,none=>.br (inB 0 h L.length) (.leaf ⟨.own b (g+1),[(b,.list ee t (g+1) false (L.take h.toNat))],[b]⟩) .fail
     |_,_=>.br (inB l h L.length) (.leaf ⟨.sl t ((L.take h.toNat).drop l.toNat),bw get [b],[b]⟩) .fail)
    |_,_,_=>.fail
   |_=>.fail
  | .sl t L=>match Nat.beq t.size es,jz lk lo,kj lk L.length hi with
   |true,some l,some h=>.br (inB l h L.length) (bD (.sl t ((L.take h.toNat).drop l.toNat))) .fail
   |_,_,_=>.fail
  | .sx t L=>match Nat.beq t.size es,jz lk lo,kj lk L.length hi with
   |true,some l,some h=>.br (inB l h L.length) (bD (.sl t ((L.take h.toNat).drop l.toNat))) .fail
   |_,_,_=>.fail
  |_=>.fail
def dB(E:Env)(t:Nat):Option Nat:=
 match E.T t with
 |some ti=>match ti.td with
  | .slice e=>match E.T e with
   |some te=>some te.size
   |none=>none
  |_=>none
 |none=>none
def eJ(get:Get)(es:Nat)(x i:AV):DT OpR:=
 match i with
 | .int _ n=>match x with
  | .sl t L=>match Nat.beq t.size es with
   |true=>.br (inI n L.length) (bD (.pd t (L.getD n.toNat t.dflt) 0)) .fail
   |false=>.fail
  | .sx t L=>match Nat.beq t.size es with
   |true=>.br (inI n L.length) (bD (.pd t (L.getD n.toNat t.dflt) 0)) .fail
   |false=>.fail
  | .own b g=>match get b with
   |some (.list _ t g' _ L)=>match Nat.beq g g'&&Nat.beq t.size es with
    |true=>.br (inI n L.length) (.leaf ⟨.el b g n.toNat 0,[],[b]⟩) .fail
    |false=>.fail
   |_=>.fail
  |_=>.fail
 |_=>.fail
def CZ(E:Env)(t:Nat)(x i:AV):DT OpR:=
 match i with
 | .int _ n=>match x with
  | .str s=>match E.T t with
   |some ti=>match ti.td with
    | .str=>.br (inI n s.length) (bD (.int .u8 (s.getD n.toNat 0).toNat)) .fail
    |_=>.fail
   |none=>.fail
  | .agg cs=>match E.T t with
   |some ti=>match ti.td with
    | .array len e=>match E.T e with
     |some te=>match te.ty with
      |some ty=>match Nat.beq ty.size te.size,bn (fun _=>none) ty len cs with
       |true,some (L,_)=>.br (inI n len) (ofO (mJ te.agg (flat ty (L.getD n.toNat ty.dflt)))) .fail
       |_,_=>.fail
      |none=>.fail
     |none=>.fail
    |_=>.fail
   |none=>.fail
  |_=>.fail
 |_=>.fail
def oL(get:Get)(a x:AV):Option OpR:=
 match x.cells.all AV.leaf with
 |false=>none
 |true=>match a with
  | .ref b off=>match get b with
   |some (.cells ty cs)=>match Nat.ble (off+x.cells.length) cs.length with
    |true=>some ⟨.tup [],[(b,.cells ty (gZ cs off x.cells))],[b]⟩
    |false=>none
   |_=>none
  | .el b g i off=>match get b with
   |some (.list ee t g' false L)=>match Nat.beq g g'&&Nat.ble (off+x.cells.length) t.size with
    |true=>(match aV get t (gZ (flat t (L.getD i t.dflt)) off x.cells)with
     |some (y,[],m)=>(match m.any (Nat.beq b)with
      |true=>none
      |false=>some ⟨.tup [],(b,.list ee t g' false (L.set i y))::bw get m,b::m⟩)
     |_=>none)
    |false=>none
   |_=>none
  |_=>none
def opA(E:Env)(lk:bc)(get:Get)(id:Nat)(o:Op):DT OpR:=
 match o with
 | .move x=>bD (al lk x)
 | .assign x=>bD (al lk x)
 | .pick c a b=>match al lk c with
  | .bool c=>match al lk a,al lk b with
   | .bool a,.bool b=>bD (.bool (cond c a b))
   |a,b=>.br c (bD a) (bD b)
  |_=>.fail
 | .alloc t=>match E.T t with
  |some ti=>match ti.zero.all AV.leaf with
   |true=>.leaf ⟨.ref id 0,[(id,.cells t ti.zero)],[]⟩
   |false=>.fail
  |none=>.fail
 | .box t x=>match(al lk x).cells.all AV.leaf with
  |true=>.leaf ⟨.ref id 0,[(id,.cells t (al lk x).cells)],[]⟩
  |false=>.fail
 | .build t ps=>match E.T t with
  |some ti=>match ti.td with
   | .struct fs=>match fK 0 fs ti.zero.length with
    |true=>ofO ((sR lk fs ps.toList ti.zero).map .agg)
    |false=>.fail
   | .array n e=>match E.T e with
    |some te=>match fK 0 (fC n te) ti.zero.length with
     |true=>ofO ((cj lk 0 (fC n te) ps.toList ti.zero).map .agg)
     |false=>.fail
    |none=>.fail
   |_=>.fail
  |none=>.fail
 | .buildSlice t len ps=>match E.T t with
  |some ti=>match ti.td with
   | .slice e=>match E.T e with
    |some te=>match te.ty with
     |some ty=>match Nat.beq ty.size te.size&&(Nat.ble 1 te.size&&(Nat.ble (len*te.size) 4096&&Nat.beq te.zero.length te.size)),cj lk 0 (fC len te) ps.toList ((List.replicate len te.zero).flatten)with
      |true,some cs=>match bn get ty len cs with
       |some (L,m)=>.leaf ⟨.own id 0,(id,.list e ty 0 false L)::bw get m,m⟩
       |none=>.fail
      |_,_=>.fail
     |none=>.fail
    |none=>.fail
   |_=>.fail
  |none=>.fail
 | .load t a=>match E.T t with
  |some ti=>match eA get ti.size (al lk a)with
   |some (cs,rd)=>match Nat.beq cs.length ti.size with
    |true=>(match mJ ti.agg cs with|some v=>.leaf ⟨v,[],rd⟩|none=>.fail)
    |false=>.fail
   |none=>.fail
  |none=>.fail
 | .store t a x=>match E.T t with
  |some ti=>match Nat.beq (al lk x).cells.length ti.size with
   |true=>match oL get (al lk a) (al lk x)with|some r=>.leaf r|none=>.fail
   |false=>.fail
  |none=>.fail
 | .nilCheck x=>match al lk x with
  | .ref b off=>bD (.ref b off)
  | .pd t y off=>bD (.pd t y off)
  | .el b g i off=>bD (.el b g i off)
  | .fn f c=>bD (.fn f c)
  |_=>.fail
 | .binOp op t x y _=>match rN y with
  |true=>w7 E t op (al lk x) (al lk y)
  |false=>sL E t op (al lk x) (al lk y)
 | .unOp op _ x=>match op,al lk x with
  | .not,.bool b=>bD (.bool (!b))
  | .neg,.int k n=>bD (.int k (k.wrap (0-n)))
  |_,_=>.fail
 | .convert s d x=>match E.T s,E.T d with
  |some si,some ti=>(match si.td,ti.td,al lk x with
   | .int _,.int k,.int _ n=>bD (.int k (k.wrap n))
   | .str,.str,.str s=>bD (.str s)
   |_,_,_=>.fail)
  |_,_=>.fail
 | .makeInterface t x=>match E.T t with
  |some ti=>match ti.td with
   | .other=>.fail
   | .iface=>.fail
   |_=>bD (.iface t (al lk x))
  |none=>.fail
 | .makeSlice t l c=>match E.T t,al lk l,al lk c with
  |some ti,.int .i64 n,.int .i64 n'=>(match ti.td with
   | .slice e=>match E.T e with
    |some te=>match te.ty with
     |some ty=>match Nat.beq ty.size te.size&&(Nat.ble 1 te.size&&(Nat.ble te.bytes 2048&&Nat.beq te.zero.length te.size)),aV (fun _=>none) ty te.zero with
      |true,some (x0,[],_)=>.br (inR n&&(n==n')) (.leaf ⟨.own id 0,[(id,.list e ty 0 false (List.replicate n.toNat x0))],[]⟩) .fail
      |_,_=>.fail
     |none=>.fail
    |none=>.fail
   |_=>.fail)
  |_,_,_=>.fail
 | .fieldAddr t a f=>match E.T t with
  |some ti=>match ti.td with
   | .struct fs=>match nth fs f with
    |some fl=>match fl.size with
     |0=>.fail
     |_+1=>ofO (C7 (al lk a) fl.off)
    |none=>.fail
   |_=>.fail
  |none=>.fail
 | .field t x f=>match E.T t,al lk x with
  |some ti,.agg cs=>(match ti.td with
   | .struct fs=>match nth fs f with
    |some fl=>match E.T fl.t with
     |some _=>ofO (mJ fl.agg (seg cs fl.off fl.size))
     |none=>.fail
    |none=>.fail
   |_=>.fail)
  |_,_=>.fail
 | .indexAddr t x i=>match dB E t with
  |some es=>eJ get es (al lk x) (al lk i)
  |none=>.fail
 | .index t x i=>CZ E t (al lk x) (al lk i)
 | .slice t x lo hi mx=>match al lk x,mx with
  | .str s,none=>(match E.T t with
   |some ti=>match ti.td with
    | .str=>fL get lk 0 (.str s) lo hi none
    |_=>.fail
   |none=>.fail)
  |v,mx=>match dB E t with
   |some es=>fL get lk es v lo hi mx
   |none=>.fail
 | .extract x i=>match al lk x with
  | .tup vs=>ofO (nth vs i)
  |_=>.fail
 | .call {callee:=.builtin .len,args:=as,argTypes:=ts}=>match as.toList with
  |[a]=>match ts.toList with
   |[t]=>match E.T t with
    |some ti=>match ti.td with
     | .str=>(match al lk a with
      | .str s=>bD (.int .i64 s.length)
      |_=>.fail)
     | .slice _=>(match al lk a with
      | .nils=>bD (.int .i64 0)
      |v=>match dd get v with
       |some (.mk _ L m)=>.leaf ⟨.int .i64 L.length,[],m⟩
       |none=>.fail)
     |_=>.fail
    |none=>.fail
   |_=>.fail
  |_=>.fail
 | .call {callee:=.builtin .append,args:=as,argTypes:=ts}=>match as.toList with
  |[s,x]=>match ts.toList with
   |[t,t']=>match E.T t,E.T t' with
    |some ti,some ti'=>(match ti'.td with
     | .int _=>.fail
     |_=>match ti.td with
      | .slice e=>match E.T e with
       |some te=>match Nat.beq te.zero.length te.size with
        |true=>kJ get id e te.size te.bytes (al lk s) (al lk x)
        |false=>.fail
       |none=>.fail
      |_=>.fail)
    |_,_=>.fail
   |_=>.fail
  |_=>.fail
 | .call {callee:=.builtin .max,args:=as,.. }=>match as.toList with
  |[a,b]=>match al lk a,al lk b with
   | .int k x,.int k' y=>if k=k' then bD (.int k (bif decide (x<y)then y else x))else .fail
   |_,_=>.fail
  |_=>.fail
 |_=>.fail
def refA:AV→List Nat
 | .ref b _=>[b]
 | .bself b=>[b]
 | .own b _=>[b]
 | .el b _ _ _=>[b]
 |_=>[]
def ep(l:List AV):List Nat:=l.flatMap refA
def gS:AV→List Nat
 | .agg cs=>ep cs
 | .tup vs=>vs.flatMap fun v=>ep v.cells
 |v=>refA v
def wT:AV→Bool
 | .fn _ _| .iface _ _| .undef| .agg _| .tup _| .ref _ _| .bself _| .own _ _| .el _ _ _ _=>false
 |_=>true
def bZ:AV→Bool
 | .fn _ c=>c.isEmpty
 | .iface _ v=>v.cells.all wT
 | .agg _=>false
 | .tup _=>false
 |_=>true
def bz:AV→Bool
 | .agg cs=>cs.all bZ
 | .tup vs=>vs.all fun v=>v.cells.all bZ
 |v=>bZ v
def kW:Option Blk→List Nat
 |some (.cells _ cs)=>ep cs
 |_=>[]
def reach(get:Get):Nat→List Nat→List Nat→Option (List Nat)
 |_,[],acc=>some acc
 |0,_::_,_=>none
 |n+1,b::todo,acc=>match acc.any (Nat.beq b)with
  |true=>reach get n todo acc
  |false=>reach get n (todo++kW (get b)) (acc++[b])
def posOf:List Nat→Nat→Nat
 |[],_=>0
 |a::r,b=>match Nat.beq a b with
  |true=>0
  |false=>posOf r b+1
def kg(m:Nat→Nat):AV→AV
 | .ref b o=>.ref (m b) o
 | .bself b=>.bself (m b)
 | .own b g=>.own (m b) g
 | .el b g i o=>.el (m b) g i o
 |v=>v
def vd(m:Nat→Nat):AV→AV
 | .agg cs=>.agg (cs.map (kg m))
 |v=>kg m v
def il(m:Nat→Nat):AV→AV
 | .tup vs=>.tup (vs.map (vd m))
 |v=>vd m v
def cf(m:Nat→Nat):Blk→Blk
 | .cells ty cs=>.cells ty (cs.map (kg m))
 |b=>b
def getAll(get:Get):List Nat→Option (List Blk)
 |[]=>some []
 |b::r=>match get b,getAll get r with
  |some x,some l=>some (x::l)
  |_,_=>none
def de(ids:List Nat)(base:Nat)(i:Nat):Nat:=(nth ids i).getD (base+(i-ids.length))
def cL(m:Nat→Nat):Nat→List Blk→Wr
 |_,[]=>[]
 |i,b::r=>(m i,cf m b)::cL m (i+1) r
def bH:Blk→Bool
 | .cells _ cs=>cs.all bZ
 |_=>true
def eZ{R:Type}(K:Callee)(f:Nat)(args:List AV)(get:Get)(base:Nat)(k:Out→Wr→List Nat→Rs R):Rs R:=
 match reach get 200 (args.flatMap gS) []with
 |none=>.err 1
 |some ids=>match getAll get ids with
  |none=>.err 2
  |some l=>match args.all bz&&l.all bH with
   |false=>.err 3
   |true=>K R f (args.map (il (posOf ids))) (l.map (cf (posOf ids))) fun o=>match o with
    |(.ret v,l')=>(match Nat.ble l'.length (ids.length+16)with
     |true=>k (.ret (il (de ids base) v)) (cL (de ids base) 0 l') ids
     |false=>.err 4)
    |(.panic v,_)=>k (.panic v) [] ids
inductive Ex where
 |normal|exit (id:Nat)|ret|panic (v:AV)
def ct:gU→Wr→gU
 |bs,[]=>bs
 |bs,(i,b)::r=>ct ((i,b)::bs) r
def iz(tm:kf)(d:Option Tmp)(v:AV):kf:=
 match d with
 |some d=>(d,v)::tm
 |none=>tm
def below(wr:Wr)(n:Nat):Bool:=wr.all fun p=>Nat.blt p.1 n
section
variable(E:Env)(K:Callee){R:Type}
def eo(lk:bc)(get:Get)(id:Nat)(o:Oper)(e:Nat)(kn:AV→Wr→List Nat→Rs R)(kp:AV→Rs R):Rs R:=
 match o.op with
 | .call {callee:=.value f,args:=as,.. }=>match al lk f with
  | .fn f cap=>eZ K f (as.toList.map (al lk)++cap) get id fun out wr rd=>match out with
   | .ret v=>(match below wr (id+16)with
    |true=>kn v wr rd
    |false=>.err e)
   | .panic v=>kp v
  |_=>.err e
 | .panic x=>match al lk x with
  | .iface t v=>(match bz (.iface t v)with
   |true=>kp (.iface t v)
   |false=>.err e)
  |_=>.err e
 |op=>(opA E lk get id op).bindK e fun r=>match below r.wr (id+16)with
  |true=>kn r.v r.wr r.rd
  |false=>.err e
def jX(all:List Oper)(j:Nat):Option Tmp:=(nth all j).bind (·.dst)
def dn(rid:Nat)(all:List Oper):List Oper→Nat→St→(St→Rs R)→(AV→Rs R)→Rs R
 |[],i,st,kn,_=>kn {st with next:=st.next+16*i}
 |o::os,i,st,kn,kp=>
  let go (st:St):Rs R:=eo E K (look st.tmps) (aC st.blks) (st.next+16*i) o (rid*100+i)
   (fun v wr _=>dn rid all os (i+1) {tmps:=iz st.tmps o.dst v,blks:=ct st.blks wr,next:=st.next} kn kp) kp
  let skip (st:St):Rs R:=dn rid all os (i+1) {st with tmps:=iz st.tmps o.dst (.tup [])} kn kp
  match o.guard with
  |none=>go st
  |some (j,want)=>match jX all j with
   |none=>.err 5
   |some d=>match look st.tmps d with
    | .bool b=>(match b with
     |true=>(match want with
      |true=>go {st with tmps:=(d,.bool true)::st.tmps}
      |false=>skip {st with tmps:=(d,.bool true)::st.tmps})
     |false=>(match want with
      |true=>skip {st with tmps:=(d,.bool false)::st.tmps}
      |false=>go {st with tmps:=(d,.bool false)::st.tmps}))
    | .tup []=>skip st
    |_=>.err 5
def oF(acc:List Nat)(o:Oper):Nat:=
 o.after.toList.foldr (fun e s=>match Region.binds .any e with|true=>s ||| (1 <<< e.on) ||| ((nth acc e.on).getD 0)|false=>s) 0
def dV:List Oper→List Nat→List Nat
 |[],acc=>acc
 |o::os,acc=>dV os (acc++[oF acc o])
structure Ent where
 i:Nat
 rb:List Nat
 wb:List Nat
def meets(a b:List Nat):Bool:=a.any fun x=>b.any (Nat.beq x)
def Ent.clash(a b:Ent):Bool:=meets a.wb b.rb||(meets a.wb b.wb||meets a.rb b.wb)
def dG(bf:List Nat)(j i:Nat):Bool:=Nat.testBit ((nth bf j).getD 0) i
def lv(bf:List Nat):List Ent→Bool
 |[]=>true
 |e::r=>r.all (fun d=> !(e.clash d)||dG bf d.i e.i)&&lv bf r
def My:Operand→List Nat
 | .tmp t=>[t]
 |_=>[]
def qK(all:List Oper)(o:Oper):List Nat:=
 match o.guard with
 |none=>[]
 |some (j,_)=>(jX all j).toList
def mO(all:List Oper)(o:Oper):List Nat:=o.op.operands.toList.flatMap My++qK all o
def sN(all:List Oper)(bf:List Nat):Bool:=
 let is:=List.range all.length
 is.all fun j=>match nth all j with
  |none=>true
  |some oj=>(oj.after.toList.all fun e=> !Region.binds .any e||Nat.blt e.on j)&&
   (match oj.guard with|none=>true|some (g,_)=>dG bf j g)&&
   is.all fun i=>match nth all i with
    |none=>true
    |some oi=> !(Nat.blt i j)||(dG bf j i|| !(meets oi.dst.toList (mO all oj++oj.dst.toList)||meets oj.dst.toList (mO all oi)))
def pk(next id:Nat)(es:List Ent)(wr:Wr):Bool:=
 wr.all fun p=>Nat.blt p.1 next||(Nat.ble id p.1||es.any fun e=>e.wb.any (Nat.beq p.1))
def lS(lk:bc)(get:Get)(o:Oper):Option (List Nat):=
 match o.op with
 | .call {callee:=.value f,args:=as,.. }=>(match al lk f with
  | .fn _ cap=>reach get 200 ((as.toList.map (al lk)++cap).flatMap gS) []
  |_=>none)
 |_=>none
def xo(bf:List Nat)(pm:Option (Nat×AV))(i:Nat):Bool:=
 match pm with
 |none=>false
 |some (p,_)=>dG bf i p
def vb(i:Nat)(rd:List Nat)(es:List Ent):List Ent:=match rd with
 |[]=>es
 |rd=>⟨i,rd,[]⟩::es
def gF(pm:Option (Nat×AV))(rd:Option (List Nat))(k:List Nat→Rs R):Rs R:=match pm with
 |some _=>.err 8
 |none=>match rd with
  |none=>.err 9
  |some rd=>k rd
def cv(rid:Nat)(all:List Oper)(bf:List Nat):List Oper→Nat→St→List Ent→Option (Nat×AV)→(St→Rs R)→(AV→Rs R)→Rs R
 |[],i,st,es,pm,kn,kp=>match lv bf es.reverse with
  |true=>(match pm with
   |none=>kn {st with next:=st.next+16*i}
   |some (_,v)=>kp v)
  |false=>.err 6
 |o::os,i,st,es,pm,kn,kp=>
  let go (st:St):Rs R:=eo E K (look st.tmps) (aC st.blks) (st.next+16*i) o (rid*100+i)
   (fun v wr rd=>match pk st.next (st.next+16*i) es wr with
    |true=>cv rid all bf os (i+1) {tmps:=iz st.tmps o.dst v,blks:=ct st.blks wr,next:=st.next}
     (match wr,rd with|[],[]=>es|wr,rd=>⟨i,rd,wr.map (·.1)⟩::es) pm kn kp
    |false=>.err 7)
   (fun v=>gF pm (lS (look st.tmps) (aC st.blks) o) fun rd=>cv rid all bf os (i+1) {st with tmps:=iz st.tmps o.dst .undef} (vb i rd es) (some (i,v)) kn kp)
  let skip (st:St):Rs R:=cv rid all bf os (i+1) {st with tmps:=iz st.tmps o.dst (.tup [])} es pm kn kp
  match xo bf pm i with
  |true=>cv rid all bf os (i+1) {st with tmps:=iz st.tmps o.dst .undef} es pm kn kp
  |false=>match o.guard with
   |none=>go st
   |some (j,want)=>match jX all j with
    |none=>.err 5
    |some d=>match look st.tmps d with
     | .bool b=>(match b with
      |true=>(match want with
       |true=>go {st with tmps:=(d,.bool true)::st.tmps}
       |false=>skip {st with tmps:=(d,.bool true)::st.tmps})
      |false=>(match want with
       |true=>skip {st with tmps:=(d,.bool false)::st.tmps}
       |false=>go {st with tmps:=(d,.bool false)::st.tmps}))
     | .tup []=>skip st
     |_=>.err 5
abbrev uf:=Nat→Option (Nat×(St→Option St))
abbrev Jump(R:Type):=Nat→St→Rs R
def oI(J:Jump R)(c:Nat×(St→Option St))(st:St):Rs R:=
 match c.2 st with
 |some st'=>J c.1 st'
 |none=>.err (9000000+c.1)
abbrev Ev(R:Type):=Nat→St→(Ex→St→Rs R)→Rs R
def enter(cuts:uf)(J:Jump R)(x:Ev R)(p:Nat)(st:St)(k:Ex→St→Rs R):Rs R:=
 match cuts p with
 |some c=>oI J c st
 |none=>x p st k
def pY(b:Ev R)(p:Nat)(k:Ex→St→Rs R)(ex:Ex)(st:St):Rs R:=
 match ex with
 | .normal=>b p st k
 | .exit id=>k (.exit id) st
 | .ret=>k .ret st
 | .panic v=>k (.panic v) st
def fa(id:Nat)(k:Ex→St→Rs R)(ex:Ex)(st:St):Rs R:=
 match ex with
 | .normal=>k .normal st
 | .exit j=>(match Nat.beq j id with
  |true=>k .normal st
  |false=>k (.exit j) st)
 | .ret=>k .ret st
 | .panic v=>k (.panic v) st
def CP:Ev R:=fun p _ _=>.err (8000000+p)
def ev(cuts:uf)(J:Jump R)(c:Code):Ev R:=
 Code.rec (motive:=fun _=>Ev R)
  (fun _ st k=>k .normal st)
  (fun id ops draw _ st k=>match draw with
   |false=>dn E K id ops.toList ops.toList 0 st (fun st'=>k .normal st') (fun v=>k (.panic v) st)
   |true=>cv E K id ops.toList (dV ops.toList []) ops.toList 0 st [] none (fun st'=>k .normal st') (fun v=>k (.panic v) st))
  (fun _ _ a b p st k=>enter cuts J a (2*p) st (pY (enter cuts J b) (2*p+1) k))
  (fun c _ _ a b p st k=>match al (look st.tmps) c with
   | .bool t=>(match t with
    |true=>enter cuts J a (2*p) st k
    |false=>enter cuts J b (2*p+1) st k)
   |_=>.err (7000000+p))
  (fun id _ c p st k=>enter cuts J c (2*p) st (fa id k))
  (fun _ _ p st _=>match cuts (2*p)with
   |some c=>oI J c st
   |none=>.err (8000000+p))
  (fun _ _ _ _ _ _=>CP)
  (fun id _ st k=>k (.exit id) st)
  (fun _ c p st k=>enter cuts J c (2*p) st k)
  (fun _ _ st k=>k .normal st)
  (fun _=>CP)
  (fun _ st k=>k .ret st)
  (fun _=>CP) c
def resume(cuts:uf)(J:Jump R):List Bool→Code→Nat→St→(Ex→St→Rs R)→Rs R
 |[],c,p,st,k=>ev E K cuts J c p st k
 |d::r,c,p,st,k=>match c with
  | .seq a b=>(match d with
   |false=>resume cuts J r a (2*p) st (pY (enter cuts J (ev E K cuts J b)) (2*p+1) k)
   |true=>resume cuts J r b (2*p+1) st k)
  | .cond _ a b=>(match d with
   |false=>resume cuts J r a (2*p) st k
   |true=>resume cuts J r b (2*p+1) st k)
  | .block id c=>resume cuts J r c (2*p) st (fa id k)
  | .loop c=>resume cuts J r c (2*p) st (pY (enter cuts J CP) (2*p) k)
  | .scope c=>resume cuts J r c (2*p) st k
  |_=>.err 10
def FZ(lk:bc)(get:Get):ResultVar→Option AV
 | .tmp t=>some (lk t)
 | .cell a t=>match E.T t with
  |some ti=>match eA get ti.size (lk a)with
   |some (cs,_)=>(match Nat.beq cs.length ti.size with
    |true=>mJ ti.agg cs
    |false=>none)
   |none=>none
  |none=>none
def jJ(lk:bc)(get:Get):List ResultVar→Option (List AV)
 |[]=>some []
 |r::rs=>match FZ E lk get r,jJ lk get rs with
  |some v,some vs=>some (v::vs)
  |_,_=>none
def aq:Nat→List Blk→gU
 |_,[]=>[]
 |i,b::r=>(i,b)::aq (i+1) r
def leave(np:Nat)(get:Get)(v:AV)(k:(Out×List Blk)→Rs R):Rs R:=
 match reach get 200 (List.range np++gS v) []with
 |none=>.err 11
 |some ids=>match getAll get ids with
  |none=>.err 12
  |some l=>match bz v&&l.all bH with
   |true=>k (.ret (il (posOf ids) v),l.map (cf (posOf ids)))
   |false=>.err 13
def dF:Nat→List AV→kf
 |_,[]=>[]
 |i,v::r=>(i,v)::dF (i+1) r
def bX(np:Nat)(results:List ResultVar)(k:(Out×List Blk)→Rs R)(ex:Ex)(st:St):Rs R:=
 match ex with
 | .normal=>(match jJ E (look st.tmps) (aC st.blks) results with
  |some [v]=>leave np (aC st.blks) v k
  |some vs=>leave np (aC st.blks) (.tup vs) k
  |none=>.err 14)
 | .ret=>(match jJ E (look st.tmps) (aC st.blks) results with
  |some [v]=>leave np (aC st.blks) v k
  |some vs=>leave np (aC st.blks) (.tup vs) k
  |none=>.err 14)
 | .panic v=>k (.panic v,[])
 | .exit _=>.err 15
def b6:uf:=fun _=>none
def bY:Jump R:=fun j _=>.err (6000000+j)
def body(fi:FI)(args:List AV)(bs:List Blk)(k:(Out×List Blk)→Rs R):Rs R:=
 match Nat.ble args.length fi.ntmps with
 |false=>.err 16
 |true=>ev E K b6 bY fi.code 1 {tmps:=dF 0 args,blks:=aq 0 bs,next:=bs.length} (bX E bs.length fi.results k)
end
def run(E:Env):Nat→Callee:=
 fun n=>Nat.rec (motive:=fun _=>Callee) (fun _ f _ _ _=>.err (5000000+f)) (fun _ ih R f args bs k=>
  match nth E.intr f with
  |some (some g)=>g R args bs k
  |_=>match nth E.fi f with
   |some (some fi)=>body E ih fi args bs k
   |_=>.err (4000000+f)) n
inductive Sh where
 |keep|sl (t:Ty)|own (e:Nat) (t:Ty)|bself
def qi(get:Get)(self next:Nat)(s:Sh)(a:AV):Option (AV×Wr×Nat):=
 match s with
 | .keep=>some (a,[],next)
 | .sl t=>(match aV get (.slice t) [a]with
  |some (L,[],m)=>some (.sl t L,bw get m,next)
  |_=>none)
 | .own e t=>(match Nat.ble 1 t.size with
  |true=>(match a with
   | .nils=>some (.own next 0,[(next,.list e t 0 false [])],next+1)
   | .own b g=>(match get b with
    |some (.list e' t' g' _ L)=>(match Nat.beq g g'&&Nat.beq e e' with
     |true=>(match dc t' t L with|some _=>some (.own b g,[],next)|none=>none)
     |false=>none)
    |_=>none)
   |_=>none)
  |false=>none)
 | .bself=>(match get self with
  |some (.cells _ _)=>(match a with
   | .nilp=>some (.bself self,[],next)
   | .ref b o=>(match o with
    |0=>(match Nat.beq b self with|true=>some (.bself self,[],next)|false=>none)
    |_=>none)
   | .bself b=>(match Nat.beq b self with|true=>some (.bself self,[],next)|false=>none)
   |_=>none)
  |_=>none)
def mh(self:Nat):List Sh→List AV→gU→Nat→Option (List AV×gU×Nat)
 |[],cs,bs,n=>some (cs,bs,n)
 |s::ss,[],_,_=>none
 |s::ss,a::as,bs,n=>match qi (aC bs) self n s a with
  |some (a',wr,n')=>match mh self ss as (ct bs wr) n' with
   |some (as',bs',n'')=>some (a'::as',bs',n'')
   |none=>none
  |none=>none
def Eg(ss:List Sh)(v:AV)(bs:gU)(n:Nat):Option (AV×gU×Nat):=
 match ss with
 |[]=>some (v,bs,n)
 |ss=>match v with
  | .agg cs=>(match mh 0 ss cs bs n with
   |some (cs',bs',n')=>some (.agg cs',bs',n')
   |none=>none)
  | .tup _=>none
  |v=>match mh 0 ss [v] bs n with
   |some ([v'],bs',n')=>some (v',bs',n')
   |_=>none
def fY(lk:bc):List (Nat×List Sh)→gU→Nat→Option (kf×gU×Nat)
 |[],bs,n=>some ([],bs,n)
 |(i,ss)::r,bs,n=>match Eg ss (lk i) bs n with
  |some (v,bs',n')=>match fY lk r bs' n' with
   |some (tm,bs'',n'')=>some ((i,v)::tm,bs'',n'')
   |none=>none
  |none=>none
def dS:List (Nat×List Sh)→gU→Nat→Option (gU×Nat)
 |[],bs,n=>some (bs,n)
 |(b,[])::r,bs,n=>dS r bs n
 |(b,s::ss)::r,bs,n=>match aC bs b with
  |some (.cells ty cs)=>match mh b (s::ss) cs bs n with
   |some (cs',bs',n')=>dS r ((b,.cells ty cs')::bs') n'
   |none=>none
  |_=>none
def gA(get:Get)(q:Nat→Nat):AV→Option AV
 | .own b g=>(match get b with
  |some (.list _ _ g' _ _)=>(match Nat.beq g g' with|true=>some (.own b (q b))|false=>none)
  |_=>none)
 | .el b g i o=>(match get b with
  |some (.list _ _ g' _ _)=>(match Nat.beq g g' with|true=>some (.el b (q b) i o)|false=>none)
  |_=>none)
 |a=>some a
def cZ{α β:Type}(f:α→Option β):List α→Option (List β)
 |[]=>some []
 |a::r=>match f a,cZ f r with
  |some b,some r'=>some (b::r')
  |_,_=>none
def gC(get:Get)(q:Nat→Nat):AV→Option AV
 | .agg cs=>(match cZ (gA get q) cs with|some cs'=>some (.agg cs')|none=>none)
 |a=>gA get q a
def gV(get:Get)(q:Nat→Nat):AV→Option AV
 | .tup vs=>(match cZ (gC get q) vs with|some vs'=>some (.tup vs')|none=>none)
 |a=>gC get q a
def gB(get:Get)(q:Nat→Nat)(i:Nat):Blk→Option Blk
 | .cells ty cs=>(match cZ (gA get q) cs with|some cs'=>some (.cells ty cs')|none=>none)
 | .list e t _ sh L=>some (.list e t (q i) sh L)
def gBs(get:Get)(q:Nat→Nat):Nat→List Blk→Option (List Blk)
 |_,[]=>some []
 |i,b::r=>match gB get q i b,gBs get q (i+1) r with
  |some b',some r'=>some (b'::r')
  |_,_=>none
def gT(get:Get)(q:Nat→Nat):kf→Option kf
 |[]=>some []
 |(i,v)::r=>match gV get q v,gT get q r with
  |some v',some r'=>some ((i,v')::r')
  |_,_=>none
structure Tpl where
 slots:List (Nat×List Sh)
 blks:List (List Sh)
def norm(np:Nat)(tp:Tpl)(st:St):Option St:=
 match fY (look st.tmps) tp.slots st.blks st.next with
 |none=>none
 |some (tm,bs,n)=>match reach (aC bs) 200 (List.range np++tm.flatMap fun p=>gS p.2) []with
  |none=>none
  |some ids=>match dS (ids.zip tp.blks) bs n with
   |none=>none
   |some (bs2,_)=>match reach (aC bs2) 200 (List.range np++tm.flatMap fun p=>gS p.2) []with
    |none=>none
    |some ids2=>match getAll (aC bs2) ids2 with
     |none=>none
     |some l=>match(tm.all fun p=>bz p.2)&&l.all bH with
      |false=>none
      |true=>
       let tm2:kf:=tm.map fun p=>(p.1,il (posOf ids2) p.2)
       let l2:=l.map (cf (posOf ids2))
       let q:Nat→Nat:=fun i=>match Nat.blt i np with|true=>1|false=>0
       match gT (aC (aq 0 l2)) q tm2,gBs (aC (aq 0 l2)) q 0 l2 with
       |some tm3,some l3=>some {tmps:=tm3,blks:=aq 0 l3,next:=l3.length}
       |_,_=>none
end Go.Sx
namespace Go.Sx
open Go
inductive G where
 |cells (rb:Nat)
 |list (a:Option Addr) (cap:Nat)
def bJ(g:G)(b:Blk)(k o:Nat):Prop:=
 match g,b with
 | .cells rb,.cells _ _=>k=rb
 | .list (some a) cap,.list _ t _ sh L=>k=a.block∧(if sh then a.off+L.length*t.size else a.off)≤o∧o<a.off+cap*t.size
 |_,_=>False
def cH(g:G)(k:Nat):Prop:=
 match g with
 | .cells rb=>k=rb
 | .list (some a) _=>k=a.block
 | .list none _=>False
structure Ctx where
 w:World
 m:Get
 φ:Nat→G
 fr:Nat→Nat→Prop
 gl:Nat→Obj→Prop
def Ctx.own(C:Ctx)(k o:Nat):Prop:=∃id b,C.m id=some b∧bJ (C.φ id) b k o
def Ctx.T(C:Ctx)(k o:Nat):Prop:=C.fr k o∨C.own k o
def Ctx.held(C:Ctx)(k:Nat):Prop:=∃id b,C.m id=some b∧cH (C.φ id) k
def Imm(w:World)(T:Nat→Nat→Prop)(k o:Nat)(vs:List Value):Prop:=
 ∀j v,vs[j]? =some v→w.cell? ⟨k,o+j,none⟩=some v∧¬T k (o+j)
def Rep(w:World)(T:Nat→Nat→Prop):(t:Ty)→t.den→List Value→Prop
 | .unit,_,vs=>vs=[]
 | .bool,b,vs=>vs=[.bool b]
 | .int k,n,vs=>vs=[.int k n]
 | .flt k,n,vs=>vs=[.float k n]
 | .str,s,vs=>vs=[.string ⟨⟨s⟩⟩]
 | .pair a b,x,vs=>∃v1 v2,vs=v1++v2∧Rep w T a x.1 v1∧Rep w T b x.2 v2
 | .slice e,L,vs=>∃a cap,vs=[.slice a (List.length L) cap]∧List.length L≤cap∧
   ∀i x,(show List e.den from L)[i]? =some x→∃ad cs,a=some ad∧ad.spot=none∧Imm w T ad.block (ad.off+i*e.size) cs∧Rep w T e x cs
 | .ptr _,none,vs=>vs=[.pointer none]
 | .ptr e,some x,vs=>∃k o cs,vs=[.pointer (some ⟨k,o,none⟩)]∧Imm w T k o cs∧Rep w T e x cs
theorem Rep.len{w:World}{T:Nat→Nat→Prop}:∀{t:Ty} {x:t.den} {vs:List Value},Rep w T t x vs→vs.length=t.size
 | .unit,_,_,h=>by simp[Rep]at h;simp[h,Ty.size]
 | .bool,_,_,h=>by simp[Rep]at h;simp[h,Ty.size]
 | .int _,_,_,h=>by simp[Rep]at h;simp[h,Ty.size]
 | .flt _,_,_,h=>by simp[Rep]at h;simp[h,Ty.size]
 | .str,_,_,h=>by simp[Rep]at h;simp[h,Ty.size]
 | .pair _ _,_,_,h=>by
  obtain⟨v1,v2,rfl,h1,h2⟩:=h
  simp[Ty.size,h1.len,h2.len]
 | .slice _,_,_,h=>by obtain⟨a,cap,rfl,_⟩:=h;simp[Ty.size]
 | .ptr _,none,_,h=>by simp[Rep]at h;simp[h,Ty.size]
 | .ptr _,some _,_,h=>by obtain⟨k,o,cs,rfl,_⟩:=h;simp[Ty.size]
def tZ(w:World)(T:Nat→Nat→Prop)(w':World)(T':Nat→Nat→Prop):Prop:=
 ∀k o v,w.cell? ⟨k,o,none⟩=some v→¬T k o→w'.cell? ⟨k,o,none⟩=some v∧¬T' k o
theorem Imm.mono{w w':World}{T T':Nat→Nat→Prop}(h:tZ w T w' T'){k o:Nat}{vs:List Value}(hi:Imm w T k o vs):Imm w' T' k o vs:=
 fun j v hv=>h _ _ _ (hi j v hv).1 (hi j v hv).2
theorem Rep.mono{w w':World}{T T':Nat→Nat→Prop}(h:tZ w T w' T'):∀{t:Ty} {x:t.den} {vs:List Value},Rep w T t x vs→Rep w' T' t x vs
 | .unit,_,_,r=>r
 | .bool,_,_,r=>r
 | .int _,_,_,r=>r
 | .flt _,_,_,r=>r
 | .str,_,_,r=>r
 | .pair _ _,_,_,r=>by
  obtain⟨v1,v2,rfl,h1,h2⟩:=r
  exact⟨v1,v2,rfl,h1.mono h,h2.mono h⟩
 | .slice _,_,_,r=>by
  obtain⟨a,cap,rfl,hl,hx⟩:=r
  refine⟨a,cap,rfl,hl,fun i x hi=>?_⟩
  obtain⟨ad,cs,ha,hs,him,hr⟩:=hx i x hi
  exact⟨ad,cs,ha,hs,him.mono h,hr.mono h⟩
 | .ptr _,none,_,r=>r
 | .ptr _,some _,_,r=>by
  obtain⟨k,o,cs,rfl,him,hr⟩:=r
  exact⟨k,o,cs,rfl,him.mono h,hr.mono h⟩
mutual
def ay(C:Ctx):AV→Value→Prop
 | .undef,_=>True
 | .bool b,v=>v= .bool b
 | .int k n,v=>v= .int k n
 | .flt k n,v=>v= .float k n
 | .str s,v=>v= .string ⟨⟨s⟩⟩
 | .nilp,v=>v= .pointer none
 | .nils,v=>v= .slice none 0 0
 | .ref b off,v=>∃rb ty cs,C.m b=some (.cells ty cs)∧C.φ b= .cells rb∧v= .pointer (some ⟨rb,off,none⟩)
 | .anyp,v=>∃a,v= .pointer a
 | .bself b,v=>∃rb ty cs,C.m b=some (.cells ty cs)∧C.φ b= .cells rb∧(v= .pointer none∨v= .pointer (some ⟨rb,0,none⟩))
 | .pd t x off,v=>∃k o cs,v= .pointer (some ⟨k,o+off,none⟩)∧Imm C.w C.T k o cs∧Rep C.w C.T t x cs
 | .sl t L,v=>Rep C.w C.T (.slice t) L [v]
 | .sx t L,v=>∃a,v= .slice a L.length L.length∧Rep C.w C.T (.slice t) L [v]
 | .own b g,v=>∃ee t g' sh L,C.m b=some (.list ee t g' sh L)∧g≤g'∧∃a n cap,v= .slice a n cap∧(g=g'→C.φ b= .list a cap∧n=L.length)
 | .el b g i off,v=>∃ee t g' sh L,C.m b=some (.list ee t g' sh L)∧g≤g'∧
   ∃k o,v= .pointer (some ⟨k,o+off,none⟩)∧(g=g'→∃a cap,C.φ b= .list (some a) cap∧i<L.length∧k=a.block∧o=a.off+i*t.size)
 | .fn f cap,v=>∃vs,v= .func (.func f) #[] vs∧au C cap vs.toList
 | .nilf,v=>v= .nilFunc
 | .iface t x,v=>∃u,v= .iface t u∧ay C x u
 | .nili,v=>v= .nilIface
 | .agg cs,v=>∃vs,v= .agg vs∧au C cs vs.toList
 | .tup cs,v=>∃vs,v= .tuple vs∧au C cs vs.toList
def au(C:Ctx):List AV→List Value→Prop
 |[],vs=>vs=[]
 |a::as,vs=>∃v r,vs=v::r∧ay C a v∧au C as r
end
theorem au.len{C:Ctx}:∀{as:List AV} {vs:List Value},au C as vs→as.length=vs.length
 |[],_,h=>by simp[au]at h;simp[h]
 |_::_,_,h=>by
  obtain⟨v,r,rfl,_,h⟩:=h
  simp[h.len]
theorem au.get{C:Ctx}:∀{as:List AV} {vs:List Value} {i:Nat} {a:AV},au C as vs→as[i]? =some a→∃v,vs[i]? =some v∧ay C a v
 |a::as,_,0,b,h,hi=>by
  obtain⟨v,r,rfl,h1,_⟩:=h
  simp only[List.getElem?_cons_zero,Option.some.injEq]at hi
  exact⟨v,by simp,hi▸h1⟩
 |a::as,_,i+1,b,h,hi=>by
  obtain⟨v,r,rfl,_,h⟩:=h
  simpa using h.get (by simpa using hi)
 |[],_,i,b,_,hi=>by simp at hi
theorem au.append{C:Ctx}:∀{as bs:List AV} {vs ws:List Value},au C as vs→au C bs ws→au C (as++bs) (vs++ws)
 |[],_,_,_,h,k=>by simp only[au]at h;subst h;simpa using k
 |_::_,_,_,_,h,k=>by
  obtain⟨v,r,rfl,h1,h2⟩:=h
  exact⟨v,r++_,rfl,h1,h2.append k⟩
theorem au.take{C:Ctx}{n:Nat}:∀{as:List AV} {vs:List Value},au C as vs→au C (as.take n) (vs.take n):=by
 induction n with
 |zero=>intro as vs h;simp[au]
 |succ n ih=>
  intro as vs h
  cases as with
  |nil=>simp only[au]at h;subst h;simp[au]
  |cons a as=>obtain⟨v,r,rfl,h1,h2⟩:=h;exact⟨v,_,rfl,h1,ih h2⟩
theorem au.drop{C:Ctx}{n:Nat}:∀{as:List AV} {vs:List Value},au C as vs→au C (as.drop n) (vs.drop n):=by
 induction n with
 |zero=>intro as vs h;simpa using h
 |succ n ih=>
  intro as vs h
  cases as with
  |nil=>simp only[au]at h;subst h;simp[au]
  |cons a as=>obtain⟨v,r,rfl,h1,h2⟩:=h;simpa using ih h2
structure Ext(C C':Ctx):Prop where
 cells:∀id ty cs,C.m id=some (.cells ty cs)→C'.φ id=C.φ id∧∃cs',C'.m id=some (.cells ty cs')
 lists:∀id ee t g sh L,C.m id=some (.list ee t g sh L)→∃g' sh' L',C'.m id=some (.list ee t g' sh' L')∧g≤g'∧(g=g'→C'.φ id=C.φ id∧L'.length=L.length)
 keep:tZ C.w C.T C'.w C'.T
 frEq:C'.fr=C.fr
 glEq:C'.gl=C.gl
 frKeep:∀k o v,C.w.cell? ⟨k,o,none⟩=some v→C.fr k o→C'.w.cell? ⟨k,o,none⟩=some v
 size:C.w.heap.size≤C'.w.heap.size
 old:∀k,k<C.w.heap.size→¬C.held k→C'.w.heap[k]? =C.w.heap[k]?
 held:∀k,C'.held k→C.held k∨C.w.heap.size≤k
 own:∀k o,C'.own k o→C.own k o∨C.w.heap.size≤k
 os:C'.w.os=C.w.os
 tape:C'.w.tape=C.w.tape
 output:C'.w.output=C.w.output
theorem Ext.refl(C:Ctx):Ext C C where
 cells:=fun _ _ cs h=>⟨rfl,cs,h⟩
 lists:=fun _ _ _ g sh L h=>⟨g,sh,L,h,Nat.le_refl _,fun _=>⟨rfl,rfl⟩⟩
 keep:=fun _ _ _ h k=>⟨h,k⟩
 frEq:=rfl
 glEq:=rfl
 frKeep:=fun _ _ _ h _=>h
 size:=Nat.le_refl _
 old:=fun _ _ _=>rfl
 held:=fun _ h=>.inl h
 own:=fun _ _ h=>.inl h
 os:=rfl
 tape:=rfl
 output:=rfl
theorem Ext.trans{A B C:Ctx}(h:Ext A B)(k:Ext B C):Ext A C where
 cells:=fun id ty cs hm=>by
  obtain⟨e,cs',hm'⟩:=h.cells id ty cs hm
  obtain⟨e',cs'',hm''⟩:=k.cells id ty cs' hm'
  exact⟨e'.trans e,cs'',hm''⟩
 lists:=fun id ee t g sh L hm=>by
  obtain⟨g1,sh1,L1,hm1,hg1,e1⟩:=h.lists id ee t g sh L hm
  obtain⟨g2,sh2,L2,hm2,hg2,e2⟩:=k.lists id ee t g1 sh1 L1 hm1
  refine⟨g2,sh2,L2,hm2,Nat.le_trans hg1 hg2,fun e=>?_⟩
  have ea:g=g1:=by omega
  have eb:g1=g2:=by omega
  exact⟨(e2 eb).1.trans (e1 ea).1,(e2 eb).2.trans (e1 ea).2⟩
 keep:=fun a o v hv ht=>by
  obtain⟨hv',ht'⟩:=h.keep a o v hv ht
  exact k.keep a o v hv' ht'
 frEq:=k.frEq.trans h.frEq
 glEq:=k.glEq.trans h.glEq
 frKeep:=fun a o v hv hf=>k.frKeep a o v (h.frKeep a o v hv hf) (h.frEq▸hf)
 size:=Nat.le_trans h.size k.size
 old:=fun a ha hn=>by
  rw[←h.old a ha hn]
  refine k.old a (Nat.lt_of_lt_of_le ha h.size) fun hh=>?_
  rcases h.held a hh with hh|hh
  ·exact hn hh
  ·omega
 held:=fun a ha=>by
  rcases k.held a ha with hh|hh
  ·exact h.held a hh
  ·exact .inr (Nat.le_trans h.size hh)
 own:=fun a o ha=>by
  rcases k.own a o ha with hh|hh
  ·exact h.own a o hh
  ·exact .inr (Nat.le_trans h.size hh)
 os:=k.os.trans h.os
 tape:=k.tape.trans h.tape
 output:=k.output.trans h.output
mutual
theorem ay.mono{C C':Ctx}(h:Ext C C'):∀{a:AV} {v:Value},ay C a v→ay C' a v
 | .undef,_,_=>trivial
 | .bool _,_,r=>r
 | .int _ _,_,r=>r
 | .flt _ _,_,r=>r
 | .str _,_,r=>r
 | .nilp,_,r=>r
 | .nils,_,r=>r
 | .ref b off,_,r=>by
  obtain⟨rb,ty,cs,hm,hp,hv⟩:=r
  obtain⟨e,cs',hm'⟩:=h.cells b ty cs hm
  exact⟨rb,ty,cs',hm',e.trans hp,hv⟩
 | .anyp,_,r=>r
 | .bself b,_,r=>by
  obtain⟨rb,ty,cs,hm,hp,hv⟩:=r
  obtain⟨e,cs',hm'⟩:=h.cells b ty cs hm
  exact⟨rb,ty,cs',hm',e.trans hp,hv⟩
 | .pd t x off,_,r=>by
  obtain⟨k,o,cs,hv,hi,hr⟩:=r
  exact⟨k,o,cs,hv,hi.mono h.keep,hr.mono h.keep⟩
 | .sl t L,_,r=>Rep.mono h.keep r
 | .sx t L,_,r=>by
  obtain⟨a,hv,hr⟩:=r
  exact⟨a,hv,Rep.mono h.keep hr⟩
 | .own b g,_,r=>by
  obtain⟨ee,t,g',sh,L,hm,hg,a,n,cap,hv,hq⟩:=r
  obtain⟨g2,sh2,L2,hm2,hg2,he⟩:=h.lists b ee t g' sh L hm
  refine⟨ee,t,g2,sh2,L2,hm2,Nat.le_trans hg hg2,a,n,cap,hv,fun e=>?_⟩
  obtain⟨hp,hn⟩:=hq (by omega)
  obtain⟨e1,e2⟩:=he (by omega)
  exact⟨e1.trans hp,hn.trans e2.symm⟩
 | .el b g i off,_,r=>by
  obtain⟨ee,t,g',sh,L,hm,hg,k,o,hv,hq⟩:=r
  obtain⟨g2,sh2,L2,hm2,hg2,he⟩:=h.lists b ee t g' sh L hm
  refine⟨ee,t,g2,sh2,L2,hm2,Nat.le_trans hg hg2,k,o,hv,fun e=>?_⟩
  obtain⟨a,cap,hp,hl,hk,ho⟩:=hq (by omega)
  obtain⟨e1,e2⟩:=he (by omega)
  exact⟨a,cap,e1.trans hp,by omega,hk,ho⟩
 | .fn f cap,_,r=>by
  obtain⟨vs,hv,hl⟩:=r
  exact⟨vs,hv,au.mono h hl⟩
 | .nilf,_,r=>r
 | .iface t x,_,r=>by
  obtain⟨u,hv,hx⟩:=r
  exact⟨u,hv,ay.mono h hx⟩
 | .nili,_,r=>r
 | .agg cs,_,r=>by
  obtain⟨vs,hv,hl⟩:=r
  exact⟨vs,hv,au.mono h hl⟩
 | .tup cs,_,r=>by
  obtain⟨vs,hv,hl⟩:=r
  exact⟨vs,hv,au.mono h hl⟩
theorem au.mono{C C':Ctx}(h:Ext C C'):∀{as:List AV} {vs:List Value},au C as vs→au C' as vs
 |[],_,r=>r
 |_::_,_,r=>by
  obtain⟨v,s,hv,h1,h2⟩:=r
  exact⟨v,s,hv,ay.mono h h1,au.mono h h2⟩
end
def jG(C:Ctx)(g:G)(b:Blk):Prop:=
 match b with
 | .cells ty cs=>∃rb c,g= .cells rb∧C.w.heap[rb]? =some (.cells c ty (0,0))∧au C cs c.toList∧cs.all AV.leaf=true
 | .list ee t _ sh L=>∃a cap,g= .list a cap∧0<t.size∧L.length≤cap∧
   match a with
   |none=>cap=0
   |some ad=>ad.spot=none∧∃c lo hi,C.w.heap[ad.block]? =some (.cells c ee (lo,hi))∧ad.off+cap*t.size≤c.size∧
     hi≤(if sh then ad.off+L.length*t.size else ad.off)∧
     (sh=true→∀o,ad.off≤o→o<ad.off+L.length*t.size→¬C.T ad.block o)∧
     ∀i x,L[i]? =some x→Rep C.w C.T t x (seg c.toList (ad.off+i*t.size) t.size)
structure SRel(C:Ctx):Prop where
 ok:∀id b,C.m id=some b→jG C (C.φ id) b
 apart:∀id b id' b' k,C.m id=some b→C.m id'=some b'→id≠id'→cH (C.φ id) k→cH (C.φ id') k→False
 frApart:∀k o,C.fr k o→C.held k→False
 frOld:∀k o,C.fr k o→k<C.w.heap.size
 gl:∀k o,C.gl k o→C.w.heap[k]? =some o∧¬C.held k∧∀x,¬C.fr k x
theorem cn{g:G}{b:Blk}{k o:Nat}(h:bJ g b k o):cH g k:=by
 unfold bJ at h
 unfold cH
 split at h
 ·exact h
 ·exact h.1
 ·exact h.elim
theorem jG.lt{C:Ctx}{g:G}{b:Blk}(h:jG C g b){k:Nat}(hk:cH g k):k<C.w.heap.size:=by
 cases b with
 |cells ty cs=>
  obtain⟨rb,c,rfl,hh,_⟩:=h
  simp only[cH]at hk
  subst hk
  exact(Array.getElem?_eq_some_iff.1 hh).1
 |list ee t g' sh L=>
  obtain⟨a,cap,rfl,_,_,hb⟩:=h
  cases a with
  |none=>exact hk.elim
  |some ad=>
   simp only[cH]at hk
   subst hk
   obtain⟨_,c,lo,hi,hh,_⟩:=hb
   exact(Array.getElem?_eq_some_iff.1 hh).1
theorem jG.mono{C C':Ctx}(hE:Ext C C'){g:G}{b:Blk}(hk:∀k,cH g k→C'.w.heap[k]? =C.w.heap[k]?)(h:jG C g b):jG C' g b:=by
 cases b with
 |cells ty cs=>
  obtain⟨rb,c,rfl,hh,hr,hl⟩:=h
  exact⟨rb,c,rfl,by rw[hk rb rfl];exact hh,hr.mono hE,hl⟩
 |list ee t g' sh L=>
  obtain⟨a,cap,rfl,hz,hc,hb⟩:=h
  refine⟨a,cap,rfl,hz,hc,?_⟩
  cases a with
  |none=>exact hb
  |some ad=>
   obtain⟨hsp,c,lo,hi,hh,hsz,hfz,hsh,hx⟩:=hb
   refine⟨hsp,c,lo,hi,by rw[hk ad.block rfl];exact hh,hsz,hfz,fun hs o h1 h2=>?_,fun i x hi=>(hx i x hi).mono hE.keep⟩
   have hlt:o<c.size:=by
    have:L.length*t.size≤cap*t.size:=Nat.mul_le_mul_right _ hc
    omega
   have hcell:C.w.cell? ⟨ad.block,o,none⟩=some c[o]:=by simp[World.cell?,hh,hlt]
   exact(hE.keep _ _ _ hcell (hsh hs o h1 h2)).2
theorem Ext.gl_ok{C C':Ctx}(hE:Ext C C')(h:∀k o,C.gl k o→C.w.heap[k]? =some o∧¬C.held k∧∀x,¬C.fr k x):∀k o,C'.gl k o→C'.w.heap[k]? =some o∧¬C'.held k∧∀x,¬C'.fr k x:=fun k o hg=>by
 rw[hE.glEq]at hg
 obtain⟨h1,h2,h3⟩:=h k o hg
 have hlt:k<C.w.heap.size:=(Array.getElem?_eq_some_iff.1 h1).1
 refine⟨by rw[hE.old k hlt h2];exact h1,fun hh=>?_,by rw[hE.frEq];exact h3⟩
 rcases hE.held k hh with hh|hh
 ·exact h2 hh
 ·omega
def bA{α:Type}(f:Nat→α)(i:Nat)(a:α):Nat→α:=fun j=>if j=i then a else f j
theorem lM{C:Ctx}(hs:SRel C){id:Nat}{b':Blk}{g':G}{w':World}
  (hsz:C.w.heap.size≤w'.heap.size)
  (hoth:∀k,k<C.w.heap.size→¬(∃b,C.m id=some b∧cH (C.φ id) k)→w'.heap[k]? =C.w.heap[k]?)
  (hlies:∀k,cH g' k→(∃b,C.m id=some b∧cH (C.φ id) k)∨C.w.heap.size≤k)
  (hown:∀k o,bJ g' b' k o→(∃b,C.m id=some b∧bJ (C.φ id) b k o)∨C.w.heap.size≤k)
  (hkc:∀ty cs,C.m id=some (.cells ty cs)→g'=C.φ id∧∃cs',b'= .cells ty cs')
  (hkl:∀ee t g sh L,C.m id=some (.list ee t g sh L)→∃g2 sh2 L2,b'= .list ee t g2 sh2 L2∧g≤g2∧(g=g2→g'=C.φ id∧L2.length=L.length))
  (hcell:∀k o v,C.w.cell? ⟨k,o,none⟩=some v→¬(∃b,C.m id=some b∧bJ (C.φ id) b k o)→w'.cell? ⟨k,o,none⟩=some v)
  (hos:w'.os=C.w.os) (htape:w'.tape=C.w.tape) (hout:w'.output=C.w.output):
  let C':Ctx:=⟨w',bA C.m id (some b'),bA C.φ id g',C.fr,C.gl⟩
  Ext C C'∧(jG C' g' b'→SRel C'):=by
 intro C'
 have hlt:∀{k o v},C.w.cell? ⟨k,o,none⟩=some v→k<C.w.heap.size:=by
  intro k o v hv
  unfold World.cell? at hv
  split at hv
  ·rename_i hh;exact(Array.getElem?_eq_some_iff.1 hh).1
  ·cases hv
 have hm:∀j,j≠id→C'.m j=C.m j∧C'.φ j=C.φ j:=fun j hj=>by simp[C',bA,hj]
 have hmi:C'.m id=some b'∧C'.φ id=g':=by simp[C',bA]
 have hown':∀k o,C'.own k o→C.own k o∨C.w.heap.size≤k:=by
  rintro k o ⟨j,b,hj,hb⟩
  by_cases e:j=id
  ·subst e
   rw[hmi.1]at hj
   rw[hmi.2]at hb
   cases hj
   rcases hown k o hb with⟨b,h1,h2⟩|h
   ·exact .inl ⟨j,b,h1,h2⟩
   ·exact .inr h
  ·rw[(hm j e).1]at hj
   rw[(hm j e).2]at hb
   exact .inl ⟨j,b,hj,hb⟩
 have hheld':∀k,C'.held k→C.held k∨C.w.heap.size≤k:=by
  rintro k ⟨j,b,hj,hb⟩
  by_cases e:j=id
  ·subst e
   rw[hmi.2]at hb
   rcases hlies k hb with⟨b,h1,h2⟩|h
   ·exact .inl ⟨j,b,h1,h2⟩
   ·exact .inr h
  ·rw[(hm j e).1]at hj
   rw[(hm j e).2]at hb
   exact .inl ⟨j,b,hj,hb⟩
 have hE:Ext C C':={
  cells:=fun j ty cs hj=>by
   by_cases e:j=id
   ·subst e
    obtain⟨h1,cs',h2⟩:=hkc ty cs hj
    exact⟨by rw[hmi.2];exact h1,cs',by rw[hmi.1,h2]⟩
   ·exact⟨(hm j e).2,cs,by rw[(hm j e).1];exact hj⟩
  lists:=fun j ee t g sh L hj=>by
   by_cases e:j=id
   ·subst e
    obtain⟨g2,sh2,L2,h1,h2,h3⟩:=hkl ee t g sh L hj
    exact⟨g2,sh2,L2,by rw[hmi.1,h1],h2,fun e=>by rw[hmi.2];exact h3 e⟩
   ·exact⟨g,sh,L,by rw[(hm j e).1];exact hj,Nat.le_refl _,fun _=>⟨(hm j e).2,rfl⟩⟩
  keep:=fun k o v hv hT=>by
   refine⟨hcell k o v hv fun⟨b,h1,h2⟩=>hT (.inr ⟨id,b,h1,h2⟩),fun hT'=>?_⟩
   rcases hT' with hf|ho
   ·exact hT (.inl hf)
   ·rcases hown' k o ho with h|h
    ·exact hT (.inr h)
    ·have:=hlt hv;omega
  frEq:=rfl
  glEq:=rfl
  frKeep:=fun k o v hv hf=>hcell k o v hv fun⟨b,h1,h2⟩=>hs.frApart k o hf ⟨id,b,h1,cn h2⟩
  size:=hsz
  old:=fun k hk hh=>hoth k hk fun⟨b,h1,h2⟩=>hh ⟨id,b,h1,h2⟩
  held:=hheld'
  own:=hown'
  os:=hos
  tape:=htape
  output:=hout}
 refine⟨hE,fun hb=>{ok:=?_,apart:=?_,frApart:=?_,frOld:=fun k o hf=>Nat.lt_of_lt_of_le (hs.frOld k o hf) hsz,gl:=hE.gl_ok hs.gl}⟩
 ·intro j b hj
  by_cases e:j=id
  ·subst e
   rw[hmi.1]at hj
   cases hj
   rw[hmi.2]
   exact hb
  ·rw[(hm j e).1]at hj
   rw[(hm j e).2]
   refine(hs.ok j b hj).mono hE fun k hk=>hoth k ((hs.ok j b hj).lt hk) fun⟨b2,h1,h2⟩=>?_
   exact hs.apart j b id b2 k hj h1 e hk h2
 ·intro i b j b2 k hi hj hne h1 h2
  by_cases ei:i=id
  ·subst ei
   rw[(hm j (Ne.symm hne)).1]at hj
   rw[(hm j (Ne.symm hne)).2]at h2
   rw[hmi.2]at h1
   rcases hlies k h1 with⟨b3,h3,h4⟩|h
   ·exact hs.apart i b3 j b2 k h3 hj hne h4 h2
   ·have:=(hs.ok j b2 hj).lt h2;omega
  ·by_cases ej:j=id
   ·subst ej
    rw[(hm i ei).1]at hi
    rw[(hm i ei).2]at h1
    rw[hmi.2]at h2
    rcases hlies k h2 with⟨b3,h3,h4⟩|h
    ·exact hs.apart i b j b3 k hi h3 hne h1 h4
    ·have:=(hs.ok i b hi).lt h1;omega
   ·rw[(hm i ei).1]at hi
    rw[(hm i ei).2]at h1
    rw[(hm j ej).1]at hj
    rw[(hm j ej).2]at h2
    exact hs.apart i b j b2 k hi hj hne h1 h2
 ·intro k o hf hh
  rcases hheld' k hh with h|h
  ·exact hs.frApart k o hf h
  ·have:=hs.frOld k o hf;omega
end Go.Sx
namespace Go.Sx
open Go
def Bc:TypeDesc→Bool
 | .struct _=>true
 | .array _ _=>true
 |_=>false
def mg(P:Program)(t:TypeId):Nat:=match P.info? t with|some i=>i.size|none=>0
def E2(P:Program)(t:TypeId):Bool:=match P.underlying t with|some d=>Bc d|none=>false
def fo(P:Program)(f:Field):Fld:=⟨f.offset,mg P f.type,E2 P f.type,f.type,f.name=="_"⟩
def gR(P:Program):TypeDesc→TD
 | .int k=>.int k
 | .string=>.str
 | .bool=>.scalar
 | .pointer e=>.ptr e
 | .slice e=>.slice e
 | .array n e=>.array n e
 | .struct fs=>.struct (fs.toList.map (fo P))
 | .interface _=>.iface
 |_=>.other
def uP(P:Program):TypeDesc→Bool
 | .struct fs=>fs.toList.all fun f=>(P.info? f.type).isSome
 |_=>true
def yM(P:Program)(t:TypeId):TypeDesc→Bool
 | .struct _=> !P.stoodInHeld t&& !P.eqGuardType P.depth t
 |_=>false
def b5(P:Program)(t:TypeId)(ty:Option Ty):Option TI:=
 match P.info? t,P.underlying t with
 |some i,some d=>match i.zero with
  |some z=>match uP P d with
   |false=>none
   |true=>some ⟨i.size,i.bytes,z.cells.toList.map gq,Bc d,yM P t d,ty,gR P d⟩
  |none=>none
 |_,_=>none
structure TIOK(P:Program)(t:TypeId)(ti:TI)(i:TypeInfo)(d:TypeDesc)(z:Value):Prop where
 info:P.info? t=some i
 und:P.underlying t=some d
 zero:i.zero=some z
 size:i.size=ti.size
 bytes:i.bytes=ti.bytes
 zeros:ti.zero=z.cells.toList.map gq
 agg:Bc d=ti.agg
 eqOk:yM P t d=ti.eqOk
 td:gR P d=ti.td
 flds:uP P d=true
theorem E6{P:Program}{t:TypeId}{ty:Option Ty}{ti:TI}(h:b5 P t ty=some ti):∃i d z,TIOK P t ti i d z:=by
 unfold b5 at h
 split at h
 ·rename_i i d hi hd
  split at h
  ·rename_i z hz
   split at h
   ·cases h
   ·rename_i hf
    simp only[Option.some.injEq]at h
    subst h
    exact⟨i,d,z,hi,hd,hz,rfl,rfl,rfl,rfl,rfl,rfl,hf⟩
  ·cases h
 ·cases h
structure EnvOK(E:Env)(P:Program):Prop where
 ti:∀t ti,E.T t=some ti→b5 P t ti.ty=some ti
 mixed:P.follows .mixedOrders=true
variable{P:Program}{E:Env}{C:Ctx}
theorem EnvOK.T(h:EnvOK E P){t:TypeId}{ti:TI}(ht:E.T t=some ti):∃i d z,TIOK P t ti i d z:=E6 (h.ti t ti ht)
theorem dO{t:TypeId}{i:TypeInfo}(h:P.info? t=some i)(w:World):(typeInfo t).run P w= .ok i w:=by
 simp[typeInfo,h]
theorem bm{t:TypeId}{i:TypeInfo}(h:P.info? t=some i)(w:World):(sizeOf t).run P w= .ok i.size w:=by
 simp[sizeOf,dO h]
theorem ao{t:TypeId}{d:TypeDesc}(h:P.underlying t=some d)(w:World):(underlying t).run P w= .ok d w:=by
 simp[underlying,h]
theorem dz{t:TypeId}{i:TypeInfo}{z:Value}(h:P.info? t=some i)(hz:i.zero=some z)(w:World):(zeroValue t).run P w= .ok z w:=by
 simp[zeroValue,dO h,hz]
theorem oY{t:TypeId}{d:TypeDesc}(h:P.underlying t=some d)(w:World):(isAgg t).run P w= .ok (Bc d) w:=by
 simp only[isAgg,Sem.run_bind,ao h,Result.andThen_ok]
 cases d<;>rfl
theorem fm(v:Value):ay C (gq v) v:=by
 unfold gq
 split<;>simp[ay]
def Good(P:Program)(C:Ctx)(ρ:Operand→Value)(o:Oper)(av:AV)(m':Get):Prop:=
 ∃v C',((execOp ρ o).run P C.w= .ok (.value v) C'.w∨((execOp ρ o).run P C.w= .ok .skip C'.w∧v=undef))∧
  C'.m=m'∧SRel C'∧Ext C C'∧ay C' av v
theorem Good.pure{ρ:Operand→Value}{o:Oper}{av:AV}{v:Value}(hs:SRel C)(hr:(execOp ρ o).run P C.w= .ok (.value v) C.w)(hv:ay C av v):
  Good P C ρ o av C.m:=⟨v,C,.inl hr,rfl,hs,Ext.refl C,hv⟩
theorem addr_add(k o n:Nat):(⟨k,o,none⟩:Addr).add n=⟨k,o+n,none⟩:=by
 unfold Addr.add;split<;>simp_all
theorem kB{t:TypeId}{ti:TI}{i:TypeInfo}{d:TypeDesc}{z:Value}(ht:TIOK P t ti i d z){w:World}{k o:Nat}{vs:List Value}(hl:vs.length=ti.size)
  (hc:∀j v,vs[j]? =some v→w.cell? ⟨k,o+j,none⟩=some v) {u:Value} (hu:(ti.agg=true∧u= .agg vs.toArray)∨(ti.agg=false∧vs=[u])):
  (loadVar t ⟨k,o,none⟩).run P w= .ok u w:=by
 simp only[loadVar,Sem.run_bind,oY ht.und,Result.andThen_ok,ht.agg]
 rcases hu with⟨ha,rfl⟩|⟨ha,rfl⟩
 ·simp only[ha,if_true,Sem.run_bind,bm ht.info,Result.andThen_ok,ht.size,←hl]
  rw[run_loadCells_list w _ vs (fun j v hj=>by rw[addr_add];exact hc j v hj)]
  simp
 ·have:=hc 0 u (by simp)
  simp only[Nat.add_zero]at this
  simp[ha,this]
end Go.Sx
