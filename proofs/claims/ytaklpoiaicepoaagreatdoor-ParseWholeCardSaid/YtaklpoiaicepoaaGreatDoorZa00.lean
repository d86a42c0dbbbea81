/- A part of the proof: see the row's text. -/
import Derived.Calls
import Derived.Below
import Derived.Laws.Cells
import Derived.Laws.Entries
import Derived.Lib.FrozenHead
import Derived.ChangeKeysEq
set_option linter.unusedVariables false
set_option linter.unusedSimpArgs false
noncomputable section
namespace Go.Sx
open Go
inductive Ty where
 |unit|bool|int (k:IntKind)|flt (k:FloatKind)|str
 |pair (a b:Ty)
 |slice (e:Ty)
 |ptr (e:Ty)
 deriving DecidableEq
def Ty.den:Ty→Type
 | .unit=>Unit
 | .bool=>Bool
 | .int _=>Int
 | .flt _=>Nat
 | .str=>List UInt8
 | .pair a b=>a.den×b.den
 | .slice e=>List e.den
 | .ptr e=>Option e.den
def Ty.dflt:(t:Ty)→t.den
 | .unit=>()
 | .bool=>false
 | .int _=>(0:Int)
 | .flt _=>(0:Nat)
 | .str=>([]:List UInt8)
 | .pair a b=>(a.dflt,b.dflt)
 | .slice e=>([]:List e.den)
 | .ptr e=>(none:Option e.den)
def Ty.size:Ty→Nat
 | .unit=>0
 | .pair a b=>a.size+b.size
 |_=>1
inductive AV where
 |undef
 |bool (b:Bool)
 |int (k:IntKind) (n:Int)
 |flt (k:FloatKind) (bits:Nat)
 |str (s:List UInt8)
 |nilp
 |nils
 |ref (b off:Nat)
 |bself (b:Nat)
 |anyp
 |pd (t:Ty) (x:t.den) (off:Nat)
 |sl (t:Ty) (L:List t.den)
 |sx (t:Ty) (L:List t.den)
 |own (b g:Nat)
 |el (b g i off:Nat)
 |fn (f:Nat) (cap:List AV)
 |nilf
 |iface (t:Nat) (v:AV)
 |nili
 |agg (cs:List AV)
 |tup (vs:List AV)
def AV.cells:AV→List AV
 | .agg cs=>cs
 |v=>[v]
def AV.leaf:AV→Bool
 | .undef| .agg _| .tup _=>false
 |_=>true
def flat:(t:Ty)→t.den→List AV
 | .unit,_=>[]
 | .bool,b=>[.bool b]
 | .int k,n=>[.int k n]
 | .flt k,n=>[.flt k n]
 | .str,s=>[.str s]
 | .pair a b,x=>flat a x.1++flat b x.2
 | .slice e,L=>[.sl e L]
 | .ptr _,none=>[.nilp]
 | .ptr e,some x=>[.pd e x 0]
inductive Blk where
 |cells (ty:Nat) (cs:List AV)
 |list (ee:Nat) (t:Ty) (g:Nat) (sh:Bool) (L:List t.den)
abbrev jr:=List (Nat×Blk)
abbrev Get:=Nat→Option Blk
abbrev Wr:=List (Nat×Blk)
def aL:jr→Get
 |[],_=>none
 |(i,b)::r,j=>match Nat.beq i j with
  |true=>some b
  |false=>aL r j
inductive DT(α:Type)where
 |leaf (a:α)|fail|br (b:Bool) (t e:DT α)
def DT.run{α:Type}:DT α→Option α
 | .leaf a=>some a
 | .fail=>none
 | .br b t e=>match b with
  |true=>t.run
  |false=>e.run
inductive Rs(α:Type)where
 |ok (a:α)|err (why:Nat)
def DT.bindK{α R:Type}(pos:Nat):DT α→(α→Rs R)→Rs R
 | .leaf a,k=>k a
 | .fail,_=>.err pos
 | .br b t e,k=>match b with
  |true=>t.bindK pos k
  |false=>e.bindK pos k
universe u
def nth{α:Type u}:List α→Nat→Option α
 |[],_=>none
 |a::_,0=>some a
 |_::r,n+1=>nth r n
def Ar(t t':Ty)(x:t.den):Option t'.den:=
 if h:t=t' then some (h▸x)else none
def dK(t t':Ty)(x:List t.den):Option (List t'.den):=
 if h:t=t' then some (h▸x)else none
def bc(get:Get):(t:Ty)→List AV→Option (t.den×List AV×List Nat)
 | .unit,cs=>some ((),cs,[])
 | .bool,cs=>match cs with
  | .bool b::r=>some (b,r,[])
  |_=>none
 | .int k,cs=>match cs with
  | .int k' n::r=>if k=k' then some (n,r,[])else none
  |_=>none
 | .flt k,cs=>match cs with
  | .flt k' n::r=>if k=k' then some (n,r,[])else none
  |_=>none
 | .str,cs=>match cs with
  | .str s::r=>some (s,r,[])
  |_=>none
 | .pair a b,cs=>match bc get a cs with
  |some (x,r,m)=>match bc get b r with
   |some (y,r',m')=>some ((x,y),r',m++m')
   |none=>none
  |none=>none
 | .slice e,cs=>match cs with
  | .sl e' L::r=>(match dK e' e L with|some L'=>some (L',r,[])|none=>none)
  | .sx e' L::r=>(match dK e' e L with|some L'=>some (L',r,[])|none=>none)
  | .own b g::r=>(match get b with
   |some (.list _ e' g' _ L)=>match Nat.beq g g' with
    |true=>(match dK e' e L with|some L'=>some (L',r,[b])|none=>none)
    |false=>none
   |_=>none)
  | .nils::r=>some (([]:List e.den),r,[])
  |_=>none
 | .ptr e,cs=>match cs with
  | .nilp::r=>some ((none:Option e.den),r,[])
  | .pd e' x 0::r=>(match Ar e' e x with|some x'=>some (some x',r,[])|none=>none)
  |_=>none
def bD(get:Get)(m:List Nat):Wr:=
 m.filterMap fun b=>match get b with
  |some (.list ee t g _ L)=>some (b,.list ee t g true L)
  |_=>none
structure Fld where
 off:Nat
 size:Nat
 agg:Bool
 t:Nat
 blank:Bool
inductive TD where
 |scalar|int (k:IntKind)|str|ptr (e:Nat)|slice (e:Nat)|array (n e:Nat)|struct (fs:List Fld)|iface|other
structure TI where
 size:Nat
 bytes:Nat
 zero:List AV
 agg:Bool
 eqOk:Bool
 ty:Option Ty
 td:TD
structure FI where
 code:Code
 ntmps:Nat
 results:List ResultVar
abbrev lW:=List (Nat×AV)
abbrev bh:=Nat→AV
def look:lW→bh
 |[],_=>.undef
 |(i,v)::r,j=>match Nat.beq i j with
  |true=>v
  |false=>look r j
structure St where
 tmps:lW
 blks:jr
 next:Nat
inductive Out where
 |ret (v:AV)|panic (v:AV)
abbrev Callee:=(R:Type)→Nat→List AV→List Blk→((Out×List Blk)→Rs R)→Rs R
abbrev aY:=(R:Type)→List AV→List Blk→((Out×List Blk)→Rs R)→Rs R
structure Env where
 ti:List (Option TI)
 fi:List (Option FI)
 intr:List (Option aY)
def Env.T(E:Env)(t:Nat):Option TI:=
 match nth E.ti t with
 |some x=>x
 |none=>none
structure OpR where
 v:AV
 wr:Wr
 rd:List Nat
def bI(v:AV):DT OpR:=.leaf ⟨v,[],[]⟩
def ofO:Option AV→DT OpR
 |some v=>bI v
 |none=>.fail
def iZ:Value→AV
 | .bool b=>.bool b
 | .int k n=>.int k n
 | .float k b=>.flt k b
 | .string s=>.str s.data.toList
 | .pointer none=>.nilp
 | .slice none 0 0=>.nils
 | .nilFunc=>.nilf
 | .nilIface=>.nili
 |_=>.undef
def an(lk:bh):Operand→AV
 | .tmp t=>lk t
 | .const v=>iZ v
 | .global _=>.undef
 | .func f=>.fn f []
def seg{α:Type}(l:List α)(off n:Nat):List α:=(l.drop off).take n
def iX(l:List AV)(off:Nat)(vs:List AV):List AV:=l.take off++(vs++l.drop (off+vs.length))
def pJ(agg:Bool)(cs:List AV):Option AV:=
 match agg with
 |true=>some (.agg cs)
 |false=>match cs with
  |[v]=>some v
  |_=>none
inductive SL where
 |mk (t:Ty) (L:List t.den) (b:List Nat)
def dT(get:Get):AV→Option SL
 | .sl t L=>some (.mk t L [])
 | .sx t L=>some (.mk t L [])
 | .own b g=>match get b with
  |some (.list _ t g' _ L)=>match Nat.beq g g' with
   |true=>some (.mk t L [b])
   |false=>none
  |_=>none
 |_=>none
def fS(get:Get)(n:Nat):AV→Option (List AV×List Nat)
 | .ref b off=>match get b with
  |some (.cells _ cs)=>some (seg cs off n,[b])
  |_=>none
 | .pd t x off=>some (seg (flat t x) off n,[])
 | .el b g i off=>match get b with
  |some (.list _ t g' _ L)=>match Nat.beq g g' with
   |true=>some (seg (flat t (L.getD i t.dflt)) off n,[b])
   |false=>none
  |_=>none
 |_=>none
def EH:AV→Nat→Option AV
 | .ref b o,n=>some (.ref b (o+n))
 | .pd t x o,n=>some (.pd t x (o+n))
 | .el b g i o,n=>some (.el b g i (o+n))
 |_,_=>none
def iW(td:TD)(a b:AV):Option Bool:=
 match td with
 | .scalar=>match a,b with
  | .bool a,.bool b=>some (a==b)
  |_,_=>none
 | .int _=>match a,b with
  | .int k a,.int k' b=>if k=k' then some (a==b)else none
  |_,_=>none
 | .str=>match a,b with
  | .str a,.str b=>some (a==b)
  |_,_=>none
 | .ptr _=>match a,b with
  | .nilp,.nilp=>some true
  | .nilp,.ref _ _=>some false
  | .nilp,.pd _ _ _=>some false
  | .ref _ _,.nilp=>some false
  | .pd _ _ _,.nilp=>some false
  |_,_=>none
 | .slice _=>match a,b with
  | .nils,.nils=>some true
  | .sl _ (_::_),.nils=>some false
  |_,_=>none
 |_=>none
mutual
def eqT(E:Env):Nat→Nat→List AV→List AV→Option Bool
 |0,_,_,_=>none
 |n+1,t,xs,ys=>match E.T t with
  |none=>none
  |some ti=>match ti.td with
   | .struct fs=>(match ti.eqOk with
    |true=>CY E n fs xs ys
    |false=>none)
   |td=>match xs with
    |[x]=>(match ys with
     |[y]=>iW td x y
     |_=>none)
    |_=>none
def CY(E:Env):Nat→List Fld→List AV→List AV→Option Bool
 |_,[],_,_=>some true
 |0,_::_,_,_=>none
 |n+1,f::fs,xs,ys=>match f.blank with
  |true=>none
  |false=>match eqT E n f.t (seg xs f.off f.size) (seg ys f.off f.size)with
   |none=>none
   |some a=>match fs with
    |[]=>some a
    |fs=>match CY E n fs xs ys with
     |none=>none
     |some b=>some (a&&b)
end
def eqA(E:Env)(t:Nat)(x y:AV):Option Bool:=
 match E.T t with
 |none=>none
 |some ti=>match x with
  | .agg a=>match y with
   | .agg b=>(match ti.agg with
    |true=>eqT E 60 t a b
    |false=>none)
   |_=>none
  |x=>match y with
   | .agg _=>none
   |y=>(match ti.agg with
    |true=>none
    |false=>eqT E 60 t [x] [y])
def An(op:BinOp)(k:IntKind)(a b:Int):DT OpR:=
 match op with
 | .add=>bI (.int k (k.wrap (a+b)))
 | .sub=>bI (.int k (k.wrap (a-b)))
 | .mul=>bI (.int k (k.wrap (a*b)))
 | .quo=>.br (b==0) .fail (bI (.int k (k.wrap (a.tdiv b))))
 | .rem=>.br (b==0) .fail (bI (.int k (a.tmod b)))
 | .eql=>bI (.bool (a==b))
 | .neq=>bI (.bool (a !=b))
 | .lss=>bI (.bool (decide (a<b)))
 | .leq=>bI (.bool (decide (a≤b)))
 | .gtr=>bI (.bool (decide (a>b)))
 | .geq=>bI (.bool (decide (a≥b)))
 |_=>.fail
def AZ(op:BinOp)(a b:List UInt8):DT OpR:=
 match op with
 | .add=>.br (decide (a.length+b.length<2^62)) (bI (.str (a++b))) .fail
 | .eql=>bI (.bool (a==b))
 | .neq=>bI (.bool (!(a==b)))
 |_=>.fail
def wc(E:Env)(t:Nat)(op:BinOp)(x y:AV):DT OpR:=
 match x,y with
 | .int k a,.int k' b=>if k=k' then An op k a b else .fail
 | .str a,.str b=>AZ op a b
 |x,y=>match op with
  | .eql=>ofO ((eqA E t x y).map .bool)
  | .neq=>ofO ((eqA E t x y).map fun b=>.bool (!b))
  |_=>.fail
def vv:Operand→Bool
 | .const .nilIface=>true
 |_=>false
def zP(E:Env)(t:Nat)(op:BinOp)(x y:AV):DT OpR:=
 match E.T t with
 |some ti=>(match ti.td with
  | .iface=>(match op,x with
   | .eql,.nili=>bI (.bool true)
   | .neq,.nili=>bI (.bool false)
   | .eql,.iface _ _=>bI (.bool false)
   | .neq,.iface _ _=>bI (.bool true)
   |_,_=>.fail)
  |_=>wc E t op x y)
 |none=>.fail
def cE(lk:bh):Nat→List Fld→List (Nat×Operand)→List AV→Option (List AV)
 |_,[],[],_=>some []
 |_,[],_::_,_=>none
 |i,f::fs,[],z=>match cE lk (i+1) fs [] (z.drop f.size)with
  |some r=>some (z.take f.size++r)
  |none=>none
 |i,f::fs,(j,x)::ps,z=>match Nat.beq i j with
  |true=>
   let vs:=(an lk x).cells
   match Nat.beq vs.length f.size&&vs.all AV.leaf with
   |true=>(match cE lk (i+1) fs ps (z.drop f.size)with
    |some r=>some (vs++r)
    |none=>none)
   |false=>none
  |false=>match cE lk (i+1) fs ((j,x)::ps) (z.drop f.size)with
   |some r=>some (z.take f.size++r)
   |none=>none
def lI(lk:bh)(fs:List Fld):List (Nat×Operand)→List AV→Option (List AV)
 |[],z=>some z
 |(j,x)::ps,z=>match nth fs j with
  |none=>none
  |some f=>
   let vs:=(an lk x).cells
   match Nat.beq vs.length f.size&&(vs.all AV.leaf&&Nat.ble (f.off+f.size) z.length)with
   |true=>lI lk fs ps (z.take f.off++vs++z.drop (f.off+f.size))
   |false=>none
def vI(lk:bh)(fs:List Fld)(ps:List (Nat×Operand))(z:List AV):Option (List AV):=
 match cE lk 0 fs ps z with
 |some r=>some r
 |none=>lI lk fs ps z
def ig:Nat→List Fld→Nat→Bool
 |i,[],n=>Nat.beq i n
 |i,f::fs,n=>match Nat.beq f.off i with
  |true=>ig (i+f.size) fs n
  |false=>false
def gO(n:Nat)(te:TI):List Fld:=(List.range n).map fun i=>⟨i*te.size,te.size,te.agg,0,false⟩
def intOf? :AV→Option Int
 | .int .i64 n=>some n
 |_=>none
def aq:Nat:=2^36
def inR(n:Int):Bool:=decide (0≤n)&&decide (n.toNat<aq)
def bw(get:Get)(t:Ty):Nat→List AV→Option (List t.den×List Nat)
 |0,[]=>some ([],[])
 |0,_::_=>none
 |n+1,cs=>match bc get t cs with
  |some (x,r,m)=>match bw get t n r with
   |some (l,m')=>some (x::l,m++m')
   |none=>none
  |none=>none
def eF(get:Get)(id:Nat)(et es by_:Nat)(s:AV)(t:Ty)(X:List t.den)(m:List Nat):DT OpR:=
 match Nat.beq t.size es&&(Nat.ble 1 es&&Nat.ble by_ 1024)with
 |false=>.fail
 |true=>match s with
 | .nils=>.br (decide (X.length<aq)) (.leaf ⟨.own id 0,(id,.list et t 0 false X)::[],m⟩) .fail
 | .own b g=>match get b with
  |some (.list ee t' g' sh L)=>match Nat.beq g g'&&Nat.beq ee et with
   |true=>(match dK t t' X with
    |some X'=>.br (decide (L.length+X.length<aq)) (.leaf ⟨.own b (g+1),[(b,.list ee t' (g+1) sh (L++X'))],b::m⟩) .fail
    |none=>.fail)
   |false=>.fail
  |_=>.fail
 | .sx t' L=>match dK t t' X with
  |some X'=>.br (decide (0<X.length)&&decide (L.length+X.length<aq)) (.leaf ⟨.own id 0,[(id,.list et t' 0 false (L++X'))],m⟩) .fail
  |none=>.fail
 |_=>.fail
def mB(get:Get)(id:Nat)(et es by_:Nat)(s x:AV):DT OpR:=
 match x with
 | .nils=>(match s with| .nils=>bI .nils|_=>.fail)
 | .str c=>eF get id et es by_ s (.int .u8) (c.map fun b=>(b.toNat:Int)) []
 |x=>match dT get x with
  |some (.mk t X m)=>eF get id et es by_ s t X m
  |none=>.fail
def lV(lk:bh)(n:Nat):Option Operand→Option Int
 |some a=>intOf? (an lk a)
 |none=>some (n:Int)
def lv(lk:bh):Option Operand→Option Int
 |some a=>intOf? (an lk a)
 |none=>some 0
def inB(l h:Int)(n:Nat):Bool:=decide (0≤l)&&(decide (l≤h)&&decide (h≤(n:Int)))
def inI(i:Int)(n:Nat):Bool:=decide (0≤i)&&decide (i<(n:Int))
def ij(get:Get)(lk:bh)(es:Nat)(x:AV)(lo hi mx:Option Operand):DT OpR:=
 match mx with
 |some m=>match x,hi,lo with
  | .own b g,some h,none=>match get b with
   |some (.list _ t g' _ L)=>match Nat.beq g g'&&Nat.beq t.size es with
    |true=>(match intOf? (an lk h),intOf? (an lk m)with
     |some h,some m=>.br (inB 0 h L.length&&(h==m)) (.leaf ⟨.sx t (L.take h.toNat),bD get [b],[b]⟩) .fail
     |_,_=>.fail)
    |false=>.fail
   |_=>.fail
  | .nils,some h,none=>match intOf? (an lk h),intOf? (an lk m)with
   |some h,some m=>.br ((h==0)&&(m==0)) (bI .nils) .fail
   |_,_=>.fail
  |_,_,_=>.fail
 |none=>match x with
  | .str s=>match lv lk lo,lV lk s.length hi with
   |some l,some h=>.br (inB l h s.length) (bI (.str ((s.take h.toNat).drop l.toNat))) .fail
   |_,_=>.fail
  | .own b g=>match get b with
   |some (.list ee t g' sh L)=>match Nat.beq g g'&&Nat.beq t.size es,lv lk lo,lV lk L.length hi with
    |true,some l,some h=>(match sh,lo with
     |false,none=>.br (inB 0 h L.length) (.leaf ⟨.own b (g+1),[(b,.list ee t (g+1) false (L.take h.toNat))],[b]⟩) .fail
     |_,_=>.br (inB l h L.length) (.leaf ⟨.sl t ((L.take h.toNat).drop l.toNat),bD get [b],[b]⟩) .fail)
    |_,_,_=>.fail
   |_=>.fail
  | .sl t L=>match Nat.beq t.size es,lv lk lo,lV lk L.length hi with
   |true,some l,some h=>.br (inB l h L.length) (bI (.sl t ((L.take h.toNat).drop l.toNat))) .fail
   |_,_,_=>.fail
  | .sx t L=>match Nat.beq t.size es,lv lk lo,lV lk L.length hi with
   |true,some l,some h=>.br (inB l h L.length) (bI (.sl t ((L.take h.toNat).drop l.toNat))) .fail
   |_,_,_=>.fail
  |_=>.fail
def eK(E:Env)(t:Nat):Option Nat:=
 match E.T t with
 |some ti=>match ti.td with
  | .slice e=>match E.T e with
   |some te=>some te.size
   |none=>none
  |_=>none
 |none=>none
def gD(get:Get)(es:Nat)(x i:AV):DT OpR:=
 match i with
 | .int _ n=>match x with
  | .sl t L=>match Nat.beq t.size es with
   |true=>.br (inI n L.length) (bI (.pd t (L.getD n.toNat t.dflt) 0)) .fail
   |false=>.fail
  | .sx t L=>match Nat.beq t.size es with
   |true=>.br (inI n L.length) (bI (.pd t (L.getD n.toNat t.dflt) 0)) .fail
   |false=>.fail
  | .own b g=>match get b with
   |some (.list _ t g' _ L)=>match Nat.beq g g'&&Nat.beq t.size es with
    |true=>.br (inI n L.length) (.leaf ⟨.el b g n.toNat 0,[],[b]⟩) .fail
    |false=>.fail
   |_=>.fail
  |_=>.fail
 |_=>.fail
def Fu(E:Env)(t:Nat)(x i:AV):DT OpR:=
 match i with
 | .int _ n=>match x with
  | .str s=>match E.T t with
   |some ti=>match ti.td with
    | .str=>.br (inI n s.length) (bI (.int .u8 (s.getD n.toNat 0).toNat)) .fail
    |_=>.fail
   |none=>.fail
  | .agg cs=>match E.T t with
   |some ti=>match ti.td with
    | .array len e=>match E.T e with
     |some te=>match te.ty with
      |some ty=>match Nat.beq ty.size te.size,bw (fun _=>none) ty len cs with
       |true,some (L,_)=>.br (inI n len) (ofO (pJ te.agg (flat ty (L.getD n.toNat ty.dflt)))) .fail
       |_,_=>.fail
      |none=>.fail
     |none=>.fail
    |_=>.fail
   |none=>.fail
  |_=>.fail
 |_=>.fail
def rE(get:Get)(a x:AV):Option OpR:=
 match x.cells.all AV.leaf with
 |false=>none
 |true=>match a with
  | .ref b off=>match get b with
   |some (.cells ty cs)=>match Nat.ble (off+x.cells.length) cs.length with
    |true=>some ⟨.tup [],[(b,.cells ty (iX cs off x.cells))],[b]⟩
    |false=>none
   |_=>none
  | .el b g i off=>match get b with
   |some (.list ee t g' false L)=>match Nat.beq g g'&&Nat.ble (off+x.cells.length) t.size with
    |true=>(match bc get t (iX (flat t (L.getD i t.dflt)) off x.cells)with
     |some (y,[],m)=>(match m.any (Nat.beq b)with
      |true=>none
      |false=>some ⟨.tup [],(b,.list ee t g' false (L.set i y))::bD get m,b::m⟩)
     |_=>none)
    |false=>none
   |_=>none
  |_=>none
def opA(E:Env)(lk:bh)(get:Get)(id:Nat)(o:Op):DT OpR:=
 match o with
 | .move x=>bI (an lk x)
 | .assign x=>bI (an lk x)
 | .pick c a b=>match an lk c with
  | .bool c=>match an lk a,an lk b with
   | .bool a,.bool b=>bI (.bool (cond c a b))
   |a,b=>.br c (bI a) (bI b)
  |_=>.fail
 | .alloc t=>match E.T t with
  |some ti=>match ti.zero.all AV.leaf with
   |true=>.leaf ⟨.ref id 0,[(id,.cells t ti.zero)],[]⟩
   |false=>.fail
  |none=>.fail
 | .box t x=>match(an lk x).cells.all AV.leaf with
  |true=>.leaf ⟨.ref id 0,[(id,.cells t (an lk x).cells)],[]⟩
  |false=>.fail
 | .build t ps=>match E.T t with
  |some ti=>match ti.td with
   | .struct fs=>match ig 0 fs ti.zero.length with
    |true=>ofO ((vI lk fs ps.toList ti.zero).map .agg)
    |false=>.fail
   | .array n e=>match E.T e with
    |some te=>match ig 0 (gO n te) ti.zero.length with
     |true=>ofO ((cE lk 0 (gO n te) ps.toList ti.zero).map .agg)
     |false=>.fail
    |none=>.fail
   |_=>.fail
  |none=>.fail
 | .buildSlice t len ps=>match E.T t with
  |some ti=>match ti.td with
   | .slice e=>match E.T e with
    |some te=>match te.ty with
     |some ty=>match Nat.beq ty.size te.size&&(Nat.ble 1 te.size&&(Nat.ble (len*te.size) 4096&&Nat.beq te.zero.length te.size)),cE lk 0 (gO len te) ps.toList ((List.replicate len te.zero).flatten)with
      |true,some cs=>match bw get ty len cs with
       |some (L,m)=>.leaf ⟨.own id 0,(id,.list e ty 0 false L)::bD get m,m⟩
       |none=>.fail
      |_,_=>.fail
     |none=>.fail
    |none=>.fail
   |_=>.fail
  |none=>.fail
 | .load t a=>match E.T t with
  |some ti=>match fS get ti.size (an lk a)with
   |some (cs,rd)=>match Nat.beq cs.length ti.size with
    |true=>(match pJ ti.agg cs with|some v=>.leaf ⟨v,[],rd⟩|none=>.fail)
    |false=>.fail
   |none=>.fail
  |none=>.fail
 | .store t a x=>match E.T t with
  |some ti=>match Nat.beq (an lk x).cells.length ti.size with
   |true=>match rE get (an lk a) (an lk x)with|some r=>.leaf r|none=>.fail
   |false=>.fail
  |none=>.fail
 | .nilCheck x=>match an lk x with
  | .ref b off=>bI (.ref b off)
  | .pd t y off=>bI (.pd t y off)
  | .el b g i off=>bI (.el b g i off)
  | .fn f c=>bI (.fn f c)
  |_=>.fail
 | .binOp op t x y _=>match vv y with
  |true=>zP E t op (an lk x) (an lk y)
  |false=>wc E t op (an lk x) (an lk y)
 | .unOp op _ x=>match op,an lk x with
  | .not,.bool b=>bI (.bool (!b))
  | .neg,.int k n=>bI (.int k (k.wrap (0-n)))
  |_,_=>.fail
 | .convert s d x=>match E.T s,E.T d with
  |some si,some ti=>(match si.td,ti.td,an lk x with
   | .int _,.int k,.int _ n=>bI (.int k (k.wrap n))
   | .str,.str,.str s=>bI (.str s)
   |_,_,_=>.fail)
  |_,_=>.fail
 | .makeInterface t x=>match E.T t with
  |some ti=>match ti.td with
   | .other=>.fail
   | .iface=>.fail
   |_=>bI (.iface t (an lk x))
  |none=>.fail
 | .makeSlice t l c=>match E.T t,an lk l,an lk c with
  |some ti,.int .i64 n,.int .i64 n'=>(match ti.td with
   | .slice e=>match E.T e with
    |some te=>match te.ty with
     |some ty=>match Nat.beq ty.size te.size&&(Nat.ble 1 te.size&&(Nat.ble te.bytes 2048&&Nat.beq te.zero.length te.size)),bc (fun _=>none) ty te.zero with
      |true,some (x0,[],_)=>.br (inR n&&(n==n')) (.leaf ⟨.own id 0,[(id,.list e ty 0 false (List.replicate n.toNat x0))],[]⟩) .fail
      |_,_=>.fail
     |none=>.fail
    |none=>.fail
   |_=>.fail)
  |_,_,_=>.fail
 | .fieldAddr t a f=>match E.T t with
  |some ti=>match ti.td with
   | .struct fs=>match nth fs f with
    |some fl=>match fl.size with
     |0=>.fail
     |_+1=>ofO (EH (an lk a) fl.off)
    |none=>.fail
   |_=>.fail
  |none=>.fail
 | .field t x f=>match E.T t,an lk x with
  |some ti,.agg cs=>(match ti.td with
   | .struct fs=>match nth fs f with
    |some fl=>match E.T fl.t with
     |some _=>ofO (pJ fl.agg (seg cs fl.off fl.size))
     |none=>.fail
    |none=>.fail
   |_=>.fail)
  |_,_=>.fail
 | .indexAddr t x i=>match eK E t with
  |some es=>gD get es (an lk x) (an lk i)
  |none=>.fail
 | .index t x i=>Fu E t (an lk x) (an lk i)
 | .slice t x lo hi mx=>match an lk x,mx with
  | .str s,none=>(match E.T t with
   |some ti=>match ti.td with
    | .str=>ij get lk 0 (.str s) lo hi none
    |_=>.fail
   |none=>.fail)
  |v,mx=>match eK E t with
   |some es=>ij get lk es v lo hi mx
   |none=>.fail
 | .extract x i=>match an lk x with
  | .tup vs=>ofO (nth vs i)
  |_=>.fail
 | .call {callee:=.builtin .len,args:=as,argTypes:=ts}=>match as.toList with
  |[a]=>match ts.toList with
   |[t]=>match E.T t with
    |some ti=>match ti.td with
     | .str=>(match an lk a with
      | .str s=>bI (.int .i64 s.length)
      |_=>.fail)
     | .slice _=>(match an lk a with
      | .nils=>bI (.int .i64 0)
      |v=>match dT get v with
       |some (.mk _ L m)=>.leaf ⟨.int .i64 L.length,[],m⟩
       |none=>.fail)
     |_=>.fail
    |none=>.fail
   |_=>.fail
  |_=>.fail
 | .call {callee:=.builtin .append,args:=as,argTypes:=ts}=>match as.toList with
  |[s,x]=>match ts.toList with
   |[t,t']=>match E.T t,E.T t' with
    |some ti,some ti'=>(match ti'.td with
     | .int _=>.fail
     |_=>match ti.td with
      | .slice e=>match E.T e with
       |some te=>match Nat.beq te.zero.length te.size with
        |true=>mB get id e te.size te.bytes (an lk s) (an lk x)
        |false=>.fail
       |none=>.fail
      |_=>.fail)
    |_,_=>.fail
   |_=>.fail
  |_=>.fail
 | .call {callee:=.builtin .max,args:=as,.. }=>match as.toList with
  |[a,b]=>match an lk a,an lk b with
   | .int k x,.int k' y=>if k=k' then bI (.int k (bif decide (x<y)then y else x))else .fail
   |_,_=>.fail
  |_=>.fail
 |_=>.fail
def refA:AV→List Nat
 | .ref b _=>[b]
 | .bself b=>[b]
 | .own b _=>[b]
 | .el b _ _ _=>[b]
 |_=>[]
def fL(l:List AV):List Nat:=l.flatMap refA
def iV:AV→List Nat
 | .agg cs=>fL cs
 | .tup vs=>vs.flatMap fun v=>fL v.cells
 |v=>refA v
def Ay:AV→Bool
 | .fn _ _| .iface _ _| .undef| .agg _| .tup _| .ref _ _| .bself _| .own _ _| .el _ _ _ _=>false
 |_=>true
def cr:AV→Bool
 | .fn _ c=>c.isEmpty
 | .iface _ v=>v.cells.all Ay
 | .agg _=>false
 | .tup _=>false
 |_=>true
def bH:AV→Bool
 | .agg cs=>cs.all cr
 | .tup vs=>vs.all fun v=>v.cells.all cr
 |v=>cr v
def mE:Option Blk→List Nat
 |some (.cells _ cs)=>fL cs
 |_=>[]
def reach(get:Get):Nat→List Nat→List Nat→Option (List Nat)
 |_,[],acc=>some acc
 |0,_::_,_=>none
 |n+1,b::todo,acc=>match acc.any (Nat.beq b)with
  |true=>reach get n todo acc
  |false=>reach get n (todo++mE (get b)) (acc++[b])
def posOf:List Nat→Nat→Nat
 |[],_=>0
 |a::r,b=>match Nat.beq a b with
  |true=>0
  |false=>posOf r b+1
def mw(m:Nat→Nat):AV→AV
 | .ref b o=>.ref (m b) o
 | .bself b=>.bself (m b)
 | .own b g=>.own (m b) g
 | .el b g i o=>.el (m b) g i o
 |v=>v
def xz(m:Nat→Nat):AV→AV
 | .agg cs=>.agg (cs.map (mw m))
 |v=>mw m v
def jK(m:Nat→Nat):AV→AV
 | .tup vs=>.tup (vs.map (xz m))
 |v=>xz m v
def cC(m:Nat→Nat):Blk→Blk
 | .cells ty cs=>.cells ty (cs.map (mw m))
 |b=>b
def getAll(get:Get):List Nat→Option (List Blk)
 |[]=>some []
 |b::r=>match get b,getAll get r with
  |some x,some l=>some (x::l)
  |_,_=>none
def dU(ids:List Nat)(base:Nat)(i:Nat):Nat:=(nth ids i).getD (base+(i-ids.length))
def dn(m:Nat→Nat):Nat→List Blk→Wr
 |_,[]=>[]
 |i,b::r=>(m i,cC m b)::dn m (i+1) r
def bR:Blk→Bool
 | .cells _ cs=>cs.all cr
 |_=>true
def gj{R:Type}(K:Callee)(f:Nat)(args:List AV)(get:Get)(base:Nat)(k:Out→Wr→List Nat→Rs R):Rs R:=
 match reach get 200 (args.flatMap iV) []with
 |none=>.err 1
 |some ids=>match getAll get ids with
  |none=>.err 2
  |some l=>match args.all bH&&l.all bR with
   |false=>.err 3
   |true=>K R f (args.map (jK (posOf ids))) (l.map (cC (posOf ids))) fun o=>match o with
    |(.ret v,l')=>(match Nat.ble l'.length (ids.length+16)with
     |true=>k (.ret (jK (dU ids base) v)) (dn (dU ids base) 0 l') ids
     |false=>.err 4)
    |(.panic v,_)=>k (.panic v) [] ids
inductive Ex where
 |normal|exit (id:Nat)|ret|panic (v:AV)
def cQ:jr→Wr→jr
 |bs,[]=>bs
 |bs,(i,b)::r=>cQ ((i,b)::bs) r
def kA(tm:lW)(d:Option Tmp)(v:AV):lW:=
 match d with
 |some d=>(d,v)::tm
 |none=>tm
def below(wr:Wr)(n:Nat):Bool:=wr.all fun p=>Nat.blt p.1 n
section
variable(E:Env)(K:Callee){R:Type}
def fI(lk:bh)(get:Get)(id:Nat)(o:Oper)(e:Nat)(kn:AV→Wr→List Nat→Rs R)(kp:AV→Rs R):Rs R:=
 match o.op with
 | .call {callee:=.value f,args:=as,.. }=>match an lk f with
  | .fn f cap=>gj K f (as.toList.map (an lk)++cap) get id fun out wr rd=>match out with
   | .ret v=>(match below wr (id+16)with
    |true=>kn v wr rd
    |false=>.err e)
   | .panic v=>kp v
  |_=>.err e
 | .panic x=>match an lk x with
  | .iface t v=>(match bH (.iface t v)with
   |true=>kp (.iface t v)
   |false=>.err e)
  |_=>.err e
 |op=>(opA E lk get id op).bindK e fun r=>match below r.wr (id+16)with
  |true=>kn r.v r.wr r.rd
  |false=>.err e
def mq(all:List Oper)(j:Nat):Option Tmp:=(nth all j).bind (·.dst)
def eh(rid:Nat)(all:List Oper):List Oper→Nat→St→(St→Rs R)→(AV→Rs R)→Rs R
 |[],i,st,kn,_=>kn {st with next:=st.next+16*i}
 |o::os,i,st,kn,kp=>
  let go (st:St):Rs R:=fI E K (look st.tmps) (aL st.blks) (st.next+16*i) o (rid*100+i)
   (fun v wr _=>eh rid all os (i+1) {tmps:=kA st.tmps o.dst v,blks:=cQ st.blks wr,next:=st.next} kn kp) kp
  let skip (st:St):Rs R:=eh rid all os (i+1) {st with tmps:=kA st.tmps o.dst (.tup [])} kn kp
  match o.guard with
  |none=>go st
  |some (j,want)=>match mq all j with
   |none=>.err 5
   |some d=>match look st.tmps d with
    | .bool b=>(match b with
     |true=>(match want with
      |true=>go {st with tmps:=(d,.bool true)::st.tmps}
      |false=>skip {st with tmps:=(d,.bool true)::st.tmps})
     |false=>(match want with
      |true=>skip {st with tmps:=(d,.bool false)::st.tmps}
      |false=>go {st with tmps:=(d,.bool false)::st.tmps}))
    | .tup []=>skip st
    |_=>.err 5
def rk(acc:List Nat)(o:Oper):Nat:=
 o.after.toList.foldr (fun e s=>match Region.binds .any e with|true=>s ||| (1 <<< e.on) ||| ((nth acc e.on).getD 0)|false=>s) 0
def fx:List Oper→List Nat→List Nat
 |[],acc=>acc
 |o::os,acc=>fx os (acc++[rk acc o])
structure Ent where
 i:Nat
 rb:List Nat
 wb:List Nat
def meets(a b:List Nat):Bool:=a.any fun x=>b.any (Nat.beq x)
def Ent.clash(a b:Ent):Bool:=meets a.wb b.rb||(meets a.wb b.wb||meets a.rb b.wb)
def eQ(bf:List Nat)(j i:Nat):Bool:=Nat.testBit ((nth bf j).getD 0) i
def nk(bf:List Nat):List Ent→Bool
 |[]=>true
 |e::r=>r.all (fun d=> !(e.clash d)||eQ bf d.i e.i)&&nk bf r
def RC:Operand→List Nat
 | .tmp t=>[t]
 |_=>[]
def ud(all:List Oper)(o:Oper):List Nat:=
 match o.guard with
 |none=>[]
 |some (j,_)=>(mq all j).toList
def qb(all:List Oper)(o:Oper):List Nat:=o.op.operands.toList.flatMap RC++ud all o
def vX(all:List Oper)(bf:List Nat):Bool:=
 let is:=List.range all.length
 is.all fun j=>match nth all j with
  |none=>true
  |some oj=>(oj.after.toList.all fun e=> !Region.binds .any e||Nat.blt e.on j)&&
   (match oj.guard with|none=>true|some (g,_)=>eQ bf j g)&&
   is.all fun i=>match nth all i with
    |none=>true
    |some oi=> !(Nat.blt i j)||(eQ bf j i|| !(meets oi.dst.toList (qb all oj++oj.dst.toList)||meets oj.dst.toList (qb all oi)))
def qS(next id:Nat)(es:List Ent)(wr:Wr):Bool:=
 wr.all fun p=>Nat.blt p.1 next||(Nat.ble id p.1||es.any fun e=>e.wb.any (Nat.beq p.1))
def oD(lk:bh)(get:Get)(o:Oper):Option (List Nat):=
 match o.op with
 | .call {callee:=.value f,args:=as,.. }=>(match an lk f with
  | .fn _ cap=>reach get 200 ((as.toList.map (an lk)++cap).flatMap iV) []
  |_=>none)
 |_=>none
def Am(bf:List Nat)(pm:Option (Nat×AV))(i:Nat):Bool:=
 match pm with
 |none=>false
 |some (p,_)=>eQ bf i p
def yo(i:Nat)(rd:List Nat)(es:List Ent):List Ent:=match rd with
 |[]=>es
 |rd=>⟨i,rd,[]⟩::es
def jq(pm:Option (Nat×AV))(rd:Option (List Nat))(k:List Nat→Rs R):Rs R:=match pm with
 |some _=>.err 8
 |none=>match rd with
  |none=>.err 9
  |some rd=>k rd
def cT(rid:Nat)(all:List Oper)(bf:List Nat):List Oper→Nat→St→List Ent→Option (Nat×AV)→(St→Rs R)→(AV→Rs R)→Rs R
 |[],i,st,es,pm,kn,kp=>match nk bf es.reverse with
  |true=>(match pm with
   |none=>kn {st with next:=st.next+16*i}
   |some (_,v)=>kp v)
  |false=>.err 6
 |o::os,i,st,es,pm,kn,kp=>
  let go (st:St):Rs R:=fI E K (look st.tmps) (aL st.blks) (st.next+16*i) o (rid*100+i)
   (fun v wr rd=>match qS st.next (st.next+16*i) es wr with
    |true=>cT rid all bf os (i+1) {tmps:=kA st.tmps o.dst v,blks:=cQ st.blks wr,next:=st.next}
     (match wr,rd with|[],[]=>es|wr,rd=>⟨i,rd,wr.map (·.1)⟩::es) pm kn kp
    |false=>.err 7)
   (fun v=>jq pm (oD (look st.tmps) (aL st.blks) o) fun rd=>cT rid all bf os (i+1) {st with tmps:=kA st.tmps o.dst .undef} (yo i rd es) (some (i,v)) kn kp)
  let skip (st:St):Rs R:=cT rid all bf os (i+1) {st with tmps:=kA st.tmps o.dst (.tup [])} es pm kn kp
  match Am bf pm i with
  |true=>cT rid all bf os (i+1) {st with tmps:=kA st.tmps o.dst .undef} es pm kn kp
  |false=>match o.guard with
   |none=>go st
   |some (j,want)=>match mq all j with
    |none=>.err 5
    |some d=>match look st.tmps d with
     | .bool b=>(match b with
      |true=>(match want with
       |true=>go {st with tmps:=(d,.bool true)::st.tmps}
       |false=>skip {st with tmps:=(d,.bool true)::st.tmps})
      |false=>(match want with
       |true=>skip {st with tmps:=(d,.bool false)::st.tmps}
       |false=>go {st with tmps:=(d,.bool false)::st.tmps}))
     | .tup []=>skip st
     |_=>.err 5
abbrev xr:=Nat→Option (Nat×(St→Option St))
abbrev Jump(R:Type):=Nat→St→Rs R
def rM(J:Jump R)(c:Nat×(St→Option St))(st:St):Rs R:=
 match c.2 st with
 |some st'=>J c.1 st'
 |none=>.err (9000000+c.1)
abbrev Ev(R:Type):=Nat→St→(Ex→St→Rs R)→Rs R
def enter(cuts:xr)(J:Jump R)(x:Ev R)(p:Nat)(st:St)(k:Ex→St→Rs R):Rs R:=
 match cuts p with
 |some c=>rM J c st
 |none=>x p st k
def sR(b:Ev R)(p:Nat)(k:Ex→St→Rs R)(ex:Ex)(st:St):Rs R:=
 match ex with
 | .normal=>b p st k
 | .exit id=>k (.exit id) st
 | .ret=>k .ret st
 | .panic v=>k (.panic v) st
def gh(id:Nat)(k:Ex→St→Rs R)(ex:Ex)(st:St):Rs R:=
 match ex with
 | .normal=>k .normal st
 | .exit j=>(match Nat.beq j id with
  |true=>k .normal st
  |false=>k (.exit j) st)
 | .ret=>k .ret st
 | .panic v=>k (.panic v) st
def GJ:Ev R:=fun p _ _=>.err (8000000+p)
def ev(cuts:xr)(J:Jump R)(c:Code):Ev R:=
 Code.rec (motive:=fun _=>Ev R)
  (fun _ st k=>k .normal st)
  (fun id ops draw _ st k=>match draw with
   |false=>eh E K id ops.toList ops.toList 0 st (fun st'=>k .normal st') (fun v=>k (.panic v) st)
   |true=>cT E K id ops.toList (fx ops.toList []) ops.toList 0 st [] none (fun st'=>k .normal st') (fun v=>k (.panic v) st))
  (fun _ _ a b p st k=>enter cuts J a (2*p) st (sR (enter cuts J b) (2*p+1) k))
  (fun c _ _ a b p st k=>match an (look st.tmps) c with
   | .bool t=>(match t with
    |true=>enter cuts J a (2*p) st k
    |false=>enter cuts J b (2*p+1) st k)
   |_=>.err (7000000+p))
  (fun id _ c p st k=>enter cuts J c (2*p) st (gh id k))
  (fun _ _ p st _=>match cuts (2*p)with
   |some c=>rM J c st
   |none=>.err (8000000+p))
  (fun _ _ _ _ _ _=>GJ)
  (fun id _ st k=>k (.exit id) st)
  (fun _ c p st k=>enter cuts J c (2*p) st k)
  (fun _ _ st k=>k .normal st)
  (fun _=>GJ)
  (fun _ st k=>k .ret st)
  (fun _=>GJ) c
def resume(cuts:xr)(J:Jump R):List Bool→Code→Nat→St→(Ex→St→Rs R)→Rs R
 |[],c,p,st,k=>ev E K cuts J c p st k
 |d::r,c,p,st,k=>match c with
  | .seq a b=>(match d with
   |false=>resume cuts J r a (2*p) st (sR (enter cuts J (ev E K cuts J b)) (2*p+1) k)
   |true=>resume cuts J r b (2*p+1) st k)
  | .cond _ a b=>(match d with
   |false=>resume cuts J r a (2*p) st k
   |true=>resume cuts J r b (2*p+1) st k)
  | .block id c=>resume cuts J r c (2*p) st (gh id k)
  | .loop c=>resume cuts J r c (2*p) st (sR (enter cuts J GJ) (2*p) k)
  | .scope c=>resume cuts J r c (2*p) st k
  |_=>.err 10
def LF(lk:bh)(get:Get):ResultVar→Option AV
 | .tmp t=>some (lk t)
 | .cell a t=>match E.T t with
  |some ti=>match fS get ti.size (lk a)with
   |some (cs,_)=>(match Nat.beq cs.length ti.size with
    |true=>pJ ti.agg cs
    |false=>none)
   |none=>none
  |none=>none
def lN(lk:bh)(get:Get):List ResultVar→Option (List AV)
 |[]=>some []
 |r::rs=>match LF E lk get r,lN lk get rs with
  |some v,some vs=>some (v::vs)
  |_,_=>none
def aB:Nat→List Blk→jr
 |_,[]=>[]
 |i,b::r=>(i,b)::aB (i+1) r
def leave(np:Nat)(get:Get)(v:AV)(k:(Out×List Blk)→Rs R):Rs R:=
 match reach get 200 (List.range np++iV v) []with
 |none=>.err 11
 |some ids=>match getAll get ids with
  |none=>.err 12
  |some l=>match bH v&&l.all bR with
   |true=>k (.ret (jK (posOf ids) v),l.map (cC (posOf ids)))
   |false=>.err 13
def eO:Nat→List AV→lW
 |_,[]=>[]
 |i,v::r=>(i,v)::eO (i+1) r
def bY(np:Nat)(results:List ResultVar)(k:(Out×List Blk)→Rs R)(ex:Ex)(st:St):Rs R:=
 match ex with
 | .normal=>(match lN E (look st.tmps) (aL st.blks) results with
  |some [v]=>leave np (aL st.blks) v k
  |some vs=>leave np (aL st.blks) (.tup vs) k
  |none=>.err 14)
 | .ret=>(match lN E (look st.tmps) (aL st.blks) results with
  |some [v]=>leave np (aL st.blks) v k
  |some vs=>leave np (aL st.blks) (.tup vs) k
  |none=>.err 14)
 | .panic v=>k (.panic v,[])
 | .exit _=>.err 15
def ct:xr:=fun _=>none
def cq:Jump R:=fun j _=>.err (6000000+j)
def body(fi:FI)(args:List AV)(bs:List Blk)(k:(Out×List Blk)→Rs R):Rs R:=
 match Nat.ble args.length fi.ntmps with
 |false=>.err 16
 |true=>ev E K ct cq fi.code 1 {tmps:=eO 0 args,blks:=aB 0 bs,next:=bs.length} (bY E bs.length fi.results k)
end
def run(E:Env):Nat→Callee:=
 fun n=>Nat.rec (motive:=fun _=>Callee) (fun _ f _ _ _=>.err (5000000+f)) (fun _ ih R f args bs k=>
  match nth E.intr f with
  |some (some g)=>g R args bs k
  |_=>match nth E.fi f with
   |some (some fi)=>body E ih fi args bs k
   |_=>.err (4000000+f)) n
inductive Sh where
 |keep|sl (t:Ty)|own (e:Nat) (t:Ty)|bself
def ub(get:Get)(self next:Nat)(s:Sh)(a:AV):Option (AV×Wr×Nat):=
 match s with
 | .keep=>some (a,[],next)
 | .sl t=>(match bc get (.slice t) [a]with
  |some (L,[],m)=>some (.sl t L,bD get m,next)
  |_=>none)
 | .own e t=>(match Nat.ble 1 t.size with
  |true=>(match a with
   | .nils=>some (.own next 0,[(next,.list e t 0 false [])],next+1)
   | .own b g=>(match get b with
    |some (.list e' t' g' _ L)=>(match Nat.beq g g'&&Nat.beq e e' with
     |true=>(match dK t' t L with|some _=>some (.own b g,[],next)|none=>none)
     |false=>none)
    |_=>none)
   |_=>none)
  |false=>none)
 | .bself=>(match get self with
  |some (.cells _ _)=>(match a with
   | .nilp=>some (.bself self,[],next)
   | .ref b o=>(match o with
    |0=>(match Nat.beq b self with|true=>some (.bself self,[],next)|false=>none)
    |_=>none)
   | .bself b=>(match Nat.beq b self with|true=>some (.bself self,[],next)|false=>none)
   |_=>none)
  |_=>none)
def pq(self:Nat):List Sh→List AV→jr→Nat→Option (List AV×jr×Nat)
 |[],cs,bs,n=>some (cs,bs,n)
 |s::ss,[],_,_=>none
 |s::ss,a::as,bs,n=>match ub (aL bs) self n s a with
  |some (a',wr,n')=>match pq self ss as (cQ bs wr) n' with
   |some (as',bs',n'')=>some (a'::as',bs',n'')
   |none=>none
  |none=>none
def IJ(ss:List Sh)(v:AV)(bs:jr)(n:Nat):Option (AV×jr×Nat):=
 match ss with
 |[]=>some (v,bs,n)
 |ss=>match v with
  | .agg cs=>(match pq 0 ss cs bs n with
   |some (cs',bs',n')=>some (.agg cs',bs',n')
   |none=>none)
  | .tup _=>none
  |v=>match pq 0 ss [v] bs n with
   |some ([v'],bs',n')=>some (v',bs',n')
   |_=>none
def ix(lk:bh):List (Nat×List Sh)→jr→Nat→Option (lW×jr×Nat)
 |[],bs,n=>some ([],bs,n)
 |(i,ss)::r,bs,n=>match IJ ss (lk i) bs n with
  |some (v,bs',n')=>match ix lk r bs' n' with
   |some (tm,bs'',n'')=>some ((i,v)::tm,bs'',n'')
   |none=>none
  |none=>none
def fv:List (Nat×List Sh)→jr→Nat→Option (jr×Nat)
 |[],bs,n=>some (bs,n)
 |(b,[])::r,bs,n=>fv r bs n
 |(b,s::ss)::r,bs,n=>match aL bs b with
  |some (.cells ty cs)=>match pq b (s::ss) cs bs n with
   |some (cs',bs',n')=>fv r ((b,.cells ty cs')::bs') n'
   |none=>none
  |_=>none
def gA(get:Get)(q:Nat→Nat):AV→Option AV
 | .own b g=>(match get b with
  |some (.list _ _ g' _ _)=>(match Nat.beq g g' with|true=>some (.own b (q b))|false=>none)
  |_=>none)
 | .el b g i o=>(match get b with
  |some (.list _ _ g' _ _)=>(match Nat.beq g g' with|true=>some (.el b (q b) i o)|false=>none)
  |_=>none)
 |a=>some a
def dY{α β:Type}(f:α→Option β):List α→Option (List β)
 |[]=>some []
 |a::r=>match f a,dY f r with
  |some b,some r'=>some (b::r')
  |_,_=>none
def gC(get:Get)(q:Nat→Nat):AV→Option AV
 | .agg cs=>(match dY (gA get q) cs with|some cs'=>some (.agg cs')|none=>none)
 |a=>gA get q a
def gV(get:Get)(q:Nat→Nat):AV→Option AV
 | .tup vs=>(match dY (gC get q) vs with|some vs'=>some (.tup vs')|none=>none)
 |a=>gC get q a
def gB(get:Get)(q:Nat→Nat)(i:Nat):Blk→Option Blk
 | .cells ty cs=>(match dY (gA get q) cs with|some cs'=>some (.cells ty cs')|none=>none)
 | .list e t _ sh L=>some (.list e t (q i) sh L)
def gBs(get:Get)(q:Nat→Nat):Nat→List Blk→Option (List Blk)
 |_,[]=>some []
 |i,b::r=>match gB get q i b,gBs get q (i+1) r with
  |some b',some r'=>some (b'::r')
  |_,_=>none
def gT(get:Get)(q:Nat→Nat):lW→Option lW
 |[]=>some []
 |(i,v)::r=>match gV get q v,gT get q r with
  |some v',some r'=>some ((i,v')::r')
  |_,_=>none
structure Tpl where
 slots:List (Nat×List Sh)
 blks:List (List Sh)
def norm(np:Nat)(tp:Tpl)(st:St):Option St:=
 match ix (look st.tmps) tp.slots st.blks st.next with
 |none=>none
 |some (tm,bs,n)=>match reach (aL bs) 200 (List.range np++tm.flatMap fun p=>iV p.2) []with
  |none=>none
  |some ids=>match fv (ids.zip tp.blks) bs n with
   |none=>none
   |some (bs2,_)=>match reach (aL bs2) 200 (List.range np++tm.flatMap fun p=>iV p.2) []with
    |none=>none
    |some ids2=>match getAll (aL bs2) ids2 with
     |none=>none
     |some l=>match(tm.all fun p=>bH p.2)&&l.all bR with
      |false=>none
      |true=>
       let tm2:lW:=tm.map fun p=>(p.1,jK (posOf ids2) p.2)
       let l2:=l.map (cC (posOf ids2))
       let q:Nat→Nat:=fun i=>match Nat.blt i np with|true=>1|false=>0
       match gT (aL (aB 0 l2)) q tm2,gBs (aL (aB 0 l2)) q 0 l2 with
       |some tm3,some l3=>some {tmps:=tm3,blks:=aB 0 l3,next:=l3.length}
       |_,_=>none
end Go.Sx
namespace Go.Sx
open Go
inductive G where
 |cells (rb:Nat)
 |list (a:Option Addr) (cap:Nat)
def bT(g:G)(b:Blk)(k o:Nat):Prop:=
 match g,b with
 | .cells rb,.cells _ _=>k=rb
 | .list (some a) cap,.list _ t _ sh L=>k=a.block∧(if sh then a.off+L.length*t.size else a.off)≤o∧o<a.off+cap*t.size
 |_,_=>False
def dj(g:G)(k:Nat):Prop:=
 match g with
 | .cells rb=>k=rb
 | .list (some a) _=>k=a.block
 | .list none _=>False
structure Ctx where
 w:World
 m:Get
 φ:Nat→G
 fr:Nat→Nat→Prop
 gl:Nat→Obj→Prop
def Ctx.own(C:Ctx)(k o:Nat):Prop:=∃id b,C.m id=some b∧bT (C.φ id) b k o
def Ctx.T(C:Ctx)(k o:Nat):Prop:=C.fr k o∨C.own k o
def Ctx.held(C:Ctx)(k:Nat):Prop:=∃id b,C.m id=some b∧dj (C.φ id) k
def Imm(w:World)(T:Nat→Nat→Prop)(k o:Nat)(vs:List Value):Prop:=
 ∀j v,vs[j]? =some v→w.cell? ⟨k,o+j,none⟩=some v∧¬T k (o+j)
def Rep(w:World)(T:Nat→Nat→Prop):(t:Ty)→t.den→List Value→Prop
 | .unit,_,vs=>vs=[]
 | .bool,b,vs=>vs=[.bool b]
 | .int k,n,vs=>vs=[.int k n]
 | .flt k,n,vs=>vs=[.float k n]
 | .str,s,vs=>vs=[.string ⟨⟨s⟩⟩]
 | .pair a b,x,vs=>∃v1 v2,vs=v1++v2∧Rep w T a x.1 v1∧Rep w T b x.2 v2
 | .slice e,L,vs=>∃a cap,vs=[.slice a (List.length L) cap]∧List.length L≤cap∧
   ∀i x,(show List e.den from L)[i]? =some x→∃ad cs,a=some ad∧ad.spot=none∧Imm w T ad.block (ad.off+i*e.size) cs∧Rep w T e x cs
 | .ptr _,none,vs=>vs=[.pointer none]
 | .ptr e,some x,vs=>∃k o cs,vs=[.pointer (some ⟨k,o,none⟩)]∧Imm w T k o cs∧Rep w T e x cs
theorem Rep.len{w:World}{T:Nat→Nat→Prop}:∀{t:Ty} {x:t.den} {vs:List Value},Rep w T t x vs→vs.length=t.size
 | .unit,_,_,h=>by simp[Rep]at h;simp[h,Ty.size]
 | .bool,_,_,h=>by simp[Rep]at h;simp[h,Ty.size]
 | .int _,_,_,h=>by simp[Rep]at h;simp[h,Ty.size]
 | .flt _,_,_,h=>by simp[Rep]at h;simp[h,Ty.size]
 | .str,_,_,h=>by simp[Rep]at h;simp[h,Ty.size]
 | .pair _ _,_,_,h=>by
  obtain⟨v1,v2,rfl,h1,h2⟩:=h
  simp[Ty.size,h1.len,h2.len]
 | .slice _,_,_,h=>by obtain⟨a,cap,rfl,_⟩:=h;simp[Ty.size]
 | .ptr _,none,_,h=>by simp[Rep]at h;simp[h,Ty.size]
 | .ptr _,some _,_,h=>by obtain⟨k,o,cs,rfl,_⟩:=h;simp[Ty.size]
def zx(w:World)(T:Nat→Nat→Prop)(w':World)(T':Nat→Nat→Prop):Prop:=
 ∀k o v,w.cell? ⟨k,o,none⟩=some v→¬T k o→w'.cell? ⟨k,o,none⟩=some v∧¬T' k o
theorem Imm.mono{w w':World}{T T':Nat→Nat→Prop}(h:zx w T w' T'){k o:Nat}{vs:List Value}(hi:Imm w T k o vs):Imm w' T' k o vs:=
 fun j v hv=>h _ _ _ (hi j v hv).1 (hi j v hv).2
theorem Rep.mono{w w':World}{T T':Nat→Nat→Prop}(h:zx w T w' T'):∀{t:Ty} {x:t.den} {vs:List Value},Rep w T t x vs→Rep w' T' t x vs
 | .unit,_,_,r=>r
 | .bool,_,_,r=>r
 | .int _,_,_,r=>r
 | .flt _,_,_,r=>r
 | .str,_,_,r=>r
 | .pair _ _,_,_,r=>by
  obtain⟨v1,v2,rfl,h1,h2⟩:=r
  exact⟨v1,v2,rfl,h1.mono h,h2.mono h⟩
 | .slice _,_,_,r=>by
  obtain⟨a,cap,rfl,hl,hx⟩:=r
  refine⟨a,cap,rfl,hl,fun i x hi=>?_⟩
  obtain⟨ad,cs,ha,hs,him,hr⟩:=hx i x hi
  exact⟨ad,cs,ha,hs,him.mono h,hr.mono h⟩
 | .ptr _,none,_,r=>r
 | .ptr _,some _,_,r=>by
  obtain⟨k,o,cs,rfl,him,hr⟩:=r
  exact⟨k,o,cs,rfl,him.mono h,hr.mono h⟩
mutual
def aD(C:Ctx):AV→Value→Prop
 | .undef,_=>True
 | .bool b,v=>v= .bool b
 | .int k n,v=>v= .int k n
 | .flt k n,v=>v= .float k n
 | .str s,v=>v= .string ⟨⟨s⟩⟩
 | .nilp,v=>v= .pointer none
 | .nils,v=>v= .slice none 0 0
 | .ref b off,v=>∃rb ty cs,C.m b=some (.cells ty cs)∧C.φ b= .cells rb∧v= .pointer (some ⟨rb,off,none⟩)
 | .anyp,v=>∃a,v= .pointer a
 | .bself b,v=>∃rb ty cs,C.m b=some (.cells ty cs)∧C.φ b= .cells rb∧(v= .pointer none∨v= .pointer (some ⟨rb,0,none⟩))
 | .pd t x off,v=>∃k o cs,v= .pointer (some ⟨k,o+off,none⟩)∧Imm C.w C.T k o cs∧Rep C.w C.T t x cs
 | .sl t L,v=>Rep C.w C.T (.slice t) L [v]
 | .sx t L,v=>∃a,v= .slice a L.length L.length∧Rep C.w C.T (.slice t) L [v]
 | .own b g,v=>∃ee t g' sh L,C.m b=some (.list ee t g' sh L)∧g≤g'∧∃a n cap,v= .slice a n cap∧(g=g'→C.φ b= .list a cap∧n=L.length)
 | .el b g i off,v=>∃ee t g' sh L,C.m b=some (.list ee t g' sh L)∧g≤g'∧
   ∃k o,v= .pointer (some ⟨k,o+off,none⟩)∧(g=g'→∃a cap,C.φ b= .list (some a) cap∧i<L.length∧k=a.block∧o=a.off+i*t.size)
 | .fn f cap,v=>∃vs,v= .func (.func f) #[] vs∧aC C cap vs.toList
 | .nilf,v=>v= .nilFunc
 | .iface t x,v=>∃u,v= .iface t u∧aD C x u
 | .nili,v=>v= .nilIface
 | .agg cs,v=>∃vs,v= .agg vs∧aC C cs vs.toList
 | .tup cs,v=>∃vs,v= .tuple vs∧aC C cs vs.toList
def aC(C:Ctx):List AV→List Value→Prop
 |[],vs=>vs=[]
 |a::as,vs=>∃v r,vs=v::r∧aD C a v∧aC C as r
end
theorem aC.len{C:Ctx}:∀{as:List AV} {vs:List Value},aC C as vs→as.length=vs.length
 |[],_,h=>by simp[aC]at h;simp[h]
 |_::_,_,h=>by
  obtain⟨v,r,rfl,_,h⟩:=h
  simp[h.len]
theorem aC.get{C:Ctx}:∀{as:List AV} {vs:List Value} {i:Nat} {a:AV},aC C as vs→as[i]? =some a→∃v,vs[i]? =some v∧aD C a v
 |a::as,_,0,b,h,hi=>by
  obtain⟨v,r,rfl,h1,_⟩:=h
  simp only[List.getElem?_cons_zero,Option.some.injEq]at hi
  exact⟨v,by simp,hi▸h1⟩
 |a::as,_,i+1,b,h,hi=>by
  obtain⟨v,r,rfl,_,h⟩:=h
  simpa using h.get (by simpa using hi)
 |[],_,i,b,_,hi=>by simp at hi
theorem aC.append{C:Ctx}:∀{as bs:List AV} {vs ws:List Value},aC C as vs→aC C bs ws→aC C (as++bs) (vs++ws)
 |[],_,_,_,h,k=>by simp only[aC]at h;subst h;simpa using k
 |_::_,_,_,_,h,k=>by
  obtain⟨v,r,rfl,h1,h2⟩:=h
  exact⟨v,r++_,rfl,h1,h2.append k⟩
theorem aC.take{C:Ctx}{n:Nat}:∀{as:List AV} {vs:List Value},aC C as vs→aC C (as.take n) (vs.take n):=by
 induction n with
 |zero=>intro as vs h;simp[aC]
 |succ n ih=>
  intro as vs h
  cases as with
  |nil=>simp only[aC]at h;subst h;simp[aC]
  |cons a as=>obtain⟨v,r,rfl,h1,h2⟩:=h;exact⟨v,_,rfl,h1,ih h2⟩
theorem aC.drop{C:Ctx}{n:Nat}:∀{as:List AV} {vs:List Value},aC C as vs→aC C (as.drop n) (vs.drop n):=by
 induction n with
 |zero=>intro as vs h;simpa using h
 |succ n ih=>
  intro as vs h
  cases as with
  |nil=>simp only[aC]at h;subst h;simp[aC]
  |cons a as=>obtain⟨v,r,rfl,h1,h2⟩:=h;simpa using ih h2
structure Ext(C C':Ctx):Prop where
 cells:∀id ty cs,C.m id=some (.cells ty cs)→C'.φ id=C.φ id∧∃cs',C'.m id=some (.cells ty cs')
 lists:∀id ee t g sh L,C.m id=some (.list ee t g sh L)→∃g' sh' L',C'.m id=some (.list ee t g' sh' L')∧g≤g'∧(g=g'→C'.φ id=C.φ id∧L'.length=L.length)
 keep:zx C.w C.T C'.w C'.T
 frEq:C'.fr=C.fr
 glEq:C'.gl=C.gl
 frKeep:∀k o v,C.w.cell? ⟨k,o,none⟩=some v→C.fr k o→C'.w.cell? ⟨k,o,none⟩=some v
 size:C.w.heap.size≤C'.w.heap.size
 old:∀k,k<C.w.heap.size→¬C.held k→C'.w.heap[k]? =C.w.heap[k]?
 held:∀k,C'.held k→C.held k∨C.w.heap.size≤k
 own:∀k o,C'.own k o→C.own k o∨C.w.heap.size≤k
 os:C'.w.os=C.w.os
 tape:C'.w.tape=C.w.tape
 output:C'.w.output=C.w.output
theorem Ext.refl(C:Ctx):Ext C C where
 cells:=fun _ _ cs h=>⟨rfl,cs,h⟩
 lists:=fun _ _ _ g sh L h=>⟨g,sh,L,h,Nat.le_refl _,fun _=>⟨rfl,rfl⟩⟩
 keep:=fun _ _ _ h k=>⟨h,k⟩
 frEq:=rfl
 glEq:=rfl
 frKeep:=fun _ _ _ h _=>h
 size:=Nat.le_refl _
 old:=fun _ _ _=>rfl
 held:=fun _ h=>.inl h
 own:=fun _ _ h=>.inl h
 os:=rfl
 tape:=rfl
 output:=rfl
theorem Ext.trans{A B C:Ctx}(h:Ext A B)(k:Ext B C):Ext A C where
 cells:=fun id ty cs hm=>by
  obtain⟨e,cs',hm'⟩:=h.cells id ty cs hm
  obtain⟨e',cs'',hm''⟩:=k.cells id ty cs' hm'
  exact⟨e'.trans e,cs'',hm''⟩
 lists:=fun id ee t g sh L hm=>by
  obtain⟨g1,sh1,L1,hm1,hg1,e1⟩:=h.lists id ee t g sh L hm
  obtain⟨g2,sh2,L2,hm2,hg2,e2⟩:=k.lists id ee t g1 sh1 L1 hm1
  refine⟨g2,sh2,L2,hm2,Nat.le_trans hg1 hg2,fun e=>?_⟩
  have ea:g=g1:=by omega
  have eb:g1=g2:=by omega
  exact⟨(e2 eb).1.trans (e1 ea).1,(e2 eb).2.trans (e1 ea).2⟩
 keep:=fun a o v hv ht=>by
  obtain⟨hv',ht'⟩:=h.keep a o v hv ht
  exact k.keep a o v hv' ht'
 frEq:=k.frEq.trans h.frEq
 glEq:=k.glEq.trans h.glEq
 frKeep:=fun a o v hv hf=>k.frKeep a o v (h.frKeep a o v hv hf) (h.frEq▸hf)
 size:=Nat.le_trans h.size k.size
 old:=fun a ha hn=>by
  rw[←h.old a ha hn]
  refine k.old a (Nat.lt_of_lt_of_le ha h.size) fun hh=>?_
  rcases h.held a hh with hh|hh
  ·exact hn hh
  ·omega
 held:=fun a ha=>by
  rcases k.held a ha with hh|hh
  ·exact h.held a hh
  ·exact .inr (Nat.le_trans h.size hh)
 own:=fun a o ha=>by
  rcases k.own a o ha with hh|hh
  ·exact h.own a o hh
  ·exact .inr (Nat.le_trans h.size hh)
 os:=k.os.trans h.os
 tape:=k.tape.trans h.tape
 output:=k.output.trans h.output
mutual
theorem aD.mono{C C':Ctx}(h:Ext C C'):∀{a:AV} {v:Value},aD C a v→aD C' a v
 | .undef,_,_=>trivial
 | .bool _,_,r=>r
 | .int _ _,_,r=>r
 | .flt _ _,_,r=>r
 | .str _,_,r=>r
 | .nilp,_,r=>r
 | .nils,_,r=>r
 | .ref b off,_,r=>by
  obtain⟨rb,ty,cs,hm,hp,hv⟩:=r
  obtain⟨e,cs',hm'⟩:=h.cells b ty cs hm
  exact⟨rb,ty,cs',hm',e.trans hp,hv⟩
 | .anyp,_,r=>r
 | .bself b,_,r=>by
  obtain⟨rb,ty,cs,hm,hp,hv⟩:=r
  obtain⟨e,cs',hm'⟩:=h.cells b ty cs hm
  exact⟨rb,ty,cs',hm',e.trans hp,hv⟩
 | .pd t x off,_,r=>by
  obtain⟨k,o,cs,hv,hi,hr⟩:=r
  exact⟨k,o,cs,hv,hi.mono h.keep,hr.mono h.keep⟩
 | .sl t L,_,r=>Rep.mono h.keep r
 | .sx t L,_,r=>by
  obtain⟨a,hv,hr⟩:=r
  exact⟨a,hv,Rep.mono h.keep hr⟩
 | .own b g,_,r=>by
  obtain⟨ee,t,g',sh,L,hm,hg,a,n,cap,hv,hq⟩:=r
  obtain⟨g2,sh2,L2,hm2,hg2,he⟩:=h.lists b ee t g' sh L hm
  refine⟨ee,t,g2,sh2,L2,hm2,Nat.le_trans hg hg2,a,n,cap,hv,fun e=>?_⟩
  obtain⟨hp,hn⟩:=hq (by omega)
  obtain⟨e1,e2⟩:=he (by omega)
  exact⟨e1.trans hp,hn.trans e2.symm⟩
 | .el b g i off,_,r=>by
  obtain⟨ee,t,g',sh,L,hm,hg,k,o,hv,hq⟩:=r
  obtain⟨g2,sh2,L2,hm2,hg2,he⟩:=h.lists b ee t g' sh L hm
  refine⟨ee,t,g2,sh2,L2,hm2,Nat.le_trans hg hg2,k,o,hv,fun e=>?_⟩
  obtain⟨a,cap,hp,hl,hk,ho⟩:=hq (by omega)
  obtain⟨e1,e2⟩:=he (by omega)
  exact⟨a,cap,e1.trans hp,by omega,hk,ho⟩
 | .fn f cap,_,r=>by
  obtain⟨vs,hv,hl⟩:=r
  exact⟨vs,hv,aC.mono h hl⟩
 | .nilf,_,r=>r
 | .iface t x,_,r=>by
  obtain⟨u,hv,hx⟩:=r
  exact⟨u,hv,aD.mono h hx⟩
 | .nili,_,r=>r
 | .agg cs,_,r=>by
  obtain⟨vs,hv,hl⟩:=r
  exact⟨vs,hv,aC.mono h hl⟩
 | .tup cs,_,r=>by
  obtain⟨vs,hv,hl⟩:=r
  exact⟨vs,hv,aC.mono h hl⟩
theorem aC.mono{C C':Ctx}(h:Ext C C'):∀{as:List AV} {vs:List Value},aC C as vs→aC C' as vs
 |[],_,r=>r
 |_::_,_,r=>by
  obtain⟨v,s,hv,h1,h2⟩:=r
  exact⟨v,s,hv,aD.mono h h1,aC.mono h h2⟩
end
def lO(C:Ctx)(g:G)(b:Blk):Prop:=
 match b with
 | .cells ty cs=>∃rb c,g= .cells rb∧C.w.heap[rb]? =some (.cells c ty (0,0))∧aC C cs c.toList∧cs.all AV.leaf=true
 | .list ee t _ sh L=>∃a cap,g= .list a cap∧0<t.size∧L.length≤cap∧
   match a with
   |none=>cap=0
   |some ad=>ad.spot=none∧∃c lo hi,C.w.heap[ad.block]? =some (.cells c ee (lo,hi))∧ad.off+cap*t.size≤c.size∧
     hi≤(if sh then ad.off+L.length*t.size else ad.off)∧
     (sh=true→∀o,ad.off≤o→o<ad.off+L.length*t.size→¬C.T ad.block o)∧
     ∀i x,L[i]? =some x→Rep C.w C.T t x (seg c.toList (ad.off+i*t.size) t.size)
structure SRel(C:Ctx):Prop where
 ok:∀id b,C.m id=some b→lO C (C.φ id) b
 apart:∀id b id' b' k,C.m id=some b→C.m id'=some b'→id≠id'→dj (C.φ id) k→dj (C.φ id') k→False
 frApart:∀k o,C.fr k o→C.held k→False
 frOld:∀k o,C.fr k o→k<C.w.heap.size
 gl:∀k o,C.gl k o→C.w.heap[k]? =some o∧¬C.held k∧∀x,¬C.fr k x
theorem cN{g:G}{b:Blk}{k o:Nat}(h:bT g b k o):dj g k:=by
 unfold bT at h
 unfold dj
 split at h
 ·exact h
 ·exact h.1
 ·exact h.elim
theorem lO.lt{C:Ctx}{g:G}{b:Blk}(h:lO C g b){k:Nat}(hk:dj g k):k<C.w.heap.size:=by
 cases b with
 |cells ty cs=>
  obtain⟨rb,c,rfl,hh,_⟩:=h
  simp only[dj]at hk
  subst hk
  exact(Array.getElem?_eq_some_iff.1 hh).1
 |list ee t g' sh L=>
  obtain⟨a,cap,rfl,_,_,hb⟩:=h
  cases a with
  |none=>exact hk.elim
  |some ad=>
   simp only[dj]at hk
   subst hk
   obtain⟨_,c,lo,hi,hh,_⟩:=hb
   exact(Array.getElem?_eq_some_iff.1 hh).1
theorem lO.mono{C C':Ctx}(hE:Ext C C'){g:G}{b:Blk}(hk:∀k,dj g k→C'.w.heap[k]? =C.w.heap[k]?)(h:lO C g b):lO C' g b:=by
 cases b with
 |cells ty cs=>
  obtain⟨rb,c,rfl,hh,hr,hl⟩:=h
  exact⟨rb,c,rfl,by rw[hk rb rfl];exact hh,hr.mono hE,hl⟩
 |list ee t g' sh L=>
  obtain⟨a,cap,rfl,hz,hc,hb⟩:=h
  refine⟨a,cap,rfl,hz,hc,?_⟩
  cases a with
  |none=>exact hb
  |some ad=>
   obtain⟨hsp,c,lo,hi,hh,hsz,hfz,hsh,hx⟩:=hb
   refine⟨hsp,c,lo,hi,by rw[hk ad.block rfl];exact hh,hsz,hfz,fun hs o h1 h2=>?_,fun i x hi=>(hx i x hi).mono hE.keep⟩
   have hlt:o<c.size:=by
    have:L.length*t.size≤cap*t.size:=Nat.mul_le_mul_right _ hc
    omega
   have hcell:C.w.cell? ⟨ad.block,o,none⟩=some c[o]:=by simp[World.cell?,hh,hlt]
   exact(hE.keep _ _ _ hcell (hsh hs o h1 h2)).2
theorem Ext.gl_ok{C C':Ctx}(hE:Ext C C')(h:∀k o,C.gl k o→C.w.heap[k]? =some o∧¬C.held k∧∀x,¬C.fr k x):∀k o,C'.gl k o→C'.w.heap[k]? =some o∧¬C'.held k∧∀x,¬C'.fr k x:=fun k o hg=>by
 rw[hE.glEq]at hg
 obtain⟨h1,h2,h3⟩:=h k o hg
 have hlt:k<C.w.heap.size:=(Array.getElem?_eq_some_iff.1 h1).1
 refine⟨by rw[hE.old k hlt h2];exact h1,fun hh=>?_,by rw[hE.frEq];exact h3⟩
 rcases hE.held k hh with hh|hh
 ·exact h2 hh
 ·omega
def bG{α:Type}(f:Nat→α)(i:Nat)(a:α):Nat→α:=fun j=>if j=i then a else f j
theorem oI{C:Ctx}(hs:SRel C){id:Nat}{b':Blk}{g':G}{w':World}
  (hsz:C.w.heap.size≤w'.heap.size)
  (hoth:∀k,k<C.w.heap.size→¬(∃b,C.m id=some b∧dj (C.φ id) k)→w'.heap[k]? =C.w.heap[k]?)
  (hlies:∀k,dj g' k→(∃b,C.m id=some b∧dj (C.φ id) k)∨C.w.heap.size≤k)
  (hown:∀k o,bT g' b' k o→(∃b,C.m id=some b∧bT (C.φ id) b k o)∨C.w.heap.size≤k)
  (hkc:∀ty cs,C.m id=some (.cells ty cs)→g'=C.φ id∧∃cs',b'= .cells ty cs')
  (hkl:∀ee t g sh L,C.m id=some (.list ee t g sh L)→∃g2 sh2 L2,b'= .list ee t g2 sh2 L2∧g≤g2∧(g=g2→g'=C.φ id∧L2.length=L.length))
  (hcell:∀k o v,C.w.cell? ⟨k,o,none⟩=some v→¬(∃b,C.m id=some b∧bT (C.φ id) b k o)→w'.cell? ⟨k,o,none⟩=some v)
  (hos:w'.os=C.w.os) (htape:w'.tape=C.w.tape) (hout:w'.output=C.w.output):
  let C':Ctx:=⟨w',bG C.m id (some b'),bG C.φ id g',C.fr,C.gl⟩
  Ext C C'∧(lO C' g' b'→SRel C'):=by
 intro C'
 have hlt:∀{k o v},C.w.cell? ⟨k,o,none⟩=some v→k<C.w.heap.size:=by
  intro k o v hv
  unfold World.cell? at hv
  split at hv
  ·rename_i hh;exact(Array.getElem?_eq_some_iff.1 hh).1
  ·cases hv
 have hm:∀j,j≠id→C'.m j=C.m j∧C'.φ j=C.φ j:=fun j hj=>by simp[C',bG,hj]
 have hmi:C'.m id=some b'∧C'.φ id=g':=by simp[C',bG]
 have hown':∀k o,C'.own k o→C.own k o∨C.w.heap.size≤k:=by
  rintro k o ⟨j,b,hj,hb⟩
  by_cases e:j=id
  ·subst e
   rw[hmi.1]at hj
   rw[hmi.2]at hb
   cases hj
   rcases hown k o hb with⟨b,h1,h2⟩|h
   ·exact .inl ⟨j,b,h1,h2⟩
   ·exact .inr h
  ·rw[(hm j e).1]at hj
   rw[(hm j e).2]at hb
   exact .inl ⟨j,b,hj,hb⟩
 have hheld':∀k,C'.held k→C.held k∨C.w.heap.size≤k:=by
  rintro k ⟨j,b,hj,hb⟩
  by_cases e:j=id
  ·subst e
   rw[hmi.2]at hb
   rcases hlies k hb with⟨b,h1,h2⟩|h
   ·exact .inl ⟨j,b,h1,h2⟩
   ·exact .inr h
  ·rw[(hm j e).1]at hj
   rw[(hm j e).2]at hb
   exact .inl ⟨j,b,hj,hb⟩
 have hE:Ext C C':={
  cells:=fun j ty cs hj=>by
   by_cases e:j=id
   ·subst e
    obtain⟨h1,cs',h2⟩:=hkc ty cs hj
    exact⟨by rw[hmi.2];exact h1,cs',by rw[hmi.1,h2]⟩
   ·exact⟨(hm j e).2,cs,by rw[(hm j e).1];exact hj⟩
  lists:=fun j ee t g sh L hj=>by
   by_cases e:j=id
   ·subst e
    obtain⟨g2,sh2,L2,h1,h2,h3⟩:=hkl ee t g sh L hj
    exact⟨g2,sh2,L2,by rw[hmi.1,h1],h2,fun e=>by rw[hmi.2];exact h3 e⟩
   ·exact⟨g,sh,L,by rw[(hm j e).1];exact hj,Nat.le_refl _,fun _=>⟨(hm j e).2,rfl⟩⟩
  keep:=fun k o v hv hT=>by
   refine⟨hcell k o v hv fun⟨b,h1,h2⟩=>hT (.inr ⟨id,b,h1,h2⟩),fun hT'=>?_⟩
   rcases hT' with hf|ho
   ·exact hT (.inl hf)
   ·rcases hown' k o ho with h|h
    ·exact hT (.inr h)
    ·have:=hlt hv;omega
  frEq:=rfl
  glEq:=rfl
  frKeep:=fun k o v hv hf=>hcell k o v hv fun⟨b,h1,h2⟩=>hs.frApart k o hf ⟨id,b,h1,cN h2⟩
  size:=hsz
  old:=fun k hk hh=>hoth k hk fun⟨b,h1,h2⟩=>hh ⟨id,b,h1,h2⟩
  held:=hheld'
  own:=hown'
  os:=hos
  tape:=htape
  output:=hout}
 refine⟨hE,fun hb=>{ok:=?_,apart:=?_,frApart:=?_,frOld:=fun k o hf=>Nat.lt_of_lt_of_le (hs.frOld k o hf) hsz,gl:=hE.gl_ok hs.gl}⟩
 ·intro j b hj
  by_cases e:j=id
  ·subst e
   rw[hmi.1]at hj
   cases hj
   rw[hmi.2]
   exact hb
  ·rw[(hm j e).1]at hj
   rw[(hm j e).2]
   refine(hs.ok j b hj).mono hE fun k hk=>hoth k ((hs.ok j b hj).lt hk) fun⟨b2,h1,h2⟩=>?_
   exact hs.apart j b id b2 k hj h1 e hk h2
 ·intro i b j b2 k hi hj hne h1 h2
  by_cases ei:i=id
  ·subst ei
   rw[(hm j (Ne.symm hne)).1]at hj
   rw[(hm j (Ne.symm hne)).2]at h2
   rw[hmi.2]at h1
   rcases hlies k h1 with⟨b3,h3,h4⟩|h
   ·exact hs.apart i b3 j b2 k h3 hj hne h4 h2
   ·have:=(hs.ok j b2 hj).lt h2;omega
  ·by_cases ej:j=id
   ·subst ej
    rw[(hm i ei).1]at hi
    rw[(hm i ei).2]at h1
    rw[hmi.2]at h2
    rcases hlies k h2 with⟨b3,h3,h4⟩|h
    ·exact hs.apart i b j b3 k hi h3 hne h1 h4
    ·have:=(hs.ok i b hi).lt h1;omega
   ·rw[(hm i ei).1]at hi
    rw[(hm i ei).2]at h1
    rw[(hm j ej).1]at hj
    rw[(hm j ej).2]at h2
    exact hs.apart i b j b2 k hi hj hne h1 h2
 ·intro k o hf hh
  rcases hheld' k hh with h|h
  ·exact hs.frApart k o hf h
  ·have:=hs.frOld k o hf;omega
end Go.Sx
namespace Go.Sx
open Go
def DD:TypeDesc→Bool
 | .struct _=>true
 | .array _ _=>true
 |_=>false
def pf(P:Program)(t:TypeId):Nat:=match P.info? t with|some i=>i.size|none=>0
def JM(P:Program)(t:TypeId):Bool:=match P.underlying t with|some d=>DD d|none=>false
def gS(P:Program)(f:Field):Fld:=⟨f.offset,pf P f.type,JM P f.type,f.type,f.name=="_"⟩
def jd(P:Program):TypeDesc→TD
 | .int k=>.int k
 | .string=>.str
 | .bool=>.scalar
 | .pointer e=>.ptr e
 | .slice e=>.slice e
 | .array n e=>.array n e
 | .struct fs=>.struct (fs.toList.map (gS P))
 | .interface _=>.iface
 |_=>.other
def yj(P:Program):TypeDesc→Bool
 | .struct fs=>fs.toList.all fun f=>(P.info? f.type).isSome
 |_=>true
def Br(P:Program)(t:TypeId):TypeDesc→Bool
 | .struct _=> !P.stoodInHeld t&& !P.eqGuardType P.depth t
 |_=>false
def ar(P:Program)(t:TypeId)(ty:Option Ty):Option TI:=
 match P.info? t,P.underlying t with
 |some i,some d=>match i.zero with
  |some z=>match yj P d with
   |false=>none
   |true=>some ⟨i.size,i.bytes,z.cells.toList.map iZ,DD d,Br P t d,ty,jd P d⟩
  |none=>none
 |_,_=>none
structure TIOK(P:Program)(t:TypeId)(ti:TI)(i:TypeInfo)(d:TypeDesc)(z:Value):Prop where
 info:P.info? t=some i
 und:P.underlying t=some d
 zero:i.zero=some z
 size:i.size=ti.size
 bytes:i.bytes=ti.bytes
 zeros:ti.zero=z.cells.toList.map iZ
 agg:DD d=ti.agg
 eqOk:Br P t d=ti.eqOk
 td:jd P d=ti.td
 flds:yj P d=true
theorem Kl{P:Program}{t:TypeId}{ty:Option Ty}{ti:TI}(h:ar P t ty=some ti):∃i d z,TIOK P t ti i d z:=by
 unfold ar at h
 split at h
 ·rename_i i d hi hd
  split at h
  ·rename_i z hz
   split at h
   ·cases h
   ·rename_i hf
    simp only[Option.some.injEq]at h
    subst h
    exact⟨i,d,z,hi,hd,hz,rfl,rfl,rfl,rfl,rfl,rfl,hf⟩
  ·cases h
 ·cases h
structure EnvOK(E:Env)(P:Program):Prop where
 ti:∀t ti,E.T t=some ti→ar P t ti.ty=some ti
 mixed:P.follows .mixedOrders=true
variable{P:Program}{E:Env}{C:Ctx}
theorem EnvOK.T(h:EnvOK E P){t:TypeId}{ti:TI}(ht:E.T t=some ti):∃i d z,TIOK P t ti i d z:=Kl (h.ti t ti ht)
theorem fk{t:TypeId}{i:TypeInfo}(h:P.info? t=some i)(w:World):(typeInfo t).run P w= .ok i w:=by
 simp[typeInfo,h]
theorem bx{t:TypeId}{i:TypeInfo}(h:P.info? t=some i)(w:World):(sizeOf t).run P w= .ok i.size w:=by
 simp[sizeOf,fk h]
theorem aw{t:TypeId}{d:TypeDesc}(h:P.underlying t=some d)(w:World):(underlying t).run P w= .ok d w:=by
 simp[underlying,h]
theorem eH{t:TypeId}{i:TypeInfo}{z:Value}(h:P.info? t=some i)(hz:i.zero=some z)(w:World):(zeroValue t).run P w= .ok z w:=by
 simp[zeroValue,fk h,hz]
theorem rP{t:TypeId}{d:TypeDesc}(h:P.underlying t=some d)(w:World):(isAgg t).run P w= .ok (DD d) w:=by
 simp only[isAgg,Sem.run_bind,aw h,Result.andThen_ok]
 cases d<;>rfl
theorem gU(v:Value):aD C (iZ v) v:=by
 unfold iZ
 split<;>simp[aD]
def Good(P:Program)(C:Ctx)(ρ:Operand→Value)(o:Oper)(av:AV)(m':Get):Prop:=
 ∃v C',((execOp ρ o).run P C.w= .ok (.value v) C'.w∨((execOp ρ o).run P C.w= .ok .skip C'.w∧v=undef))∧
  C'.m=m'∧SRel C'∧Ext C C'∧aD C' av v
theorem Good.pure{ρ:Operand→Value}{o:Oper}{av:AV}{v:Value}(hs:SRel C)(hr:(execOp ρ o).run P C.w= .ok (.value v) C.w)(hv:aD C av v):
  Good P C ρ o av C.m:=⟨v,C,.inl hr,rfl,hs,Ext.refl C,hv⟩
theorem addr_add(k o n:Nat):(⟨k,o,none⟩:Addr).add n=⟨k,o+n,none⟩:=by
 unfold Addr.add;split<;>simp_all
theorem mP{t:TypeId}{ti:TI}{i:TypeInfo}{d:TypeDesc}{z:Value}(ht:TIOK P t ti i d z){w:World}{k o:Nat}{vs:List Value}(hl:vs.length=ti.size)
  (hc:∀j v,vs[j]? =some v→w.cell? ⟨k,o+j,none⟩=some v) {u:Value} (hu:(ti.agg=true∧u= .agg vs.toArray)∨(ti.agg=false∧vs=[u])):
  (loadVar t ⟨k,o,none⟩).run P w= .ok u w:=by
 simp only[loadVar,Sem.run_bind,rP ht.und,Result.andThen_ok,ht.agg]
 rcases hu with⟨ha,rfl⟩|⟨ha,rfl⟩
 ·simp only[ha,if_true,Sem.run_bind,bx ht.info,Result.andThen_ok,ht.size,←hl]
  rw[run_loadCells_list w _ vs (fun j v hj=>by rw[addr_add];exact hc j v hj)]
  simp
 ·have:=hc 0 u (by simp)
  simp only[Nat.add_zero]at this
  simp[ha,this]
end Go.Sx
