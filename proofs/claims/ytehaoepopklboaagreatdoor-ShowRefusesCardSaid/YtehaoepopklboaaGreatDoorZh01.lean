/- A part of the proof: see the row's text. -/
import Derived.Test.YtehaoepopklboaaGreatDoorZh00
import Derived.Laws.Strings
import Derived.Laws.StructEq
set_option linter.unusedVariables false
set_option linter.unusedSimpArgs false
noncomputable section
namespace Go.Sx
open Go
variable{P:Program}{E:Env}{C:Ctx}
theorem dw:∀{t:Ty} {x:t.den} {vs:List Value},Rep C.w C.T t x vs→au C (flat t x) vs
 | .unit,_,_,h=>by simp only[Rep]at h;subst h;simp[flat,au]
 | .bool,_,_,h=>by simp only[Rep]at h;subst h;simp[flat,au,ay]
 | .int _,_,_,h=>by simp only[Rep]at h;subst h;simp[flat,au,ay]
 | .flt _,_,_,h=>by simp only[Rep]at h;subst h;simp[flat,au,ay]
 | .str,_,_,h=>by simp only[Rep]at h;subst h;simp[flat,au,ay]
 | .pair _ _,_,_,h=>by
  obtain⟨v1,v2,rfl,h1,h2⟩:=h
  exact(dw h1).append (dw h2)
 | .slice e,L,vs,h=>by
  have h':=h
  obtain⟨a,cap,rfl,_⟩:=h
  exact⟨_,[],rfl,h',by simp[au]⟩
 | .ptr _,none,_,h=>by simp only[Rep]at h;subst h;simp[flat,au,ay]
 | .ptr e,some x,_,h=>by
  obtain⟨k,o,cs,rfl,hi,hr⟩:=h
  exact⟨_,[],rfl,⟨k,o,cs,rfl,hi,hr⟩,by simp[au]⟩
theorem oD:∀(t:Ty) (x:t.den),(flat t x).length=t.size
 | .unit,_=>rfl
 | .bool,_=>rfl
 | .int _,_=>rfl
 | .flt _,_=>rfl
 | .str,_=>rfl
 | .pair a b,x=>by simp[flat,Ty.size,oD a,oD b]
 | .slice _,_=>rfl
 | .ptr _,none=>rfl
 | .ptr _,some _=>rfl
theorem lI:∀(t:Ty) (x:t.den),(flat t x).all AV.leaf=true
 | .unit,_=>rfl
 | .bool,_=>rfl
 | .int _,_=>rfl
 | .flt _,_=>rfl
 | .str,_=>rfl
 | .pair a b,x=>by simp[flat,List.all_append,lI a,lI b]
 | .slice _,_=>rfl
 | .ptr _,none=>rfl
 | .ptr _,some _=>rfl
theorem cell_of{w:World}{k:Nat}{c:Array Value}{e:TypeId}{fz:Nat×Nat}(h:w.heap[k]? =some (.cells c e fz))(o:Nat):
  w.cell? ⟨k,o,none⟩=c[o]? :=by simp[World.cell?,h]
theorem bL{α:Type}(l:List α)(o n j:Nat):(seg l o n)[j]? =if j<n then l[o+j]? else none:=by
 simp[seg,List.getElem?_take,List.getElem?_drop]
theorem gE{as:List AV}{vs:List Value}(h:au C as vs)(o n:Nat):au C (seg as o n) (seg vs o n):=(h.drop).take
theorem beq_eq{a b:Nat}(h:Nat.beq a b=true):a=b:=Nat.eq_of_beq_eq_true h
theorem mK(hs:SRel C){n:Nat}{a:AV}{v:Value}{cs:List AV}{rd:List Nat}(hv:ay C a v)(h:eA C.m n a=some (cs,rd)):
  ∃k o vs,v= .pointer (some ⟨k,o,none⟩)∧au C cs vs∧∀j x,vs[j]? =some x→C.w.cell? ⟨k,o+j,none⟩=some x:=by
 unfold eA at h
 split at h
 ·rename_i b off
  split at h
  ·rename_i cs' hm
   simp only[Option.some.injEq,Prod.mk.injEq]at h
   obtain⟨rfl,rfl⟩:=h
   obtain⟨rb,ty2,cs2,hm2,hp,rfl⟩:=hv
   obtain⟨rb',c,hg,hh,hr,_⟩:=hs.ok b _ hm
   rw[hp]at hg
   cases hg
   refine⟨rb,off,seg c.toList off n,rfl,gE hr off n,fun j x hj=>?_⟩
   rw[cell_of hh,←Array.getElem?_toList]
   rw[bL]at hj
   split at hj
   ·exact hj
   ·cases hj
  ·cases h
 ·rename_i t x off
  simp only[Option.some.injEq,Prod.mk.injEq]at h
  obtain⟨rfl,rfl⟩:=h
  obtain⟨k,o,cs2,rfl,hi,hr⟩:=hv
  refine⟨k,o+off,seg cs2 off n,rfl,gE (dw hr) off n,fun j x hj=>?_⟩
  rw[bL]at hj
  split at hj
  ·have:=(hi _ _ hj).1
   rwa [show o+(off+j)=o+off+j by omega]at this
  ·cases hj
 ·rename_i b g i off
  split at h
  ·rename_i ee t g' sh L hm
   split at h
   ·rename_i hg
    simp only[Option.some.injEq,Prod.mk.injEq]at h
    obtain⟨rfl,rfl⟩:=h
    have hg:=beq_eq hg
    obtain⟨ee2,t2,g2,sh2,L2,hm2,_,k,o',rfl,hv⟩:=hv
    rw[hm]at hm2
    cases hm2
    obtain⟨a,cap,hp,hl,rfl,rfl⟩:=hv hg
    obtain⟨a',cap',hgg,hz,hc,hb⟩:=hs.ok b _ hm
    rw[hp]at hgg
    cases hgg
    obtain⟨_,c,lo,hi,hh,hsz,_,_,hx⟩:=hb
    have hxi:=hx i L[i] (by simp[hl])
    have hd:L.getD i t.dflt=L[i]:=by simp[List.getD,hl]
    rw[hd]
    refine⟨a.block,a.off+i*t.size+off,seg (seg c.toList (a.off+i*t.size) t.size) off n,rfl,gE (dw hxi) off n,fun j x hj=>?_⟩
    rw[cell_of hh,←Array.getElem?_toList]
    rw[bL,bL]at hj
    split at hj
    ·split at hj
     ·rw[←hj];congr 1;omega
     ·cases hj
    ·cases hj
   ·cases h
  ·cases h
 ·cases h
theorem jg{agg:Bool}{cs:List AV}{vs:List Value}{av:AV}(h:au C cs vs)(hm:mJ agg cs=some av):
  ∃u,((agg=true∧u= .agg vs.toArray)∨(agg=false∧vs=[u]))∧ay C av u:=by
 cases agg with
 |true=>
  simp only[mJ,Option.some.injEq]at hm
  subst hm
  exact⟨.agg vs.toArray,.inl ⟨rfl,rfl⟩,⟨vs.toArray,rfl,by simpa using h⟩⟩
 |false=>
  simp only[mJ]at hm
  split at hm
  ·simp only[Option.some.injEq]at hm
   subst hm
   obtain⟨v,r,rfl,hv,hr⟩:=h
   simp only[au]at hr
   subst hr
   exact⟨v,.inr ⟨rfl,rfl⟩,hv⟩
  ·cases hm
theorem zZ(hE:EnvOK E P)(hs:SRel C){ρ:Operand→Value}{lk:bc}(hρ:∀x,ay C (al lk x) (ρ x)){o:Oper}{t:TypeId}{a:Operand}(ho:o.op= .load t a)
  {ti:TI} (ht:E.T t=some ti) {cs:List AV} {rd:List Nat} (hc:eA C.m ti.size (al lk a)=some (cs,rd)) (hn:cs.length=ti.size) {av:AV} (hv:mJ ti.agg cs=some av):
  Good P C ρ o av C.m:=by
 obtain⟨i,d,z,hT⟩:=hE.T ht
 obtain⟨k,off,vs,hp,hr,hcell⟩:=mK hs (hρ a) hc
 obtain⟨u,hu,hrel⟩:=jg hr hv
 refine Good.pure hs (v:=u) ?_ hrel
 simp only[execOp,ho,Instr.loadAt,hp,Instr.sureAddr,Sem.run_bind,Sem.run_pure,Result.andThen_ok]
 rw[kB hT (by rw[←hr.len];exact hn) hcell hu]
 rfl
end Go.Sx
namespace Go.Sx
universe u
open Go
variable{P:Program}{E:Env}{C:Ctx}
theorem cP{α:Type u}:∀(l:List α) (i:Nat),nth l i=l[i]?
 |[],i=>by simp[nth]
 |a::r,0=>by simp[nth]
 |a::r,i+1=>by simp[nth,cP r i]
def eI(m:Get)(i:Nat)(b:Blk):Get:=fun j=>if j=i then some b else m j
def aG(m:Get):Wr→Get
 |[]=>m
 |(i,b)::r=>aG (eI m i b) r
abbrev b9(P:Program)(C:Ctx)(ρ:Operand→Value)(o:Oper)(r:OpR):Prop:=Good P C ρ o r.v (aG C.m r.wr)
theorem aX{α:Type}{a r:α}(h:(DT.leaf a).run=some r):r=a:=(Option.some.inj h).symm
theorem ab{α:Type}{r:α}(h:(DT.fail:DT α).run=some r):False:=by cases h
theorem sq{α:Type}{b:Bool}{t e:DT α}{r:α}(h:(DT.br b t e).run=some r):(b=true∧t.run=some r)∨(b=false∧e.run=some r):=by
 cases b
 ·exact .inr ⟨rfl,h⟩
 ·exact .inl ⟨rfl,h⟩
theorem aJ{v:AV}{r:OpR}(h:(bD v).run=some r):r=⟨v,[],[]⟩:=aX h
theorem fv{v:Option AV}{r:OpR}(h:(ofO v).run=some r):∃u,v=some u∧r=⟨u,[],[]⟩:=by
 cases v with
 |none=>cases h
 |some u=>exact⟨u,rfl,aX h⟩
theorem bF{α:Type}{b:Bool}{t:DT α}{r:α}(h:(DT.br b t .fail).run=some r):b=true∧t.run=some r:=by
 rcases sq h with h|h
 ·exact h
 ·cases h.2
section
variable{ρ:Operand→Value}{lk:bc}{o:Oper}{r:OpR}{id:Nat}
theorem w5(hs:SRel C)(hρ:∀x,ay C (al lk x) (ρ x)){x:Operand}(ho:o.op= .move x)(h:(opA E lk C.m id (.move x)).run=some r):b9 P C ρ o r:=by
 rw[aJ h]
 exact Good.pure hs (by simp[execOp,ho]) (hρ x)
theorem rQ(hs:SRel C)(hρ:∀x,ay C (al lk x) (ρ x)){x:Operand}(ho:o.op= .assign x)(h:(opA E lk C.m id (.assign x)).run=some r):b9 P C ρ o r:=by
 rw[aJ h]
 exact Good.pure hs (by simp[execOp,ho]) (hρ x)
theorem vY(hs:SRel C)(hρ:∀x,ay C (al lk x) (ρ x)){c a b:Operand}(ho:o.op= .pick c a b)(h:(opA E lk C.m id (.pick c a b)).run=some r):b9 P C ρ o r:=by
 simp only[opA]at h
 have hc:=hρ c
 have ha:=hρ a
 have hb:=hρ b
 split at h
 ·rename_i t ht
  rw[ht]at hc
  simp only[ay]at hc
  have key:∀av,ay C av (if t then ρ a else ρ b)→Good P C ρ o av C.m:=fun av hv=>Good.pure hs (by simp[execOp,ho,hc,asBool]) hv
  split at h
  ·rename_i x y hx hy
   rw[hx]at ha;rw[hy]at hb
   rw[aJ h]
   refine key _ ?_
   simp only[ay]at ha hb⊢
   cases t<;>simp[ha,hb]
  ·rcases sq h with⟨rfl,h⟩|⟨rfl,h⟩
   ·rw[aJ h];exact key _ (by simpa using ha)
   ·rw[aJ h];exact key _ (by simpa using hb)
 ·exact(ab h).elim
theorem pC(hs:SRel C)(hρ:∀x,ay C (al lk x) (ρ x)){x:Operand}(ho:o.op= .nilCheck x)(h:(opA E lk C.m id (.nilCheck x)).run=some r):b9 P C ρ o r:=by
 simp only[opA]at h
 have hx:=hρ x
 have key:∀{av:AV},ay C av (ρ x)→((∃a,ρ x= .pointer (some a))∨(∃f vs,ρ x= .func (.func f) #[] vs))→Good P C ρ o av C.m:=fun hv hp=>
  Good.pure hs (v:=ρ x) (by rcases hp with⟨a,h⟩|⟨f,vs,h⟩<;>simp[execOp,ho,h]) hv
 split at h
 ·rename_i b off hb
  rw[aJ h];rw[hb]at hx
  have⟨_,_,_,_,_,hv⟩:=hx
  exact key hx (.inl ⟨_,hv⟩)
 ·rename_i t y off hb
  rw[aJ h];rw[hb]at hx
  have⟨_,_,_,hv,_⟩:=hx
  exact key hx (.inl ⟨_,hv⟩)
 ·rename_i b g i off hb
  rw[aJ h];rw[hb]at hx
  have⟨_,_,_,_,_,_,_,_,_,hv,_⟩:=hx
  exact key hx (.inl ⟨_,hv⟩)
 ·rename_i f c hb
  rw[aJ h];rw[hb]at hx
  have⟨_,hv,_⟩:=hx
  exact key hx (.inr ⟨_,_,hv⟩)
 ·exact(ab h).elim
theorem pP(hs:SRel C)(hρ:∀x,ay C (al lk x) (ρ x)){x:Operand}{i:Nat}(ho:o.op= .extract x i)(h:(opA E lk C.m id (.extract x i)).run=some r):b9 P C ρ o r:=by
 simp only[opA]at h
 have hx:=hρ x
 split at h
 ·rename_i vs hv
  rw[hv]at hx
  obtain⟨us,hu,hl⟩:=hx
  obtain⟨av,hn,rfl⟩:=fv h
  have hn':vs[i]? =some av:=by rw[←cP];exact hn
  obtain⟨v,hv',hr⟩:=hl.get hn'
  refine Good.pure hs (v:=v) ?_ hr
  have:us[i]? =some v:=by rw[←Array.getElem?_toList];exact hv'
  simp[execOp,ho,hu,Instr.extract,this]
 ·exact(ab h).elim
end
end Go.Sx
namespace Go.Sx
open Go
variable{P:Program}{E:Env}{C:Ctx}
section
variable{ρ:Operand→Value}{lk:bc}{o:Oper}{r:OpR}{id:Nat}
theorem vO(op:BinOp)(t:TypeId)(x y:Operand)(k k':IntKind)(a b:Int):eqGuard op t x y (.int k a) (.int k' b)=pure ():=by
 cases op<;>rfl
theorem uA(op:BinOp)(t:TypeId)(x y:Operand)(a b:ByteArray):eqGuard op t x y (.string a) (.string b)=pure ():=by
 cases op<;>rfl
theorem ta(hs:SRel C){op:BinOp}{t t':TypeId}{x y:Operand}(ho:o.op= .binOp op t x y t'){k:IntKind}{a b:Int}(hx:ρ x= .int k a)(hy:ρ y= .int k b)
  (h:(wM op k a b).run=some r):b9 P C ρ o r:=by
 have key:∀{av:AV} {v:Value},(binOp op t (.int k a) (.int k b)).run P C.w= .ok v C.w→ay C av v→r=⟨av,[],[]⟩→b9 P C ρ o r:=fun hr hv e=>by
  subst e
  exact Good.pure hs (by simp[execOp,ho,hx,hy,vO,hr]) hv
 cases op<;>simp only[wM]at h
 case quo=>
  rcases sq h with⟨_,h⟩|⟨hb,h⟩
  ·exact(ab h).elim
  ·have hb0:b≠0:=by simpa using hb
   exact key (v:=.int k (k.wrap (a.tdiv b))) (by simp[binOp,Op.intDiv,hb0]) (by simp[ay]) (aJ h)
 case rem=>
  rcases sq h with⟨_,h⟩|⟨hb,h⟩
  ·exact(ab h).elim
  ·have hb0:b≠0:=by simpa using hb
   exact key (v:=.int k (a.tmod b)) (by simp[binOp,Op.intDiv,hb0]) (by simp[ay]) (aJ h)
 all_goals first
  |exact(ab h).elim
  |exact key (by simp[binOp,Op.intArith,Op.intCmp];first|rfl|done) (by simp[ay];first|rfl|done) (aJ h)
theorem rX(hs:SRel C){op:BinOp}{t t':TypeId}{x y:Operand}(ho:o.op= .binOp op t x y t'){a b:List UInt8}(hx:ρ x= .string ⟨⟨a⟩⟩)(hy:ρ y= .string ⟨⟨b⟩⟩)
  (h:(wg op a b).run=some r):b9 P C ρ o r:=by
 have key:∀{av:AV} {v:Value},(binOp op t (.string ⟨⟨a⟩⟩) (.string ⟨⟨b⟩⟩)).run P C.w= .ok v C.w→ay C av v→r=⟨av,[],[]⟩→b9 P C ρ o r:=fun hr hv e=>by
  subst e
  exact Good.pure hs (by simp[execOp,ho,hx,hy,uA,hr]) hv
 cases op<;>simp only[wg]at h
 case add=>
  obtain⟨hl,h⟩:=bF h
  simp only[decide_eq_true_eq]at hl
  refine key (v:=.string ⟨⟨a++b⟩⟩) ?_ (by simp[ay]) (aJ h)
  have hsz:¬(((ByteArray.mk ⟨a⟩).size+(ByteArray.mk ⟨b⟩).size:Nat):Int)>IntKind.i64.max:=by
   have:(ByteArray.mk ⟨a⟩).size+(ByteArray.mk ⟨b⟩).size=a.length+b.length:=rfl
   rw[this]
   have:IntKind.i64.max=9223372036854775807:=by decide
   rw[this];omega
  simp only[binOp,Op.stringOp,hsz,if_false,Sem.run_pure]
  congr 2
 all_goals first
  |exact(ab h).elim
  |exact key (by simp[binOp,Op.stringOp,ByteArray.toList_eq];first|rfl|done) (by simp[ay];first|rfl|done) (aJ h)
end
end Go.Sx
namespace Go.Sx
open Go
variable{P:Program}{E:Env}{C:Ctx}
def Val(agg:Bool)(vs:List Value)(v:Value):Prop:=(agg=true∧v= .agg vs.toArray)∨(agg=false∧vs=[v])
theorem qP{d:Nat}{xs ys:Array Value}{f:Field}{fs:List Field}{a b:Value}{r s:Bool}{w:World}(hn:(f.name=="_")=false)
  (ha:(part f.type xs f.offset).run P w= .ok a w) (hb:(part f.type ys f.offset).run P w= .ok b w) (he:(Op.equalIn d f.type a b).run P w= .ok r w)
  (hr:(Op.eqFields d xs ys fs).run P w= .ok s w):(Op.eqFields d xs ys (f::fs)).run P w= .ok (r&&s) w:=by
 have hn':f.name≠"_":=by simpa using hn
 rw[Op.eqFields]
 simp only[if_pos hn',Sem.run_bind,ha,hb,he,Result.andThen_ok]
 cases r
 ·simp
 ·simpa using hr
theorem ky{t:TypeId}{ti:TI}{i:TypeInfo}{d:TypeDesc}{z:Value}(ht:TIOK P t ti i d z)(vs:List Value)(off:Nat){v:Value}(hv:Val ti.agg (seg vs off ti.size) v)(w:World):
  (part t vs.toArray off).run P w= .ok v w:=by
 simp only[part,Sem.run_bind,oY ht.und,Result.andThen_ok,ht.agg]
 rcases hv with⟨ha,rfl⟩|⟨ha,hv⟩
 ·simp only[ha,if_true,Sem.run_bind,bm ht.info,Result.andThen_ok,ht.size,Sem.run_pure]
  congr 2
  apply Array.ext'
  simp[seg,List.take_drop]
 ·have:vs[off]? =some v:=by
   have h0:(seg vs off ti.size)[0]? =some v:=by rw[hv];rfl
   rw[bL]at h0
   split at h0
   ·simpa using h0
   ·cases h0
  simp[ha,this]
theorem yx{ti:TI}{xs:List AV}{vs:List Value}(h:au C xs vs){off:Nat}(hl:ti.agg=true∨(seg xs off ti.size).length=1):
  ∃v,Val ti.agg (seg vs off ti.size) v:=by
 cases hb:ti.agg with
 |true=>exact⟨_,.inl ⟨rfl,rfl⟩⟩
 |false=>
  rcases hl with hl|hl
  ·rw[hb]at hl;cases hl
  ·have:=(gE h off ti.size).len
   rw[hl]at this
   match hs:seg vs off ti.size with
   |[v]=>exact⟨v,.inr ⟨rfl,rfl⟩⟩
   |[]=>rw[hs]at this;simp at this
   |_::_::_=>rw[hs]at this;simp at this
theorem sy{t:TypeId}{ti:TI}{i:TypeInfo}{d:TypeDesc}{z:Value}(ht:TIOK P t ti i d z){x y:AV}{u v:Value}{b:Bool}(h:gO ti.td x y=some b)
  (hx:ay C x u) (hy:ay C y v) (n:Nat):(Op.equalIn (n+1) t u v).run P C.w= .ok b C.w:=by
 have htd:=ht.td
 have hu:=ht.und
 unfold gO at h
 cases hd:d<;>rw[hd]at htd hu<;>simp only[gR]at htd<;>rw[←htd]at h<;>simp only at h<;>try (cases h;done)
 case bool=>
  split at h<;>try (cases h;done)
  simp only[Option.some.injEq]at h
  simp only[ay]at hx hy
  subst hx hy h
  exact run_equalIn_bool' C.w n t _ _ hu
 case int k=>
  split at h<;>try (cases h;done)
  split at h<;>try (cases h;done)
  simp only[Option.some.injEq]at h
  simp only[ay]at hx hy
  rename_i e
  subst hx hy h e
  exact run_equalIn_int C.w n t _ k _ _ hu
 case string=>
  split at h<;>try (cases h;done)
  simp only[Option.some.injEq]at h
  simp only[ay]at hx hy
  subst hx hy h
  rw[run_equalIn_string C.w n t _ _ hu,ByteArray.toList_eq,ByteArray.toList_eq]
 case pointer e=>
  split at h<;>try (cases h;done)
  all_goals
   simp only[Option.some.injEq]at h
   subst h
  ·simp only[ay]at hx hy;subst hx hy
   simp[Op.equalIn,ao hu]
  ·obtain⟨_,_,_,_,_,rfl⟩:=hy
   simp only[ay]at hx;subst hx
   simp[Op.equalIn,ao hu]
  ·obtain⟨_,_,_,rfl,_⟩:=hy
   simp only[ay]at hx;subst hx
   simp[Op.equalIn,ao hu]
  ·obtain⟨_,_,_,_,_,rfl⟩:=hx
   simp only[ay]at hy;subst hy
   simp[Op.equalIn,ao hu]
  ·obtain⟨_,_,_,rfl,_⟩:=hx
   simp only[ay]at hy;subst hy
   simp[Op.equalIn,ao hu]
 case slice e=>
  split at h<;>try (cases h;done)
  all_goals
   simp only[Option.some.injEq]at h
   subst h
  ·simp only[ay]at hx hy;subst hx hy
   simp[Op.equalIn,ao hu]
  ·rename_i t' a l
   simp only[ay]at hy;subst hy
   obtain⟨ad,cap,hv,_,hc⟩:=hx
   simp only[List.cons.injEq,and_true]at hv
   subst hv
   obtain⟨ad',cs,rfl,_⟩:=hc 0 a (by rfl)
   simp[Op.equalIn,ao hu]
mutual
theorem lz(hE:EnvOK E P):∀(n:Nat) {t:Nat} {xs ys:List AV} {b:Bool} {vs us:List Value} {ti:TI} {u v:Value},eqT E n t xs ys=some b→au C xs vs→au C ys us→
  E.T t=some ti→Val ti.agg vs u→Val ti.agg us v→∀d,n≤d→(Op.equalIn d t u v).run P C.w= .ok b C.w
 |0,_,_,_,_,_,_,_,_,_,h,_,_=>by simp[eqT]at h
 |n+1,t,xs,ys,b,vs,us,ti,u,v,h,hx,hy=>fun hti hu hv d hd=>by
  obtain⟨d,rfl⟩:∃e,d=e+1:=⟨d-1,by omega⟩
  obtain⟨i,ds,z,hT⟩:=hE.T hti
  have htd:=hT.td
  unfold eqT at h
  rw[hti]at h
  simp only at h
  split at h
  ·rename_i fs hfs
   split at h
   ·rename_i hok
    cases hd':ds<;>rw[hd',hfs]at htd<;>simp only[gR]at htd<;>try (cases htd;done)
    rename_i fields
    simp only[TD.struct.injEq]at htd
    have hagg:ti.agg=true:=by rw[←hT.agg,hd'];rfl
    have hek:=hT.eqOk
    rw[hd',hok]at hek
    simp only[yM,Bool.and_eq_true,Bool.not_eq_true']at hek
    rcases hu with⟨_,rfl⟩|⟨ha,_⟩
    ·rcases hv with⟨_,rfl⟩|⟨ha,_⟩
     ·have hund:P.underlying t=some (.struct fields):=by rw[hT.und,hd']
      have hf:P.fieldsOf t=fields:=by simp[Program.fieldsOf,hund]
      rw[run_equalIn_struct (P:=P) C.w d t vs.toArray us.toArray (by rw[hf];exact hund) hek.1,hf]
      rw[←htd]at h
      exact oK hE n h hx hy d (by omega)
     ·rw[hagg]at ha;cases ha
    ·rw[hagg]at ha;cases ha
   ·cases h
  ·rename_i td hns
   split at h
   ·rename_i x
    split at h
    ·rename_i y
     obtain⟨v1,r1,rfl,hx1,hx2⟩:=hx
     obtain⟨v2,r2,rfl,hy1,hy2⟩:=hy
     simp only[au]at hx2 hy2
     subst hx2 hy2
     have hagg:ti.agg=false:=by
      rw[←hT.agg]
      cases hd':ds<;>first
       |rfl
       |(rw[hd']at htd;simp only[gR]at htd;exact(hns _ htd.symm).elim)
       |(rw[hd']at htd;simp only[gR]at htd;rw[←htd]at h;simp[gO]at h)
     rcases hu with⟨ha,_⟩|⟨_,hu⟩
     ·rw[hagg]at ha;cases ha
     ·rcases hv with⟨ha,_⟩|⟨_,hv⟩
      ·rw[hagg]at ha;cases ha
      ·simp only[List.cons.injEq,and_true]at hu hv
       subst hu hv
       exact sy hT h hx1 hy1 d
    ·cases h
   ·cases h
theorem oK(hE:EnvOK E P):∀(n:Nat) {fs:List Field} {xs ys:List AV} {b:Bool} {vs us:List Value},zY E n (fs.map (fo P)) xs ys=some b→au C xs vs→au C ys us→
  ∀d,n≤d→(Op.eqFields d vs.toArray us.toArray fs).run P C.w= .ok b C.w
 |n,[],_,_,b,_,_,h,_,_=>fun d _=>by
  have:b=true:=by cases n<;>simpa [zY,eq_comm]using h
  subst this
  simp[Op.eqFields]
 |0,_::_,_,_,_,_,_,h,_,_=>by simp[zY]at h
 |n+1,f::fs,xs,ys,b,vs,us,h,hx,hy=>fun d hd=>by
  simp only[List.map_cons,zY]at h
  split at h
  ·cases h
  ·rename_i hbl
   split at h
   ·cases h
   ·rename_i a ha
    have hT0:∃ti,E.T f.type=some ti:=by
     cases hn:n with
     |zero=>rw[hn]at ha;simp[eqT]at ha
     |succ m=>
      rw[hn]at ha
      simp only[eqT,fo]at ha
      cases ht:E.T f.type with
      |none=>rw[ht]at ha;cases ha
      |some ti=>exact⟨ti,rfl⟩
    obtain⟨ti,hti⟩:=hT0
    obtain⟨i,ds,z,hT⟩:=hE.T hti
    have hsz:mg P f.type=ti.size:=by simp[mg,hT.info,hT.size]
    have hag:E2 P f.type=ti.agg:=by simp[E2,hT.und,hT.agg]
    have hlen:∀(l:List AV),(ti.agg=true∨(seg l f.offset ti.size).length=1)∨(ti.agg=false∧(seg l f.offset ti.size).length≠1):=fun l=>by
     cases ti.agg<;>by_cases hq:(seg l f.offset ti.size).length=1<;>simp[hq]
    simp only[fo,hsz]at ha
    have hone:∀{l l':List AV} {a:Bool},eqT E n f.type l l'=some a→ti.agg=false→l.length=1∧l'.length=1:=by
     intro l l' a ha hf
     cases hn:n with
     |zero=>rw[hn]at ha;simp[eqT]at ha
     |succ m=>
      rw[hn]at ha
      simp only[eqT,hti]at ha
      split at ha
      ·rename_i fs' hfs'
       have htd:=hT.td
       rw[hfs']at htd
       have hagg:=hT.agg
       rw[hf]at hagg
       cases hd':ds<;>rw[hd']at htd hagg<;>simp only[gR]at htd<;>first
        |(cases htd;done)
        |(simp[Bc]at hagg;done)
      ·split at ha
       ·split at ha
        ·simp
        ·cases ha
       ·cases ha
    obtain⟨u,hu⟩:∃u,Val ti.agg (seg vs f.offset ti.size) u:=by
     rcases hlen xs with hl|⟨hf,hl⟩
     ·exact yx hx hl
     ·exact(hl (hone ha hf).1).elim
    obtain⟨v,hv⟩:∃v,Val ti.agg (seg us f.offset ti.size) v:=by
     rcases hlen ys with hl|⟨hf,hl⟩
     ·exact yx hy hl
     ·exact(hl (hone ha hf).2).elim
    have hpa:=ky hT vs f.offset hu C.w
    have hpb:=ky hT us f.offset hv C.w
    have he:=lz hE n ha (gE hx f.offset ti.size) (gE hy f.offset ti.size) hti hu hv d (by omega)
    have hn':(f.name=="_")=false:=hbl
    split at h
    ·simp only[Option.some.injEq]at h
     subst h
     rename_i hnil
     have hfs:fs=[]:=by simpa using hnil
     subst hfs
     have:=qP (P:=P) (fs:=[]) (s:=true) hn' hpa hpb he (by simp[Op.eqFields])
     rwa [Bool.and_true]at this
    ·split at h
     ·cases h
     ·rename_i c hc
      simp only[Option.some.injEq]at h
      subst h
      exact qP hn' hpa hpb he (oK hE n hc hx hy d (by omega))
end
end Go.Sx
namespace Go.Sx
open Go
variable{P:Program}{E:Env}{C:Ctx}
section
variable{ρ:Operand→Value}{lk:bc}{o:Oper}{r:OpR}{id:Nat}
theorem EN(hE:EnvOK E P){n t:Nat}{xs ys:List AV}{b:Bool}(h:eqT E n t xs ys=some b):
  ∃ti,E.T t=some ti∧(ti.agg=true∧(P.eqGuardType P.depth t=false)∨(ti.agg=false∧xs.length=1∧ys.length=1)):=by
 cases n with
 |zero=>simp[eqT]at h
 |succ n=>
  unfold eqT at h
  split at h
  ·cases h
  ·rename_i ti hti
   refine⟨ti,hti,?_⟩
   obtain⟨i,d,z,hT⟩:=hE.T hti
   have htd:=hT.td
   have hagg:=hT.agg
   split at h
   ·rename_i fs hfs
    split at h
    ·rename_i hok
     left
     have hek:=hT.eqOk
     rw[hok]at hek
     rw[hfs]at htd
     cases d<;>simp only[gR]at htd<;>try (cases htd;done)
     simp only[yM,Bool.and_eq_true,Bool.not_eq_true']at hek
     exact⟨by rw[←hagg];rfl,hek.2⟩
    ·cases h
   ·rename_i hns
    right
    split at h
    ·split at h
     ·refine⟨?_,by simp,by simp⟩
      rw[←hagg]
      cases d<;>first
       |rfl
       |(simp only[gR]at htd;exact(hns _ htd.symm).elim)
       |(simp only[gR]at htd;rw[←htd]at h;simp[gO]at h)
     ·cases h
    ·cases h
theorem sB{op:BinOp}{t:TypeId}{x y:Operand}{u v:Value}(hu:∀cs,u≠ .agg cs)(hv:u≠ .nilIface)(w:World):(eqGuard op t x y u v).run P w= .ok () w:=by
 unfold eqGuard
 cases op<;>simp<;>(cases u<;>simp_all)
theorem wY{td:TD}{x y:AV}{b:Bool}{u:Value}(h:gO td x y=some b)(hx:ay C x u):(∀cs,u≠ .agg cs)∧u≠ .nilIface:=by
 unfold gO at h
 split at h<;>(try (cases h;done))<;>(split at h<;>try (cases h;done))
 all_goals first
  |(simp only[ay]at hx;subst hx;simp;done)
  |(obtain⟨_,_,_,_,_,rfl⟩:=hx;simp;done)
  |(obtain⟨_,_,_,rfl,_⟩:=hx;simp;done)
  |(obtain⟨_,_,hv,_⟩:=hx;simp only[List.cons.injEq,and_true]at hv;subst hv;simp;done)
theorem ua(hE:EnvOK E P){n t:Nat}{xs ys:List AV}{b:Bool}(h:eqT E n t xs ys=some b){ti:TI}(hti:E.T t=some ti)(ha:ti.agg=false):
  ∃x y td,xs=[x]∧ys=[y]∧gO td x y=some b:=by
 cases n with
 |zero=>simp[eqT]at h
 |succ n=>
  unfold eqT at h
  rw[hti]at h
  simp only at h
  obtain⟨i,d,z,hT⟩:=hE.T hti
  split at h
  ·rename_i fs hfs
   have htd:=hT.td
   have hagg:=hT.agg
   rw[hfs]at htd
   rw[ha]at hagg
   cases d<;>simp only[gR]at htd<;>first
    |(cases htd;done)
    |(simp[Bc]at hagg;done)
  ·split at h
   ·split at h
    ·exact⟨_,_,_,rfl,rfl,h⟩
    ·cases h
   ·cases h
theorem AL{x:AV}{v:Value}(h:ay C x v):(∃cs vs,x= .agg cs∧v= .agg vs∧au C cs vs.toList)∨((∀cs,x≠ .agg cs)∧x.cells=[x]):=by
 cases x with
 |agg cs=>
  obtain⟨vs,rfl,hl⟩:=h
  exact .inl ⟨cs,vs,rfl,rfl,hl⟩
 |_=>exact .inr ⟨by simp,rfl⟩
theorem IB(hE:EnvOK E P){t:Nat}{x y:AV}{u v:Value}{b:Bool}(hx:ay C x u)(hy:ay C y v)(h:eqA E t x y=some b):
  (Op.equal t u v).run P C.w= .ok b C.w∧∀op (p q:Operand),(eqGuard op t p q u v).run P C.w= .ok () C.w:=by
 unfold eqA at h
 have h60:(60:Nat)≤Op.maxDepth:=by decide
 split at h
 ·cases h
 ·rename_i ti hti
  split at h
  ·split at h
   ·rename_i cs cs'
    split at h
    ·rename_i ha
     obtain⟨vs,rfl,hl⟩:=hx
     obtain⟨vs',rfl,hl'⟩:=hy
     obtain⟨ti',hti',hag⟩:=EN hE h
     rw[hti]at hti'
     cases hti'
     rcases hag with⟨_,hg⟩|⟨ha',_⟩
     ·refine⟨lz hE 60 h hl hl' hti (.inl ⟨ha,by simp⟩) (.inl ⟨ha,by simp⟩) _ h60,fun op p q=>?_⟩
      exact run_eqGuard_agg C.w op t p q vs vs' hg
     ·rw[ha]at ha';cases ha'
    ·cases h
   ·cases h
  ·split at h
   ·cases h
   ·split at h
    ·cases h
    ·rename_i ha
     obtain⟨x',y',td,hx',hy',hl⟩:=ua hE h hti ha
     simp only[List.cons.injEq,and_true]at hx' hy'
     subst hx' hy'
     obtain⟨hn1,hn2⟩:=wY hl hx
     exact⟨lz hE 60 h ⟨u,[],rfl,hx,by simp[au]⟩ ⟨v,[],rfl,hy,by simp[au]⟩ hti (.inr ⟨ha,rfl⟩) (.inr ⟨ha,rfl⟩) _ h60,
      fun op p q=>sB hn1 hn2 C.w⟩
theorem binOp_eql{t:TypeId}{u v:Value}{b:Bool}(he:(Op.equal t u v).run P C.w= .ok b C.w)(hb:b=b)(hi:∀k a k' c,¬(u= .int k a∧v= .int k' c))(hs:∀a c,¬(u= .string a∧v= .string c))
  (hf:∀k a k' c,¬(u= .float k a∧v= .float k' c)) (hc:∀k a a2 k' c c2,¬(u= .complex k a a2∧v= .complex k' c c2)):
  (binOp .eql t u v).run P C.w= .ok (.bool b) C.w∧(binOp .neq t u v).run P C.w= .ok (.bool (!b)) C.w:=by
 constructor<;>cases u<;>cases v<;>first
  |exact(hi _ _ _ _ ⟨rfl,rfl⟩).elim
  |exact(hs _ _ ⟨rfl,rfl⟩).elim
  |exact(hf _ _ _ _ ⟨rfl,rfl⟩).elim
  |exact(hc _ _ _ _ _ _ ⟨rfl,rfl⟩).elim
  |simp[binOp,he]
theorem nI(hE:EnvOK E P)(hs:SRel C)(hρ:∀x,ay C (al lk x) (ρ x)){op:BinOp}{t t':TypeId}{x y:Operand}(ho:o.op= .binOp op t x y t')
  (h:(sL E t op (al lk x) (al lk y)).run=some r):b9 P C ρ o r:=by
 simp only[sL]at h
 have hx:=hρ x
 have hy:=hρ y
 split at h
 ·rename_i k a k' b ha hb
  split at h
  ·rename_i e
   subst e
   rw[ha]at hx;rw[hb]at hy
   simp only[ay]at hx hy
   exact ta hs ho hx hy h
  ·exact(ab h).elim
 ·rename_i a b ha hb
  rw[ha]at hx;rw[hb]at hy
  simp only[ay]at hx hy
  exact rX hs ho hx hy h
 ·rename_i hni hns
  have main:∀b,eqA E t (al lk x) (al lk y)=some b→
    (binOp .eql t (ρ x) (ρ y)).run P C.w= .ok (.bool b) C.w∧(binOp .neq t (ρ x) (ρ y)).run P C.w= .ok (.bool (!b)) C.w∧∀op,(eqGuard op t x y (ρ x) (ρ y)).run P C.w= .ok () C.w:=by
   intro b he
   obtain⟨h1,h2⟩:=IB hE hx hy he
   have hsh:(∀k a k' c,¬(ρ x= .int k a∧ρ y= .int k' c))∧(∀a c,¬(ρ x= .string a∧ρ y= .string c))∧(∀k a k' c,¬(ρ x= .float k a∧ρ y= .float k' c))∧
     (∀k a a2 k' c c2,¬(ρ x= .complex k a a2∧ρ y= .complex k' c c2)):=by
    unfold eqA at he
    split at he
    ·cases he
    ·rename_i ti hti
     split at he
     ·rename_i cs hcs
      rw[hcs]at hx
      obtain⟨vs,hv,_⟩:=hx
      simp[hv]
     ·split at he
      ·cases he
      ·split at he
       ·cases he
       ·rename_i ha
        obtain⟨x',y',td,hx',hy',hl⟩:=ua hE he hti ha
        simp only[List.cons.injEq,and_true]at hx' hy'
        subst hx' hy'
        unfold gO at hl
        split at hl<;>(try (cases hl;done))<;>(split at hl<;>try (cases hl;done))
        all_goals
         rename_i e1 e2
         first
          |(exact(hni _ _ _ _ e1 e2).elim)
          |(exact(hns _ _ e1 e2).elim)
          |(rw[e1]at hx;simp only[ay]at hx;simp[hx];done)
          |(rw[e1]at hx;obtain⟨_,_,_,_,hv⟩:=hx;simp[hv];done)
          |(rw[e1]at hx;obtain⟨_,_,_,hv,_⟩:=hx;simp[hv];done)
          |(rw[e1]at hx;obtain⟨_,_,hv,_⟩:=hx;simp only[List.cons.injEq,and_true]at hv;simp[hv];done)
   have:=binOp_eql (t:=t) h1 rfl hsh.1 hsh.2.1 hsh.2.2.1 hsh.2.2.2
   exact⟨this.1,this.2,fun op=>h2 op x y⟩
  split at h
  ·obtain⟨u,hu,rfl⟩:=fv h
   simp only[Option.map_eq_some_iff]at hu
   obtain⟨b,hb,rfl⟩:=hu
   obtain⟨h1,h2,h3⟩:=main b hb
   exact Good.pure hs (v:=.bool b) (by simp[execOp,ho,h1,h3]) (by simp[ay])
  ·obtain⟨u,hu,rfl⟩:=fv h
   simp only[Option.map_eq_some_iff]at hu
   obtain⟨b,hb,rfl⟩:=hu
   obtain⟨h1,h2,h3⟩:=main b hb
   exact Good.pure hs (v:=.bool (!b)) (by simp[execOp,ho,h2,h3]) (by simp[ay])
  ·exact(ab h).elim
theorem zy{y:Operand}(h:rN y=true):y= .const .nilIface:=by
 unfold rN at h
 split at h
 ·rfl
 ·cases h
theorem iF{t:TypeId}{ms:Array (String×TypeId)}(h:P.underlying t=some (.interface ms))(w:World):(Op.equal t .nilIface .nilIface).run P w= .ok true w:=by
 show(Op.equalIn (9999+1) t .nilIface .nilIface).run P w=_
 rw[Op.equalIn]
 simp[ao h]
theorem ie{t:TypeId}{ms:Array (String×TypeId)}(h:P.underlying t=some (.interface ms))(u:TypeId)(v:Value)(w:World):(Op.equal t (.iface u v) .nilIface).run P w= .ok false w:=by
 show(Op.equalIn (9999+1) t (.iface u v) .nilIface).run P w=_
 rw[Op.equalIn]
 simp[ao h]
theorem sZ(hE:EnvOK E P)(hs:SRel C)(hρ:∀x,ay C (al lk x) (ρ x)){op:BinOp}{t t':TypeId}{x y:Operand}(ho:o.op= .binOp op t x y t')(hn:rN y=true)
  (h:(w7 E t op (al lk x) (al lk y)).run=some r):b9 P C ρ o r:=by
 have hy:=hρ y
 have e:=zy hn
 subst e
 have hx:=hρ x
 simp only[al,gq,ay]at hy
 unfold w7 at h
 split at h
 ·rename_i ti hti
  obtain⟨i,d,z,hT⟩:=hE.T hti
  have htd:=hT.td
  have hu:=hT.und
  split at h
  ·rename_i hif
   rw[hif]at htd
   obtain⟨ms,hd⟩:∃ms,d= .interface ms:=by
    cases d<;>simp only[gR]at htd<;>first
     |exact⟨_,rfl⟩
     |cases htd
   rw[hd]at hu
   split at h
   ·rename_i hv
    rw[hv]at hx
    simp only[ay]at hx
    rw[aJ h]
    exact Good.pure hs (v:=.bool true) (by simp[execOp,ho,hx,hy,eqGuard,binOp,iF hu]) (by simp[ay])
   ·rename_i hv
    rw[hv]at hx
    simp only[ay]at hx
    rw[aJ h]
    exact Good.pure hs (v:=.bool false) (by simp[execOp,ho,hx,hy,eqGuard,binOp,iF hu]) (by simp[ay])
   ·rename_i u v hv
    rw[hv]at hx
    obtain⟨u',hx,_⟩:=hx
    rw[aJ h]
    exact Good.pure hs (v:=.bool false) (by simp[execOp,ho,hx,hy,eqGuard,binOp,ie hu]) (by simp[ay])
   ·rename_i u v hv
    rw[hv]at hx
    obtain⟨u',hx,_⟩:=hx
    rw[aJ h]
    exact Good.pure hs (v:=.bool true) (by simp[execOp,ho,hx,hy,eqGuard,binOp,ie hu]) (by simp[ay])
   ·exact(ab h).elim
  ·exact nI hE hs hρ ho h
 ·exact(ab h).elim
theorem tR(hE:EnvOK E P)(hs:SRel C)(hρ:∀x,ay C (al lk x) (ρ x)){op:BinOp}{t t':TypeId}{x y:Operand}(ho:o.op= .binOp op t x y t')
  (h:(opA E lk C.m id (.binOp op t x y t')).run=some r):b9 P C ρ o r:=by
 simp only[opA]at h
 split at h
 ·rename_i hn
  exact sZ hE hs hρ ho hn h
 ·exact nI hE hs hρ ho h
theorem v7(hs:SRel C)(hρ:∀x,ay C (al lk x) (ρ x)){op:UnOp}{t:TypeId}{x:Operand}(ho:o.op= .unOp op t x)
  (h:(opA E lk C.m id (.unOp op t x)).run=some r):b9 P C ρ o r:=by
 simp only[opA]at h
 have hx:=hρ x
 split at h
 ·rename_i b hb
  rw[hb]at hx
  simp only[ay]at hx
  rw[aJ h]
  exact Good.pure hs (v:=.bool (!b)) (by simp[execOp,ho,hx,Op.unary]) (by simp[ay])
 ·rename_i k n hb
  rw[hb]at hx
  simp only[ay]at hx
  rw[aJ h]
  exact Good.pure hs (v:=.int k (k.wrap (0-n))) (by simp[execOp,ho,hx,Op.unary,Op.intArith]) (by simp[ay])
 ·exact(ab h).elim
theorem Ee{t:TypeId}{ti:TI}{i:TypeInfo}{d:TypeDesc}{z:Value}(hT:TIOK P t ti i d z){k:IntKind}(h:ti.td= .int k):d= .int k:=by
 have:=hT.td
 rw[h]at this
 cases d<;>simp only[gR]at this<;>first
  |(cases this;rfl)
  |(cases this;done)
theorem n5{t:TypeId}{ti:TI}{i:TypeInfo}{d:TypeDesc}{z:Value}(hT:TIOK P t ti i d z)(h:ti.td= .str):d= .string:=by
 have:=hT.td
 rw[h]at this
 cases d<;>simp only[gR]at this<;>first
  |rfl
  |(cases this;done)
theorem im{t:TypeId}{ti:TI}{i:TypeInfo}{d:TypeDesc}{z:Value}(hT:TIOK P t ti i d z){e:Nat}(h:ti.td= .slice e):d= .slice e:=by
 have:=hT.td
 rw[h]at this
 cases d<;>simp only[gR]at this<;>first
  |(cases this;rfl)
  |(cases this;done)
theorem vH{t:TypeId}{ti:TI}{i:TypeInfo}{d:TypeDesc}{z:Value}(hT:TIOK P t ti i d z){n e:Nat}(h:ti.td= .array n e):d= .array n e:=by
 have:=hT.td
 rw[h]at this
 cases d<;>simp only[gR]at this<;>first
  |(cases this;rfl)
  |(cases this;done)
theorem lG{t:TypeId}{ti:TI}{i:TypeInfo}{d:TypeDesc}{z:Value}(hT:TIOK P t ti i d z){fs:List Fld}(h:ti.td= .struct fs):∃fields:Array Field,d= .struct fields∧fields.toList.map (fo P)=fs:=by
 have:=hT.td
 rw[h]at this
 cases d<;>simp only[gR]at this<;>first
  |(cases this;exact⟨_,rfl,rfl⟩)
  |(cases this;done)
theorem pJ(hE:EnvOK E P)(hs:SRel C)(hρ:∀x,ay C (al lk x) (ρ x)){s d:TypeId}{x:Operand}(ho:o.op= .convert s d x)
  (h:(opA E lk C.m id (.convert s d x)).run=some r):b9 P C ρ o r:=by
 simp only[opA]at h
 have hx:=hρ x
 split at h
 ·rename_i si ti hsi hti
  obtain⟨_,_,_,hS⟩:=hE.T hsi
  obtain⟨_,_,_,hT⟩:=hE.T hti
  split at h
  ·rename_i ks kd k n h1 h2 h3
   rw[h3]at hx
   simp only[ay]at hx
   rw[aJ h]
   have e1:=Ee hS h1
   have e2:=Ee hT h2
   refine Good.pure hs (v:=.int kd (kd.wrap n)) ?_ (by simp[ay])
   simp[execOp,ho,hx,convert,ao hS.und,ao hT.und,e1,e2,Conv.intToInt]
  ·rename_i a h1 h2 h3
   rw[h3]at hx
   simp only[ay]at hx
   rw[aJ h]
   have e1:=n5 hS h1
   have e2:=n5 hT h2
   refine Good.pure hs (v:=.string ⟨⟨a⟩⟩) ?_ (by simp[ay])
   simp[execOp,ho,hx,convert,ao hS.und,ao hT.und,e1,e2]
  ·exact(ab h).elim
 ·exact(ab h).elim
end
end Go.Sx
namespace Go.Sx
open Go
variable{P:Program}{E:Env}{C:Ctx}
section
variable{ρ:Operand→Value}{lk:bc}{o:Oper}{r:OpR}{id:Nat}
theorem jE(hE:EnvOK E P)(hs:SRel C)(hρ:∀x,ay C (al lk x) (ρ x)){t:TypeId}{x:Operand}(ho:o.op= .makeInterface t x)
  (h:(opA E lk C.m id (.makeInterface t x)).run=some r):b9 P C ρ o r:=by
 simp only[opA]at h
 split at h
 ·rename_i ti hti
  obtain⟨i,d,z,hT⟩:=hE.T hti
  split at h
  ·exact(ab h).elim
  ·exact(ab h).elim
  ·rename_i hne hne2
   rw[aJ h]
   refine Good.pure hs (v:=.iface t (ρ x)) ?_ ⟨_,rfl,hρ x⟩
   have htd:=hT.td
   simp only[execOp,ho,Instr.makeInterface,Sem.run_bind,ao hT.und,Result.andThen_ok]
   cases d<;>first
    |(simp only[gR]at htd;exact(hne htd.symm).elim)
    |(simp only[gR]at htd;exact(hne2 htd.symm).elim)
    |simp
 ·exact(ab h).elim
theorem Am{t:TypeId}{n:Nat}(h:mg P t=n+1):∃i,P.info? t=some i∧i.size=n+1:=by
 unfold mg at h
 split at h
 ·rename_i i hi;exact⟨i,hi,h⟩
 ·cases h
theorem mS(hE:EnvOK E P)(hs:SRel C)(hρ:∀x,ay C (al lk x) (ρ x)){t:TypeId}{a:Operand}{f:Nat}(ho:o.op= .fieldAddr t a f)
  (h:(opA E lk C.m id (.fieldAddr t a f)).run=some r):b9 P C ρ o r:=by
 simp only[opA]at h
 have ha:=hρ a
 split at h
 ·rename_i ti hti
  obtain⟨i,d,z,hT⟩:=hE.T hti
  split at h
  ·rename_i fs hfs
   obtain⟨fields,hd,hm⟩:=lG hT hfs
   split at h
   ·rename_i fl hfl
    split at h
    ·exact(ab h).elim
    ·rename_i n hn
     obtain⟨av,hav,rfl⟩:=fv h
     rw[cP,←hm,List.getElem?_map,Option.map_eq_some_iff]at hfl
     obtain⟨fld,hfld,rfl⟩:=hfl
     obtain⟨fi,hfi,hsz⟩:=Am (P:=P) hn
     have hff:fields[f]? =some fld:=by rw[←Array.getElem?_toList];exact hfld
     have key:∀k off,ρ a= .pointer (some ⟨k,off,none⟩)→ay C av (.pointer (some ⟨k,off+fld.offset,none⟩))→Good P C ρ o av C.m:=by
      intro k off hp hv
      refine Good.pure hs (v:=.pointer (some ⟨k,off+fld.offset,none⟩)) ?_ hv
      have hne:¬(fi.size=0):=by omega
      simp[execOp,ho,Instr.fieldAt,ao hT.und,hd,hff,hp,Instr.sureAddr,fieldPlace,bm hfi,hne,addr_add]
     unfold C7 at hav
     split at hav
     ·rename_i b off n' hb
      simp only[Option.some.injEq]at hav
      subst hav
      rw[hb]at ha
      obtain⟨rb,ty,cs,hm1,hp,hv⟩:=ha
      exact key _ _ hv ⟨rb,ty,cs,hm1,hp,rfl⟩
     ·rename_i ty y off n' hb
      simp only[Option.some.injEq]at hav
      subst hav
      rw[hb]at ha
      obtain⟨k,o',cs,hv,hi,hr⟩:=ha
      exact key _ _ hv ⟨k,o',cs,by simp only[fo];congr 3;omega,hi,hr⟩
     ·rename_i b g i' off n' hb
      simp only[Option.some.injEq]at hav
      subst hav
      rw[hb]at ha
      obtain⟨ee,ty,g',sh,L,hm1,hg,k,o',hv,hq⟩:=ha
      exact key _ _ hv ⟨ee,ty,g',sh,L,hm1,hg,k,o',by simp only[fo];congr 3;omega,hq⟩
     ·cases hav
   ·exact(ab h).elim
  ·exact(ab h).elim
 ·exact(ab h).elim
theorem wL(hE:EnvOK E P)(hs:SRel C)(hρ:∀x,ay C (al lk x) (ρ x)){t:TypeId}{a:Operand}(ho:o.op= .load t a)
  (h:(opA E lk C.m id (.load t a)).run=some r):b9 P C ρ o r:=by
 simp only[opA]at h
 split at h
 ·rename_i ti hti
  split at h
  ·rename_i cs rd hc
   split at h
   ·rename_i hn
    split at h
    ·rename_i v hv
     rw[aX h]
     exact zZ hE hs hρ ho hti hc (beq_eq hn) hv
    ·exact(ab h).elim
   ·exact(ab h).elim
  ·exact(ab h).elim
 ·exact(ab h).elim
theorem tW(hE:EnvOK E P)(hs:SRel C)(hρ:∀x,ay C (al lk x) (ρ x)){t:TypeId}{x:Operand}{f:Nat}(ho:o.op= .field t x f)
  (h:(opA E lk C.m id (.field t x f)).run=some r):b9 P C ρ o r:=by
 simp only[opA]at h
 have hx:=hρ x
 split at h
 ·rename_i ti cs hti hcs
  obtain⟨i,d,z,hT⟩:=hE.T hti
  rw[hcs]at hx
  obtain⟨vs,hv,hl⟩:=hx
  split at h
  ·rename_i fs hfs
   obtain⟨fields,hd,hm⟩:=lG hT hfs
   split at h
   ·rename_i fl hfl
    rw[cP,←hm,List.getElem?_map,Option.map_eq_some_iff]at hfl
    obtain⟨fld,hfld,rfl⟩:=hfl
    have hff:fields[f]? =some fld:=by rw[←Array.getElem?_toList];exact hfld
    split at h
    ·rename_i te hte
     obtain⟨i',d',z',hT'⟩:=hE.T hte
     have hT'':TIOK P fld.type te i' d' z':=hT'
     have hsz:(fo P fld).size=te.size:=by simp[fo,mg,hT''.info,hT''.size]
     have hag:(fo P fld).agg=te.agg:=by simp[fo,E2,hT''.und,hT''.agg]
     obtain⟨av,hav,rfl⟩:=fv h
     rw[hsz,hag]at hav
     obtain⟨u,hu,hrel⟩:=jg (gE hl (fo P fld).off te.size) hav
     refine Good.pure hs (v:=u) ?_ hrel
     have hp:=ky hT'' vs.toList fld.offset (v:=u) (by rcases hu with⟨h1,h2⟩|⟨h1,h2⟩;exact .inl ⟨h1,h2⟩;exact .inr ⟨h1,h2⟩) C.w
     simp only[Array.toArray_toList]at hp
     simp[execOp,ho,Instr.field,ao hT.und,hd,hff,hv,asAgg,hp]
    ·exact(ab h).elim
   ·exact(ab h).elim
  ·exact(ab h).elim
 ·exact(ab h).elim
theorem iY(hs:SRel C){x:AV}{v:Value}{t:Ty}{L:List t.den}{m:List Nat}(hv:ay C x v)(h:dd C.m x=some (.mk t L m)):
  ∃a cap,v= .slice a L.length cap∧L.length≤cap∧∀i y,L[i]? =some y→∃ad cs,a=some ad∧ad.spot=none∧
   (∀j u,cs[j]? =some u→C.w.cell? ⟨ad.block,ad.off+i*t.size+j,none⟩=some u)∧Rep C.w C.T t y cs:=by
 unfold dd at h
 have imm:∀{t:Ty} {L:List t.den},Rep C.w C.T (.slice t) L [v]→∃a cap,v= .slice a L.length cap∧L.length≤cap∧∀i y,L[i]? =some y→∃ad cs,a=some ad∧ad.spot=none∧
   (∀j u,cs[j]? =some u→C.w.cell? ⟨ad.block,ad.off+i*t.size+j,none⟩=some u)∧Rep C.w C.T t y cs:=by
  intro t L hr
  obtain⟨a,cap,hv,hl,hx⟩:=hr
  simp only[List.cons.injEq,and_true]at hv
  refine⟨a,cap,hv,hl,fun i y hy=>?_⟩
  obtain⟨ad,cs,ha,hsp,hi,hr⟩:=hx i y hy
  exact⟨ad,cs,ha,hsp,fun j u hu=>(hi j u hu).1,hr⟩
 split at h
 ·simp only[Option.some.injEq,SL.mk.injEq]at h
  obtain⟨rfl,h,rfl⟩:=h
  cases h
  exact imm hv
 ·simp only[Option.some.injEq,SL.mk.injEq]at h
  obtain⟨rfl,h,rfl⟩:=h
  cases h
  obtain⟨_,_,hr⟩:=hv
  exact imm hr
 ·rename_i b g
  split at h
  ·rename_i t' g' sh L' hm
   split at h
   ·rename_i hg
    simp only[Option.some.injEq,SL.mk.injEq]at h
    obtain⟨rfl,h,rfl⟩:=h
    cases h
    obtain⟨ee2,t2,g2,sh2,L2,hm2,_,a,n,cap,rfl,hq⟩:=hv
    rw[hm]at hm2
    cases hm2
    obtain⟨hp,rfl⟩:=hq (beq_eq hg)
    obtain⟨a',cap',hgg,hz,hc,hb⟩:=hs.ok b _ hm
    rw[hp]at hgg
    cases hgg
    refine⟨a,cap,rfl,hc,fun i y hy=>?_⟩
    cases a with
    |none=>
     simp only at hb
     have:=(List.getElem?_eq_some_iff.1 hy).1
     omega
    |some ad=>
     obtain⟨hsp,c,lo,hi,hh,hsz,_,_,hx⟩:=hb
     refine⟨ad,_,rfl,hsp,fun j u hu=>?_,hx i y hy⟩
     rw[cell_of hh,←Array.getElem?_toList]
     rw[bL]at hu
     split at hu
     ·rw[←hu]
     ·cases hu
   ·cases h
  ·cases h
 ·cases h
theorem ft(hE:EnvOK E P){t:Nat}{es:Nat}(h:dB E t=some es):∃e i,P.underlying t=some (.slice e)∧P.info? e=some i∧i.size=es∧∃te,E.T e=some te∧te.size=es:=by
 unfold dB at h
 split at h
 ·rename_i ti hti
  obtain⟨i,d,z,hT⟩:=hE.T hti
  split at h
  ·rename_i e hd
   split at h
   ·rename_i te hte
    obtain⟨i',d',z',hT'⟩:=hE.T hte
    simp only[Option.some.injEq]at h
    have:=im hT hd
    exact⟨e,i',by rw[hT.und,this],hT'.info,by rw[hT'.size,h],te,hte,h⟩
   ·cases h
  ·cases h
 ·cases h
theorem sK{α:Type}{l:List α}{i:Nat}(h:i<l.length)(d:α):l[i]? =some (l.getD i d):=by
 simp[List.getD,List.getElem?_eq_getElem h]
theorem o4{n:Int}{k:Nat}(h:inI n k=true):0≤n∧n<(k:Int):=by
 simpa [inI]using h
theorem mZ(hE:EnvOK E P)(hs:SRel C)(hρ:∀x,ay C (al lk x) (ρ x)){t:TypeId}{x i:Operand}(ho:o.op= .indexAddr t x i)
  (h:(opA E lk C.m id (.indexAddr t x i)).run=some r):b9 P C ρ o r:=by
 simp only[opA]at h
 have hx:=hρ x
 have hi:=hρ i
 split at h
 ·rename_i es hes
  obtain⟨e,ei,hund,hinf,hsz,_⟩:=ft hE hes
  unfold eJ at h
  split at h
  ·rename_i k n hin
   rw[hin]at hi
   simp only[ay]at hi
   have key:∀{av:AV} {ad:Addr} {len cap:Nat},ad.spot=none→ρ x= .slice (some ad) len cap→inI n len=true→ay C av (.pointer (some ⟨ad.block,ad.off+n.toNat*es,none⟩))→Good P C ρ o av C.m:=by
    intro av ad len cap hsp hv hn hr
    obtain⟨h0,h1⟩:=o4 hn
    refine Good.pure hs (v:=.pointer (some ⟨ad.block,ad.off+n.toNat*es,none⟩)) ?_ hr
    obtain⟨bk,of,sp⟩:=ad
    simp only at hsp
    subst hsp
    simp[execOp,ho,Instr.indexAt,hi,hv,asIntOf,ao hund,h0,h1,bm hinf,hsz,addr_add]
   have imm:∀{t':Ty} {L:List t'.den},Rep C.w C.T (.slice t') L [ρ x]→Nat.beq t'.size es=true→inI n L.length=true→Good P C ρ o (.pd t' (L.getD n.toNat t'.dflt) 0) C.m:=by
    intro t' L hr hse hn
    obtain⟨a,cap,hv,hl,hc⟩:=hr
    simp only[List.cons.injEq,and_true]at hv
    obtain⟨h0,h1⟩:=o4 hn
    have hlt:n.toNat<L.length:=by omega
    obtain⟨ad,cs,rfl,hsp,hi',hr'⟩:=hc n.toNat _ (sK hlt t'.dflt)
    exact key hsp hv hn ⟨ad.block,ad.off+n.toNat*es,cs,rfl,(beq_eq hse)▸hi',hr'⟩
   split at h
   ·rename_i t' L hl
    split at h
    ·rename_i hse
     obtain⟨hn,h⟩:=bF h
     rw[aJ h]
     rw[hl]at hx
     exact imm hx hse hn
    ·exact(ab h).elim
   ·rename_i t' L hl
    split at h
    ·rename_i hse
     obtain⟨hn,h⟩:=bF h
     rw[aJ h]
     rw[hl]at hx
     obtain⟨_,_,hr⟩:=hx
     exact imm hr hse hn
    ·exact(ab h).elim
   ·rename_i b g hl
    split at h
    ·rename_i ee t' g' sh L hm
     split at h
     ·rename_i hg
      simp only[Bool.and_eq_true]at hg
      obtain⟨hg,hse⟩:=hg
      obtain⟨hn,h⟩:=bF h
      rw[aX h]
      rw[hl]at hx
      obtain⟨ee2,t2,g2,sh2,L2,hm2,hle,a,n',cap,hv,hq⟩:=hx
      rw[hm]at hm2
      cases hm2
      obtain⟨hp,rfl⟩:=hq (beq_eq hg)
      obtain⟨h0,h1⟩:=o4 hn
      obtain⟨a',cap',hgg,hz,hc,hb⟩:=hs.ok b _ hm
      rw[hp]at hgg
      cases hgg
      cases a with
      |none=>
       simp only at hb
       have h2:L.length≤cap:=hc
       omega
      |some ad=>
       exact key hb.1 hv hn ⟨ee,t',g',sh,L,hm,hle,ad.block,ad.off+n.toNat*es,rfl,fun _=>⟨ad,cap,hp,by omega,rfl,by rw[beq_eq hse]⟩⟩
     ·exact(ab h).elim
    ·exact(ab h).elim
   ·exact(ab h).elim
  ·exact(ab h).elim
 ·exact(ab h).elim
end
end Go.Sx
namespace Go.Sx
open Go
variable{P:Program}{E:Env}{C:Ctx}
def iZ(C:Ctx)(ms:List Nat)(T':Nat→Nat→Prop):Prop:=
 ∀b∈ms,∀ee t g sh L,C.m b=some (.list ee t g sh L)→∀ad cap,C.φ b= .list (some ad) cap→∀o,ad.off≤o→o<ad.off+L.length*t.size→¬T' ad.block o
theorem di{t t':Ty}{L:List t.den}{L':List t'.den}(h:dc t t' L=some L'):∃e:t=t',L'=e▸L:=by
 unfold dc at h
 split at h
 ·rename_i e
  exact⟨e,(Option.some.inj h).symm⟩
 ·cases h
theorem uQ{t t':Ty}{x:t.den}{x':t'.den}(h:xD t t' x=some x'):∃e:t=t',x'=e▸x:=by
 unfold xD at h
 split at h
 ·rename_i e
  exact⟨e,(Option.some.inj h).symm⟩
 ·cases h
theorem Rep.monoT{w:World}{T T':Nat→Nat→Prop}(h:∀k o,T' k o→T k o){t:Ty}{x:t.den}{vs:List Value}(r:Rep w T t x vs):Rep w T' t x vs:=
 r.mono fun _ _ _ hc hn=>⟨hc,fun hh=>hn (h _ _ hh)⟩
theorem iZ.left{ms ms':List Nat}{T':Nat→Nat→Prop}(h:iZ C (ms++ms') T'):iZ C ms T':=fun b hb=>h b (List.mem_append_left _ hb)
theorem iZ.right{ms ms':List Nat}{T':Nat→Nat→Prop}(h:iZ C (ms++ms') T'):iZ C ms' T':=fun b hb=>h b (List.mem_append_right _ hb)
theorem sE(hs:SRel C){b g:Nat}{v:Value}{ee:Nat}{t:Ty}{g':Nat}{sh:Bool}{L:List t.den}(hv:ay C (.own b g) v)(hm:C.m b=some (.list ee t g' sh L))(hg:g=g')
  {T':Nat→Nat→Prop} (hT:∀k o,T' k o→C.T k o) (hsh:iZ C [b] T'):Rep C.w T' (.slice t) L [v]:=by
 obtain⟨ee2,t2,g2,sh2,L2,hm2,_,a,n,cap,rfl,hq⟩:=hv
 rw[hm]at hm2
 cases hm2
 obtain⟨hp,rfl⟩:=hq hg
 obtain⟨a',cap',hgg,hz,hc,hb⟩:=hs.ok b _ hm
 rw[hp]at hgg
 cases hgg
 refine⟨a,cap,rfl,hc,fun i y hy=>?_⟩
 have hil:i<L.length:=(List.getElem?_eq_some_iff.1 hy).1
 cases a with
 |none=>simp only at hb;omega
 |some ad=>
  obtain⟨hsp,c,lo,hi,hh,hsz,_,_,hx⟩:=hb
  refine⟨ad,_,rfl,hsp,fun j u hu=>?_,(hx i y hy).monoT hT⟩
  rw[bL]at hu
  split at hu
  ·rename_i hj
   refine⟨by rw[cell_of hh,←Array.getElem?_toList,←hu],?_⟩
   refine hsh b (by simp) ee t g' sh L hm ad cap hp _ (by omega) ?_
   have:(i+1)*t.size≤L.length*t.size:=Nat.mul_le_mul_right _ hil
   rw[Nat.add_mul]at this
   omega
  ·cases hu
theorem cR(hs:SRel C):∀{t:Ty} {cs:List AV} {vs:List Value} {x:t.den} {rest:List AV} {ms:List Nat},aV C.m t cs=some (x,rest,ms)→au C cs vs→
  ∃v1 v2,vs=v1++v2∧au C rest v2∧v1.length=t.size∧cs.length=t.size+rest.length∧
   ∀T':Nat→Nat→Prop,(∀k o,T' k o→C.T k o)→iZ C ms T'→Rep C.w T' t x v1
 | .unit,cs,vs,x,rest,ms,h,hv=>by
  simp only[aV,Option.some.injEq,Prod.mk.injEq]at h
  obtain⟨_,rfl,_⟩:=h
  exact⟨[],vs,rfl,hv,rfl,by simp[Ty.size],fun _ _ _=>by simp[Rep]⟩
 | .pair a b,cs,vs,x,rest,ms,h,hv=>by
  simp only[aV]at h
  split at h
  ·rename_i x1 r1 m1 h1
   split at h
   ·rename_i y1 r2 m2 h2
    simp only[Option.some.injEq,Prod.mk.injEq]at h
    obtain⟨rfl,rfl,rfl⟩:=h
    obtain⟨v1,v2,rfl,hr,hl,hc,hR⟩:=cR hs h1 hv
    obtain⟨v3,v4,rfl,hr',hl',hc',hR'⟩:=cR hs h2 hr
    refine⟨v1++v3,v4,by simp,hr',by simp[Ty.size,hl,hl'],by simp[Ty.size];omega,fun T' hT hS=>⟨v1,v3,rfl,hR T' hT hS.left,hR' T' hT hS.right⟩⟩
   ·cases h
  ·cases h
 | .bool,cs,vs,x,rest,ms,h,hv=>by
  simp only[aV]at h
  split at h
  ·simp only[Option.some.injEq,Prod.mk.injEq]at h
   obtain⟨rfl,rfl,rfl⟩:=h
   obtain⟨v,r,rfl,h1,h2⟩:=hv
   exact⟨[v],r,rfl,h2,rfl,by simp[Ty.size];omega,fun _ _ _=>by simp only[ay]at h1;simp[Rep,h1]⟩
  ·cases h
 | .int k,cs,vs,x,rest,ms,h,hv=>by
  simp only[aV]at h
  split at h
  ·split at h
   ·rename_i e
    subst e
    simp only[Option.some.injEq,Prod.mk.injEq]at h
    obtain⟨rfl,rfl,rfl⟩:=h
    obtain⟨v,r,rfl,h1,h2⟩:=hv
    exact⟨[v],r,rfl,h2,rfl,by simp[Ty.size];omega,fun _ _ _=>by simp only[ay]at h1;simp[Rep,h1]⟩
   ·cases h
  ·cases h
 | .flt k,cs,vs,x,rest,ms,h,hv=>by
  simp only[aV]at h
  split at h
  ·split at h
   ·rename_i e
    subst e
    simp only[Option.some.injEq,Prod.mk.injEq]at h
    obtain⟨rfl,rfl,rfl⟩:=h
    obtain⟨v,r,rfl,h1,h2⟩:=hv
    exact⟨[v],r,rfl,h2,rfl,by simp[Ty.size];omega,fun _ _ _=>by simp only[ay]at h1;simp[Rep,h1]⟩
   ·cases h
  ·cases h
 | .str,cs,vs,x,rest,ms,h,hv=>by
  simp only[aV]at h
  split at h
  ·simp only[Option.some.injEq,Prod.mk.injEq]at h
   obtain⟨rfl,rfl,rfl⟩:=h
   obtain⟨v,r,rfl,h1,h2⟩:=hv
   exact⟨[v],r,rfl,h2,rfl,by simp[Ty.size];omega,fun _ _ _=>by simp only[ay]at h1;simp[Rep,h1]⟩
  ·cases h
 | .slice e,cs,vs,x,rest,ms,h,hv=>by
  simp only[aV]at h
  split at h
  ·split at h
   ·rename_i L' hc
    obtain⟨rfl,rfl⟩:=di hc
    simp only[Option.some.injEq,Prod.mk.injEq]at h
    obtain⟨rfl,rfl,rfl⟩:=h
    obtain⟨v,r,rfl,h1,h2⟩:=hv
    exact⟨[v],r,rfl,h2,rfl,by simp[Ty.size];omega,fun T' hT _=>Rep.monoT hT h1⟩
   ·cases h
  ·split at h
   ·rename_i L' hc
    obtain⟨rfl,rfl⟩:=di hc
    simp only[Option.some.injEq,Prod.mk.injEq]at h
    obtain⟨rfl,rfl,rfl⟩:=h
    obtain⟨v,r,rfl,⟨_,_,h1⟩,h2⟩:=hv
    exact⟨[v],r,rfl,h2,rfl,by simp[Ty.size];omega,fun T' hT _=>Rep.monoT hT h1⟩
   ·cases h
  ·split at h
   ·rename_i e' g' sh L hm
    split at h
    ·rename_i hg
     split at h
     ·rename_i L' hc
      obtain⟨rfl,rfl⟩:=di hc
      simp only[Option.some.injEq,Prod.mk.injEq]at h
      obtain⟨rfl,rfl,rfl⟩:=h
      obtain⟨v,r,rfl,h1,h2⟩:=hv
      exact⟨[v],r,rfl,h2,rfl,by simp[Ty.size];omega,fun T' hT hS=>sE hs h1 hm (beq_eq hg) hT hS⟩
     ·cases h
    ·cases h
   ·cases h
  ·simp only[Option.some.injEq,Prod.mk.injEq]at h
   obtain⟨rfl,rfl,rfl⟩:=h
   obtain⟨v,r,rfl,h1,h2⟩:=hv
   simp only[ay]at h1
   subst h1
   exact⟨[_],r,rfl,h2,rfl,by simp[Ty.size];omega,fun T' hT _=>⟨none,0,rfl,Nat.le_refl _,fun i x hx=>by cases hx⟩⟩
  ·cases h
 | .ptr e,cs,vs,x,rest,ms,h,hv=>by
  simp only[aV]at h
  split at h
  ·simp only[Option.some.injEq,Prod.mk.injEq]at h
   obtain⟨rfl,rfl,rfl⟩:=h
   obtain⟨v,r,rfl,h1,h2⟩:=hv
   exact⟨[v],r,rfl,h2,rfl,by simp[Ty.size];omega,fun T' hT _=>by simp only[ay]at h1;simp[Rep,h1]⟩
  ·split at h
   ·rename_i x' hc
    obtain⟨rfl,rfl⟩:=uQ hc
    simp only[Option.some.injEq,Prod.mk.injEq]at h
    obtain⟨rfl,rfl,rfl⟩:=h
    obtain⟨v,r,rfl,h1,h2⟩:=hv
    refine⟨[v],r,rfl,h2,rfl,by simp[Ty.size];omega,fun T' hT _=>?_⟩
    obtain⟨k,o,cs',rfl,hi,hr⟩:=h1
    exact⟨k,o,cs',rfl,fun j u hu=>⟨(hi j u hu).1,fun hh=>(hi j u hu).2 (hT _ _ hh)⟩,hr.monoT hT⟩
   ·cases h
  ·cases h
end Go.Sx
namespace Go.Sx
open Go
variable{P:Program}{E:Env}{C:Ctx}
theorem nL(T':Nat→Nat→Prop):iZ C [] T':=fun b hb=>by cases hb
theorem j9(hs:SRel C){t:Ty}:∀{n:Nat} {cs:List AV} {vs:List Value} {L:List t.den} {ms:List Nat},bn C.m t n cs=some (L,ms)→au C cs vs→
  L.length=n∧vs.length=n*t.size∧∀T':Nat→Nat→Prop,(∀k o,T' k o→C.T k o)→iZ C ms T'→∀i x,L[i]? =some x→Rep C.w T' t x (seg vs (i*t.size) t.size)
 |0,cs,vs,L,ms,h,hv=>by
  cases cs with
  |nil=>
   simp only[bn,Option.some.injEq,Prod.mk.injEq]at h
   obtain⟨rfl,rfl⟩:=h
   simp only[au]at hv
   subst hv
   exact⟨rfl,by simp,fun _ _ _ i x hx=>by simp at hx⟩
  |cons a as=>simp[bn]at h
 |n+1,cs,vs,L,ms,h,hv=>by
  simp only[bn]at h
  split at h
  ·rename_i x r m hu
   split at h
   ·rename_i l m' hl
    simp only[Option.some.injEq,Prod.mk.injEq]at h
    obtain⟨rfl,rfl⟩:=h
    obtain⟨v1,v2,rfl,hr,hlen,_,hR⟩:=cR hs hu hv
    obtain⟨h1,h2,h3⟩:=j9 hs hl hr
    refine⟨by simp[h1],by simp[hlen,h2,Nat.add_mul];omega,fun T' hT hS i y hy=>?_⟩
    cases i with
    |zero=>
     simp only[List.getElem?_cons_zero,Option.some.injEq]at hy
     subst hy
     have:seg (v1++v2) (0*t.size) t.size=v1:=by simp[seg,←hlen]
     rw[this]
     exact hR T' hT hS.left
    |succ i=>
     have:=h3 T' hT hS.right i y (by simpa using hy)
     have e:seg (v1++v2) ((i+1)*t.size) t.size=seg v2 (i*t.size) t.size:=by
      rw[Nat.add_mul,Nat.one_mul]
      unfold seg
      rw[List.drop_append,List.drop_eq_nil_of_le (by omega)]
      simp only[List.nil_append]
      congr 2
      omega
     rw[e]
     exact this
   ·cases h
  ·cases h
theorem gN{get:Get}(hg:∀b,get b=none):∀{t:Ty} {cs:List AV} {x:t.den} {rest:List AV} {ms:List Nat},aV get t cs=some (x,rest,ms)→ms=[]∧∀get',aV get' t cs=some (x,rest,[])
 | .unit,cs,x,rest,ms,h=>by
  simp only[aV,Option.some.injEq,Prod.mk.injEq]at h
  obtain⟨_,rfl,rfl⟩:=h
  exact⟨rfl,fun _=>rfl⟩
 | .pair a b,cs,x,rest,ms,h=>by
  simp only[aV]at h
  split at h
  ·rename_i x1 r1 m1 h1
   split at h
   ·rename_i y1 r2 m2 h2
    simp only[Option.some.injEq,Prod.mk.injEq]at h
    obtain⟨rfl,rfl,rfl⟩:=h
    obtain⟨rfl,e1⟩:=gN hg h1
    obtain⟨rfl,e2⟩:=gN hg h2
    exact⟨rfl,fun g=>by simp[aV,e1,e2]⟩
   ·cases h
  ·cases h
 | .bool,cs,x,rest,ms,h=>by
  simp only[aV]at h
  split at h
  ·simp only[Option.some.injEq,Prod.mk.injEq]at h
   obtain⟨rfl,rfl,rfl⟩:=h
   exact⟨rfl,fun _=>by simp[aV]⟩
  ·cases h
 | .int k,cs,x,rest,ms,h=>by
  simp only[aV]at h
  split at h
  ·split at h
   ·rename_i e
    subst e
    simp only[Option.some.injEq,Prod.mk.injEq]at h
    obtain⟨rfl,rfl,rfl⟩:=h
    exact⟨rfl,fun _=>by simp[aV]⟩
   ·cases h
  ·cases h
 | .flt k,cs,x,rest,ms,h=>by
  simp only[aV]at h
  split at h
  ·split at h
   ·rename_i e
    subst e
    simp only[Option.some.injEq,Prod.mk.injEq]at h
    obtain⟨rfl,rfl,rfl⟩:=h
    exact⟨rfl,fun _=>by simp[aV]⟩
   ·cases h
  ·cases h
 | .str,cs,x,rest,ms,h=>by
  simp only[aV]at h
  split at h
  ·simp only[Option.some.injEq,Prod.mk.injEq]at h
   obtain⟨rfl,rfl,rfl⟩:=h
   exact⟨rfl,fun _=>by simp[aV]⟩
  ·cases h
 | .slice e,cs,x,rest,ms,h=>by
  simp only[aV]at h
  split at h
  ·split at h
   ·rename_i hc
    simp only[Option.some.injEq,Prod.mk.injEq]at h
    obtain⟨rfl,rfl,rfl⟩:=h
    exact⟨rfl,fun _=>by simp[aV,hc]⟩
   ·cases h
  ·split at h
   ·rename_i hc
    simp only[Option.some.injEq,Prod.mk.injEq]at h
    obtain⟨rfl,rfl,rfl⟩:=h
    exact⟨rfl,fun _=>by simp[aV,hc]⟩
   ·cases h
  ·rw[hg]at h
   simp at h
  ·simp only[Option.some.injEq,Prod.mk.injEq]at h
   obtain⟨rfl,rfl,rfl⟩:=h
   exact⟨rfl,fun _=>by simp[aV]⟩
  ·cases h
 | .ptr e,cs,x,rest,ms,h=>by
  simp only[aV]at h
  split at h
  ·simp only[Option.some.injEq,Prod.mk.injEq]at h
   obtain⟨rfl,rfl,rfl⟩:=h
   exact⟨rfl,fun _=>by simp[aV]⟩
  ·split at h
   ·rename_i hc
    simp only[Option.some.injEq,Prod.mk.injEq]at h
    obtain⟨rfl,rfl,rfl⟩:=h
    exact⟨rfl,fun _=>by simp[aV,hc]⟩
   ·cases h
  ·cases h
theorem ox{get:Get}(hg:∀b,get b=none){t:Ty}:∀{n:Nat} {cs:List AV} {L:List t.den} {ms:List Nat},bn get t n cs=some (L,ms)→ms=[]∧∀get',bn get' t n cs=some (L,[])
 |0,cs,L,ms,h=>by
  cases cs with
  |nil=>
   simp only[bn,Option.some.injEq,Prod.mk.injEq]at h
   obtain⟨rfl,rfl⟩:=h
   exact⟨rfl,fun _=>rfl⟩
  |cons a as=>simp[bn]at h
 |n+1,cs,L,ms,h=>by
  simp only[bn]at h
  split at h
  ·rename_i x r m hu
   split at h
   ·rename_i l m' hl
    simp only[Option.some.injEq,Prod.mk.injEq]at h
    obtain⟨rfl,rfl⟩:=h
    obtain⟨rfl,e1⟩:=gN hg hu
    obtain⟨rfl,e2⟩:=ox hg hl
    exact⟨rfl,fun g=>by simp[bn,e1,e2]⟩
   ·cases h
  ·cases h
section
variable{ρ:Operand→Value}{lk:bc}{o:Oper}{r:OpR}{id:Nat}
theorem Bb(l:List UInt8)(n:Nat):(ByteArray.mk ⟨l⟩)[n]? =l[n]? :=by
 by_cases h:n<l.length
 ·have h':n<(ByteArray.mk ⟨l⟩).size:=h
  rw[List.getElem?_eq_getElem h,getElem?_pos (ByteArray.mk ⟨l⟩) n h']
  rfl
 ·have h':¬n<(ByteArray.mk ⟨l⟩).size:=h
  rw[List.getElem?_eq_none (by omega),getElem?_neg (ByteArray.mk ⟨l⟩) n h']
theorem vg(hE:EnvOK E P)(hs:SRel C)(hρ:∀x,ay C (al lk x) (ρ x)){t:TypeId}{x i:Operand}(ho:o.op= .index t x i)
  (h:(opA E lk C.m id (.index t x i)).run=some r):b9 P C ρ o r:=by
 simp only[opA,CZ]at h
 have hx:=hρ x
 have hi:=hρ i
 split at h
 ·rename_i k n hin
  rw[hin]at hi
  simp only[ay]at hi
  split at h
  ·rename_i s hsx
   rw[hsx]at hx
   simp only[ay]at hx
   split at h
   ·rename_i ti hti
    obtain⟨_,_,_,hT⟩:=hE.T hti
    split at h
    ·rename_i htd
     obtain⟨hn,h⟩:=bF h
     rw[aJ h]
     obtain⟨h0,h1⟩:=o4 hn
     have hlt:n.toNat<s.length:=by omega
     refine Good.pure hs (v:=.int .u8 (s.getD n.toNat 0).toNat) ?_ (by simp[ay])
     have e:=n5 hT htd
     simp only[execOp,ho,Instr.index,hi,hx,asIntOf,Sem.run_bind,Sem.run_pure,Result.andThen_ok,ao hT.und,e,h0,if_true,Bb,sK hlt 0]
    ·exact(ab h).elim
   ·exact(ab h).elim
  ·rename_i cs hcs
   rw[hcs]at hx
   obtain⟨vs,hv,hl⟩:=hx
   split at h
   ·rename_i ti hti
    obtain⟨_,_,_,hT⟩:=hE.T hti
    split at h
    ·rename_i len e htd
     split at h
     ·rename_i te hte
      obtain⟨_,_,_,hT'⟩:=hE.T hte
      split at h
      ·rename_i ty hty
       split at h
       ·rename_i L ms hsz hL
        obtain⟨hn,h⟩:=bF h
        obtain⟨av,hav,rfl⟩:=fv h
        obtain⟨h0,h1⟩:=o4 hn
        obtain⟨rfl,hL'⟩:=ox (fun _=>rfl) hL
        obtain⟨hlen,hvl,hR⟩:=j9 hs (hL' C.m) hl
        have hlt:n.toNat<L.length:=by omega
        have hrep:=hR C.T (fun _ _ h=>h) (nL _) _ _ (sK hlt ty.dflt)
        have hsz:=beq_eq hsz
        obtain⟨u,hu,hrel⟩:=jg (dw hrep) hav
        refine Good.pure hs (v:=u) ?_ hrel
        have e':=vH hT htd
        have hp:=ky hT' vs.toList (n.toNat*te.size) (v:=u) (by rw[←hsz];rcases hu with⟨h1,h2⟩|⟨h1,h2⟩;exact .inl ⟨h1,h2⟩;exact .inr ⟨h1,h2⟩) C.w
        simp only[Array.toArray_toList]at hp
        have hc:0≤n∧n<(len:Int):=⟨h0,h1⟩
        simp only[execOp,ho,Instr.index,hi,hv,asIntOf,Sem.run_bind,Sem.run_pure,Result.andThen_ok,ao hT.und,e',hc,and_self,if_true,bm hT'.info,hT'.size,hp]
       ·exact(ab h).elim
      ·exact(ab h).elim
     ·exact(ab h).elim
    ·exact(ab h).elim
   ·exact(ab h).elim
  ·exact(ab h).elim
 ·exact(ab h).elim
theorem l9(hE:EnvOK E P)(hs:SRel C)(hρ:∀x,ay C (al lk x) (ρ x)){a:Operand}{t:TypeId}{av:AV}{n:Nat}{as:Array Operand}{ts:Array TypeId}
  (ho:o.op= .call {callee:=.builtin .len,args:=as,argTypes:=ts}) (ha:as.toList=[a]) (ht:ts.toList=[t])
  {ti:TI} (hti:E.T t=some ti) (hc:(ti.td= .str∧∃s,al lk a= .str s∧n=s.length)∨(∃e,ti.td= .slice e∧((al lk a= .nils∧n=0)∨∃t L m,dd C.m (al lk a)=some (.mk t L m)∧n=L.length))):
  Good P C ρ o (.int .i64 n) C.m:=by
 have hx:=hρ a
 obtain⟨i,d,z,hT⟩:=hE.T hti
 have has:as= #[a]:=by apply Array.ext';simpa using ha
 have hts:ts= #[t]:=by apply Array.ext';simpa using ht
 subst has hts
 refine Good.pure hs (v:=.int .i64 n) ?_ (by simp[ay])
 rcases hc with⟨htd,s,hsv,rfl⟩|⟨e,htd,hc⟩
 ·rw[hsv]at hx
  simp only[ay]at hx
  have e:=n5 hT htd
  simp[execOp,ho,resolve,hx,invoke,builtin,Builtin.len_,ao hT.und,e,goInt]
  rfl
 ·have e':=im hT htd
  rcases hc with⟨hn,rfl⟩|⟨t',L,m,hL,rfl⟩
  ·rw[hn]at hx
   simp only[ay]at hx
   simp[execOp,ho,resolve,hx,invoke,builtin,Builtin.len_,ao hT.und,e',goInt]
  ·obtain⟨ad,cap,hv,_⟩:=iY hs hx hL
   simp[execOp,ho,resolve,hv,invoke,builtin,Builtin.len_,ao hT.und,e',goInt]
theorem Ar(hs:SRel C)(hρ:∀x,ay C (al lk x) (ρ x)){a b:Operand}{as:Array Operand}{ts:Array TypeId}
  (ho:o.op= .call {callee:=.builtin .max,args:=as,argTypes:=ts}) (ha:as.toList=[a,b]) {k:IntKind} {x y:Int} (hx:al lk a= .int k x) (hy:al lk b= .int k y):
  Good P C ρ o (.int k (bif decide (x<y)then y else x)) C.m:=by
 have h1:=hρ a
 have h2:=hρ b
 rw[hx]at h1
 rw[hy]at h2
 simp only[ay]at h1 h2
 have has:as= #[a,b]:=by apply Array.ext';simpa using ha
 subst has
 refine Good.pure hs (v:=.int k (bif decide (x<y)then y else x)) ?_ (by simp[ay])
 simp only[execOp,ho,resolve,invoke,builtin,Builtin.max_,Sem.run_bind,Sem.run_pure,Result.andThen_ok]
 simp only[List.map_toArray,List.map_cons,List.map_nil,h1,h2,List.foldlM,Builtin.max2,Sem.run_bind,Sem.run_pure,Result.andThen_ok]
 congr 3
 by_cases hlt:x<y<;>simp[hlt]
end
end Go.Sx
