/- A part of the proof: see the row's text. -/
import Derived.Test.YtehaoepopklboaaGreatDoorZh04
import Derived.Scope
set_option linter.unusedVariables false
set_option linter.unusedSimpArgs false
noncomputable section
namespace Go.Sx
open Go
variable{G:Nat→Obj→Prop}{P:Program}{E:Env}{C:Ctx}
theorem jm{a b:List Nat}:meets a b=true↔∃x,x∈a∧x∈b:=by
 unfold meets
 rw[List.any_eq_true]
 constructor
 ·rintro ⟨x,hx,h⟩;exact⟨x,hx,any_beq.1 h⟩
 ·rintro ⟨x,hx,h⟩;exact⟨x,hx,any_beq.2 h⟩
theorem tY{a b:List Nat}(h:meets a b=false){x:Nat}(ha:x∈a):x∉b:=fun hb=>by
 rw[jm.2 ⟨x,ha,hb⟩]at h;cases h
theorem uk:∀(os:List Oper) (acc:List Nat),∃t,dV os acc=acc++t
 |[],acc=>⟨[],by simp[dV]⟩
 |o::os,acc=>by
  obtain⟨t,h⟩:=uk os (acc++[oF acc o])
  exact⟨oF acc o::t,by simp[dV,h]⟩
theorem xP:∀(os:List Oper) (acc:List Nat) (j:Nat) (o:Oper),os[j]? =some o→(dV os acc)[acc.length+j]? =some (oF ((dV os acc).take (acc.length+j)) o)
 |[],_,j,o,h=>by simp at h
 |o0::os,acc,0,o,h=>by
  simp only[List.getElem?_cons_zero,Option.some.injEq]at h
  subst h
  obtain⟨t,ht⟩:=uk os (acc++[oF acc o0])
  simp only[dV,ht,Nat.add_zero]
  simp
 |o0::os,acc,j+1,o,h=>by
  have:=xP os (acc++[oF acc o0]) j o (by simpa using h)
  simp only[dV]
  simpa [Nat.add_assoc,Nat.add_comm 1 j]using this
theorem lO{acc:List Nat}{i:Nat}:∀{es:List Edge},Nat.testBit (es.foldr (fun e s=>match Region.binds .any e with|true=>s ||| (1 <<< e.on) ||| ((nth acc e.on).getD 0)|false=>s) 0) i=true→
  ∃e∈es,Region.binds .any e=true∧(e.on=i∨Nat.testBit ((nth acc e.on).getD 0) i=true)
 |[],h=>by simp at h
 |e::es,h=>by
  simp only[List.foldr_cons]at h
  split at h
  ·rename_i hb
   simp only[Nat.testBit_or,Bool.or_eq_true]at h
   rcases h with(h|h)|h
   ·obtain⟨e',h1,h2⟩:=lO h
    exact⟨e',by simp[h1],h2⟩
   ·refine⟨e,by simp,hb,.inl ?_⟩
    rw[Nat.testBit_shiftLeft]at h
    simp only[Bool.and_eq_true,decide_eq_true_eq]at h
    obtain⟨h1,h2⟩:=h
    have:i-e.on=0:=by
     rcases Nat.eq_zero_or_pos (i-e.on)with h0|h0
     ·exact h0
     ·exfalso
      have:Nat.testBit 1 (i-e.on)=false:=by
       obtain⟨d,hd⟩:∃d,i-e.on=d+1:=⟨i-e.on-1,by omega⟩
       rw[hd,Nat.testBit_succ]
       simp
      rw[this]at h2
      cases h2
    omega
   ·exact⟨e,by simp,hb,.inr h⟩
  ·obtain⟨e',h1,h2⟩:=lO h
   exact⟨e',by simp[h1],h2⟩
structure SlotsOK(all:List Oper):Prop where
 edge:∀(j:Nat) (o:Oper),all[j]? =some o→∀e∈o.after,Region.binds .any e=true→e.on<j
 apart:∀(i j:Nat) (oi oj:Oper),all[i]? =some oi→all[j]? =some oj→i<j→dG (dV all []) j i=false→
  (∀t,oi.dst=some t→t∉mO all oj∧oj.dst≠some t)∧(∀t,oj.dst=some t→t∉mO all oi)
theorem lf{all:List Oper}(h:sN all (dV all [])=true):SlotsOK all:=by
 unfold sN at h
 simp only[List.all_eq_true,List.mem_range]at h
 constructor
 ·intro j o hj e he hb
  have hlt:j<all.length:=(List.getElem?_eq_some_iff.1 hj).1
  have:=h j hlt
  simp only[cP,hj,Bool.and_eq_true,List.all_eq_true,Bool.or_eq_true,Bool.not_eq_true']at this
  rcases this.1.1 e (by simpa using he)with h0|h0
  ·rw[hb]at h0;cases h0
  ·exact Nat.le_of_ble_eq_true h0
 ·intro i j oi oj hi hj hij hbit
  have hlt:j<all.length:=(List.getElem?_eq_some_iff.1 hj).1
  have hlti:i<all.length:=(List.getElem?_eq_some_iff.1 hi).1
  have:=h j hlt
  simp only[cP,hj,Bool.and_eq_true,List.all_eq_true,List.mem_range]at this
  have:=this.2 i hlti
  simp only[hi,Bool.or_eq_true,Bool.not_eq_true']at this
  rcases this with h0|h0|h0
  ·have:Nat.blt i j=true:=by simpa [Nat.blt_eq]using hij
   rw[this]at h0;cases h0
  ·rw[hbit]at h0;cases h0
  ·rw[Bool.or_eq_false_iff]at h0
   refine⟨fun t ht=>?_,fun t ht=>?_⟩
   ·have:=tY h0.1 (x:=t) (by simp[ht])
    simp only[List.mem_append,not_or]at this
    exact⟨this.1,fun hh=>this.2 (by simp[hh])⟩
   ·exact tY h0.2 (x:=t) (by simp[ht])
def down(all:List Oper)(S:Nat→Bool):Prop:=∀(i:Nat) (o:Oper),all[i]? =some o→S i=true→∀e∈o.after,Region.binds .any e=true→S e.on=true
theorem xE{all:List Oper}(hs:SlotsOK all){S:Nat→Bool}(hd:down all S){i:Nat}:∀(j:Nat) (o:Oper),all[j]? =some o→(∀e∈o.after,Region.binds .any e=true→S e.on=true)→dG (dV all []) j i=true→S i=true:=by
 intro j
 induction j using Nat.strongRecOn with
 |_ j ih=>
  intro o ho he hb
  unfold dG at hb
  have h1:=xP all [] j o ho
  simp only[List.length_nil,Nat.zero_add]at h1
  rw[cP,h1,Option.getD_some]at hb
  unfold oF at hb
  obtain⟨e,h2,h3,h4⟩:=lO hb
  have h2:e∈o.after:=by simpa using h2
  rcases h4 with h4|h4
  ·rw[←h4];exact he e h2 h3
  ·have hlt:=hs.edge j o ho e h2 h3
   have hjl:j<all.length:=(List.getElem?_eq_some_iff.1 ho).1
   have hget:all[e.on]? =some all[e.on]:=by simp
   refine ih e.on hlt _ hget (fun e' he' hb'=>hd e.on _ hget (he e h2 h3) e' he' hb') ?_
   unfold dG
   rw[cP]at h4⊢
   rwa [List.getElem?_take_of_lt hlt]at h4
def Kk(a b:Rec):Prop:=∃k,(k∈a.wr.map (·.1)∧(k∈b.rd∨k∈b.wr.map (·.1)))∨(k∈a.rd∧k∈b.wr.map (·.1))
structure TrOK(E:Env)(P:Program)(G:Nat→Obj→Prop)(dead:Nat→Bool)(all:List Oper)(next:Nat)(lk0:bc)(m0:Get)(rs:List Rec):Prop where
 tr:Tr E P G dead all next 0 lk0 m0 all rs
 clash:∀(i j:Nat) (ri rj:Rec),i<j→rs[i]? =some ri→rs[j]? =some rj→Kk ri rj→dG (dV all []) j i=true
 keys:∀(i:Nat) (ri:Rec),rs[i]? =some ri→∀p∈ri.wr,p.1<next∨next+16*i≤p.1∨∃i' ri',i'<i∧rs[i']? =some ri'∧∃q∈ri'.wr,q.1=p.1
 free:∀k,next≤k→m0 k=none
theorem TrOK.whose{dead:Nat→Bool}{all:List Oper}{next:Nat}{lk0:bc}{m0:Get}{rs:List Rec}(h:TrOK E P G dead all next lk0 m0 rs):
  ∀(i:Nat) (ri:Rec),rs[i]? =some ri→∀p∈ri.wr,p.1<next∨∃i0 r0,i0≤i∧rs[i0]? =some r0∧(∃q∈r0.wr,q.1=p.1)∧next+16*i0≤p.1∧p.1<next+16*i0+16:=by
 intro i
 induction i using Nat.strongRecOn with
 |_ i ih=>
  intro ri hi p hp
  rcases h.keys i ri hi p hp with h0|h0|⟨i',ri',h1,h2,q,hq,he⟩
  ·exact .inl h0
  ·have hlen:=h.tr.len
   have hil:i<all.length:=by rw[hlen];exact(List.getElem?_eq_some_iff.1 hi).1
   obtain⟨r,hr,hst⟩:=h.tr.at (j:=i) (o:=all[i]) (by simp)
   rw[hi]at hr
   cases hr
   have hb:p.1<next+16*i+16:=by
    have:=hst.2.1
    rw[Nat.zero_add]at this
    unfold below at this
    have:=List.all_eq_true.1 this p hp
    have:=Nat.le_of_ble_eq_true this
    omega
   exact .inr ⟨i,ri,Nat.le_refl _,hi,⟨p,hp,rfl⟩,h0,hb⟩
  ·rcases ih i' h1 ri' h2 q hq with h3|⟨i0,r0,h4,h5,h6,h7,h8⟩
   ·exact .inl (he▸h3)
   ·exact .inr ⟨i0,r0,by omega,h5,by rw[←he];exact h6,by omega,by omega⟩
end Go.Sx
namespace Go.Sx
open Go
variable{G:Nat→Obj→Prop}{P:Program}{E:Env}{K:Callee}{C:Ctx}
theorem zF{all:List Oper}{o:Oper}{t:Nat}(h: .tmp t∈o.op.operands):t∈mO all o:=by
 unfold mO
 refine List.mem_append_left _ (List.mem_flatMap.2 ⟨.tmp t,by simpa using h,by simp[My]⟩)
theorem mq{all:List Oper}{lk lk':bc}{o:Oper}(h:∀t∈mO all o,lk' t=lk t):ic all lk' o=ic all lk o:=by
 unfold ic
 cases hg:o.guard with
 |none=>rfl
 |some gw=>
  obtain⟨j,want⟩:=gw
  simp only
  cases hd:jX all j with
  |none=>rfl
  |some d=>
   simp only
   rw[h d (by simp[mO,qK,hg,hd])]
theorem mG{all:List Oper}{lk lk':bc}{o:Oper}(h:∀t∈mO all o,lk' t=lk t):∀x∈o.op.operands,al lk' x=al lk x:=fun x hx=>by
 cases x with
 |tmp t=>exact h t (zF hx)
 |_=>rfl
theorem jV.frame{all:List Oper}{lk lk':bc}{m m':Get}{id:Nat}{o:Oper}{r:Rec}(h:jV E P G all lk m id o r)(hl:∀t∈mO all o,lk' t=lk t)
  (hg:∀b∈r.rd,m' b=m b) (hw:∀p∈r.wr,m' p.1=m p.1):jV E P G all lk' m' id o r:=
 ⟨h.1,by rw[mq hl];exact h.2.1,fun hr=>⟨(h.2.2.1 hr).1.frame (mG hl) hg hw,(h.2.2.1 hr).2⟩,h.2.2.2⟩
def ik(S:Nat→Bool)(j:Nat):Nat→Bool:=fun i=>if i=j then true else S i
def iH(P:Program)(G:Nat→Obj→Prop)(lk:bc)(get:Get)(id:Nat)(o:Oper)(v:AV)(rd:List Nat):Prop:=
 match o.op with
 | .call {callee:=.value f,args:=as,.. }=>∃f' cap,al lk f= .fn f' cap∧kh P G f' (as.toList.map (al lk)++cap) get id (.panic v) [] rd
 |_=>False
theorem iH.frame{lk lk':bc}{get get':Get}{id:Nat}{o:Oper}{v:AV}{rd:List Nat}(h:iH P G lk get id o v rd)
  (hl:∀x∈o.op.operands,al lk' x=al lk x) (hg:∀b∈rd,get' b=get b):iH P G lk' get' id o v rd:=by
 unfold iH at h⊢
 split at h
 ·rename_i f as ts ho
  rw[ho]at hl
  obtain⟨f',cap,hf,hdc⟩:=h
  have h1:al lk' f=al lk f:=hl f (by simp[Op.operands,Call.operands])
  have h2:as.toList.map (al lk')=as.toList.map (al lk):=List.map_congr_left fun x hx=>hl x (by simp[Op.operands,Call.operands];exact .inr (by simpa using hx))
  refine⟨f',cap,h1.trans hf,?_⟩
  rw[h2]
  exact hdc.frame hg
 ·exact h.elim
theorem iH.does{ρ:Operand→Value}{lk:bc}{o:Oper}(hG:C.gl=G)(hs:SRel C)(hρ:∀x,ay C (al lk x) (ρ x)){id:Nat}(hid:∀j,id≤j→j<id+16→C.m j=none){v:AV}{rd:List Nat}
  (h:iH P G lk C.m id o v rd):vk P C ρ o v:=by
 unfold iH at h
 split at h
 ·rename_i f as ts ho
  obtain⟨f',cap,hf,hdc⟩:=h
  have hfv:=hρ f
  rw[hf]at hfv
  obtain⟨vs,hfv,hcap⟩:=hfv
  have hargs:au C (as.toList.map (al lk)++cap) (as.toList.map ρ++vs.toList):=(se hρ _).append hcap
  have hl:(as.toList.map ρ++vs.toList).toArray=as.map ρ++vs:=by
   apply Array.ext'
   simp
  intro a next Q hn
  have hA:=dr hG hs hargs hid hdc
  rw[hl]at hA
  refine gP ho hfv hA (fun u w' hR=>?_) (fun ch w' hR=>?_) (fun w' hR=>hR.elim)
  ·obtain⟨v',C',e1,_⟩:=hR;cases e1
  ·obtain⟨v',e1,e2⟩:=hR
   simp only[Out.panic.injEq]at e1
   subst e1
   exact hn w' ch e2
 ·exact h.elim
theorem oH{dead:Nat→Bool}{all:List Oper}{next:Nat}{lk0:bc}{m0:Get}{rs:List Rec}(hT:TrOK E P G dead all next lk0 m0 rs)(hs:SlotsOK all){S:Nat→Bool}(hd:down all S){j:Nat}{o:Oper}(hj:all[j]? =some o)
  (hSj:S j=false) (he:∀e∈o.after,Region.binds .any e=true→S e.on=true) (hSl:∀i,S i=true→i<all.length):
  ∃r,rs[j]? =some r∧(dead j=false→jV E P G all (lkF S rs 0 lk0) (mF S rs 0 m0) (next+16*j) o r)∧(∀t∈mO all o,lkF S rs 0 lk0 t=lkF (fun x=>decide (x<j)) rs 0 lk0 t)∧
   (∀b∈r.rd,mF S rs 0 m0 b=mF (fun x=>decide (x<j)) rs 0 m0 b)∧(∀k,next+16*j≤k→k<next+16*j+16→mF S rs 0 m0 k=none)∧
   lkF (ik S j) rs 0 lk0=dP (lkF S rs 0 lk0) r.dst r.v∧mF (ik S j) rs 0 m0=aG (mF S rs 0 m0) r.wr:=by
 have hlen:=hT.tr.len
 obtain⟨r,hr,hst⟩:=hT.tr.at hj
 simp only[Nat.zero_add]at hst
 have hop:∀(i:Nat) (ri:Rec),rs[i]? =some ri→∃oi,all[i]? =some oi∧ri.dst=oi.dst:=fun i ri hi=>by
  have hil:i<all.length:=by rw[hlen];exact(List.getElem?_eq_some_iff.1 hi).1
  obtain⟨r',hr',hst'⟩:=hT.tr.at (j:=i) (o:=all[i]) (by simp)
  rw[hi]at hr'
  cases hr'
  exact⟨all[i],by simp,hst'.1⟩
 have late:∀(i:Nat),S i=true→j<i→dG (dV all []) i j=false:=fun i hi hji=>by
  cases hb:dG (dV all []) i j with
  |false=>rfl
  |true=>
   have hil:=hSl i hi
   have:=xE hs hd i all[i] (by simp) (fun e he hb=>hd i all[i] (by simp) hi e he hb) hb
   rw[hSj]at this
   cases this
 have early:∀(i:Nat),S i=false→dG (dV all []) j i=false:=fun i hi=>by
  cases hb:dG (dV all []) j i with
  |false=>rfl
  |true=>
   have:=xE hs hd j o hj he hb
   rw[hi]at this
   cases this
 have hne:∀i,S (0+i)≠(fun x=>decide (x<j)) (0+i)→(S i=true∧j<i)∨(S i=false∧i<j):=fun i h=>by
  simp only[Nat.zero_add]at h
  cases hSi:S i with
  |true=>
   rw[hSi]at h
   have:¬i<j:=fun hh=>h (by simp[hh])
   have:i≠j:=fun e=>by rw[e,hSj]at hSi;cases hSi
   exact .inl ⟨rfl,by omega⟩
  |false=>
   rw[hSi]at h
   have:i<j:=by
    rcases Nat.lt_or_ge i j with hh|hh
    ·exact hh
    ·exact(h (by simp;omega)).elim
   exact .inr ⟨rfl,this⟩
 have hl:∀t∈mO all o,lkF S rs 0 lk0 t=lkF (fun x=>decide (x<j)) rs 0 lk0 t:=fun t ht=>by
  refine rl rs 0 lk0 lk0 (fun i ri hi hh hdst=>?_) rfl
  obtain⟨oi,hoi,hdi⟩:=hop i ri hi
  rw[hdi]at hdst
  rcases hne i hh with⟨h1,h2⟩|⟨h1,h2⟩
  ·exact(hs.apart j i o oi hj hoi h2 (late i h1 h2)).2 t hdst ht
  ·exact((hs.apart i j oi o hoi hj h2 (early i h1)).1 t hdst).1 ht
 have hm:∀b,(b∈r.rd∨b∈r.wr.map (·.1))→mF S rs 0 m0 b=mF (fun x=>decide (x<j)) rs 0 m0 b:=fun b hb=>by
  refine kr rs 0 m0 m0 (fun i ri hi hh p hp hpb=>?_) rfl
  have hbi:b∈ri.wr.map (·.1):=List.mem_map.2 ⟨p,hp,hpb⟩
  rcases hne i hh with⟨h1,h2⟩|⟨h1,h2⟩
  ·have:=hT.clash j i r ri h2 hr hi ⟨b,hb.elim (fun h=>.inr ⟨h,hbi⟩) (fun h=>.inl ⟨h,.inr hbi⟩)⟩
   rw[late i h1 h2]at this
   cases this
  ·have:=hT.clash i j ri r h2 hi hr ⟨b,.inl ⟨hbi,hb⟩⟩
   rw[early i h1]at this
   cases this
 refine⟨r,hr,fun hdead=>(hst.2.2 hdead).frame hl (fun b hb=>hm b (.inl hb)) (fun p hp=>hm p.1 (.inr (List.mem_map.2 ⟨p,hp,rfl⟩))),hl,fun b hb=>hm b (.inl hb),fun k hk1 hk2=>?_,?_,?_⟩
 ·have:mF S rs 0 m0 k=mF (fun _=>false) rs 0 m0 k:=by
   refine kr rs 0 m0 m0 (fun i ri hi hh p hp hpb=>?_) rfl
   simp only[Nat.zero_add,ne_eq,Bool.not_eq_false]at hh
   rcases hT.whose i ri hi p hp with h0|⟨i0,r0,h1,h2,⟨q,hq,hqp⟩,h4,h5⟩
   ·omega
   ·have:i0=j:=by omega
    subst this
    rw[hr]at h2
    cases h2
    have hij:i≠i0:=fun e=>by rw[e,hSj]at hh;cases hh
    have hlt:i0<i:=by omega
    have:=hT.clash i0 i r ri hlt hr hi ⟨p.1,.inl ⟨List.mem_map.2 ⟨q,hq,hqp⟩,.inr (List.mem_map.2 ⟨p,hp,rfl⟩)⟩⟩
    rw[late i hh hlt]at this
    cases this
  rw[this,jj _ _ _ (by simp)]
  exact hT.free k (by omega)
 ·refine zm rs 0 j lk0 r hr (by simpa using hSj) (by simp[ik]) (fun i hi=>by simp only[ik];rw[if_neg (by omega)]) fun i r' hi hlt hSi t ht hdt=>?_
  simp only[Nat.zero_add]at hSi
  obtain⟨oi,hoi,hdi⟩:=hop i r' hi
  rw[hdi]at hdt
  rw[hst.1]at ht
  exact((hs.apart j i o oi hj hoi hlt (late i hSi hlt)).1 t ht).2 hdt
 ·refine DW rs 0 j m0 r hr (by simpa using hSj) (by simp[ik]) (fun i hi=>by simp only[ik];rw[if_neg (by omega)]) fun i r' hi hlt hSi p hp q hq hqp=>?_
  simp only[Nat.zero_add]at hSi
  have:=hT.clash j i r r' hlt hr hi ⟨p.1,.inl ⟨List.mem_map.2 ⟨p,hp,rfl⟩,.inr (List.mem_map.2 ⟨q,hq,hqp⟩)⟩⟩
  rw[late i hSi hlt]at this
  cases this
theorem mD{S:Nat→Bool}{j n:Nat}(hj:j<n)(hS:S j=false):(List.range n).countP (ik S j)=(List.range n).countP S+1:=by
 induction n with
 |zero=>omega
 |succ n ih=>
  rw[List.range_succ,List.countP_append,List.countP_append]
  by_cases h:j=n
  ·subst h
   have:(List.range j).countP (ik S j)=(List.range j).countP S:=List.countP_congr fun x hx=>by
    have:=List.mem_range.1 hx
    simp only[ik]
    rw[if_neg (by omega)]
   rw[this]
   simp[ik,hS]
  ·rw[ih (by omega)]
   have:ik S j n=S n:=by simp only[ik];rw[if_neg (by omega)]
   simp only[List.countP_cons,List.countP_nil,this]
   omega
theorem CK(hE:EnvOK E P){ops:Array Oper}{next:Nat}{lk0:bc}{m0:Get}{rs:List Rec}(hT:TrOK E P G (fun _=>false) ops.toList next lk0 m0 rs)(hs:SlotsOK ops.toList){Q:Exit→Act→World→Prop}{C0:Ctx}(hG:C0.gl=G){n:Nat}{ds:List Deferred}
  (hdst:∀o∈ops.toList,∀t,o.dst=some t→t<n)
  (hQ:∀C' a',SR C' a' (lkF (fun _=>true) rs 0 lk0) (mF (fun _=>true) rs 0 m0)→Ext C0 C'→a'.tmps.size=n→a'.defers=ds→Q .normal a' C'.w):
  ∀(fuel:Nat) (listed:Array Bool) (C:Ctx) (a:Act),listed.size=ops.size→down ops.toList (fun i=>listed.getD i false)→ops.size≤fuel+(List.range ops.size).countP (fun i=>listed.getD i false)→
   SR C a (lkF (fun i=>listed.getD i false) rs 0 lk0) (mF (fun i=>listed.getD i false) rs 0 m0)→Ext C0 C→a.tmps.size=n→a.defers=ds→wpAny P .any ops Q fuel listed a C.w:=by
 have hlen:ops.size=rs.length:=by have:=hT.tr.len;simpa using this
 have done:∀(listed:Array Bool) (C:Ctx) (a:Act),(∀i,i<ops.size→listed.getD i false=true)→SR C a (lkF (fun i=>listed.getD i false) rs 0 lk0) (mF (fun i=>listed.getD i false) rs 0 m0)→Ext C0 C→a.tmps.size=n→a.defers=ds→Q .normal a C.w:=by
  intro listed C a hall hr hE0 hsz hds
  rw[tJ (S':=fun _=>true) rs 0 lk0 fun i hi=>by simp only[Nat.zero_add];exact hall i (by omega),xm (S':=fun _=>true) rs 0 m0 fun i hi=>by simp only[Nat.zero_add];exact hall i (by omega)]at hr
  exact hQ C a hr hE0 hsz hds
 have ready_nil:∀(listed:Array Bool),listed.size=ops.size→Region.ready .any ops listed=[]→∀i,i<ops.size→listed.getD i false=true:=by
  intro listed hls hrn i
  induction i using Nat.strongRecOn with
  |_ i ih=>
   intro hi
   cases hli:listed.getD i false with
   |true=>rfl
   |false=>
    exfalso
    have hmem:i∈Region.ready .any ops listed:=by
     rw[mem_ready]
     refine⟨?_,ops[i],by simp[hi],fun e he hb=>?_⟩
     ·have:i<listed.size:=by omega
      simpa [Array.getD_eq_getD_getElem?,this]using hli
     ·have:=hs.edge i ops[i] (by simp[hi]) e he hb
      exact ih e.on this (by omega)
    rw[hrn]at hmem
    cases hmem
 intro fuel
 induction fuel with
 |zero=>
  intro listed C a hls hd hc hr hE0 hsz hds
  have hall:∀i,i<ops.size→listed.getD i false=true:=by
   intro i hi
   have h1:(List.range ops.size).countP (fun i=>listed.getD i false)=(List.range ops.size).length:=by
    have:=List.countP_le_length (p:=fun i=>listed.getD i false) (l:=List.range ops.size)
    simp only[List.length_range]at this⊢
    omega
   exact List.countP_eq_length.1 h1 i (List.mem_range.2 hi)
  refine⟨?_,done listed C a hall hr hE0 hsz hds⟩
  cases hre:Region.ready .any ops listed with
  |nil=>rfl
  |cons x xs=>
   have hx:x∈Region.ready .any ops listed:=by rw[hre];simp
   obtain⟨h1,o,ho,_⟩:=mem_ready.1 hx
   have hxs:x<ops.size:=(Array.getElem?_eq_some_iff.1 ho).1
   have:=hall x hxs
   have hxl:x<listed.size:=by omega
   simp[Array.getD_eq_getD_getElem?,hxl]at h1 this
   rw[h1]at this
   cases this
 |succ fuel ih=>
  intro listed C a hls hd hc hr hE0 hsz hds
  refine⟨fun hre=>done listed C a (ready_nil listed hls hre) hr hE0 hsz hds,fun j hj=>?_⟩
  obtain⟨h1,o,ho,hedges⟩:=mem_ready.1 hj
  have hjs:j<ops.size:=(Array.getElem?_eq_some_iff.1 ho).1
  have hjl:j<listed.size:=by omega
  have hSj:listed.getD j false=false:=by simpa [Array.getD_eq_getD_getElem?,hjl]using h1
  have hol:ops.toList[j]? =some o:=by simpa using ho
  obtain⟨r,hrj,hst,_,_,hfree,hlk,hmm⟩:=oH hT hs hd hol hSj hedges (fun i hi=>by
   rcases Nat.lt_or_ge i listed.size with h|h
   ·simp;omega
   ·simp[Array.getD_eq_getD_getElem?,Array.getElem?_eq_none h]at hi)
  have hS':(fun i=>(listed.setIfInBounds j true).getD i false)=ik (fun i=>listed.getD i false) j:=by
   funext i
   simp only[ik]
   by_cases hij:i=j
   ·subst hij;simp[Array.getD_eq_getD_getElem?,hjl]
   ·rw[if_neg hij,getD_set_ne false (Ne.symm hij)]
  have hom:o∈ops.toList:=List.mem_of_getElem? hol
  refine yz hE (hE0.glEq.trans hG) (hst rfl) hr hfree (fun t ht=>by rw[hsz];exact hdst o hom t ht) ho fun C' a' hr' hE' hsz' hds'=>?_
  refine ih _ C' a' (by simpa using hls) ?_ ?_ ?_ (hE0.trans hE') (hsz'.trans hsz) (hds'.trans hds)
  ·rw[hS']
   intro i oi hi hSi e he hb
   simp only[ik]at hSi⊢
   split at hSi
   ·rename_i hij
    subst hij
    rw[hol]at hi
    cases hi
    split
    ·rfl
    ·exact hedges e he hb
   ·split
    ·rfl
    ·exact hd i oi hi hSi e he hb
  ·rw[hS',mD hjs hSj]
   omega
  ·rw[hS',hlk,hmm]
   exact hr'
theorem Ao(hE:EnvOK E P){ops:Array Oper}{next:Nat}{lk0:bc}{m0:Get}{rs:List Rec}{pi:Nat}(hT:TrOK E P G (fun j=>decide (j=pi)||dG (dV ops.toList []) j pi) ops.toList next lk0 m0 rs)(hs:SlotsOK ops.toList)
  {Q:Exit→Act→World→Prop} {C0:Ctx} (hG:C0.gl=G) {n:Nat} {ds:List Deferred} (hdst:∀o∈ops.toList,∀t,o.dst=some t→t<n) {po:Oper} (hpo:ops.toList[pi]? =some po) {pv:AV} {pr:Rec} (hpr:rs[pi]? =some pr)
  (hw:ic ops.toList (lkF (fun x=>decide (x<pi)) rs 0 lk0) po=some true) (hpan:iH P G (lkF (fun x=>decide (x<pi)) rs 0 lk0) (mF (fun x=>decide (x<pi)) rs 0 m0) (next+16*pi) po pv pr.rd)
  (hQ:∀a' w' ch,eu C0 pv w' ch→a'.defers=ds→Q (.panic ch) a' w'):
  ∀(fuel:Nat) (listed:Array Bool) (C:Ctx) (a:Act),listed.size=ops.size→down ops.toList (fun i=>listed.getD i false)→(∀j,(decide (j=pi)||dG (dV ops.toList []) j pi)=true→listed.getD j false=false)→
   ops.size≤fuel+(List.range ops.size).countP (fun i=>listed.getD i false)→
   SR C a (lkF (fun i=>listed.getD i false) rs 0 lk0) (mF (fun i=>listed.getD i false) rs 0 m0)→Ext C0 C→a.tmps.size=n→a.defers=ds→wpAny P .any ops Q fuel listed a C.w:=by
 have hlen:ops.size=rs.length:=by have:=hT.tr.len;simpa using this
 have hpis:pi<ops.size:=by
  have:=(List.getElem?_eq_some_iff.1 hpo).1
  simpa using this
 have notall:∀(listed:Array Bool),(∀j,(decide (j=pi)||dG (dV ops.toList []) j pi)=true→listed.getD j false=false)→¬∀i,i<ops.size→listed.getD i false=true:=fun listed hde hall=>by
  have h1:=hde pi (by simp)
  rw[hall pi hpis]at h1
  cases h1
 have ready_nil:∀(listed:Array Bool),listed.size=ops.size→Region.ready .any ops listed=[]→∀i,i<ops.size→listed.getD i false=true:=by
  intro listed hls hrn i
  induction i using Nat.strongRecOn with
  |_ i ih=>
   intro hi
   cases hli:listed.getD i false with
   |true=>rfl
   |false=>
    exfalso
    have hmem:i∈Region.ready .any ops listed:=by
     rw[mem_ready]
     refine⟨?_,ops[i],by simp[hi],fun e he hb=>?_⟩
     ·have:i<listed.size:=by omega
      simpa [Array.getD_eq_getD_getElem?,this]using hli
     ·have:=hs.edge i ops[i] (by simp[hi]) e he hb
      exact ih e.on this (by omega)
    rw[hrn]at hmem
    cases hmem
 intro fuel
 induction fuel with
 |zero=>
  intro listed C a hls hd hde hc hr hE0 hsz hds
  refine(notall listed hde ?_).elim
  intro i hi
  have h1:(List.range ops.size).countP (fun i=>listed.getD i false)=(List.range ops.size).length:=by
   have:=List.countP_le_length (p:=fun i=>listed.getD i false) (l:=List.range ops.size)
   simp only[List.length_range]at this⊢
   omega
  exact List.countP_eq_length.1 h1 i (List.mem_range.2 hi)
 |succ fuel ih=>
  intro listed C a hls hd hde hc hr hE0 hsz hds
  refine⟨fun hre=>(notall listed hde (ready_nil listed hls hre)).elim,fun j hj=>?_⟩
  obtain⟨h1,o,ho,hedges⟩:=mem_ready.1 hj
  have hjs:j<ops.size:=(Array.getElem?_eq_some_iff.1 ho).1
  have hjl:j<listed.size:=by omega
  have hSj:listed.getD j false=false:=by simpa [Array.getD_eq_getD_getElem?,hjl]using h1
  have hol:ops.toList[j]? =some o:=by simpa using ho
  obtain⟨r,hrj,hst,hl,hm,hfree,hlk,hmm⟩:=oH hT hs hd hol hSj hedges (fun i hi=>by
   rcases Nat.lt_or_ge i listed.size with h|h
   ·simp;omega
   ·simp[Array.getD_eq_getD_getElem?,Array.getElem?_eq_none h]at hi)
  cases hdj:(decide (j=pi)||dG (dV ops.toList []) j pi)with
  |true=>
   have hjp:j=pi:=by
    simp only[Bool.or_eq_true,decide_eq_true_eq]at hdj
    rcases hdj with h|h
    ·exact h
    ·have:=xE hs hd j o hol hedges h
     have h5:=hde pi (by simp)
     rw[this]at h5
     cases h5
   subst hjp
   have ho2:o=po:=by
    rw[hol]at hpo
    exact Option.some.inj hpo
   subst ho2
   have hr2:r=pr:=by
    rw[hrj]at hpr
    exact Option.some.inj hpr
   subst hr2
   have hw2:ic ops.toList (lkF (fun i=>listed.getD i false) rs 0 lk0) o=some true:=by rw[mq hl];exact hw
   have hp2:=hpan.frame (mG hl) hm
   have hwr:=ji hr.t hw2
   unfold wpOp
   simp only[ho,hwr]
   rw[if_pos trivial]
   refine .inl ?_
   unfold Oper.wp
   rw[←hr.m]at hp2 hfree
   exact hp2.does (hE0.glEq.trans hG) hr.s hr.t hfree a _ Q fun w' ch hpa=>hQ a w' ch (hpa.after hE0) hds
  |false=>
   have hS':(fun i=>(listed.setIfInBounds j true).getD i false)=ik (fun i=>listed.getD i false) j:=by
    funext i
    simp only[ik]
    by_cases hij:i=j
    ·subst hij;simp[Array.getD_eq_getD_getElem?,hjl]
    ·rw[if_neg hij,getD_set_ne false (Ne.symm hij)]
   have hom:o∈ops.toList:=List.mem_of_getElem? hol
   refine yz hE (hE0.glEq.trans hG) (hst hdj) hr hfree (fun t ht=>by rw[hsz];exact hdst o hom t ht) ho fun C' a' hr' hE' hsz' hds'=>?_
   refine ih _ C' a' (by simpa using hls) ?_ ?_ ?_ ?_ (hE0.trans hE') (hsz'.trans hsz) (hds'.trans hds)
   ·rw[hS']
    intro i oi hi hSi e he hb
    simp only[ik]at hSi⊢
    split at hSi
    ·rename_i hij
     subst hij
     rw[hol]at hi
     cases hi
     split
     ·rfl
     ·exact hedges e he hb
    ·split
     ·rfl
     ·exact hd i oi hi hSi e he hb
   ·intro k hk
    have hkj:k≠j:=fun e=>by rw[e,hdj]at hk;cases hk
    rw[getD_set_ne false (Ne.symm hkj)]
    exact hde k hk
   ·rw[hS',mD hjs hSj]
    omega
   ·rw[hS',hlk,hmm]
    exact hr'
end Go.Sx
namespace Go.Sx
open Go
variable{G:Nat→Obj→Prop}{P:Program}{E:Env}{K:Callee}{C:Ctx}{R:Type}
def gp(i:Nat)(r:Rec):List Ent:=
 match r.wr,r.rd with
 |[],[]=>[]
 |wr,rd=>[⟨i,rd,wr.map (·.1)⟩]
def mN:Nat→List Rec→List Ent
 |_,[]=>[]
 |i,r::rs=>gp i r++mN (i+1) rs
theorem lC{i:Nat}{r:Rec}(h:r.wr≠[]∨r.rd≠[]):gp i r=[⟨i,r.rd,r.wr.map (·.1)⟩]:=by
 unfold gp
 split
 ·rename_i h1 h2;simp_all
 ·rfl
theorem mj{all:List Oper}{o:Oper}{st:St}{go skip:St→Rs R}{pos:Nat}{r:R}
  (h:(match o.guard with
  |none=>go st
  |some (j,want)=>match jX all j with
   |none=>.err pos
   |some d=>match look st.tmps d with
    | .bool b=>(match b with
     |true=>(match want with
      |true=>go {st with tmps:=(d,.bool true)::st.tmps}
      |false=>skip {st with tmps:=(d,.bool true)::st.tmps})
     |false=>(match want with
      |true=>skip {st with tmps:=(d,.bool false)::st.tmps}
      |false=>go {st with tmps:=(d,.bool false)::st.tmps}))
    | .tup []=>skip st
    |_=>.err pos)= .ok r):
  ∃st':St,look st'.tmps=look st.tmps∧st'.blks=st.blks∧st'.next=st.next∧((ic all (look st.tmps) o=some true∧go st'= .ok r)∨(ic all (look st.tmps) o=some false∧skip st'= .ok r)):=by
 have same:∀{d b},look st.tmps d= .bool b→look ((d,AV.bool b)::st.tmps)=look st.tmps:=fun{d b} hb=>by
  rw[qx]
  funext j
  simp only[dP]
  split
  ·rename_i e;rw[←e,hb]
  ·rfl
 unfold ic
 split at h
 ·rename_i hg
  exact⟨st,rfl,rfl,rfl,.inl ⟨by simp[hg],h⟩⟩
 ·rename_i j want hg
  try simp only[hg]
  split at h
  ·cases h
  ·rename_i d hd
   try simp only[hd]
   split at h
   ·rename_i b hb
    try simp only[hb]
    split at h
    ·split at h
     ·exact⟨{st with tmps:=(d,.bool true)::st.tmps},same hb,rfl,rfl,.inl ⟨rfl,h⟩⟩
     ·exact⟨{st with tmps:=(d,.bool true)::st.tmps},same hb,rfl,rfl,.inr ⟨rfl,h⟩⟩
    ·split at h
     ·exact⟨{st with tmps:=(d,.bool false)::st.tmps},same hb,rfl,rfl,.inr ⟨rfl,h⟩⟩
     ·exact⟨{st with tmps:=(d,.bool false)::st.tmps},same hb,rfl,rfl,.inl ⟨rfl,h⟩⟩
   ·rename_i hb
    try simp only[hb]
    exact⟨st,rfl,rfl,rfl,.inr ⟨trivial,h⟩⟩
   ·cases h
theorem uC(hK:KOK P G K){lk:bc}{get:Get}{id:Nat}{o:Oper}{e:Nat}{kn:AV→Wr→List Nat→Rs R}{kp:AV→Rs R}{r:R}(h:eo E K lk get id o e kn kp= .ok r):
  (∃v wr rd,kn v wr rd= .ok r∧below wr (id+16)=true∧dv E P G lk get id o v wr rd)∨(∃v,kp v= .ok r∧∀rd,lS lk get o=some rd→iH P G lk get id o v rd):=by
 unfold eo at h
 split at h
 ·rename_i f as ts ho
  split at h
  ·rename_i f' cap hf
   obtain⟨out,wr,rd,h,hdc⟩:=lR hK h
   split at h
   ·rename_i v
    split at h
    ·rename_i hb
     exact .inl ⟨v,wr,rd,h,hb,by unfold dv;rw[ho];exact⟨f',cap,hf,hdc⟩⟩
    ·cases h
   ·rename_i v
    refine .inr ⟨v,h,fun rd2 h2=>?_⟩
    unfold lS at h2
    rw[ho]at h2
    simp only[hf]at h2
    have hwr:wr=[]:=by
     obtain⟨l,_,_,_,h5⟩:=hdc
     rcases h5 with⟨_,_,_,_,h6,_⟩|⟨_,_,_,_,h6⟩
     ·cases h6
     ·exact h6
    subst hwr
    have hrd:rd2=rd:=by
     obtain⟨l,h6,_⟩:=hdc
     rw[h2]at h6
     exact Option.some.inj h6
    subst hrd
    unfold iH
    rw[ho]
    exact⟨f',cap,hf,hdc⟩
  ·cases h
 ·rename_i x ho
  split at h
  ·split at h
   ·refine .inr ⟨_,h,fun rd2 h2=>?_⟩
    unfold lS at h2
    rw[ho]at h2
    cases h2
   ·cases h
  ·cases h
 ·rename_i op h1 h2
  obtain⟨rr,hrun,hk⟩:=iQ h
  split at hk
  ·rename_i hb
   refine .inl ⟨rr.v,rr.wr,rr.rd,hk,hb,?_⟩
   unfold dv
   split
   ·rename_i f as ts ho;exact(h1 _ _ _ ho).elim
   ·rename_i x ho;exact(h2 _ ho).elim
   ·exact hrun
  ·cases hk
def Hy(next i:Nat)(es:List Ent)(r:Rec):Prop:=r.wr=[]∨pk next (next+16*i) es r.wr=true
def tf(next:Nat):Nat→List Ent→List Rec→Prop
 |_,_,[]=>True
 |i,es,r::rs=>Hy next i es r∧tf next (i+1) (gp i r++es) rs
def lD(bf:List Nat)(pm:Option (Nat×AV))(j:Nat):Bool:=match pm with
 |none=>false
 |some (p,_)=>decide (j=p)||dG bf j p
theorem Ad{bf:List Nat}{pm:Option (Nat×AV)}{i:Nat}(h:xo bf pm i=true):lD bf pm i=true:=by
 cases pm with
 |none=>cases h
 |some q=>simp only[xo]at h;simp[lD,h]
def kx(P:Program)(G:Nat→Obj→Prop)(all:List Oper)(next i:Nat)(lk:bc)(m:Get)(os:List Oper)(rs:List Rec)(p:Nat)(v:AV):Prop:=
 ∃j po pr,p=i+j∧os[j]? =some po∧rs[j]? =some pr∧ic all (lkF (fun x=>decide (x<p)) rs i lk) po=some true∧iH P G (lkF (fun x=>decide (x<p)) rs i lk) (mF (fun x=>decide (x<p)) rs i m) (next+16*p) po v pr.rd
theorem kx.cons{all:List Oper}{next i:Nat}{lk:bc}{m:Get}{o:Oper}{os:List Oper}{r0:Rec}{rs:List Rec}{p:Nat}{v:AV}(h:kx P G all next (i+1) (dP lk r0.dst r0.v) (aG m r0.wr) os rs p v):
  kx P G all next i lk m (o::os) (r0::rs) p v:=by
 obtain⟨j,po,pr,h1,h2,h3,h4,h5⟩:=h
 refine⟨j+1,po,pr,by omega,by simpa using h2,by simpa using h3,?_,?_⟩
 ·simp only[lkF,show(decide (i<p))=true by simp;omega,if_true]
  exact h4
 ·simp only[lkF,mF,show(decide (i<p))=true by simp;omega,if_true]
  exact h5
theorem fM(hK:KOK P G K){rid:Nat}{all:List Oper}{bf:List Nat}{kn:St→Rs R}{kp:AV→Rs R}{r:R}:∀(os:List Oper) (i:Nat) (st:St) (es:List Ent) (pm:Option (Nat×AV)),cv E K rid all bf os i st es pm kn kp= .ok r→
  ∃rs st' pm',Tr E P G (lD bf pm') all st.next i (look st.tmps) (aC st.blks) os rs∧tf st.next i es rs∧lv bf ((mN i rs).reverse++es).reverse=true∧
   look st'.tmps=lkF (fun _=>true) rs i (look st.tmps)∧aC st'.blks=mF (fun _=>true) rs i (aC st.blks)∧st'.next=st.next+16*(i+os.length)∧
   (match pm' with
   |none=>pm=none∧kn st'= .ok r
   |some (p,v)=>kp v= .ok r∧(pm=some (p,v)∨(pm=none∧kx P G all st.next i (look st.tmps) (aC st.blks) os rs p v)))
 |[],i,st,es,pm,h=>by
  simp only[cv]at h
  split at h
  ·rename_i hc
   refine⟨[],{st with next:=st.next+16*i},pm,trivial,trivial,by simpa [mN]using hc,rfl,rfl,rfl,?_⟩
   cases pm with
   |none=>exact⟨rfl,h⟩
   |some q=>exact⟨h,.inl rfl⟩
  ·cases h
 |o::os,i,st,es,pm,h=>by
  simp only[cv]at h
  split at h
  ·rename_i hdead
   obtain⟨rs,st',pm',e1,e2,e3,e4,e5,e6,e7⟩:=fM hK os (i+1) _ _ _ h
   have hpm:lD bf pm' i=true:=by
    cases pm' with
    |none=>rw[e7.1]at hdead;cases hdead
    |some q=>
     obtain⟨p,v⟩:=q
     rcases e7.2 with e|⟨e,_⟩
     ·rw[e]at hdead;exact Ad hdead
     ·rw[e]at hdead;cases hdead
   refine⟨⟨o.dst,false,.undef,[],[]⟩::rs,st',pm',⟨⟨rfl,rfl,fun hh=>by rw[hpm]at hh;cases hh⟩,?_⟩,⟨.inl rfl,e2⟩,e3,?_,?_,?_,?_⟩
   ·rw[eU]at e1;exact e1
   ·rw[e4,eU];simp only[lkF,if_true]
   ·rw[e5];simp only[mF,if_true];rfl
   ·rw[e6];simp only[List.length_cons];omega
   ·cases pm' with
    |none=>exact e7
    |some q=>
     obtain⟨p,v⟩:=q
     refine⟨e7.1,?_⟩
     rcases e7.2 with e|⟨e,_⟩
     ·exact .inl e
     ·rw[e]at hdead;cases hdead
  ·rename_i hdead
   obtain⟨st1,h1,h2,h3,h4⟩:=mj (o:=o) (all:=all) (pos:=5)
    (go:=fun st=>eo E K (look st.tmps) (aC st.blks) (st.next+16*i) o (rid*100+i)
     (fun v wr rd=>match pk st.next (st.next+16*i) es wr with
      |true=>cv E K rid all bf os (i+1) {tmps:=iz st.tmps o.dst v,blks:=ct st.blks wr,next:=st.next}
       (match wr,rd with|[],[]=>es|wr,rd=>⟨i,rd,wr.map (·.1)⟩::es) pm kn kp
      |false=>.err 7)
     (fun v=>gF pm (lS (look st.tmps) (aC st.blks) o) fun rd=>cv E K rid all bf os (i+1) {st with tmps:=iz st.tmps o.dst .undef} (vb i rd es) (some (i,v)) kn kp))
    (skip:=fun st=>cv E K rid all bf os (i+1) {st with tmps:=iz st.tmps o.dst (.tup [])} es pm kn kp) h
   rcases h4 with⟨hw,h4⟩|⟨hw,h4⟩
   ·rcases uC hK h4 with⟨v,wr,rd,hk,hb,hx⟩|⟨v,hk,hx⟩
    ·split at hk
     ·rename_i hko
      obtain⟨rs,st',pm',e1,e2,e3,e4,e5,e6,e7⟩:=fM hK os (i+1) _ _ _ hk
      simp only[eU,eS,h1,h2,h3]at e1 e4 e5 e6 e7
      refine⟨⟨o.dst,true,v,wr,rd⟩::rs,st',pm',⟨⟨rfl,by rw[←h3];exact hb,fun _=>⟨rfl,hw,fun _=>⟨by rw[h1,h2,h3]at hx;exact hx,by rw[←h3];exact hb⟩,by simp⟩⟩,e1⟩,⟨.inr (by rw[h3]at hko;exact hko),?_⟩,?_,?_,?_,?_,?_⟩
      ·rw[h3]at e2
       unfold gp
       simp only
       split at e2
       ·exact e2
       ·exact e2
      ·unfold mN
       unfold gp
       simp only
       split at e3
       ·simpa using e3
       ·simpa using e3
      ·rw[e4];simp only[lkF,if_true]
      ·rw[e5];simp only[mF,if_true]
      ·rw[e6];simp only[List.length_cons];omega
      ·cases pm' with
       |none=>exact e7
       |some q=>exact⟨e7.1,e7.2.imp id fun hh=>⟨hh.1,hh.2.cons⟩⟩
     ·cases hk
    ·unfold gF at hk
     split at hk
     ·cases hk
     ·split at hk
      ·cases hk
      ·rename_i rd hrd
       have hp:=hx rd hrd
       obtain⟨rs,st',pm',e1,e2,e3,e4,e5,e6,e7⟩:=fM hK os (i+1) _ _ _ hk
       simp only[eU,h1,h2,h3]at e1 e4 e5 e6 e7
       have hpm:pm'=some (i,v):=by
        cases pm' with
        |none=>cases e7.1
        |some q=>
         obtain⟨p,v'⟩:=q
         rcases e7.2 with e|⟨e,_⟩
         ·exact e.symm
         ·cases e
       subst hpm
       refine⟨⟨o.dst,true,.undef,[],rd⟩::rs,st',some (i,v),⟨⟨rfl,rfl,fun hh=>by simp[lD]at hh⟩,e1⟩,⟨.inl rfl,?_⟩,?_,?_,?_,?_,e7.1,.inr ⟨rfl,0,o,_,rfl,rfl,rfl,?_,?_⟩⟩
       ·rw[h3]at e2
        cases rd with
        |nil=>exact e2
        |cons x rd=>exact e2
       ·cases rd with
        |nil=>simpa [mN,gp,vb]using e3
        |cons x rd=>simpa [mN,gp,vb]using e3
       ·rw[e4];simp only[lkF,if_true]
       ·rw[e5];simp only[mF,if_true];rfl
       ·rw[e6];simp only[List.length_cons];omega
       ·rw[iA _ _ _ (by intro x hx;simp;omega)]
        exact hw
       ·rw[iA _ _ _ (by intro x hx;simp;omega),jj _ _ _ (by intro x hx;simp;omega)]
        rw[h1,h2,h3]at hp
        exact hp
   ·obtain⟨rs,st',pm',e1,e2,e3,e4,e5,e6,e7⟩:=fM hK os (i+1) _ _ _ h4
    simp only[eU,h1,h2,h3]at e1 e2 e4 e5 e6 e7
    refine⟨⟨o.dst,false,.tup [],[],[]⟩::rs,st',pm',⟨⟨rfl,rfl,fun _=>⟨rfl,hw,by simp,by simp⟩⟩,e1⟩,⟨.inl rfl,e2⟩,e3,?_,?_,?_,?_⟩
    ·rw[e4];simp only[lkF,if_true]
    ·rw[e5];simp only[mF,if_true];rfl
    ·rw[e6];simp only[List.length_cons];omega
    ·cases pm' with
     |none=>exact e7
     |some q=>exact⟨e7.1,e7.2.imp id fun hh=>⟨hh.1,hh.2.cons⟩⟩
theorem vz{e:Ent}:∀(rs:List Rec) (i:Nat),e∈mN i rs↔∃j r,rs[j]? =some r∧e∈gp (i+j) r
 |[],i=>by simp[mN]
 |r::rs,i=>by
  simp only[mN,List.mem_append,vz rs (i+1)]
  constructor
  ·rintro (h|⟨j,r',h1,h2⟩)
   ·exact⟨0,r,by simp,h⟩
   ·exact⟨j+1,r',by simpa using h1,by rwa [show i+(j+1)=i+1+j by omega]⟩
  ·rintro ⟨j,r',h1,h2⟩
   cases j with
   |zero=>
    simp only[List.getElem?_cons_zero,Option.some.injEq]at h1
    subst h1
    exact .inl h2
   |succ j=>exact .inr ⟨j,r',by simpa using h1,by rwa [show i+1+j=i+(j+1) by omega]⟩
theorem kY{bf:List Nat}:∀{l:List Ent},lv bf l=true→l.Pairwise fun e d=>e.clash d=true→dG bf d.i e.i=true
 |[],_=>.nil
 |e::l,h=>by
  simp only[lv,Bool.and_eq_true,List.all_eq_true,Bool.or_eq_true,Bool.not_eq_true']at h
  refine .cons (fun d hd hc=>?_) (kY h.2)
  rcases h.1 d hd with h0|h0
  ·rw[hc]at h0;cases h0
  ·exact h0
theorem qY{Q:Ent→Ent→Prop}:∀{rs:List Rec} {k:Nat},(mN k rs).Pairwise Q→∀(i j:Nat) (ri rj:Rec) (ei ej:Ent),i<j→rs[i]? =some ri→rs[j]? =some rj→ei∈gp (k+i) ri→ej∈gp (k+j) rj→Q ei ej
 |[],_,_,i,j,ri,rj,ei,ej,_,hi,_,_,_=>by simp at hi
 |r::rs,k,h,0,j,ri,rj,ei,ej,hlt,hi,hj,he,he'=>by
  obtain⟨j',rfl⟩:∃j',j=j'+1:=⟨j-1,by omega⟩
  simp only[List.getElem?_cons_zero,Option.some.injEq]at hi
  subst hi
  simp only[mN,List.pairwise_append]at h
  exact h.2.2 ei he ej ((vz rs (k+1)).2 ⟨j',rj,by simpa using hj,by rwa [show k+1+j'=k+(j'+1) by omega]⟩)
 |r::rs,k,h,i+1,j,ri,rj,ei,ej,hlt,hi,hj,he,he'=>by
  obtain⟨j',rfl⟩:∃j',j=j'+1:=⟨j-1,by omega⟩
  simp only[mN,List.pairwise_append]at h
  exact qY h.2.1 i j' ri rj ei ej (by omega) (by simpa using hi) (by simpa using hj) (by rwa [show k+1+i=k+(i+1) by omega]) (by rwa [show k+1+j'=k+(j'+1) by omega])
theorem o7{next:Nat}:∀{rs:List Rec} {k:Nat} {es:List Ent},tf next k es rs→∀(i:Nat) (ri:Rec),rs[i]? =some ri→∃es',Hy next (k+i) es' ri∧∀e∈es',e∈es∨∃i' r',i'<i∧rs[i']? =some r'∧e∈gp (k+i') r'
 |[],_,_,_,i,ri,hi=>by simp at hi
 |r::rs,k,es,h,0,ri,hi=>by
  simp only[List.getElem?_cons_zero,Option.some.injEq]at hi
  subst hi
  exact⟨es,h.1,fun e he=>.inl he⟩
 |r::rs,k,es,h,i+1,ri,hi=>by
  obtain⟨es',h1,h2⟩:=o7 h.2 i ri (by simpa using hi)
  refine⟨es',by rwa [show k+(i+1)=k+1+i by omega],fun e he=>?_⟩
  rcases h2 e he with h3|⟨i',r',h3,h4,h5⟩
  ·rcases List.mem_append.1 h3 with h3|h3
   ·exact .inr ⟨0,r,by omega,by simp,h3⟩
   ·exact .inl h3
  ·exact .inr ⟨i'+1,r',by omega,by simpa using h4,by rwa [show k+(i'+1)=k+1+i' by omega]⟩
theorem zx(hK:KOK P G K){rid:Nat}{all:List Oper}{kn:St→Rs R}{kp:AV→Rs R}{r:R}{st:St}(hfree:∀k,st.next≤k→aC st.blks k=none)(h:cv E K rid all (dV all []) all 0 st [] none kn kp= .ok r):
  ∃rs st' pm',TrOK E P G (lD (dV all []) pm') all st.next (look st.tmps) (aC st.blks) rs∧look st'.tmps=lkF (fun _=>true) rs 0 (look st.tmps)∧aC st'.blks=mF (fun _=>true) rs 0 (aC st.blks)∧st'.next=st.next+16*all.length∧
   (match pm' with
   |none=>kn st'= .ok r
   |some (p,v)=>kp v= .ok r∧kx P G all st.next 0 (look st.tmps) (aC st.blks) all rs p v):=by
 obtain⟨rs,st',pm',e1,e2,e3,e4,e5,e6,e7⟩:=fM hK all 0 st [] none h
 refine⟨rs,st',pm',⟨e1,?_,?_,hfree⟩,e4,e5,by simpa using e6,?_⟩
 rotate_left 2
 ·cases pm' with
  |none=>exact e7.2
  |some q=>
   obtain⟨p,v⟩:=q
   refine⟨e7.1,?_⟩
   rcases e7.2 with e|⟨_,e⟩
   ·cases e
   ·exact e
 ·simp only[List.append_nil,List.reverse_reverse]at e3
  have hp:=kY e3
  intro i j ri rj hlt hi hj ⟨k,hk⟩
  have hi':ri.wr≠[]∨ri.rd≠[]:=by
   rcases hk with⟨h1,_⟩|⟨h1,_⟩
   ·left;intro e;rw[e]at h1;simp at h1
   ·right;intro e;rw[e]at h1;simp at h1
  have hj':rj.wr≠[]∨rj.rd≠[]:=by
   rcases hk with⟨_,h1|h1⟩|⟨_,h1⟩
   ·right;intro e;rw[e]at h1;simp at h1
   ·left;intro e;rw[e]at h1;simp at h1
   ·left;intro e;rw[e]at h1;simp at h1
  have:=qY hp i j ri rj _ _ hlt hi hj (by rw[lC hi'];exact List.mem_singleton.2 rfl) (by rw[lC hj'];exact List.mem_singleton.2 rfl)
  simp only[Nat.zero_add]at this
  refine this ?_
  unfold Ent.clash
  simp only[Bool.or_eq_true]
  rcases hk with⟨h1,h2|h2⟩|⟨h1,h2⟩
  ·exact .inl (jm.2 ⟨k,h1,h2⟩)
  ·exact .inr (.inl (jm.2 ⟨k,h1,h2⟩))
  ·exact .inr (.inr (jm.2 ⟨k,h1,h2⟩))
 ·intro i ri hi p hp
  obtain⟨es',h1,h2⟩:=o7 e2 i ri hi
  simp only[Nat.zero_add]at h1 h2
  rcases h1 with h1|h1
  ·rw[h1]at hp;cases hp
  ·unfold pk at h1
   have:=List.all_eq_true.1 h1 p hp
   simp only[Bool.or_eq_true]at this
   rcases this with h3|h3|h3
   ·exact .inl (Nat.le_of_ble_eq_true h3)
   ·exact .inr (.inl (Nat.le_of_ble_eq_true h3))
   ·obtain⟨e,he,hb⟩:=List.any_eq_true.1 h3
    have hb:=any_beq.1 hb
    rcases h2 e he with h4|⟨i',r',h4,h5,h6⟩
    ·cases h4
    ·refine .inr (.inr ⟨i',r',h4,h5,?_⟩)
     by_cases hn:r'.wr≠[]∨r'.rd≠[]
     ·rw[lC hn]at h6
      have:=List.mem_singleton.1 h6
      rw[this]at hb
      obtain⟨q,hq,he⟩:=List.mem_map.1 hb
      exact⟨q,hq,he⟩
     ·simp only[not_or,ne_eq,Decidable.not_not]at hn
      unfold gp at h6
      rw[hn.1,hn.2]at h6
      cases h6
end Go.Sx
namespace Go.Sx
open Go
variable{G:Nat→Obj→Prop}{P:Program}{E:Env}{K:Callee}{R:Type}
structure StR(C:Ctx)(a:Act)(st:St)(N:Nat)(ds:List Deferred):Prop where
 r:SR C a (look st.tmps) (aC st.blks)
 free:∀k,st.next≤k→aC st.blks k=none
 size:a.tmps.size=N
 defers:a.defers=ds
def Ej(n:Nat)(ops:List Oper):Bool:=ops.all fun o=>match o.dst with|some d=>Nat.blt d n|none=>true
def codeOk(n:Nat):Code→Bool
 | .region _ ops true=>Ej n ops.toList&&sN ops.toList (dV ops.toList [])
 | .region _ ops false=>Ej n ops.toList
 | .seq a b=>codeOk n a&&codeOk n b
 | .cond _ a b=>codeOk n a&&codeOk n b
 | .block _ c=>codeOk n c
 | .loop c=>codeOk n c
 | .scope c=>codeOk n c
 |_=>true
theorem j3{n:Nat}{ops:List Oper}(h:Ej n ops=true):∀o∈ops,∀t,o.dst=some t→t<n:=fun o ho t ht=>by
 have:=List.all_eq_true.1 h o ho
 simp only[ht]at this
 exact Nat.le_of_ble_eq_true this
theorem xC{m:Get}{wr:Wr}{n:Nat}(h:below wr n=true)(hm:∀k,n≤k→m k=none):∀k,n≤k→aG m wr k=none:=fun k hk=>by
 rw[fF,hm k hk]
 intro p hp
 have:=Nat.le_of_ble_eq_true (List.all_eq_true.1 h p hp)
 intro e
 have:p.1+1≤n:=this
 omega
theorem oT(hE:EnvOK E P)(hK:KOK P G K){rid:Nat}{ops:Array Oper}{kn:St→Rs R}{kp:AV→Rs R}{r:R}{Q:Exit→Act→World→Prop}{C0:Ctx}(hG:C0.gl=G){N:Nat}{ds:List Deferred}(hdst:∀o∈ops.toList,∀t,o.dst=some t→t<N)
  (hn:∀st' C' a',kn st'= .ok r→StR C' a' st' N ds→Ext C0 C'→Q .normal a' C'.w)
  (hp:∀v a' w' ch,kp v= .ok r→eu C0 v w' ch→a'.defers=ds→Q (.panic ch) a' w'):
  ∀(os:List Oper) (i:Nat) (st:St) (C:Ctx) (a:Act),ops.toList.drop i=os→dn E K rid ops.toList os i st kn kp= .ok r→SR C a (look st.tmps) (aC st.blks)→(∀k,st.next+16*i≤k→aC st.blks k=none)→
   a.tmps.size=N→a.defers=ds→Ext C0 C→wpOps P ops Q (List.range' i os.length) a C.w
 |[],i,st,C,a,_,h,hr,hf,hsz,hds,hX=>by
  simp only[dn]at h
  simp only[List.length_nil,List.range'_zero,wpOps]
  exact hn {st with next:=st.next+16*i} C a h ⟨hr,hf,hsz,hds⟩ hX
 |o::os,i,st,C,a,ho,h,hr,hf,hsz,hds,hX=>by
  have hoi:ops[i]? =some o:=by
   have:(ops.toList.drop i)[0]? =some o:=by rw[ho];rfl
   simpa using this
  have hrest:ops.toList.drop (i+1)=os:=by
   have:(ops.toList.drop i).drop 1=os:=by rw[ho];rfl
   rwa [List.drop_drop]at this
  have hom:o∈ops.toList:=by
   have:o∈ops.toList.drop i:=by rw[ho];simp
   exact List.mem_of_mem_drop this
  have hd:∀t,o.dst=some t→t<a.tmps.size:=fun t ht=>by rw[hsz];exact hdst o hom t ht
  simp only[dn]at h
  obtain⟨st1,h1,h2,h3,h4⟩:=mj (o:=o) (all:=ops.toList) (pos:=5)
   (go:=fun st=>eo E K (look st.tmps) (aC st.blks) (st.next+16*i) o (rid*100+i)
    (fun v wr _=>dn E K rid ops.toList os (i+1) {tmps:=iz st.tmps o.dst v,blks:=ct st.blks wr,next:=st.next} kn kp) kp)
   (skip:=fun st=>dn E K rid ops.toList os (i+1) {st with tmps:=iz st.tmps o.dst (.tup [])} kn kp) h
  have hm:=hr.m
  rw[List.length_cons,List.range'_succ]
  simp only[wpOps,hoi]
  rcases h4 with⟨hw,h4⟩|⟨hw,h4⟩
  ·rw[if_pos (ji hr.t hw)]
   refine .inl ?_
   unfold Oper.wp
   rw[h1,h2,h3,←hm]at h4
   have hid:∀j,st.next+16*i≤j→j<st.next+16*i+16→C.m j=none:=fun j hj _=>by rw[hm];exact hf j hj
   rcases xz hE hK (hX.glEq.trans hG) hr.s hr.t hid h4 with⟨v,wr,rd,hk,hb,hx⟩|⟨v,hk,hx⟩
   ·refine(hx.does hE (hX.glEq.trans hG) hr.s hr.t hid) a _ Q fun u C' e1 e2 e3 e4=>?_
    refine oT hE hK hG hdst hn hp os (i+1) _ C' _ hrest hk ⟨?_,e2,?_⟩ (fun k hk=>?_) ((ld _ _ _).trans hsz) ((fq _ _ _).trans hds) (hX.trans e3)
    ·rw[e1,eS,hm]
    ·rw[eU,h1];exact(hr.t.mono e3).put hd e4
    ·simp only[eS]
     have hk':st.next+16*i+16≤k:=by simp only[h3]at hk;omega
     exact xC hb (fun k hk=>hf k (by omega)) k hk'
   ·exact hx a _ Q fun w' ch hpa=>hp v a w' ch hk (hpa.after hX) hds
  ·rw[if_neg (by rw[ji hr.t hw];simp)]
   refine oT hE hK hG hdst hn hp os (i+1) _ C _ hrest h4 ⟨?_,hr.s,?_⟩ (fun k hk=>?_) ((ld _ _ _).trans hsz) ((fq _ _ _).trans hds) hX
   ·rw[hm];simp only[h2]
   ·rw[eU,h1];exact hr.t.put hd rI
   ·simp only[h2];exact hf k (by simp only[h3]at hk;omega)
def Ctx.draws(C:Ctx):Ctx:={C with w:={C.w with drawn:=C.w.drawn+1}}
theorem Ctx.draws_ext(C:Ctx):Ext C C.draws where
 cells:=fun _ _ cs h=>⟨rfl,cs,h⟩
 lists:=fun _ _ _ g sh L h=>⟨g,sh,L,h,Nat.le_refl _,fun _=>⟨rfl,rfl⟩⟩
 keep:=fun _ _ _ h k=>⟨h,k⟩
 frEq:=rfl
 glEq:=rfl
 frKeep:=fun _ _ _ h _=>h
 size:=Nat.le_refl _
 old:=fun _ _ _=>rfl
 held:=fun _ h=>.inl h
 own:=fun _ _ h=>.inl h
 os:=rfl
 tape:=rfl
 output:=rfl
theorem Ctx.draws_ok{C:Ctx}(h:SRel C):SRel C.draws where
 ok:=fun id b hm=>(h.ok id b hm).mono C.draws_ext fun _ _=>rfl
 apart:=h.apart
 frApart:=h.frApart
 frOld:=h.frOld
 gl:=h.gl
abbrev Post:=Exit→Act→World→Prop
structure KS(D:Ctx)(N:Nat)(ds:List Deferred)(k:Ex→St→Rs R)(r:R)(Q:Post):Prop where
 normal:∀st C a,k .normal st= .ok r→StR C a st N ds→Ext D C→Q .normal a C.w
 exit:∀id st C a,k (.exit id) st= .ok r→StR C a st N ds→Ext D C→Q (.exit id) a C.w
 ret:∀st C a,k .ret st= .ok r→StR C a st N ds→Ext D C→Q .ret a C.w
 panic:∀v st a w ch,k (.panic v) st= .ok r→eu D v w ch→a.defers=ds→Q (.panic ch) a w
def fI(P:Program)(c:Code)(Q:Exit→Act→World→Prop)(a:Act)(w:World):Prop:=
 ∀(b:Frame) (k:List Item) (cs:List Frame),∃e a' w',Q e a' w'∧Arrives P (lone (b.at a (.code c:: .inLoop c::k)) cs w) b k cs e a' w'
theorem fI.wp{c:Code}{Q:Exit→Act→World→Prop}{a:Act}{w:World}(h:fI P c Q a w):(Code.loop c).wp P Q a w:=fun b k cs=>
 let⟨e,a',w',hq,harr⟩:=h b k cs;⟨e,a',w',hq,.of_steps (.one step_loop) harr⟩
theorem fI.round{c:Code}{Q:Exit→Act→World→Prop}{a:Act}{w:World}(h:c.wp P (Exit.then (fI P c Q) Q) a w):fI P c Q a w:=by
 intro b k cs
 obtain⟨e,a₁,w₁,hq,harr⟩:=h b (.inLoop c::k) cs
 cases e with
 |normal=>
  obtain⟨e₂,a₂,w₂,hq₂,harr₂⟩:=hq b k cs
  exact⟨e₂,a₂,w₂,hq₂,.of_steps (Steps.trans harr (.one step_inLoop)) harr₂⟩
 |exit id=>exact⟨_,a₁,w₁,hq,.pass (x:=.inLoop c) rfl (fun _ _=>.inl (by simp)) harr⟩
 |goto l=>exact⟨_,a₁,w₁,hq,.pass (x:=.inLoop c) rfl (fun _ _=>.inl (by simp)) harr⟩
 |ret=>exact⟨_,a₁,w₁,hq,.pass (x:=.inLoop c) rfl (fun _ _=>.inl (by simp)) harr⟩
 |panic ch=>exact⟨_,a₁,w₁,hq,.pass (x:=.inLoop c) rfl (fun _ _=>.inl (by simp)) harr⟩
 |outgrown=>exact⟨_,a₁,w₁,hq,.pass (x:=.inLoop c) rfl (fun _ _=>.inl (by simp)) harr⟩
end Go.Sx
namespace Go.Sx
open Go
variable{G:Nat→Obj→Prop}{P:Program}{E:Env}{K:Callee}{R:Type}
def JS(P:Program)(D:Ctx)(N:Nat)(ds:List Deferred)(J:Jump R)(r:R)(j:Nat)(c:Code)(Q:Post):Prop:=
 ∀st C a,J j st= .ok r→StR C a st N ds→Ext D C→c.wp P Q a C.w
def CS(P:Program)(X:Nat→Code→Post→Prop):Code→Nat→Post→Prop
 | .seq a b,p,Q=>X (2*p) a (Exit.then (b.wp P Q) Q)∧CS P X a (2*p) (Exit.then (b.wp P Q) Q)∧X (2*p+1) b Q∧CS P X b (2*p+1) Q
 | .cond _ a b,p,Q=>X (2*p) a Q∧CS P X a (2*p) Q∧X (2*p+1) b Q∧CS P X b (2*p+1) Q
 | .block id c,p,Q=>X (2*p) c (Exit.inBlock id Q)∧CS P X c (2*p) (Exit.inBlock id Q)
 | .loop c,p,Q=>X (2*p) c (Exit.then (fI P c Q) Q)∧CS P X c (2*p) (Exit.then (fI P c Q) Q)
 | .scope c,p,Q=>X (2*p) c (Exit.noGoto Q)∧CS P X c (2*p) (Exit.noGoto Q)
 |_,_,_=>True
def jv(D:Ctx)(N:Nat)(ds:List Deferred)(cuts:uf):Prop:=
 ∀p j f,cuts p=some (j,f)→∀st st' C a,f st=some st'→StR C a st N ds→Ext D C→∃C',C'.w=C.w∧StR C' a st' N ds∧Ext D C'
section
variable{D:Ctx}{N:Nat}{ds:List Deferred}{cuts:uf}{J:Jump R}{r:R}
def XJ(P:Program)(D:Ctx)(N:Nat)(ds:List Deferred)(cuts:uf)(J:Jump R)(r:R):Nat→Code→Post→Prop:=
 fun q c Q=>∀j f,cuts q=some (j,f)→JS P D N ds J r j c Q
theorem oO(hT:jv D N ds cuts){q:Nat}{c:Code}{Q:Post}(hX:XJ P D N ds cuts J r q c Q){cc:Nat×(St→Option St)}(hc:cuts q=some cc){st:St}(h:oI J cc st= .ok r)
  {C:Ctx} {a:Act} (hr:StR C a st N ds) (hE:Ext D C):c.wp P Q a C.w:=by
 obtain⟨j,f⟩:=cc
 unfold oI at h
 split at h
 ·rename_i st' hf
  obtain⟨C',h1,h2,h3⟩:=hT q j f hc st st' C a hf hr hE
  rw[←h1]
  exact hX j f hc st' C' a h h2 h3
 ·cases h
theorem cA(hT:jv D N ds cuts){q:Nat}{c:Code}{Q:Post}(hX:XJ P D N ds cuts J r q c Q){x:Ev R}{k:Ex→St→Rs R}
  (ih:∀st C a,x q st k= .ok r→StR C a st N ds→Ext D C→c.wp P Q a C.w) {st:St} (h:enter cuts J x q st k= .ok r)
  {C:Ctx} {a:Act} (hr:StR C a st N ds) (hE:Ext D C):c.wp P Q a C.w:=by
 unfold enter at h
 split at h
 ·rename_i cc hc;exact oO hT hX hc h hr hE
 ·exact ih st C a h hr hE
theorem j6{b:Ev R}{p:Nat}{k:Ex→St→Rs R}{Q:Post}(hk:KS D N ds k r Q){next:Act→World→Prop}
  (hb:∀st C a,b p st k= .ok r→StR C a st N ds→Ext D C→next a C.w):KS D N ds (pY b p k) r (Exit.then next Q)where
 normal:=fun st C a h hr hE=>hb st C a h hr hE
 exit:=fun id st C a h hr hE=>hk.exit id st C a h hr hE
 ret:=fun st C a h hr hE=>hk.ret st C a h hr hE
 panic:=fun v st a w ch h hp hd=>hk.panic v st a w ch h hp hd
theorem lx{id:Nat}{k:Ex→St→Rs R}{Q:Post}(hk:KS D N ds k r Q):KS D N ds (fa id k) r (Exit.inBlock id Q)where
 normal:=fun st C a h hr hE=>hk.normal st C a h hr hE
 exit:=fun j st C a h hr hE=>by
  simp only[fa]at h
  simp only[Exit.inBlock]
  split at h
  ·rename_i e
   rw[if_pos (beq_eq e)]
   exact hk.normal st C a h hr hE
  ·rename_i e
   rw[if_neg (fun hh=>by subst hh;simp at e)]
   exact hk.exit j st C a h hr hE
 ret:=fun st C a h hr hE=>hk.ret st C a h hr hE
 panic:=fun v st a w ch h hp hd=>hk.panic v st a w ch h hp hd
theorem kC{k:Ex→St→Rs R}{Q:Post}(hk:KS D N ds k r Q):KS D N ds k r (Exit.noGoto Q)where
 normal:=fun st C a h hr hE=>hk.normal st C a h hr hE
 exit:=fun id st C a h hr hE=>hk.exit id st C a h hr hE
 ret:=fun st C a h hr hE=>hk.ret st C a h hr hE
 panic:=fun v st a w ch h hp hd=>hk.panic v st a w ch h hp hd
theorem ga(hE:EnvOK E P)(hK:KOK P G K)(hG:D.gl=G)(hT:jv D N ds cuts):∀(c:Code) (p:Nat) (Q:Post) (k:Ex→St→Rs R) (st:St) (C:Ctx) (a:Act),
  codeOk N c=true→CS P (XJ P D N ds cuts J r) c p Q→KS D N ds k r Q→ev E K cuts J c p st k= .ok r→StR C a st N ds→Ext D C→c.wp P Q a C.w:=by
 intro c
 induction c with
 |skip=>intro p Q k st C a _ _ hk h hr hX;exact wp_skip (hk.normal st C a h hr hX)
 |ret=>intro p Q k st C a _ _ hk h hr hX;exact wp_ret (hk.ret st C a h hr hX)
 |exit id=>intro p Q k st C a _ _ hk h hr hX;exact wp_exit (hk.exit id st C a h hr hX)
 |label l=>intro p Q k st C a _ _ hk h hr hX;exact wp_label (hk.normal st C a h hr hX)
 |scope c ih=>
  intro p Q k st C a hc hcs hk h hr hX
  obtain⟨x1,x2⟩:=hcs
  have h:enter cuts J (ev E K cuts J c) (2*p) st k= .ok r:=h
  exact wp_scope_straight (cA hT x1 (fun st C a h hr hX=>ih (2*p) _ _ st C a hc x2 (kC hk) h hr hX) h hr hX)
 |seq x y ihx ihy=>
  intro p Q k st C a hc hcs hk h hr hX
  simp only[codeOk,Bool.and_eq_true]at hc
  obtain⟨x1,x2,y1,y2⟩:=hcs
  have h:enter cuts J (ev E K cuts J x) (2*p) st (pY (enter cuts J (ev E K cuts J y)) (2*p+1) k)= .ok r:=h
  refine wp_seq (cA hT x1 (fun st C a h hr hX=>ihx (2*p) _ _ st C a hc.1 x2 ?_ h hr hX) h hr hX)
  exact j6 hk fun st C a h hr hX=>cA hT y1 (fun st C a h hr hX=>ihy (2*p+1) Q k st C a hc.2 y2 hk h hr hX) h hr hX
 |cond o x y ihx ihy=>
  intro p Q k st C a hc hcs hk h hr hX
  simp only[codeOk,Bool.and_eq_true]at hc
  obtain⟨x1,x2,y1,y2⟩:=hcs
  have h:(match al (look st.tmps) o with
   | .bool t=>(match t with
    |true=>enter cuts J (ev E K cuts J x) (2*p) st k
    |false=>enter cuts J (ev E K cuts J y) (2*p+1) st k)
   |_=>.err (7000000+p))= .ok r:=h
  have hv:=hr.r.t o
  split at h
  ·rename_i t ht
   rw[ht]at hv
   cases t with
   |true=>exact wp_cond_true hv (cA hT x1 (fun st C a h hr hX=>ihx (2*p) Q k st C a hc.1 x2 hk h hr hX) h hr hX)
   |false=>exact wp_cond_false hv (cA hT y1 (fun st C a h hr hX=>ihy (2*p+1) Q k st C a hc.2 y2 hk h hr hX) h hr hX)
  ·cases h
 |block id c ih=>
  intro p Q k st C a hc hcs hk h hr hX
  obtain⟨x1,x2⟩:=hcs
  have h:enter cuts J (ev E K cuts J c) (2*p) st (fa id k)= .ok r:=h
  exact wp_block (cA hT x1 (fun st C a h hr hX=>ih (2*p) _ _ st C a hc x2 (lx hk) h hr hX) h hr hX)
 |loop c ih=>
  intro p Q k st C a hc hcs hk h hr hX
  obtain⟨x1,_⟩:=hcs
  have h:(match cuts (2*p)with
   |some c=>oI J c st
   |none=>.err (8000000+p))= .ok r:=h
  split at h
  ·rename_i cc hcc;exact(fI.round (oO hT x1 hcc h hr hX)).wp
  ·cases h
 |region id ops draw=>
  intro p Q k st C a hc _ hk h hr hX
  cases draw with
  |false=>
   have h:dn E K id ops.toList ops.toList 0 st (fun st'=>k .normal st') (fun v=>k (.panic v) st)= .ok r:=h
   refine wp_region ?_
   have:=oT hE hK (Q:=Q) (C0:=D) hG (j3 hc) (fun st' C' a' h1 h2 h3=>hk.normal st' C' a' h1 h2 h3) (fun v a' w' ch h1 h2 h3=>hk.panic v st a' w' ch h1 h2 h3)
    ops.toList 0 st C a rfl h hr.r (by simpa using hr.free) hr.size hr.defers hX
   rwa [List.range_eq_range',←Array.length_toList]
  |true=>
   simp only[codeOk,Bool.and_eq_true]at hc
   have h:cv E K id ops.toList (dV ops.toList []) ops.toList 0 st [] none (fun st'=>k .normal st') (fun v=>k (.panic v) st)= .ok r:=h
   obtain⟨rs,st',pm',hTr,h1,h2,h3,h4⟩:=zx hK hr.free h
   refine wp_region_any hE.mixed ?_
   have hd0:∀i,(Array.replicate ops.size false).getD i false=false:=fun i=>by
    simp[Array.getD_eq_getD_getElem?,Array.getElem?_replicate]
    split<;>rfl
   have hsr:=hr.r
   have hsr2:SR C.draws a (lkF (fun i=>(Array.replicate ops.size false).getD i false) rs 0 (look st.tmps)) (mF (fun i=>(Array.replicate ops.size false).getD i false) rs 0 (aC st.blks)):=by
    have e:(fun i=>(Array.replicate ops.size false).getD i false)=fun _=>false:=funext hd0
    rw[e,iA _ _ _ (by simp),jj _ _ _ (by simp)]
    exact⟨hsr.m,Ctx.draws_ok hsr.s,hsr.t.mono C.draws_ext⟩
   cases pm' with
   |some q=>
     obtain⟨p,v⟩:=q
     obtain⟨h5,j,po,pr,hj,hpo,hpr,hw,hpan⟩:=h4
     have hj:p=j:=by omega
     subst hj
     exact Ao hE hTr (lf hc.2) (C0:=D) hG (n:=N) (ds:=ds) (j3 hc.1) hpo hpr hw hpan (fun a' w' ch hpa hds=>hk.panic v st a' w' ch h5 hpa hds)
      ops.size _ C.draws a (by simp) (fun i o _ hS=>by simp only at hS;rw[hd0]at hS;cases hS) (fun j _=>hd0 j) (by omega) hsr2 (hX.trans C.draws_ext) hr.size hr.defers
   |none=>
     refine CK hE hTr (lf hc.2) (C0:=D) hG (n:=N) (ds:=ds) (j3 hc.1) (fun C' a' e1 e2 e3 e4=>hk.normal st' C' a' h4 ⟨by rw[h1,h2];exact e1,fun kk hk=>?_,e3,e4⟩ e2)
      ops.size _ C.draws a (by simp) (fun i o _ hS=>by simp only at hS;rw[hd0]at hS;cases hS) (by omega) ?_ (hX.trans C.draws_ext) hr.size hr.defers
     ·rw[h2]
      have hw:=hTr.whose
      have:mF (fun _=>true) rs 0 (aC st.blks) kk=mF (fun _=>false) rs 0 (aC st.blks) kk:=kr rs 0 _ _ (fun i ri hi _ p hp hpk=>by
       have hil:i<ops.toList.length:=by rw[hTr.tr.len];exact(List.getElem?_eq_some_iff.1 hi).1
       rcases hw i ri hi p hp with h0|⟨i0,_,h5,_,_,h6,h7⟩
       ·omega
       ·omega) rfl
      rw[this,jj _ _ _ (by simp)]
      exact hTr.free kk (by omega)
     ·have e:(fun i=>(Array.replicate ops.size false).getD i false)=fun _=>false:=funext hd0
      rw[e,iA _ _ _ (by simp),jj _ _ _ (by simp)]
      exact⟨hsr.m,Ctx.draws_ok hsr.s,hsr.t.mono C.draws_ext⟩
 |_=>intros;rename_i h _ _;cases h
def place(P:Program):List Bool→Code→Post→Option (Code×Post)
 |[],c,Q=>some (c,Q)
 |d::r,c,Q=>match c with
  | .seq a b=>(match d with
   |false=>place P r a (Exit.then (b.wp P Q) Q)
   |true=>place P r b Q)
  | .cond _ a b=>(match d with
   |false=>place P r a Q
   |true=>place P r b Q)
  | .block id c=>(match d with
   |false=>place P r c (Exit.inBlock id Q)
   |true=>none)
  | .loop c=>(match d with
   |false=>place P r c (Exit.then (fI P c Q) Q)
   |true=>none)
  | .scope c=>(match d with
   |false=>place P r c (Exit.noGoto Q)
   |true=>none)
  |_=>none
def num:List Bool→Nat→Nat
 |[],p=>p
 |false::r,p=>num r (2*p)
 |true::r,p=>num r (2*p+1)
theorem vt{X:Nat→Code→Post→Prop}:∀(c:Code) (p:Nat) (Q:Post),(∀d r c' Q',place P (d::r) c Q=some (c',Q')→X (num (d::r) p) c' Q')→CS P X c p Q:=by
 intro c
 induction c with
 |seq a b iha ihb=>
  intro p Q h
  exact⟨h false [] a _ rfl,iha _ _ fun d r c' Q' hp=>h false (d::r) c' Q' hp,h true [] b _ rfl,ihb _ _ fun d r c' Q' hp=>h true (d::r) c' Q' hp⟩
 |cond o a b iha ihb=>
  intro p Q h
  exact⟨h false [] a _ rfl,iha _ _ fun d r c' Q' hp=>h false (d::r) c' Q' hp,h true [] b _ rfl,ihb _ _ fun d r c' Q' hp=>h true (d::r) c' Q' hp⟩
 |block id a iha=>intro p Q h;exact⟨h false [] a _ rfl,iha _ _ fun d r c' Q' hp=>h false (d::r) c' Q' hp⟩
 |loop a iha=>intro p Q h;exact⟨h false [] a _ rfl,iha _ _ fun d r c' Q' hp=>h false (d::r) c' Q' hp⟩
 |scope a iha=>intro p Q h;exact⟨h false [] a _ rfl,iha _ _ fun d r c' Q' hp=>h false (d::r) c' Q' hp⟩
 |_=>intros;trivial
theorem ck(hE:EnvOK E P)(hK:KOK P G K)(hG:D.gl=G)(hT:jv D N ds cuts):∀(path:List Bool) (c:Code) (p:Nat) (Q:Post) (k:Ex→St→Rs R) (st:St) (C:Ctx) (a:Act) (c':Code) (Q':Post),
  codeOk N c=true→CS P (XJ P D N ds cuts J r) c p Q→KS D N ds k r Q→resume E K cuts J path c p st k= .ok r→StR C a st N ds→Ext D C→place P path c Q=some (c',Q')→c'.wp P Q' a C.w
 |[],c,p,Q,k,st,C,a,c',Q',hc,hcs,hk,h,hr,hX,hp=>by
  simp only[place,Option.some.injEq,Prod.mk.injEq]at hp
  obtain⟨rfl,rfl⟩:=hp
  exact ga hE hK hG hT c p Q k st C a hc hcs hk h hr hX
 |d::rr,c,p,Q,k,st,C,a,c',Q',hc,hcs,hk,h,hr,hX,hp=>by
  cases c<;>simp only[place]at hp<;>simp only[resume]at h
  all_goals first|(cases hp;done)|skip
  case seq x y=>
   simp only[codeOk,Bool.and_eq_true]at hc
   obtain⟨x1,x2,y1,y2⟩:=hcs
   cases d with
   |false=>
    exact ck hE hK hG hT rr x _ _ _ st C a c' Q' hc.1 x2 (j6 hk fun st C a h hr hX=>cA hT y1 (fun st C a h hr hX=>ga hE hK hG hT y _ Q k st C a hc.2 y2 hk h hr hX) h hr hX) h hr hX hp
   |true=>exact ck hE hK hG hT rr y _ _ _ st C a c' Q' hc.2 y2 hk h hr hX hp
  case cond o x y=>
   simp only[codeOk,Bool.and_eq_true]at hc
   obtain⟨x1,x2,y1,y2⟩:=hcs
   cases d with
   |false=>exact ck hE hK hG hT rr x _ _ _ st C a c' Q' hc.1 x2 hk h hr hX hp
   |true=>exact ck hE hK hG hT rr y _ _ _ st C a c' Q' hc.2 y2 hk h hr hX hp
  case block id x=>
   obtain⟨x1,x2⟩:=hcs
   cases d with
   |false=>exact ck hE hK hG hT rr x _ _ _ st C a c' Q' hc x2 (lx hk) h hr hX hp
   |true=>cases hp
  case loop x=>
   obtain⟨x1,x2⟩:=hcs
   cases d with
   |false=>
    refine ck hE hK hG hT rr x _ _ _ st C a c' Q' hc x2 (j6 hk fun st C a h hr hX=>?_) h hr hX hp
    exact fI.round (cA hT x1 (fun st C a h hr hX=>by simp[CP]at h) h hr hX)
   |true=>cases hp
  case scope x=>
   obtain⟨x1,x2⟩:=hcs
   cases d with
   |false=>exact ck hE hK hG hT rr x _ _ _ st C a c' Q' hc x2 (kC hk) h hr hX hp
   |true=>cases hp
theorem fU:∀(r:List Bool) (d:Bool) (p:Nat),num (r++[d]) p=2*num r p+d.toNat
 |[],d,p=>by cases d<;>simp[num]
 |false::r,d,p=>by simp only[List.cons_append,num];exact fU r d _
 |true::r,d,p=>by simp only[List.cons_append,num];exact fU r d _
theorem nq:∀(r:List Bool) (p:Nat),1≤p→1≤num r p
 |[],p,h=>h
 |false::r,p,h=>nq r _ (by omega)
 |true::r,p,h=>nq r _ (by omega)
theorem gH:∀(a:List Bool),a=[]∨∃r d,a=r++[d]
 |[]=>.inl rfl
 |x::a=>.inr (by
  rcases gH a with rfl|⟨r,d,rfl⟩
  ·exact⟨[],x,rfl⟩
  ·exact⟨x::r,d,rfl⟩)
theorem rP:∀(n:Nat) (a b:List Bool),a.length≤n→num a 1=num b 1→a=b
 |n,a,b,hn,h=>by
  rcases gH a with rfl|⟨r,d,rfl⟩
  ·rcases gH b with rfl|⟨s,e,rfl⟩
   ·rfl
   ·rw[fU]at h
    have:=nq s 1 (Nat.le_refl 1)
    simp only[num]at h
    omega
  ·rcases gH b with rfl|⟨s,e,rfl⟩
   ·rw[fU]at h
    have:=nq r 1 (Nat.le_refl 1)
    simp only[num]at h
    omega
   ·rw[fU,fU]at h
    simp only[List.length_append,List.length_singleton]at hn
    have hd:d=e:=by cases d<;>cases e<;>simp at h<;>first|rfl|omega
    subst hd
    have h2:num r 1=num s 1:=by omega
    cases n with
    |zero=>omega
    |succ n=>rw[rP n r s (by omega) h2]
end
end Go.Sx
