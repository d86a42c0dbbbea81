/- A part of the proof: see the row's text. -/
import Derived.Test.YtaklpoiaicepoaaGreatDoorZa26
import Derived.Test.YtaklpoiaicepoaaGreatDoorZa18
set_option linter.unusedVariables false
set_option linter.unusedSimpArgs false
noncomputable section
namespace Go.Sx.Tryz
open Go Go.Sx
set_option maxRecDepth 100000
theorem bS(p:Int→Bool)(c:UInt8)(s:List UInt8):ax p (c::s)=bif p c.toNat then ax p s+1 else 0:=fG p c s
theorem xU{p:Int→Bool}{x:UInt8}(hx:p x.toNat=false):∀(w r0 r:List UInt8),w.length≤ax p (w++r0)→ax p (w++x::r)=w.length
 |[],_,r,_=>by
  show ax p (x::r)=0
  rw[bS,hx]
  rfl
 |c::w,r0,r,h=>by
  have h:w.length+1≤ax p (c::(w++r0)):=h
  show ax p (c::(w++x::r))=w.length+1
  rw[bS]at h⊢
  cases hp:p c.toNat with
  |false=>rw[hp]at h;exact absurd h (by simp)
  |true=>
   rw[hp]at h
   simp only[cond_true]at h⊢
   rw[xU hx w r0 r (by omega)]
theorem px{p:Int→Bool}:∀(w r0 y:List UInt8),ax p (w++r0)<w.length→ax p (w++y)=ax p (w++r0)
 |[],_,_,h=>by cases h
 |c::w,r0,y,h=>by
  have h:ax p (c::(w++r0))<w.length+1:=h
  show ax p (c::(w++y))=ax p (c::(w++r0))
  rw[bS]at h⊢
  rw[bS]
  cases hp:p c.toNat with
  |false=>rfl
  |true=>
   rw[hp]at h
   simp only[cond_true]at h⊢
   rw[px w r0 y (by omega)]
theorem iR{w:List UInt8}(r y:List UInt8){i:Nat}(h:i<w.length):at8 (w++y) i=at8 (w++r) i:=by
 unfold at8
 rw[List.getD_eq_getElem?_getD,List.getD_eq_getElem?_getD,List.getElem?_append_left h,List.getElem?_append_left h]
theorem Jy(w r:List UInt8)(x:UInt8):at8 (w++x::r) w.length=x.toNat:=by
 unfold at8
 rw[List.getD_eq_getElem?_getD,List.getElem?_append_right (Nat.le_refl _),Nat.sub_self]
 rfl
theorem n7:∀(n:Nat) (u r0:List UInt8),cG n (u++r0)=(u.length,0)→∀(m:Nat) (y:List UInt8),u.length≤m→cG m (u++y)=(u.length,0)
 |0,u,r0,h,m,y,hm=>by
  exfalso
  cases hu:u++r0 with
  |nil=>
   rw[hu]at h
   exact absurd (show(61:Int)=0 from congrArg Prod.snd h) (by decide)
  |cons c s=>
   rw[hu]at h
   exact absurd (show(61:Int)=0 from congrArg Prod.snd h) (by decide)
 |n+1,[],r0,h,m,y,hm=>by
  exfalso
  cases r0 with
  |nil=>exact absurd (show(61:Int)=0 from congrArg Prod.snd h) (by decide)
  |cons c s=>
   have h:cG (n+1) (c::s)=(0,0):=h
   unfold cG at h
   revert h
   cases (c.toNat:Int)==34
   ·cases (c.toNat:Int)==10
    ·cases (decide ((c.toNat:Int)<32)||decide ((c.toNat:Int)>126))
     ·cases (c.toNat:Int)==92
      ·intro h;simp at h
      ·cases s with
       |nil=>intro h;simp at h
       |cons d s'=>
        simp only[cond_true,cond_false]
        cases decide (Lib.indexByte sc (d.toNat:Int).toNat.toUInt8<0)
        ·intro h;simp at h
        ·intro h;simp at h
     ·intro h;simp at h
    ·intro h;simp at h
   ·intro h;simp at h
 |n+1,c::u,r0,h,m,y,hm=>by
  cases m with
  |zero=>simp at hm
  |succ m=>
   have h:cG (n+1) (c::(u++r0))=(u.length+1,0):=h
   show cG (m+1) (c::(u++y))=(u.length+1,0)
   unfold cG at h⊢
   revert h
   cases (c.toNat:Int)==34
   ·cases (c.toNat:Int)==10
    ·cases (decide ((c.toNat:Int)<32)||decide ((c.toNat:Int)>126))
     ·cases (c.toNat:Int)==92
      ·simp only[cond_false]
       intro h
       have h1:cG n (u++r0)=(u.length,0):=by
        have e1:=congrArg Prod.fst h
        have e2:=congrArg Prod.snd h
        simp only at e1 e2
        exact Prod.ext (by simp only;omega) e2
       rw[n7 n u r0 h1 m y (by simp at hm;omega)]
      ·cases u with
       |nil=>
        cases r0 with
        |nil=>intro h;simp at h
        |cons d s=>
         simp only[cond_true,cond_false,List.nil_append]
         cases decide (Lib.indexByte sc (d.toNat:Int).toNat.toUInt8<0)
         ·intro h;simp at h
         ·intro h;simp at h
       |cons d u=>
        simp only[cond_true,cond_false,List.cons_append]
        cases decide (Lib.indexByte sc (d.toNat:Int).toNat.toUInt8<0)
        ·simp only[cond_false]
         intro h
         have h1:cG n (u++r0)=(u.length,0):=by
          have e1:=congrArg Prod.fst h
          have e2:=congrArg Prod.snd h
          simp only[List.length_cons]at e1 e2
          exact Prod.ext (by simp only;omega) e2
         rw[n7 n u r0 h1 m y (by simp at hm;omega)]
         rfl
        ·intro h;simp at h
     ·intro h;simp at h
    ·intro h;simp at h
   ·simp only[cond_true]
    intro h
    have e1:=congrArg Prod.fst h
    simp only at e1
    have:u.length=0:=by omega
    rw[this]
def F6(x:UInt8):Bool:=x==32||(x==9||x==10)
theorem Pw(c:UInt8){x:UInt8}(hx:F6 x=true):(Lib.contains fj [c,x,32]&&((c.toNat:Int) !=32&&(x.toNat:Int) !=32))=false:=by
 unfold F6 at hx
 simp only[Bool.or_eq_true,beq_iff_eq]at hx
 have key:∀y:UInt8,y=9∨y=10→Lib.contains fj [c,y,32]=false:=by
  intro y hy
  cases hc:Lib.contains fj [c,y,32]with
  |false=>rfl
  |true=>
   exfalso
   unfold Lib.contains at hc
   have hc:=of_decide_eq_true hc
   rcases Lib.index_spec fj [c,y,32]with⟨h1,_⟩|⟨i,h1,h2,h3,_⟩
   ·rw[h1]at hc
    exact absurd hc (by decide)
   ·unfold Lib.occAt at h3
    have hp:=List.isPrefixOf_iff_prefix.1 h3
    have hm:y∈fj.drop i:=hp.subset (by simp)
    have hm2:y∈fj:=List.mem_of_mem_drop hm
    rcases hy with rfl|rfl<;>exact absurd hm2 (by decide)
 rcases hx with rfl|rfl|rfl
 ·simp
 ·rw[key 9 (.inl rfl)]
  rfl
 ·rw[key 10 (.inr rfl)]
  rfl
theorem zk{x:UInt8}(hx:F6 x=true):fp x.toNat=false∧aC x.toNat=false∧((x.toNat:Int)==46)=false∧aG x.toNat=true:=by
 unfold F6 at hx
 simp only[Bool.or_eq_true,beq_iff_eq]at hx
 rcases hx with rfl|rfl|rfl<;>exact⟨rfl,rfl,rfl,rfl⟩
theorem O3{w r0:List UInt8}{k:Int}(h:ed (w++r0)=(k,0,w.length))(hw:0<w.length){x:UInt8}(hx:F6 x=true)(r:List UInt8):ed (w++x::r)=(k,0,w.length):=by
 obtain⟨x1,x2,x3,x4⟩:=zk hx
 have h0:=iR r0 (x::r) hw
 unfold ed at h⊢
 rw[h0]
 revert h
 cases hL:isLet (at8 (w++r0) 0)
 ·cases hD:aC (at8 (w++r0) 0)
  ·cases hQ:at8 (w++r0) 0==34
   ·
    simp only[cond_false]
    intro h
    unfold sI at h⊢
    revert h
    cases hc:(decide (((w++r0).length:Int)>1)&&(Lib.contains fj ((w++r0).take 2++[32])&&(at8 (w++r0) 0 !=32&&at8 (w++r0) 1 !=32)))
    ·simp only[cond_false]
     cases ho:decide (Lib.indexByte tP (at8 (w++r0) 0).toNat.toUInt8≥0)
     ·intro h;simp at h
     ·simp only[cond_true]
      intro h
      have hl:w.length=1:=by
       have:=congrArg (fun z=>z.2.2) h
       simpa using this.symm
      obtain⟨c,rfl⟩:∃c,w=[c]:=List.length_eq_one_iff.1 hl
      have e1:(([c]++x::r).take 2++[32])=[c,x,32]:=rfl
      have e2:at8 ([c]++x::r) 0=(c.toNat:Int):=rfl
      have e3:at8 ([c]++x::r) 1=(x.toNat:Int):=rfl
      have hn:(decide ((([c]++x::r).length:Int)>1)&&(Lib.contains fj (([c]++x::r).take 2++[32])&&(at8 ([c]++x::r) 0 !=32&&at8 ([c]++x::r) 1 !=32)))=false:=by
       rw[e1,e2,e3,Pw c hx,Bool.and_false]
      rw[hn,h0]
      simp only[cond_false]
      rw[ho]
      exact h
    ·simp only[cond_true]
     intro h
     have hl:w.length=2:=by
      have:=congrArg (fun z=>z.2.2) h
      simpa using this.symm
     obtain⟨c,d,rfl⟩:∃c d,w=[c,d]:=by
      match w,hl with
      |[c,d],_=>exact⟨c,d,rfl⟩
     have hn:(decide ((([c,d]++x::r).length:Int)>1)&&(Lib.contains fj (([c,d]++x::r).take 2++[32])&&(at8 ([c,d]++x::r) 0 !=32&&at8 ([c,d]++x::r) 1 !=32)))=true:=by
      rw[Bool.and_eq_true]at hc⊢
      refine⟨decide_eq_true (by simp;omega),hc.2⟩
     rw[hn]
     exact h
   ·
    simp only[cond_true,cond_false]
    intro h
    obtain⟨c,u,rfl⟩:∃c u,w=c::u:=by
     cases w with
     |nil=>cases hw
     |cons c u=>exact⟨c,u,rfl⟩
    have hq:(dL (c::u++r0)).2=0∧(dL (c::u++r0)).1=u.length+1:=by
     revert h
     cases he:((dL (c::u++r0)).2==0&&decide (((dL (c::u++r0)).1:Int)>256))
     ·simp only[cond_false]
      intro h
      exact⟨congrArg (fun z=>z.2.1) h,congrArg (fun z=>z.2.2) h⟩
     ·simp only[cond_true]
      intro h
      have:=congrArg (fun z=>z.2.1) h
      simp at this
    have hF:cG (c::u++r0).length (u++r0)=(u.length,0):=by
     have e1:(cG (c::u++r0).length (u++r0)).1+1=u.length+1:=hq.2
     have e2:(cG (c::u++r0).length (u++r0)).2=0:=hq.1
     exact Prod.ext (by simp only;omega) e2
    have hF2:=n7 _ u r0 hF (c::u++x::r).length (x::r) (by simp;omega)
    have hq2:dL (c::u++x::r)=dL (c::u++r0):=by
     have e3:dL (c::u++x::r)=(u.length+1,0):=by
      show((cG (c::u++x::r).length (u++x::r)).1+1,(cG (c::u++x::r).length (u++x::r)).2)=_
      rw[hF2]
     rw[e3]
     exact Prod.ext hq.2.symm hq.1.symm
    rw[hq2]
    exact h
  ·
   simp only[cond_true,cond_false]
   intro h
   cases hc:(decide (((ax aC (w++r0):Nat):Int)+1<(w++r0).length)&&(at8 (w++r0) (ax aC (w++r0))==46&&aC (at8 (w++r0) (ax aC (w++r0)+1))))
   ·rw[hc]at h
    simp only[cond_false]at h
    have hn:ax aC (w++r0)=w.length:=by
     revert h
     cases decide (((ax aC (w++r0):Nat):Int)>20)
     ·intro h;exact congrArg (fun z=>z.2.2) h
     ·intro h;simp at h
    have hn2:=xU x2 w r0 r (by omega)
    rw[hn]at h
    rw[hn2]
    have e1:(at8 (w++x::r) w.length==46)=false:=by rw[Jy];exact x3
    rw[e1]
    simp only[Bool.false_and,Bool.and_false,cond_false]
    exact h
   ·rw[hc]at h
    simp only[cond_true]at h
    generalize hn:ax aC (w++r0)=n at*
    have hm:n+1+ax aC ((w++r0).drop (n+1))=w.length:=by
     revert h
     cases decide (((n+1+ax aC ((w++r0).drop (n+1)):Nat):Int)>20)
     ·intro h;exact congrArg (fun z=>z.2.2) h
     ·intro h;simp at h
    simp only[Bool.and_eq_true]at hc
    have hd:1≤ax aC ((w++r0).drop (n+1)):=by
     refine xu ?_ ?_
     ·have:at8 ((w++r0).drop (n+1)) 0=at8 (w++r0) (n+1):=by
       unfold at8
       rw[List.getD_eq_getElem?_getD,List.getD_eq_getElem?_getD,List.getElem?_drop]
      rw[this]
      exact hc.2.2
     ·have:=of_decide_eq_true hc.1
      rw[List.length_drop]
      omega
    have hn2:ax aC (w++x::r)=n:=by
     rw[←hn]
     exact px w r0 (x::r) (by omega)
    have hdr:∀y:List UInt8,(w++y).drop (n+1)=w.drop (n+1)++y:=fun y=>List.drop_append_of_le_length (by omega)
    have hr2:ax aC ((w++x::r).drop (n+1))=w.length-(n+1):=by
     rw[hdr]
     have:=xU x2 (w.drop (n+1)) r0 r (by rw[←hdr,List.length_drop];omega)
     rw[this,List.length_drop]
    have hc2:(decide (((n:Nat):Int)+1<(w++x::r).length)&&(at8 (w++x::r) n==46&&aC (at8 (w++x::r) (n+1))))=true:=by
     rw[iR r0 (x::r) (by omega:n<w.length),iR r0 (x::r) (by omega:n+1<w.length),hc.2.1,hc.2.2,decide_eq_true (by simp;omega)]
     rfl
    rw[hn2,hc2,hr2]
    simp only[cond_true]
    have e:ax aC ((w++r0).drop (n+1))=w.length-(n+1):=by omega
    rw[e]at h
    exact h
 ·simp only[cond_true]
  intro h
  have hn:ax fp (w++r0)=w.length:=by
   revert h
   cases decide (((ax fp (w++r0):Nat):Int)>64)
   ·intro h;exact congrArg (fun z=>z.2.2) h
   ·intro h;simp at h
  have hn2:=xU x1 w r0 r (by omega)
  rw[hn]at h
  rw[hn2]
  exact h
end Go.Sx.Tryz
namespace Go.Sx.Tryz
open Go Go.Sx
set_option maxRecDepth 100000
inductive Tn where
 |mk (x:Nd) (ks:List Tn)
def c8(x:Nd)(l:List Int):Nd:=mkN (aj x) (nAt x) (nTo x) l (aF x) (ar x) (aB x) (ah x) (ag x) (nN x) (nW1 x) (nW2 x) (aI x)
mutual
def Tn.size:Tn→Nat
 | .mk _ ks=>Tn.sizes ks+1
def Tn.sizes:List Tn→Nat
 |[]=>0
 |t::ts=>t.size+Tn.sizes ts
end
def roots:Nat→List Tn→List Int
 |_,[]=>[]
 |o,t::ts=>(((o+t.size:Nat):Int)-1)::roots (o+t.size) ts
mutual
def Tn.flat:Nat→Tn→List Nd
 |o,.mk x ks=>Tn.flats o ks++[c8 x (roots o ks)]
def Tn.flats:Nat→List Tn→List Nd
 |_,[]=>[]
 |o,t::ts=>t.flat o++Tn.flats (o+t.size) ts
end
mutual
theorem Tn.flat_len:∀(o:Nat) (t:Tn),(t.flat o).length=t.size
 |o,.mk x ks=>by
  unfold Tn.flat Tn.size
  rw[List.length_append,Tn.flats_len o ks]
  rfl
theorem Tn.flats_len:∀(o:Nat) (ts:List Tn),(Tn.flats o ts).length=Tn.sizes ts
 |_,[]=>rfl
 |o,t::ts=>by
  unfold Tn.flats Tn.sizes
  rw[List.length_append,Tn.flat_len o t,Tn.flats_len _ ts]
end
theorem Tn.flats_app:∀(o:Nat) (a b:List Tn),Tn.flats o (a++b)=Tn.flats o a++Tn.flats (o+Tn.sizes a) b
 |o,[],b=>by simp[Tn.flats,Tn.sizes]
 |o,t::a,b=>by
  show Tn.flats o (t::(a++b))=_
  rw[Tn.flats,Tn.flats_app _ a b,Tn.flats,Tn.sizes,List.append_assoc,Nat.add_assoc]
theorem vR:∀(o:Nat) (a b:List Tn),roots o (a++b)=roots o a++roots (o+Tn.sizes a) b
 |o,[],b=>by simp[roots,Tn.sizes]
 |o,t::a,b=>by
  show roots o (t::(a++b))=_
  rw[roots,vR _ a b,roots,Tn.sizes,Nat.add_assoc]
  rfl
theorem fB:∀(o:Nat) (a:List Tn),(roots o a).length=a.length
 |_,[]=>rfl
 |o,t::a=>by simp[roots,fB _ a]
theorem Tn.flats_one(o:Nat)(t:Tn):Tn.flats o [t]=t.flat o:=by simp[Tn.flats]
theorem Tn.sizes_one(t:Tn):Tn.sizes [t]=t.size:=by simp[Tn.sizes]
def Tn.data:Tn→Nd
 | .mk x _=>x
def Tn.kids:Tn→List Tn
 | .mk _ ks=>ks
inductive TR(α:Type)where
 |ok (y:α) (a d:Int) (n:Nat)
 |fault (c p:Int)
 |bad
def TR.bind{α β:Type}(r:TR α)(k:α→Int→Int→Nat→TR β):TR β:=match r with
 | .ok y a d n=>k y a d n
 | .fault c p=>.fault c p
 | .bad=>.bad
abbrev Tm(α:Type):Type:=Int→Int→Nat→TR α
def Tm.bind{α β:Type}(m:Tm α)(k:α→Tm β):Tm β:=fun a d n=>(m a d n).bind fun y a d n=>k y a d n
def Tm.ret{α:Type}(y:α):Tm α:=fun a d n=>.ok y a d n
def Tm.flt{α:Type}(c p:Int):Tm α:=fun _ _ _=>.fault c p
def Tm.bad{α:Type}:Tm α:=fun _ _ _=>.bad
def lft{α:Type}(m:Pm α):Tm α:=fun a d n=>match m a d []with
 | .ok y a d _=>.ok y a d n
 | .fault c p=>.fault c p
 | .bad=>.bad
def Sf(A:List Nd)(ks:List Tn):List Nd:=A++Tn.flats A.length ks
theorem cw(A:List Nd):Sf A []=A:=by simp[Sf,Tn.flats]
theorem mJ(A:List Nd)(ks:List Tn):(Sf A ks).length=A.length+Tn.sizes ks:=by rw[Sf,List.length_append,Tn.flats_len]
theorem CK(A:List Nd)(ks ls:List Tn):Sf (Sf A ks) ls=Sf A (ks++ls):=by
 rw[Sf,mJ,Sf,Sf,Tn.flats_app,List.append_assoc]
theorem zy(A:List Nd)(ks ls:List Tn):roots A.length (ks++ls)=roots A.length ks++roots (Sf A ks).length ls:=by rw[vR,mJ]
def RX{α γ:Type}(A:List Nd)(e:Nat→γ→α)(g:γ→List Tn)(r:PR α)(s:TR γ):Prop:=match s with
 | .ok y a d n=>n=(Sf A (g y)).length∧r= .ok (e A.length y) a d (Sf A (g y))
 | .fault c p=>r= .fault c p
 | .bad=>r= .bad
def eI{α:Type}:Nat→α→α:=fun _ y=>y
def gI{α:Type}:α→List Tn:=fun _=>[]
def eT:Nat→Tn→Int:=fun o t=>((o+t.size:Nat):Int)-1
def gT:Tn→List Tn:=fun t=>[t]
def eL:Nat→List Tn→List Int:=roots
def gL:List Tn→List Tn:=fun l=>l
def eM:Nat→Nd×List Tn→Nd:=fun o x=>c8 x.1 (roots o x.2)
def gM:Nd×List Tn→List Tn:=fun x=>x.2
def H{α γ:Type}(e:Nat→γ→α)(g:γ→List Tn)(c:Pm α)(t:Tm γ):Prop:=∀a d A n,n=A.length→RX A e g (c a d A) (t a d n)
def HA{α γ:Type}(A:List Nd)(ks:List Tn)(e:Nat→γ→α)(g:γ→List Tn)(c:Pm α)(t:Tm γ):Prop:=∀a d n,n=(Sf A ks).length→RX A e g (c a d (Sf A ks)) (t a d n)
theorem H.of{α γ:Type}{e:Nat→γ→α}{g:γ→List Tn}{c:Pm α}{t:Tm γ}(h:∀A,HA A [] e g c t):H e g c t:=fun a d A n hn=>by
 have:=h A a d n (by rw[cw];exact hn)
 rwa [cw]at this
theorem H.at{α γ:Type}{e:Nat→γ→α}{g:γ→List Tn}{c:Pm α}{t:Tm γ}(h:H e g c t)(A:List Nd):HA A [] e g c t:=fun a d n hn=>by
 rw[cw]at hn⊢
 exact h a d A n hn
theorem RX.bind{α β γ δ:Type}{A B:List Nd}{e:Nat→γ→α}{g:γ→List Tn}{r:PR α}{s:TR γ}{e':Nat→δ→β}{g':δ→List Tn}{k:α→Int→Int→List Nd→PR β}{k':γ→Int→Int→Nat→TR δ}(h:RX B e g r s)
  (hk:∀y a d n,n=(Sf B (g y)).length→RX A e' g' (k (e B.length y) a d (Sf B (g y))) (k' y a d n)):RX A e' g' (r.bind k) (s.bind k'):=by
 cases s with
 |ok y a d n=>
  obtain⟨h1,h2⟩:=h
  rw[h2]
  exact hk y a d n h1
 |fault c p=>
  have h:r= .fault c p:=h
  rw[h]
  exact(rfl:PR.fault c p=PR.fault c p)
 |bad=>
  have h:r= .bad:=h
  rw[h]
  exact(rfl:(PR.bad:PR β)=PR.bad)
section
variable{α β γ δ:Type}{A:List Nd}{ks:List Tn}{e:Nat→γ→α}{g:γ→List Tn}{e':Nat→δ→β}{g':δ→List Tn}
theorem HA.bind{c:Pm α}{t:Tm γ}{k:α→Pm β}{k':γ→Tm δ}(h:H e g c t)(hk:∀y,HA A (ks++g y) e' g' (k (e (Sf A ks).length y)) (k' y)):HA A ks e' g' (c.bind k) (t.bind k'):=fun a d n hn=>
 RX.bind (h a d _ n hn) fun y a d n hn=>by
  rw[CK]at hn⊢
  exact hk y a d n hn
theorem HA.bif{b:Bool}{c c':Pm α}{t t':Tm γ}(h:b=true→HA A ks e g c t)(h':b=false→HA A ks e g c' t'):HA A ks e g (bif b then c else c') (bif b then t else t'):=by
 cases b
 ·exact h' rfl
 ·exact h rfl
theorem HA.ret{v:α}{y:γ}(h:v=e A.length y)(h':g y=ks):HA A ks e g (.ret v) (.ret y):=fun a d n hn=>by
 subst h h'
 exact⟨hn,rfl⟩
theorem HA.flt{c p:Int}:HA A ks e g (.flt c p:Pm α) (.flt c p:Tm γ):=fun _ _ _ _=>(rfl:(PR.fault c p:PR α)= .fault c p)
theorem HA.bad:HA A ks e g (.bad:Pm α) (.bad:Tm γ):=fun _ _ _ _=>(rfl:(PR.bad:PR α)= .bad)
end
def Fre{α:Type}(m:Pm α):Prop:=∀a d A,m a d A=match m a d []with
 | .ok y a d _=>.ok y a d A
 | .fault c p=>.fault c p
 | .bad=>.bad
theorem Fre.h{α:Type}{m:Pm α}(h:Fre m):H eI gI m (lft m):=fun a d A n hn=>by
 subst hn
 rw[h a d A]
 unfold lft
 cases m a d []with
 |ok y a d _=>exact⟨by rw[gI,cw],by rw[gI,cw,eI]⟩
 |fault c p=>exact(rfl:PR.fault c p=PR.fault c p)
 |bad=>exact(rfl:(PR.bad:PR α)=PR.bad)
theorem HA.free{α β δ:Type}{A:List Nd}{ks:List Tn}{e':Nat→δ→β}{g':δ→List Tn}{m:Pm α}{k:α→Pm β}{k':α→Tm δ}(h:Fre m)(hk:∀y,HA A ks e' g' (k y) (k' y)):HA A ks e' g' (m.bind k) ((lft m).bind k'):=
 HA.bind h.h fun y=>by
  have:=hk y
  rwa [show ks++gI y=ks from List.append_nil ks]
theorem Fre.bind{α β:Type}{m:Pm α}{k:α→Pm β}(h:Fre m)(hk:∀y,Fre (k y)):Fre (m.bind k):=fun a d A=>by
 unfold Pm.bind
 rw[h a d A]
 cases m a d []with
 |ok y a' d' A'=>
  simp only[PR.bind]
  rw[hk y a' d' A,hk y a' d' A']
  cases k y a' d' []<;>rfl
 |fault c p=>rfl
 |bad=>rfl
theorem Fre.ret{α:Type}{y:α}:Fre (.ret y:Pm α):=fun _ _ _=>rfl
theorem Fre.flt{α:Type}{c p:Int}:Fre (.flt c p:Pm α):=fun _ _ _=>rfl
theorem Fre.bad{α:Type}:Fre (.bad:Pm α):=fun _ _ _=>rfl
theorem Fre.bif{α:Type}{c:Bool}{m m':Pm α}(h:Fre m)(h':Fre m'):Fre (bif c then m else m'):=by cases c<;>assumption
section
variable(T:List UInt8)(K:List Tok)
theorem cr:Fre (bc T K):=fun _ _ _=>rfl
theorem oN(n:Int):Fre (cO T K n):=fun a d A=>by
 unfold cO
 cases decide (a+n≥(K.length:Int))<;>rfl
theorem bI:Fre (aJ K):=fun a d A=>by
 unfold aJ
 cases ak (aa K a) !=0<;>rfl
theorem my(s:Str):Fre (cIs T K s):=(cr T K).bind fun _=>.ret
theorem dU(s:Str):Fre (bp T K s):=(my T K s).bind fun _=>.bif ((bI K).bind fun _=>.ret) .ret
theorem bo(s:Str):Fre (aE T K s):=(my T K s).bind fun _=>.bif (bI K) ((cr T K).bind fun _=>.flt)
theorem lK:Fre (cY T K):=(cr T K).bind fun _=>.bif ((bI K).bind fun _=>.ret) .flt
theorem xe:Fre (dq K):=fun a d A=>by
 unfold dq
 cases decide (d+1>60)<;>rfl
theorem Ca:Fre mV:=fun _ _ _=>rfl
theorem xa(n:Int):Fre (fF K n):=fun a d A=>by
 unfold fF
 cases decide (n>64)<;>rfl
theorem Lf:Fre (jD T K):=(cr T K).bind fun _=>.bif
 (.bif ((bI K).bind fun _=>.ret) (.bif ((bI K).bind fun _=>.ret) (.bif ((bI K).bind fun _=>.ret) (.bif ((bI K).bind fun _=>.ret) (.bif ((bI K).bind fun _=>.ret) .flt))))) .flt
theorem pM:∀(n:Nat) (x:Nd),Fre (cP T K n x)
 |0,_=>.bad
 |n+1,x=>(cr T K).bind fun _=>(my T K _).bind fun _=>.bif (.bif .flt ((bI K).bind fun _=>pM n _))
  ((oN T K _).bind fun _=>(my T K _).bind fun _=>.bif (.bif .flt ((bI K).bind fun _=>(bI K).bind fun _=>pM n _)) .ret)
theorem uu:Fre (dB T K):=(Lf T K).bind fun _=>pM T K _ _
theorem o7(v:Bool):Fre (cC T K v):=(cr T K).bind fun _=>.bif
 ((bI K).bind fun _=>(bo T K _).bind fun _=>(uu T K).bind fun _=>(bo T K _).bind fun _=>.bif .flt .ret)
 (.bif ((bI K).bind fun _=>.ret) (uu T K))
theorem zW:Fre (dr T K):=(oN T K _).bind fun _=>.bif .ret (.bif ((oN T K _).bind fun _=>(oN T K _).bind fun _=>.ret) .ret)
def bK(x:Nd)(f:Int)(ks:List Tn):Tm Tn:=fun a d n=>bif decide ((n:Int)≥8192)then .fault 2 f else .ok (.mk (cW x f (ef K a f)) ks) a d (n+1)
variable{K}
theorem tC(A:List Nd)(x:Nd)(ks:List Tn):Sf A [.mk x ks]=Sf A ks++[c8 x (roots A.length ks)]:=by
 rw[Sf,Tn.flats_one,Tn.flat,Sf,List.append_assoc]
theorem HA.add{A:List Nd}{ks:List Tn}{X x:Nd}{f:Int}(hX:X=c8 x (roots A.length ks)):HA A ks eT gT (bY K X f) (bK K x f ks):=fun a d n hn=>by
 subst hX
 unfold bY bK
 rw[←hn]
 cases decide ((n:Int)≥8192)
 ·refine⟨?_,?_⟩
  ·rw[gT,tC,List.length_append,←hn]
   rfl
  ·show PR.ok _ _ _ _=PR.ok _ _ _ _
   rw[gT,tC,eT,hn,mJ]
   have:((A.length+(Tn.mk (cW x f (ef K a f)) ks).size:Nat):Int)-1=((A.length+Tn.sizes ks:Nat):Int):=by
    rw[Tn.size]
    omega
   rw[this]
   rfl
 ·exact(rfl:PR.fault 2 f=PR.fault 2 f)
theorem HA.addBind{β δ:Type}{A:List Nd}{ks:List Tn}{e':Nat→δ→β}{g':δ→List Tn}{X x:Nd}{f:Int}{k:Int→Pm β}{k':Tn→Tm δ}(hX:X=c8 x (roots A.length ks))(hk:∀z,HA A [z] e' g' (k (eT A.length z)) (k' z)):
  HA A ks e' g' ((bY K X f).bind k) ((bK K x f ks).bind k'):=fun a d n hn=>RX.bind (HA.add hX a d n hn) fun y a d n hn=>hk y a d n hn
theorem H.add{X x:Nd}{f:Int}(hX:X=c8 x []):H eT gT (bY K X f) (bK K x f []):=H.of fun _=>HA.add hX
theorem rt2(A:List Nd)(x y:Tn):[eT A.length x,eT (Sf A [x]).length y]=roots A.length [x,y]:=by
 rw[mJ,Tn.sizes_one]
 rfl
theorem rt3(A:List Nd)(x y z:Tn):[eT A.length x,eT (Sf A [x]).length y,eT (Sf A [x,y]).length z]=roots A.length [x,y,z]:=by
 have e1:Tn.sizes [x]=x.size:=Tn.sizes_one x
 have e2:Tn.sizes [x,y]=x.size+y.size:=by simp[Tn.sizes]
 rw[mJ,mJ,e1,e2,←Nat.add_assoc]
 rfl
theorem rtS(A:List Nd)(ks:List Tn)(y:Tn):roots A.length ks++[eT (Sf A ks).length y]=roots A.length (ks++[y]):=by
 rw[zy]
 rfl
end
end Go.Sx.Tryz
namespace Go.Sx.Tryz
open Go Go.Sx
set_option maxRecDepth 100000
structure Kt where
 val:Tm Tn
 blk:Tm Tn
 un:Tm Tn
section
variable(T:List UInt8)(K:List Tok)(q:Kt)
def cF:Tm Tn:=(lft (aE T K [40])).bind fun _=>q.val.bind fun x=>(lft (aE T K [41])).bind fun _=>.ret x
def comma(l:Nat):Pm Unit:=bif decide ((l:Int)>0)then(aE T K [44]).bind fun _=>.ret ()else .ret ()
def fW:Nat→List Tn→Tm (List Tn)
 |0,_=>.bad
 |n+1,L=>(lft (bp T K [41])).bind fun b=>bif b then .ret L
  else(lft (comma T K L.length)).bind fun _=>(lft (fF K ((L.length:Int)+1))).bind fun _=>q.val.bind fun x=>fW n (L++[x])
def oe:Tm (List Tn):=(lft (aE T K [40])).bind fun _=>fW T K q (K.length+2) []
def gq(x:Nd)(e:Int):Tm Tn:=(lft (bc T K)).bind fun t=>bif e !=0 then .flt e (ab t.1)else(lft (aJ K)).bind fun _=>bK K x (ab t.1) []
def ur:Tm (Nd×List Tn):=(lft (dB T K)).bind fun x=>(lft (cIs T K [40])).bind fun b=>bif b then
  (bif ar x !=5||(decide (ah x>0)|| !Lib.trimB (ag x) 32==[])then .flt 5 (nW1 x)else(oe T K q).bind fun l=>.ret (bQ x 30 [] (aF x),l))
 else(lft (aE T K [91])).bind fun _=>q.val.bind fun y=>(lft (aE T K [93])).bind fun _=>.ret (bQ x 31 [] (aF x),[y])
def nM(t:Tok)(s:Str):Tm Tn:=
 bif s==[116,114,117,101]then gq T K (dA 21 1 []) 0
 else bif s==[102,97,108,115,101]then gq T K (dA 21 0 []) 0
 else bif s==[110,117,108,108]then gq T K (dA 23 0 []) 0
 else bif s==[110,111,110,101]then gq T K (dA 42 0 []) 0
 else bif s==[116,104,105,115]then gq T K (dA 24 0 []) 0
 else bif s==[105,110,112,117,116]then(lft (aJ K)).bind fun _=>(lft (aE T K [40])).bind fun _=>(lft (aE T K [41])).bind fun _=>bK K (nod 38 [] []) (ab t) []
 else bif isWrap s then(lft (aJ K)).bind fun _=>(cF T K q).bind fun x=>bK K (nod (qO s) [] []) (ab t) [x]
 else bif s==[99,97,115,116]then(lft (aJ K)).bind fun _=>(lft (aE T K [60])).bind fun _=>(lft (cC T K false)).bind fun x=>(lft (aE T K [62])).bind fun _=>(cF T K q).bind fun y=>bK K (bQ x 35 [] (aF x)) (ab t) [y]
 else bif s==[110,101,119]then(lft (aJ K)).bind fun _=>(ur T K q).bind fun x=>bK K x.1 (ab t) x.2
 else .flt 80 (ab t)
def cm:Tm Tn:=(lft (bc T K)).bind fun t=>
 bif ak t.1==2 then gq T K (dA 19 (kq t.2).1 []) (kq t.2).2
 else bif ak t.1==3 then gq T K (dA 20 (IntKind.wrap .i64 (mg t.2).1) t.2) (mg t.2).2
 else bif ak t.1==4 then gq T K (dA 22 0 (kK t.2).1) (kK t.2).2
 else bif ak t.1==5 then(bif t.2==[40]then cF T K q else .flt 80 (ab t.1))
 else bif ak t.1==1 then(bif bW t.2 then gq T K (dA 25 0 t.2) 0 else nM T K q t.1 t.2)
 else .flt 80 (ab t.1)
def qK(x:Tn)(f:Int):Tm Tn:=(lft (bp T K [108,101,110,103,116,104])).bind fun b=>bif b then bK K (nod 28 [] []) f [x]
 else(lft (bp T K [118,97,108])).bind fun b=>bif b then bK K (nod 45 [] []) f [x]
 else(lft (cY T K)).bind fun s=>(lft (cIs T K [40])).bind fun b=>bif b then(oe T K q).bind fun l=>bK K (nod 29 [] s) f (x::l)else bK K (nod 26 [] s) f [x]
def aV(f:Int):Nat→Tn→Tm Tn
 |0,_=>.bad
 |n+1,x=>(lft (bp T K [33])).bind fun b=>bif b then(bK K (nod 40 [] []) f [x]).bind fun y=>aV f n y
  else(lft (bp T K [91])).bind fun b=>bif b then q.val.bind fun y=>(lft (aE T K [93])).bind fun _=>(bK K (nod 27 [] []) f [x,y]).bind fun y=>aV f n y
  else(lft (bp T K [46])).bind fun b=>bif b then(qK T K q x f).bind fun y=>aV f n y
  else .ret x
def dY:Tm Tn:=(lft (bc T K)).bind fun t=>(cm T K q).bind fun x=>aV T K q (ab t.1) (K.length+2) x
def ja:Tm Tn:=(lft (bc T K)).bind fun t=>bif ak t.1==5&&(t.2==[33]||t.2==[45])then
  ((lft (dq K)).bind fun _=>(lft (aJ K)).bind fun _=>q.un.bind fun x=>(lft mV).bind fun _=>bK K (nod (bif t.2==[45]then 32 else 33) [] []) (ab t.1) [x])
 else dY T K q
def bG(least f:Int)(sub:Tm Tn):Nat→Tn→Tm Tn
 |0,_=>.bad
 |n+1,x=>(lft (bc T K)).bind fun t=>bif ak t.1==5&&cU t.2==least then
   ((lft (aJ K)).bind fun _=>sub.bind fun y=>(bK K (nod 34 [] t.2) f [x,y]).bind fun z=>bG least f sub n z)
  else bif least==3 then((lft (bp T K [105,115])).bind fun b=>bif b then
    ((lft (bp T K [115,111,109,101])).bind fun b=>bif b then(bK K (nod 43 [] []) f [x]).bind fun z=>bG least f sub n z
     else(lft (aE T K [110,111,110,101])).bind fun _=>(bK K (nod 44 [] []) f [x]).bind fun z=>bG least f sub n z)
    else .ret x)
  else .ret x
def bD:Nat→Tm Tn
 |0=>(lft (bc T K)).bind fun _=>q.un
 |j+1=>(lft (bc T K)).bind fun t=>(bD j).bind fun x=>bG T K (5-(j:Int)) (ab t.1) (bD j) (K.length+2) x
def dd:Tm Tn:=(lft (dq K)).bind fun _=>(bD T K q 6).bind fun x=>(lft mV).bind fun _=>.ret x
def sK(s:Str):Tm ((Nd×List Tn)×Bool):=
 bif s==[105,102]then(lft (aJ K)).bind fun _=>(cF T K q).bind fun x=>q.blk.bind fun y=>(lft (bp T K [101,108,115,101])).bind fun b=>bif b then q.blk.bind fun z=>.ret ((nod 11 [] [],[x,y,z]),true)else .ret ((nod 11 [] [],[x,y]),true)
 else bif s==[119,104,105,108,101]then(lft (aJ K)).bind fun _=>(cF T K q).bind fun x=>q.blk.bind fun y=>.ret ((nod 12 [] [],[x,y]),true)
 else bif s==[98,114,101,97,107]then(lft (aJ K)).bind fun _=>(lft (aE T K [59])).bind fun _=>.ret ((nod 13 [] [],[]),true)
 else bif s==[99,111,110,116,105,110,117,101]then(lft (aJ K)).bind fun _=>(lft (aE T K [59])).bind fun _=>.ret ((nod 14 [] [],[]),true)
 else bif s==[114,101,116,117,114,110]then(lft (aJ K)).bind fun _=>(lft (cIs T K [59])).bind fun b=>bif b then(lft (aE T K [59])).bind fun _=>.ret ((nod 15 [] [],[]),true)else q.val.bind fun x=>(lft (aE T K [59])).bind fun _=>.ret ((nod 15 [] [],[x]),true)
 else bif s==[112,114,105,110,116]then(lft (aJ K)).bind fun _=>(cF T K q).bind fun x=>(lft (aE T K [59])).bind fun _=>.ret ((nod 16 [] [],[x]),true)
 else bif s==[115,117,112,101,114]then(lft (aJ K)).bind fun _=>(oe T K q).bind fun l=>(lft (aE T K [59])).bind fun _=>.ret ((nod 17 [] [],l),true)
 else .ret ((nod 0 [] [],[]),false)
def ny(f:Int):Tm Tn:=q.val.bind fun x=>(lft (bc T K)).bind fun t=>(lft (bp T K [61])).bind fun b=>bif b then
  (bif aj x.data==25||(aj x.data==26||aj x.data==27)then q.val.bind fun y=>(lft (aE T K [59])).bind fun _=>bK K (nod 10 [] []) f [x,y]else .flt 132 (ab t.1))
 else bif aj x.data==29||aj x.data==30 then(lft (aE T K [59])).bind fun _=>bK K (nod 18 [] []) f [x]else .flt 132 f
def wH:Tm Tn:=(lft (bc T K)).bind fun t=>bif ak t.1==5&&t.2==[123]then q.blk
 else(lft (dr T K)).bind fun b=>bif b then
  ((lft (cC T K false)).bind fun x=>(lft (cY T K)).bind fun s=>(lft (bp T K [61])).bind fun b=>bif b then q.val.bind fun y=>(lft (aE T K [59])).bind fun _=>bK K (bQ x 9 [] s) (ab t.1) [y]
   else(lft (aE T K [59])).bind fun _=>bK K (bQ x 9 [] s) (ab t.1) [])
 else bif ak t.1==1 then(sK T K q t.2).bind fun w=>bif w.2 then bK K w.1.1 (ab t.1) w.1.2 else ny T K q (ab t.1)
 else ny T K q (ab t.1)
def ix(f:Int):Nat→List Tn→Tm Tn
 |0,_=>.bad
 |n+1,L=>(lft (cIs T K [125])).bind fun b=>bif b then(lft (aE T K [125])).bind fun _=>(lft mV).bind fun _=>bK K (nod 8 [] []) f L
  else(wH T K q).bind fun x=>ix f n (L++[x])
def nw:Tm Tn:=(lft (bc T K)).bind fun t=>(lft (dq K)).bind fun _=>(lft (aE T K [123])).bind fun _=>ix T K q (ab t.1) (K.length+2) []
end
def knt(T:List UInt8)(K:List Tok):Nat→Kt
 |0=>⟨.bad,.bad,.bad⟩
 |n+1=>⟨dd T K (knt T K n),nw T K (knt T K n),ja T K (knt T K n)⟩
section
variable(T:List UInt8)(K:List Tok)(q:Kt)
def gH:Nat→List Tn→Tm (List Tn)
 |0,_=>.bad
 |n+1,L=>(lft (bp T K [41])).bind fun b=>bif b then .ret L
  else(lft (comma T K L.length)).bind fun _=>(lft (fF K ((L.length:Int)+1))).bind fun _=>(lft (bc T K)).bind fun t=>(lft (cC T K false)).bind fun x=>(lft (cY T K)).bind fun s=>(bK K (bQ x 7 [] s) (ab t.1) []).bind fun y=>gH n (L++[y])
def ka:Tm (List Tn):=(lft (aE T K [40])).bind fun _=>gH T K (K.length+2) []
def lO:Tm Tn:=(lft (bc T K)).bind fun t=>bif ak t.1==1&&t.2==[105,110,105,116]then
  ((lft (aJ K)).bind fun _=>(ka T K).bind fun l=>q.blk.bind fun b=>bK K (nod 5 [] []) (ab t.1) (l++[b]))
 else(lft (cC T K true)).bind fun x=>(lft (cY T K)).bind fun s=>(lft (cIs T K [40])).bind fun b=>bif b then
   ((ka T K).bind fun l=>q.blk.bind fun b=>bK K (bQ x 6 [] s) (ab t.1) (l++[b]))
  else bif ar x==6 then .flt 80 (ab t.1)else(lft (aE T K [59])).bind fun _=>bK K (bQ x 4 [] s) (ab t.1) []
def gv(f:Int)(s:Str):Nat→List Tn→Tm Tn
 |0,_=>.bad
 |n+1,L=>(lft (cIs T K [125])).bind fun b=>bif b then(lft (aE T K [125])).bind fun _=>bK K (nod 2 [] s) f L
  else(lft (fF K ((L.length:Int)+1))).bind fun _=>(lO T K q).bind fun x=>gv f s n (L++[x])
def qc:Tm Tn:=(lft (bc T K)).bind fun t=>(lft (aE T K [99,108,97,115,115])).bind fun _=>(lft (cY T K)).bind fun s=>(lft (bc T K)).bind fun u=>(lft (bp T K [101,120,116,101,110,100,115])).bind fun b=>bif b then
  ((lft (cY T K)).bind fun e=>(bK K (nod 3 [] e) (ab u.1) []).bind fun y=>(lft (aE T K [123])).bind fun _=>gv T K q (ab t.1) s (K.length+2) [y])
 else(lft (aE T K [123])).bind fun _=>gv T K q (ab t.1) s (K.length+2) []
def dk:Nat→List Tn→Tm Tn
 |0,_=>.bad
 |n+1,L=>(lft (bc T K)).bind fun t=>bif ak t.1==0 then bK K (nod 1 [] []) 0 L
  else(lft (fF K ((L.length:Int)+1))).bind fun _=>(qc T K q).bind fun x=>dk n (L++[x])
def ub:Tm Tn:=dk T K q (K.length+2) []
end
end Go.Sx.Tryz
namespace Go.Sx.Tryz
open Go Go.Sx
set_option maxRecDepth 100000
variable{T:List UInt8}{K:List Tok}{q:Kn}{p:Kt}
structure HK(q:Kn)(p:Kt):Prop where
 val:H eT gT q.val p.val
 blk:H eT gT q.blk p.blk
 un:H eT gT q.un p.un
theorem zT(l:Nat):Fre (comma T K l):=.bif ((bo T K _).bind fun _=>.ret) .ret
def Ens{α:Type}(m:Pm α)(Q:α→Prop):Prop:=∀a d A,match m a d A with
 | .ok y _ _ _=>Q y
 |_=>True
theorem Ens.bind{α β:Type}{m:Pm α}{k:α→Pm β}{Q:α→Prop}{Q':β→Prop}(h:Ens m Q)(hk:∀y,Q y→Ens (k y) Q'):Ens (m.bind k) Q':=fun a d A=>by
 have:=h a d A
 unfold Pm.bind
 cases e:m a d A with
 |ok y a' d' A'=>
  rw[e]at this
  exact hk y this a' d' A'
 |fault c p=>trivial
 |bad=>trivial
theorem Ens.any{α:Type}(m:Pm α):Ens m fun _=>True:=fun a d A=>by cases m a d A<;>trivial
theorem Ens.ret{α:Type}{y:α}{Q:α→Prop}(h:Q y):Ens (.ret y:Pm α) Q:=fun _ _ _=>h
theorem Ens.flt{α:Type}{c p:Int}{Q:α→Prop}:Ens (.flt c p:Pm α) Q:=fun _ _ _=>trivial
theorem Ens.bad{α:Type}{Q:α→Prop}:Ens (.bad:Pm α) Q:=fun _ _ _=>trivial
theorem Ens.bif{α:Type}{c:Bool}{m m':Pm α}{Q:α→Prop}(h:c=true→Ens m Q)(h':c=false→Ens m' Q):Ens (bif c then m else m') Q:=by
 cases c
 ·exact h' rfl
 ·exact h rfl
theorem Ens.then{α β:Type}{m:Pm α}{k:α→Pm β}{Q':β→Prop}(hk:∀y,Ens (k y) Q'):Ens (m.bind k) Q':=Ens.bind (Ens.any m) fun y _=>hk y
theorem HA.freeQ{α β δ:Type}{A:List Nd}{ks:List Tn}{e':Nat→δ→β}{g':δ→List Tn}{m:Pm α}{Q:α→Prop}{k:α→Pm β}{k':α→Tm δ}(h:Fre m)(hq:Ens m Q)(hk:∀y,Q y→HA A ks e' g' (k y) (k' y)):HA A ks e' g' (m.bind k) ((lft m).bind k'):=fun a d n hn=>by
 subst hn
 have hq:=hq a d []
 show RX A e' g' ((m a d (Sf A ks)).bind _) ((lft m a d _).bind _)
 rw[h a d (Sf A ks)]
 unfold lft
 cases e:m a d []with
 |ok y a' d' A'=>
  rw[e]at hq
  exact hk y hq a' d' _ rfl
 |fault c p=>exact(rfl:(PR.fault c p:PR β)= .fault c p)
 |bad=>exact(rfl:(PR.bad:PR β)= .bad)
def cp{α:Type}(m:Tm α)(Q:α→Prop):Prop:=∀a d n,match m a d n with
 | .ok y _ _ _=>Q y
 |_=>True
theorem cp.bind{α β:Type}{m:Tm α}{k:α→Tm β}{Q:α→Prop}{Q':β→Prop}(h:cp m Q)(hk:∀y,Q y→cp (k y) Q'):cp (m.bind k) Q':=fun a d n=>by
 have:=h a d n
 unfold Tm.bind
 cases e:m a d n with
 |ok y a' d' n'=>
  rw[e]at this
  exact hk y this a' d' n'
 |fault c p=>trivial
 |bad=>trivial
theorem cp.any{α:Type}(m:Tm α):cp m fun _=>True:=fun a d n=>by cases m a d n<;>trivial
theorem cp.ret{α:Type}{y:α}{Q:α→Prop}(h:Q y):cp (.ret y:Tm α) Q:=fun _ _ _=>h
theorem cp.flt{α:Type}{c p:Int}{Q:α→Prop}:cp (.flt c p:Tm α) Q:=fun _ _ _=>trivial
theorem cp.bad{α:Type}{Q:α→Prop}:cp (.bad:Tm α) Q:=fun _ _ _=>trivial
theorem cp.bif{α:Type}{c:Bool}{m m':Tm α}{Q:α→Prop}(h:c=true→cp m Q)(h':c=false→cp m' Q):cp (bif c then m else m') Q:=by
 cases c
 ·exact h' rfl
 ·exact h rfl
theorem cp.then{α β:Type}{m:Tm α}{k:α→Tm β}{Q':β→Prop}(hk:∀y,cp (k y) Q'):cp (m.bind k) Q':=cp.bind (cp.any m) fun y _=>hk y
theorem HA.bindQ{α β γ δ:Type}{A:List Nd}{ks:List Tn}{e:Nat→γ→α}{g:γ→List Tn}{e':Nat→δ→β}{g':δ→List Tn}{c:Pm α}{t:Tm γ}{Q:γ→Prop}{k:α→Pm β}{k':γ→Tm δ}(h:H e g c t)(hq:cp t Q)(hk:∀y,Q y→HA A (ks++g y) e' g' (k (e (Sf A ks).length y)) (k' y)):HA A ks e' g' (c.bind k) (t.bind k'):=fun a d n hn=>by
 have h1:=h a d _ n hn
 have h2:=hq a d n
 show RX A e' g' ((c a d (Sf A ks)).bind _) ((t a d n).bind _)
 cases et:t a d n with
 |ok y a' d' n'=>
  rw[et]at h1 h2
  obtain⟨h3,h4⟩:=h1
  rw[h4,CK]
  rw[CK]at h3
  exact hk y h2 a' d' n' h3
 |fault c' p=>
  rw[et]at h1
  have h1:c a d (Sf A ks)= .fault c' p:=h1
  rw[h1]
  exact(rfl:(PR.fault c' p:PR β)= .fault c' p)
 |bad=>
  rw[et]at h1
  have h1:c a d (Sf A ks)= .bad:=h1
  rw[h1]
  exact(rfl:(PR.bad:PR β)= .bad)
def k0(x:Nd):Prop:=ai x=[]
theorem Ll:Ens (jD T K) k0:=.then fun t=>.bif (fun _=>.bif (fun _=>.then fun _=>.ret rfl) fun _=>.bif (fun _=>.then fun _=>.ret rfl) fun _=>.bif (fun _=>.then fun _=>.ret rfl) fun _=>.bif (fun _=>.then fun _=>.ret rfl) fun _=>.bif (fun _=>.then fun _=>.ret rfl) fun _=>.flt) fun _=>.flt
theorem pq:∀(n:Nat) (x:Nd),k0 x→Ens (cP T K n x) k0
 |0,_,_=>.bad
 |n+1,x,h=>.then fun _=>.then fun _=>.bif (fun _=>.bif (fun _=>.flt) fun _=>.then fun _=>pq n _ h) fun _=>.then fun _=>.then fun _=>.bif (fun _=>.bif (fun _=>.flt) fun _=>.then fun _=>.then fun _=>pq n _ h) fun _=>.ret h
theorem Bf:Ens (dB T K) k0:=.bind Ll fun x h=>pq _ x h
theorem ua(v:Bool):Ens (cC T K v) k0:=.then fun _=>.bif (fun _=>.then fun _=>.then fun _=>.bind Bf fun x h=>.then fun _=>.bif (fun _=>.flt) fun _=>.ret h) fun _=>.bif (fun _=>.then fun _=>.ret rfl) fun _=>Bf
theorem CI{x:Nd}(h:k0 x)(k:Int)(s:Str):bQ x k (ai x) s=c8 (bQ x k [] s) []:=by
 rw[h]
 rfl
theorem r1{A:List Nd}{x:Tn}{k:Int}{w:Str}:nod k [eT A.length x] w=c8 (nod k [] w) (roots A.length [x]):=rfl
theorem gz(h:HK q p):H eT gT (eF T K q) (cF T K p):=H.of fun A=>
 HA.free (bo T K _) fun _=>HA.bind h.val fun x=>HA.free (bo T K _) fun _=>HA.ret (by rw[cw]) rfl
theorem En(h:HK q p)(A:List Nd):∀(n:Nat) (ks:List Tn),HA A ks eL gL (qa T K q n (roots A.length ks)) (fW T K p n ks)
 |0,_=>HA.bad
 |n+1,ks=>by
  have e:(roots A.length ks).length=ks.length:=fB _ _
  refine HA.free (dU T K _) fun b=>HA.bif (fun _=>HA.ret rfl rfl) fun _=>?_
  rw[e]
  refine HA.free (zT _) fun _=>HA.free (xa K _) fun _=>HA.bind h.val fun x=>?_
  rw[rtS]
  exact En h A n (ks++[x])
theorem Bp(h:HK q p):H eL gL (vB T K q) (oe T K p):=H.of fun A=>HA.free (bo T K _) fun _=>En h A _ []
theorem oZ{X x:Nd}{e:Int}(hX:X=c8 x []):H eT gT (pI T K X e) (gq T K x e):=H.of fun A=>
 HA.free (cr T K) fun _=>HA.bif (fun _=>HA.flt) fun _=>HA.free (bI K) fun _=>HA.add hX
theorem PS(h:HK q p):H eM gM (EI T K q) (ur T K p):=H.of fun A=>by
 refine HA.free (uu T K) fun x=>HA.free (my T K _) fun b=>HA.bif (fun _=>HA.bif (fun _=>HA.flt) fun _=>HA.bind (Bp h) fun l=>HA.ret ?_ rfl) fun _=>HA.free (bo T K _) fun _=>HA.bind h.val fun y=>HA.free (bo T K _) fun _=>HA.ret ?_ rfl
 ·rw[cw];rfl
 ·rw[cw];rfl
theorem Pv(h:HK q p)(t:Tok)(s:Str):H eT gT (Dq T K q t s) (nM T K p t s):=H.of fun A=>by
 refine HA.bif (fun _=>(oZ rfl).at A) fun _=>HA.bif (fun _=>(oZ rfl).at A) fun _=>HA.bif (fun _=>(oZ rfl).at A) fun _=>HA.bif (fun _=>(oZ rfl).at A) fun _=>HA.bif (fun _=>(oZ rfl).at A) fun _=>?_
 refine HA.bif (fun _=>HA.free (bI K) fun _=>HA.free (bo T K _) fun _=>HA.free (bo T K _) fun _=>HA.add rfl) fun _=>?_
 refine HA.bif (fun _=>HA.free (bI K) fun _=>HA.bind (gz h) fun x=>HA.add (by rw[cw];rfl)) fun _=>?_
 refine HA.bif (fun _=>HA.free (bI K) fun _=>HA.free (bo T K _) fun _=>HA.free (o7 T K _) fun _=>HA.free (bo T K _) fun _=>HA.bind (gz h) fun x=>HA.add (by rw[cw];rfl)) fun _=>?_
 exact HA.bif (fun _=>HA.free (bI K) fun _=>HA.bind (PS h) fun x=>HA.add (by rw[cw];rfl)) fun _=>HA.flt
theorem FB(h:HK q p):H eT gT (nX T K q) (cm T K p):=H.of fun A=>
 HA.free (cr T K) fun _=>HA.bif (fun _=>(oZ rfl).at A) fun _=>HA.bif (fun _=>(oZ rfl).at A) fun _=>HA.bif (fun _=>(oZ rfl).at A) fun _=>
  HA.bif (fun _=>HA.bif (fun _=>(gz h).at A) fun _=>HA.flt) fun _=>HA.bif (fun _=>HA.bif (fun _=>(oZ rfl).at A) fun _=>(Pv h _ _).at A) fun _=>HA.flt
theorem PN(h:HK q p)(A:List Nd)(x:Tn)(f:Int):HA A [x] eT gT (DJ T K q (eT A.length x) f) (qK T K p x f):=by
 refine HA.free (dU T K _) fun _=>HA.bif (fun _=>HA.add rfl) fun _=>HA.free (dU T K _) fun _=>HA.bif (fun _=>HA.add rfl) fun _=>?_
 refine HA.free (lK T K) fun s=>HA.free (my T K _) fun _=>HA.bif (fun _=>HA.bind (Bp h) fun l=>HA.add ?_) fun _=>HA.add rfl
 show nod 29 ([eT A.length x]++roots (Sf A [x]).length l) s=c8 (nod 29 [] s) (roots A.length ([x]++l))
 rw[zy]
 rfl
theorem lN(h:HK q p)(f:Int)(A:List Nd):∀(n:Nat) (x:Tn),HA A [x] eT gT (fS T K q f n (eT A.length x)) (aV T K p f n x)
 |0,_=>HA.bad
 |n+1,x=>by
  refine HA.free (dU T K _) fun _=>HA.bif (fun _=>HA.addBind rfl fun z=>lN h f A n z) fun _=>?_
  refine HA.free (dU T K _) fun _=>HA.bif (fun _=>HA.bind h.val fun y=>HA.free (bo T K _) fun _=>HA.addBind ?_ fun z=>lN h f A n z) fun _=>?_
  ·show nod 27 [eT A.length x,eT (Sf A [x]).length y] []=_
   rw[rt2]
   rfl
  refine HA.free (dU T K _) fun _=>HA.bif (fun _=>fun a d n' hn=>?_) fun _=>HA.ret rfl rfl
  exact RX.bind (PN h A x f a d n' hn) fun y a d n' hn=>lN h f A n y a d n' hn
theorem Jd(h:HK q p):H eT gT (nR T K q) (dY T K p):=H.of fun A=>
 HA.free (cr T K) fun _=>HA.bind (FB h) fun x=>by
  rw[cw]
  exact lN h _ A _ x
theorem Ke(h:HK q p):H eT gT (xb T K q) (ja T K p):=H.of fun A=>
 HA.free (cr T K) fun _=>HA.bif (fun _=>HA.free (xe K) fun _=>HA.free (bI K) fun _=>HA.bind h.un fun x=>HA.free Ca fun _=>HA.add (by rw[cw];rfl)) fun _=>(Jd h).at A
theorem oF{sub:Pm Int}{sut:Tm Tn}(hs:H eT gT sub sut)(least f:Int)(A:List Nd):∀(n:Nat) (x:Tn),HA A [x] eT gT (fK T K least f sub n (eT A.length x)) (bG T K least f sut n x)
 |0,_=>HA.bad
 |n+1,x=>by
  refine HA.free (cr T K) fun t=>HA.bif (fun _=>HA.free (bI K) fun _=>HA.bind hs fun y=>HA.addBind ?_ fun z=>oF hs least f A n z) fun _=>?_
  ·show nod 34 [eT A.length x,eT (Sf A [x]).length y] t.2=_
   rw[rt2]
   rfl
  refine HA.bif (fun _=>HA.free (dU T K _) fun _=>HA.bif (fun _=>HA.free (dU T K _) fun _=>HA.bif (fun _=>HA.addBind rfl fun z=>oF hs least f A n z) fun _=>?_) fun _=>HA.ret rfl rfl) fun _=>HA.ret rfl rfl
  exact HA.free (bo T K _) fun _=>HA.addBind rfl fun z=>oF hs least f A n z
theorem xz(h:HK q p):∀j:Nat,H eT gT (kH T K q j) (bD T K p j)
 |0=>H.of fun A=>HA.free (cr T K) fun _=>h.un.at A
 |j+1=>H.of fun A=>HA.free (cr T K) fun _=>HA.bind (xz h j) fun x=>by
  rw[cw]
  exact oF (xz h j) _ _ A _ x
theorem Kw(h:HK q p):H eT gT (xd T K q) (dd T K p):=H.of fun A=>
 HA.free (xe K) fun _=>HA.bind (xz h 6) fun x=>HA.free Ca fun _=>HA.ret (by rw[cw]) rfl
def eW:Nat→(Nd×List Tn)×Bool→Nd×Bool:=fun o w=>(eM o w.1,w.2)
def gW:(Nd×List Tn)×Bool→List Tn:=fun w=>w.1.2
theorem NX(h:HK q p)(s:Str):H eW gW (qP T K q s) (sK T K p s):=H.of fun A=>by
 refine HA.bif (fun _=>HA.free (bI K) fun _=>HA.bind (gz h) fun x=>HA.bind h.blk fun y=>HA.free (dU T K _) fun _=>HA.bif (fun _=>HA.bind h.blk fun z=>HA.ret ?_ rfl) fun _=>HA.ret ?_ rfl) fun _=>?_
 ·show(nod 11 [eT (Sf A []).length x,eT (Sf A [x]).length y,eT (Sf A [x,y]).length z] [],true)=_
  rw[cw,rt3]
  rfl
 ·show(nod 11 [eT (Sf A []).length x,eT (Sf A [x]).length y] [],true)=_
  rw[cw,rt2]
  rfl
 refine HA.bif (fun _=>HA.free (bI K) fun _=>HA.bind (gz h) fun x=>HA.bind h.blk fun y=>HA.ret ?_ rfl) fun _=>?_
 ·show(nod 12 [eT (Sf A []).length x,eT (Sf A [x]).length y] [],true)=_
  rw[cw,rt2]
  rfl
 refine HA.bif (fun _=>HA.free (bI K) fun _=>HA.free (bo T K _) fun _=>HA.ret rfl rfl) fun _=>?_
 refine HA.bif (fun _=>HA.free (bI K) fun _=>HA.free (bo T K _) fun _=>HA.ret rfl rfl) fun _=>?_
 refine HA.bif (fun _=>HA.free (bI K) fun _=>HA.free (my T K _) fun _=>HA.bif (fun _=>HA.free (bo T K _) fun _=>HA.ret rfl rfl) fun _=>HA.bind h.val fun x=>HA.free (bo T K _) fun _=>HA.ret (by rw[cw];rfl) rfl) fun _=>?_
 refine HA.bif (fun _=>HA.free (bI K) fun _=>HA.bind (gz h) fun x=>HA.free (bo T K _) fun _=>HA.ret (by rw[cw];rfl) rfl) fun _=>?_
 refine HA.bif (fun _=>HA.free (bI K) fun _=>HA.bind (Bp h) fun l=>HA.free (bo T K _) fun _=>HA.ret (by rw[cw];rfl) rfl) fun _=>?_
 exact HA.ret rfl rfl
theorem FZ(A:List Nd)(x:Tn)(ks:List Tn):aj (af (Sf A (x::ks)) (eT A.length x).toNat)=aj x.data:=by
 obtain⟨d,l⟩:=x
 have e:Sf A (.mk d l::ks)=(Sf A l++[c8 d (roots A.length l)])++Tn.flats (A.length+(Tn.mk d l).size) ks:=by
  rw[←tC,Sf,Sf,Tn.flats,Tn.flats_one,List.append_assoc]
 have e2:(eT A.length (.mk d l)).toNat=(Sf A l).length:=by
  rw[eT,mJ,Tn.size]
  omega
 rw[e,e2]
 unfold af
 rw[List.getD_eq_getElem?_getD,List.append_assoc,List.getElem?_append_right (Nat.le_refl _),Nat.sub_self]
 rfl
theorem Ez(h:HK q p)(f:Int):H eT gT (fE T K q f) (ny T K p f):=H.of fun A=>by
 refine HA.bind h.val fun x=>HA.free (cr T K) fun t=>?_
 rw[cw]
 have key:∀(k':Tm Tn) (k:Int→Pm Int),HA A [x] eT gT (k (aj x.data)) k'→HA A [x] eT gT ((El (eT A.length x)).bind k) k':=fun k' k hk a d n hn=>by
  show RX A eT gT (k (aj (af (Sf A [x]) (eT A.length x).toNat)) a d (Sf A [x])) _
  rw[FZ]
  exact hk a d n hn
 refine key _ _ (HA.free (dU T K _) fun b=>HA.bif (fun _=>HA.bif (fun _=>HA.bind h.val fun y=>HA.free (bo T K _) fun _=>HA.add ?_) fun _=>HA.flt) fun _=>HA.bif (fun _=>HA.free (bo T K _) fun _=>HA.add rfl) fun _=>HA.flt)
 show nod 10 [eT A.length x,eT (Sf A [x]).length y] []=_
 rw[rt2]
 rfl
theorem LQ(s:Str):cp (sK T K p s) fun w=>w.2=false→w.1.2=[]:=by
 refine .bif (fun _=>.then fun _=>.then fun _=>.then fun _=>.then fun _=>.bif (fun _=>.then fun _=>.ret (fun h=>by cases h)) fun _=>.ret (fun h=>by cases h)) fun _=>?_
 refine .bif (fun _=>.then fun _=>.then fun _=>.then fun _=>.ret (fun h=>by cases h)) fun _=>?_
 refine .bif (fun _=>.then fun _=>.then fun _=>.ret (fun h=>by cases h)) fun _=>?_
 refine .bif (fun _=>.then fun _=>.then fun _=>.ret (fun h=>by cases h)) fun _=>?_
 refine .bif (fun _=>.then fun _=>.then fun _=>.bif (fun _=>.then fun _=>.ret (fun h=>by cases h)) fun _=>.then fun _=>.then fun _=>.ret (fun h=>by cases h)) fun _=>?_
 refine .bif (fun _=>.then fun _=>.then fun _=>.then fun _=>.ret (fun h=>by cases h)) fun _=>?_
 refine .bif (fun _=>.then fun _=>.then fun _=>.then fun _=>.ret (fun h=>by cases h)) fun _=>?_
 exact .ret fun _=>rfl
theorem Qq(h:HK q p):H eT gT (CQ T K q) (wH T K p):=H.of fun A=>by
 refine HA.free (cr T K) fun t=>HA.bif (fun _=>h.blk.at A) fun _=>HA.free (zW T K) fun b=>HA.bif (fun _=>?_) fun _=>HA.bif (fun _=>?_) fun _=>(Ez h _).at A
 ·exact HA.freeQ (o7 T K _) (ua _) fun x hx=>HA.free (lK T K) fun s=>HA.free (dU T K _) fun b=>HA.bif (fun _=>HA.bind h.val fun y=>HA.free (bo T K _) fun _=>HA.add (by rw[cw];rfl)) fun _=>HA.free (bo T K _) fun _=>HA.add (CI hx _ _)
 ·refine HA.bindQ (NX h _) (LQ _) fun w hq=>HA.bif (fun _=>HA.add (by rw[cw];rfl)) fun hw=>?_
  have e:[]++gW w=[]:=hq hw
  rw[e]
  exact(Ez h _).at A
theorem zw(h:HK q p)(f:Int)(A:List Nd):∀(n:Nat) (ks:List Tn),HA A ks eT gT (nQ T K q f n (roots A.length ks)) (ix T K p f n ks)
 |0,_=>HA.bad
 |n+1,ks=>by
  refine HA.free (my T K _) fun _=>HA.bif (fun _=>HA.free (bo T K _) fun _=>HA.free Ca fun _=>HA.add rfl) fun _=>HA.bind (Qq h) fun x=>?_
  rw[rtS]
  exact zw h f A n (ks++[x])
theorem LP(h:HK q p):H eT gT (xF T K q) (nw T K p):=H.of fun A=>HA.free (cr T K) fun _=>HA.free (xe K) fun _=>HA.free (bo T K _) fun _=>zw h _ A _ []
theorem GV:H eT gT (.bad:Pm Int) (.bad:Tm Tn):=H.of fun _=>HA.bad
theorem xG(T:List UInt8)(K:List Tok):∀n,HK (kns T K n) (knt T K n)
 |0=>⟨GV,GV,GV⟩
 |n+1=>⟨Kw (xG T K n),LP (xG T K n),Ke (xG T K n)⟩
theorem vh(A:List Nd):∀(n:Nat) (ks:List Tn),HA A ks eL gL (jB T K n (roots A.length ks)) (gH T K n ks)
 |0,_=>HA.bad
 |n+1,ks=>by
  have e:(roots A.length ks).length=ks.length:=fB _ _
  refine HA.free (dU T K _) fun b=>HA.bif (fun _=>HA.ret rfl rfl) fun _=>?_
  rw[e]
  refine HA.free (zT _) fun _=>HA.free (xa K _) fun _=>HA.free (cr T K) fun t=>HA.freeQ (o7 T K _) (ua _) fun x hx=>HA.free (lK T K) fun s=>HA.bind (H.add (CI hx _ _)) fun y=>?_
  rw[rtS]
  exact vh A n (ks++[y])
theorem zG:H eL gL (lQ T K) (ka T K):=H.of fun A=>HA.free (bo T K _) fun _=>vh A _ []
theorem JA(h:HK q p):H eT gT (rP T K q) (lO T K p):=H.of fun A=>by
 refine HA.free (cr T K) fun t=>HA.bif (fun _=>HA.free (bI K) fun _=>HA.bind zG fun l=>HA.bind h.blk fun b=>HA.add ?_) fun _=>HA.freeQ (o7 T K _) (ua _) fun x hx=>HA.free (lK T K) fun s=>HA.free (my T K _) fun _=>HA.bif (fun _=>HA.bind zG fun l=>HA.bind h.blk fun b=>HA.add ?_) fun _=>HA.bif (fun _=>HA.flt) fun _=>HA.free (bo T K _) fun _=>HA.add (CI hx _ _)
 ·show nod 5 (roots (Sf A []).length l++[eT (Sf A l).length b]) []=c8 (nod 5 [] []) (roots A.length (l++[b]))
  rw[cw,rtS]
  rfl
 ·show bQ x 6 (roots (Sf A []).length l++[eT (Sf A l).length b]) s=c8 (bQ x 6 [] s) (roots A.length (l++[b]))
  rw[cw,rtS]
  rfl
theorem tX(h:HK q p)(f:Int)(s:Str)(A:List Nd):∀(n:Nat) (ks:List Tn),HA A ks eT gT (lY T K q f s n (roots A.length ks)) (gv T K p f s n ks)
 |0,_=>HA.bad
 |n+1,ks=>by
  have e:(roots A.length ks).length=ks.length:=fB _ _
  refine HA.free (my T K _) fun _=>HA.bif (fun _=>HA.free (bo T K _) fun _=>HA.add rfl) fun _=>?_
  rw[e]
  refine HA.free (xa K _) fun _=>HA.bind (JA h) fun x=>?_
  rw[rtS]
  exact tX h f s A n (ks++[x])
theorem KC(h:HK q p):H eT gT (xy T K q) (qc T K p):=H.of fun A=>by
 refine HA.free (cr T K) fun t=>HA.free (bo T K _) fun _=>HA.free (lK T K) fun s=>HA.free (cr T K) fun u=>HA.free (dU T K _) fun b=>HA.bif (fun _=>?_) fun _=>HA.free (bo T K _) fun _=>tX h _ _ A _ []
 refine HA.free (lK T K) fun e=>HA.addBind rfl fun y=>HA.free (bo T K _) fun _=>?_
 exact tX h _ _ A _ [y]
def eU:Nat→Tn→Unit:=fun _ _=>()
theorem tG(h:HK q p)(A:List Nd):∀(n:Nat) (ks:List Tn),HA A ks eU gT (jw T K q n (roots A.length ks)) (dk T K p n ks)
 |0,_=>HA.bad
 |n+1,ks=>by
  have e:(roots A.length ks).length=ks.length:=fB _ _
  refine HA.free (cr T K) fun t=>HA.bif (fun _=>fun a d n' hn=>?_) fun _=>?_
  ·have:=HA.add (A:=A) (ks:=ks) (x:=nod 1 [] []) (f:=0) (K:=K) rfl a d n' hn
   show RX A eU gT ((bY K (c8 (nod 1 [] []) (roots A.length ks)) 0 a d (Sf A ks)).bind _) _
   revert this
   cases bK K (nod 1 [] []) 0 ks a d n' with
   |ok y a' d' n''=>
    rintro ⟨h1,h2⟩
    refine⟨h1,?_⟩
    rw[h2]
    rfl
   |fault c p=>
    intro h
    have h:bY K (c8 (nod 1 [] []) (roots A.length ks)) 0 a d (Sf A ks)= .fault c p:=h
    rw[h]
    exact(rfl:(PR.fault c p:PR Unit)= .fault c p)
   |bad=>
    intro h
    have h:bY K (c8 (nod 1 [] []) (roots A.length ks)) 0 a d (Sf A ks)= .bad:=h
    rw[h]
    exact(rfl:(PR.bad:PR Unit)= .bad)
  rw[e]
  refine HA.free (xa K _) fun _=>HA.bind (KC h) fun x=>?_
  rw[rtS]
  exact tG h A n (ks++[x])
theorem Fi(h:HK q p):H eU gT (ov T K q) (ub T K p):=H.of fun A=>tG h A _ []
end Go.Sx.Tryz
namespace Go.Sx.Tryz
open Go Go.Sx
set_option maxRecDepth 100000
def ChL(T:List UInt8):Int→List Tok→Prop
 |_,[]=>True
 |a,t::ts=>ab t=a∧ChL T (cQ T (tTo t)) ts
theorem DA(T:List UInt8):∀(n:Nat) (a:Int) (k:Nat),0≤a→a≤T.length→(T.length:Int)-a<n→(gp n T a k).1=0→ChL T a (gp n T a k).2.2
 |0,a,k,h0,h1,hn,h=>by omega
 |n+1,a,k,h0,h1,hn,h=>by
  unfold gp at h⊢
  cases hlt:decide (a<(T.length:Int))with
  |false=>
   have:=of_decide_eq_false hlt
   refine⟨?_,trivial⟩
   show(T.length:Int)=a
   omega
  |true=>
   rw[hlt]at h
   have hlt:=of_decide_eq_true hlt
   simp only[cond_true]at h⊢
   cases h16:decide ((k:Int)≥16384)with
   |true=>rw[h16]at h;simp at h
   |false=>
    rw[h16]at h
    simp only[cond_false]at h⊢
    cases he:fM T a !=0 with
    |true=>
     rw[he]at h
     simp only[cond_true]at h
     rw[h]at he
     exact absurd he (by decide)
    |false=>
     rw[he]at h
     simp only[cond_false]at h⊢
     have he0:fM T a=0:=by simpa [bne]using he
     obtain⟨o1,o2⟩:=oK h0 hlt
     have o3:=o2 he0
     obtain⟨g1,g2⟩:=dI (T:=T) (a:=aL T a) (by omega) o1
     exact⟨rfl,DA T n (cQ T (aL T a)) (k+1) (by omega) g2 (by omega) h⟩
theorem IA{T:List UInt8}:∀(K:List Tok) (a:Int) (i:Nat),ChL T a K→i+1<K.length→ab (K.getD (i+1) (Ty.dflt aK))=cQ T (tTo (K.getD i (Ty.dflt aK)))
 |[],_,_,_,h=>by simp at h
 |[_],_,_,_,h=>by simp at h
 |t::u::K,a,0,hc,_=>hc.2.1
 |t::u::K,a,i+1,hc,h=>by
  have:=IA (u::K) _ i hc.2 (by simpa using h)
  simpa using this
structure WS(T:List UInt8)(K:List Tok):Prop where
 wf:WF T K
 gap:∀a:Int,0≤a→a+1<K.length→ab (aa K (a+1))=cQ T (tTo (aa K a))
 lt:∀a:Int,0≤a→a<K.length→ak (aa K a)≠0→ab (aa K a)<tTo (aa K a)
theorem Ib{T:List UInt8}(h:de T=0):WS T (bL T):=by
 refine⟨lex_wf h,fun a h0 h1=>?_,fun a h0 h1 hk=>?_⟩
 ·have hc:ChL T (cQ T 0) (bL T):=by
   obtain⟨hT,_⟩:=k9 h
   rw[oH h]
   rw[lE]at h
   unfold fD at h⊢
   rw[show decide ((T.length:Int)>65536)=false from decide_eq_false (by omega)]at h⊢
   obtain⟨g1,g2⟩:=dI (T:=T) (a:=0) (by omega) (by omega)
   exact DA T (T.length+1) (cQ T 0) 0 (by omega) g2 (by omega) h
  have:=IA (bL T) _ a.toNat hc (by omega)
  unfold aa
  rw[show(a+1).toNat=a.toNat+1 by omega]
  exact this
 ·obtain⟨_,L,e,_,h3⟩:=k9 h
  rw[e]at h1 hk⊢
  by_cases hl:a<L.length
  ·rw[sV h0 hl]
   exact(h3 _ (vF h0 hl)).2.1
  ·have e2:a=L.length:=by simp at h1;omega
   rw[e2,um]at hk
   exact absurd rfl hk
section
variable{T:List UInt8}{K:List Tok}
theorem WS.next(w:WS T K){a:Int}(h0:0≤a)(h1:a+1<K.length):tTo (aa K a)≤ab (aa K (a+1)):=by
 rw[w.gap a h0 h1]
 have:=w.wf.span a h0 (by omega)
 exact(dI (by omega) this.2.2).1
theorem WS.mono(w:WS T K):∀(j:Nat) {a:Int},0≤a→a+j<K.length→ab (aa K a)≤ab (aa K (a+j))∧tTo (aa K a)≤tTo (aa K (a+j))
 |0,a,h0,h1=>by simp
 |j+1,a,h0,h1=>by
  obtain⟨i1,i2⟩:=w.mono j h0 (by omega)
  have h3:=w.next (a:=a+j) (by omega) (by omega)
  have h4:=w.wf.span (a+j) (by omega) (by omega)
  have h5:=w.wf.span (a+j+1) (by omega) (by omega)
  rw[show a+((j+1:Nat):Int)=a+j+1 by omega]
  omega
theorem WS.le(w:WS T K){a b:Int}(h0:0≤a)(h:a≤b)(h1:b<K.length):ab (aa K a)≤ab (aa K b)∧tTo (aa K a)≤tTo (aa K b):=by
 have:=w.mono (b-a).toNat h0 (by omega)
 rwa [show a+((b-a).toNat:Int)=b by omega]at this
theorem WS.sep(w:WS T K){a b:Int}(h0:0≤a)(h:a<b)(h1:b<K.length):tTo (aa K a)≤ab (aa K b):=by
 have h2:=w.next h0 (by omega)
 have h3:=(w.le (a:=a+1) (b:=b) (by omega) (by omega) h1).1
 omega
def TP{α:Type}(m:Tm α)(a:Int)(Q:α→Int→Prop):Prop:=∀d n,match m a d n with
 | .ok y a' _ _=>Q y a'
 |_=>True
theorem TP.bind{α β:Type}{m:Tm α}{k:α→Tm β}{a:Int}{Q:α→Int→Prop}{Q':β→Int→Prop}(h:TP m a Q)(hk:∀y a',Q y a'→TP (k y) a' Q'):TP (m.bind k) a Q':=fun d n=>by
 have:=h d n
 unfold Tm.bind
 cases e:m a d n with
 |ok y a' d' n'=>
  rw[e]at this
  exact hk y a' this d' n'
 |fault c p=>trivial
 |bad=>trivial
theorem TP.ret{α:Type}{y:α}{a:Int}{Q:α→Int→Prop}(h:Q y a):TP (.ret y:Tm α) a Q:=fun _ _=>h
theorem TP.flt{α:Type}{c p a:Int}{Q:α→Int→Prop}:TP (.flt c p:Tm α) a Q:=fun _ _=>trivial
theorem TP.bad{α:Type}{a:Int}{Q:α→Int→Prop}:TP (.bad:Tm α) a Q:=fun _ _=>trivial
theorem TP.bif{α:Type}{c:Bool}{m m':Tm α}{a:Int}{Q:α→Int→Prop}(h:c=true→TP m a Q)(h':c=false→TP m' a Q):TP (bif c then m else m') a Q:=by
 cases c
 ·exact h' rfl
 ·exact h rfl
theorem TP.mono{α:Type}{m:Tm α}{a:Int}{Q Q':α→Int→Prop}(h:TP m a Q)(hq:∀y a',Q y a'→Q' y a'):TP m a Q':=fun d n=>by
 have:=h d n
 cases e:m a d n with
 |ok y a' d' n'=>rw[e]at this;exact hq _ _ this
 |fault c p=>trivial
 |bad=>trivial
def PP{α:Type}(m:Pm α)(a:Int)(Q:α→Int→Prop):Prop:=∀d A,match m a d A with
 | .ok y a' _ _=>Q y a'
 |_=>True
theorem PP.lft{α:Type}{m:Pm α}{a:Int}{Q:α→Int→Prop}(h:PP m a Q):TP (lft m) a Q:=fun d n=>by
 have:=h d []
 unfold Tryz.lft
 cases e:m a d []with
 |ok y a' d' A'=>rw[e]at this;exact this
 |fault c p=>trivial
 |bad=>trivial
theorem PP.bind{α β:Type}{m:Pm α}{k:α→Pm β}{a:Int}{Q:α→Int→Prop}{Q':β→Int→Prop}(h:PP m a Q)(hk:∀y a',Q y a'→PP (k y) a' Q'):PP (m.bind k) a Q':=fun d A=>by
 have:=h d A
 unfold Pm.bind
 cases e:m a d A with
 |ok y a' d' A'=>
  rw[e]at this
  exact hk y a' this d' A'
 |fault c p=>trivial
 |bad=>trivial
theorem PP.ret{α:Type}{y:α}{a:Int}{Q:α→Int→Prop}(h:Q y a):PP (.ret y:Pm α) a Q:=fun _ _=>h
theorem PP.flt{α:Type}{c p a:Int}{Q:α→Int→Prop}:PP (.flt c p:Pm α) a Q:=fun _ _=>trivial
theorem PP.bad{α:Type}{a:Int}{Q:α→Int→Prop}:PP (.bad:Pm α) a Q:=fun _ _=>trivial
theorem PP.bif{α:Type}{c:Bool}{m m':Pm α}{a:Int}{Q:α→Int→Prop}(h:c=true→PP m a Q)(h':c=false→PP m' a Q):PP (bif c then m else m') a Q:=by
 cases c
 ·exact h' rfl
 ·exact h rfl
def In(K:List Tok)(a:Int):Prop:=0≤a∧a<K.length
def Nz(K:List Tok)(a:Int):Prop:=ak (aa K a)≠0
theorem WS.succ(w:WS T K){a:Int}(h:In K a)(hz:Nz K a):In K (a+1):=by
 have:=w.wf.last a h.1 h.2
 refine⟨by have:=h.1;omega,?_⟩
 have h2:=h.2
 by_cases e:a=K.length-1
 ·exact absurd (this.2 e) hz
 ·omega
theorem cy{a:Int}:PP (bc T K) a fun t a'=>a'=a∧t=(aa K a,say T (aa K a)):=fun _ _=>⟨rfl,rfl⟩
theorem nE{a n:Int}:PP (cO T K n) a fun x a'=>a'=a∧(x=(0,[])∨(a+n<K.length∧x=(ak (aa K (a+n)),say T (aa K (a+n))))):=fun d A=>by
 unfold cO
 cases h:decide (a+n≥(K.length:Int))
 ·have:=of_decide_eq_false h
  exact⟨rfl,.inr ⟨by omega,rfl⟩⟩
 ·exact⟨rfl,.inl rfl⟩
theorem cf{a:Int}(hz:Nz K a):PP (aJ K) a fun e a'=>a'=a+1∧e=tTo (aa K a):=fun d A=>by
 unfold aJ
 have:(ak (aa K a) !=0)=true:=by simpa [bne,Nz]using hz
 rw[this]
 exact⟨rfl,rfl⟩
theorem mn{a:Int}(s:Str):PP (cIs T K s) a fun b a'=>a'=a∧(b=true→Nz K a∧say T (aa K a)=s):=by
 refine PP.bind cy fun t a' h=>?_
 obtain⟨rfl,rfl⟩:=h
 refine PP.ret ⟨rfl,fun h=>?_⟩
 simp only[Bool.and_eq_true,Bool.or_eq_true,beq_iff_eq]at h
 refine⟨fun h0=>?_,h.2⟩
 rw[h0]at h
 rcases h.1 with h|h<;>exact absurd h (by decide)
theorem iG{a:Int}(s:Str):PP (bp T K s) a fun b a'=>(b=true∧a'=a+1∧Nz K a)∨(b=false∧a'=a):=by
 refine PP.bind (mn s) fun b a' h=>?_
 obtain⟨rfl,h⟩:=h
 refine PP.bif (fun hb=>PP.bind (cf (h hb).1) fun e a'' h2=>PP.ret (.inl ⟨rfl,h2.1,(h hb).1⟩)) fun _=>PP.ret (.inr ⟨rfl,rfl⟩)
theorem bm{a:Int}(s:Str):PP (aE T K s) a fun e a'=>a'=a+1∧e=tTo (aa K a)∧Nz K a:=by
 refine PP.bind (mn s) fun b a' h=>?_
 obtain⟨rfl,h⟩:=h
 exact PP.bif (fun hb=>fun d A=>by have:=cf (h hb).1 d A;unfold aJ at this⊢;revert this;cases ak (aa K a') !=0<;>exact fun h2=>⟨h2.1,h2.2,(h hb).1⟩) fun _=>PP.bind cy fun _ _ _=>PP.flt
theorem iz{a k:Int}(h:(ak (aa K a)==k)=true)(hk:k≠0):Nz K a:=by
 have:ak (aa K a)=k:=by simpa using h
 unfold Nz
 rw[this]
 exact hk
theorem lP{a:Int}:PP (cY T K) a fun s a'=>a'=a+1∧Nz K a∧bW s=true:=by
 refine PP.bind cy fun t a' h=>?_
 obtain⟨rfl,rfl⟩:=h
 refine PP.bif (fun hb=>?_) fun _=>PP.flt
 rw[Bool.and_eq_true]at hb
 exact PP.bind (cf (iz hb.1 (by decide))) fun e a'' h2=>PP.ret ⟨h2.1,iz hb.1 (by decide),hb.2⟩
theorem xQ{a:Int}:PP (dq K) a fun _ a'=>a'=a:=fun d A=>by
 unfold dq
 cases decide (d+1>60)
 ·exact rfl
 ·trivial
theorem CG{a:Int}:PP mV a fun _ a'=>a'=a:=fun _ _=>rfl
theorem xo{a n:Int}:PP (fF K n) a fun _ a'=>a'=a:=fun d A=>by
 unfold fF
 cases decide (n>64)
 ·exact rfl
 ·trivial
theorem yV{a:Int}(l:Nat):PP (comma T K l) a fun _ a'=>a'=a∨(a'=a+1∧Nz K a):=
 PP.bif (fun _=>PP.bind (bm _) fun _ _ h=>PP.ret (.inr ⟨h.1,h.2.2⟩)) fun _=>PP.ret (.inl rfl)
theorem yW{a:Int}:PP (dr T K) a fun _ a'=>a'=a:=by
 refine PP.bind nE fun x a' h=>?_
 obtain⟨rfl,h⟩:=h
 refine PP.bif (fun _=>PP.ret rfl) fun _=>PP.bif (fun _=>PP.bind nE fun y a'' h2=>?_) fun _=>PP.ret rfl
 obtain⟨rfl,_⟩:=h2
 refine PP.bind nE fun z a3 h3=>?_
 obtain⟨rfl,_⟩:=h3
 exact PP.ret rfl
end
end Go.Sx.Tryz
