/- A part of the proof: see the row's text. -/
import Derived.Test.YtaklpoiaicepoaaGreatDoorZa28
import Derived.Test.YtaklpoiaicepoaaGreatDoorZa21
set_option linter.unusedVariables false
set_option linter.unusedSimpArgs false
noncomputable section
namespace Go.Sx.Tryz
open Go Go.Sx
set_option maxRecDepth 100000
theorem cR(p:Int→Bool)(c:UInt8)(s:List UInt8):aF p (c::s)=bif p c.toNat then aF p s+1 else 0:=fZ p c s
theorem wS{p:Int→Bool}{x:UInt8}(hx:p x.toNat=false):∀(w r0 r:List UInt8),w.length≤aF p (w++r0)→aF p (w++x::r)=w.length
 |[],_,r,_=>by
  show aF p (x::r)=0
  rw[cR,hx]
  rfl
 |c::w,r0,r,h=>by
  have h:w.length+1≤aF p (c::(w++r0)):=h
  show aF p (c::(w++x::r))=w.length+1
  rw[cR]at h⊢
  cases hp:p c.toNat with
  |false=>rw[hp]at h;exact absurd h (by simp)
  |true=>
   rw[hp]at h
   simp only[cond_true]at h⊢
   rw[wS hx w r0 r (by omega)]
theorem zB{p:Int→Bool}:∀(w r0 y:List UInt8),aF p (w++r0)<w.length→aF p (w++y)=aF p (w++r0)
 |[],_,_,h=>by cases h
 |c::w,r0,y,h=>by
  have h:aF p (c::(w++r0))<w.length+1:=h
  show aF p (c::(w++y))=aF p (c::(w++r0))
  rw[cR]at h⊢
  rw[cR]
  cases hp:p c.toNat with
  |false=>rfl
  |true=>
   rw[hp]at h
   simp only[cond_true]at h⊢
   rw[zB w r0 y (by omega)]
theorem ov{w:List UInt8}(r y:List UInt8){i:Nat}(h:i<w.length):at8 (w++y) i=at8 (w++r) i:=by
 unfold at8
 rw[List.getD_eq_getElem?_getD,List.getD_eq_getElem?_getD,List.getElem?_append_left h,List.getElem?_append_left h]
theorem Hi(w r:List UInt8)(x:UInt8):at8 (w++x::r) w.length=x.toNat:=by
 unfold at8
 rw[List.getD_eq_getElem?_getD,List.getElem?_append_right (Nat.le_refl _),Nat.sub_self]
 rfl
theorem qo:∀(n:Nat) (u r0:List UInt8),cD n (u++r0)=(u.length,0)→∀(m:Nat) (y:List UInt8),u.length≤m→cD m (u++y)=(u.length,0)
 |0,u,r0,h,m,y,hm=>by
  exfalso
  cases hu:u++r0 with
  |nil=>
   rw[hu]at h
   exact absurd (show(61:Int)=0 from congrArg Prod.snd h) (by decide)
  |cons c s=>
   rw[hu]at h
   exact absurd (show(61:Int)=0 from congrArg Prod.snd h) (by decide)
 |n+1,[],r0,h,m,y,hm=>by
  exfalso
  cases r0 with
  |nil=>exact absurd (show(61:Int)=0 from congrArg Prod.snd h) (by decide)
  |cons c s=>
   have h:cD (n+1) (c::s)=(0,0):=h
   unfold cD at h
   revert h
   cases (c.toNat:Int)==34
   ·cases (c.toNat:Int)==10
    ·cases (decide ((c.toNat:Int)<32)||decide ((c.toNat:Int)>126))
     ·cases (c.toNat:Int)==92
      ·intro h;simp at h
      ·cases s with
       |nil=>intro h;simp at h
       |cons d s'=>
        simp only[cond_true,cond_false]
        cases decide (Lib.indexByte rn (d.toNat:Int).toNat.toUInt8<0)
        ·intro h;simp at h
        ·intro h;simp at h
     ·intro h;simp at h
    ·intro h;simp at h
   ·intro h;simp at h
 |n+1,c::u,r0,h,m,y,hm=>by
  cases m with
  |zero=>simp at hm
  |succ m=>
   have h:cD (n+1) (c::(u++r0))=(u.length+1,0):=h
   show cD (m+1) (c::(u++y))=(u.length+1,0)
   unfold cD at h⊢
   revert h
   cases (c.toNat:Int)==34
   ·cases (c.toNat:Int)==10
    ·cases (decide ((c.toNat:Int)<32)||decide ((c.toNat:Int)>126))
     ·cases (c.toNat:Int)==92
      ·simp only[cond_false]
       intro h
       have h1:cD n (u++r0)=(u.length,0):=by
        have e1:=congrArg Prod.fst h
        have e2:=congrArg Prod.snd h
        simp only at e1 e2
        exact Prod.ext (by simp only;omega) e2
       rw[qo n u r0 h1 m y (by simp at hm;omega)]
      ·cases u with
       |nil=>
        cases r0 with
        |nil=>intro h;simp at h
        |cons d s=>
         simp only[cond_true,cond_false,List.nil_append]
         cases decide (Lib.indexByte rn (d.toNat:Int).toNat.toUInt8<0)
         ·intro h;simp at h
         ·intro h;simp at h
       |cons d u=>
        simp only[cond_true,cond_false,List.cons_append]
        cases decide (Lib.indexByte rn (d.toNat:Int).toNat.toUInt8<0)
        ·simp only[cond_false]
         intro h
         have h1:cD n (u++r0)=(u.length,0):=by
          have e1:=congrArg Prod.fst h
          have e2:=congrArg Prod.snd h
          simp only[List.length_cons]at e1 e2
          exact Prod.ext (by simp only;omega) e2
         rw[qo n u r0 h1 m y (by simp at hm;omega)]
         rfl
        ·intro h;simp at h
     ·intro h;simp at h
    ·intro h;simp at h
   ·simp only[cond_true]
    intro h
    have e1:=congrArg Prod.fst h
    simp only at e1
    have:u.length=0:=by omega
    rw[this]
def DJ(x:UInt8):Bool:=x==32||(x==9||x==10)
theorem OQ(c:UInt8){x:UInt8}(hx:DJ x=true):(Lib.contains iu [c,x,32]&&((c.toNat:Int) !=32&&(x.toNat:Int) !=32))=false:=by
 unfold DJ at hx
 simp only[Bool.or_eq_true,beq_iff_eq]at hx
 have key:∀y:UInt8,y=9∨y=10→Lib.contains iu [c,y,32]=false:=by
  intro y hy
  cases hc:Lib.contains iu [c,y,32]with
  |false=>rfl
  |true=>
   exfalso
   unfold Lib.contains at hc
   have hc:=of_decide_eq_true hc
   rcases Lib.index_spec iu [c,y,32]with⟨h1,_⟩|⟨i,h1,h2,h3,_⟩
   ·rw[h1]at hc
    exact absurd hc (by decide)
   ·unfold Lib.occAt at h3
    have hp:=List.isPrefixOf_iff_prefix.1 h3
    have hm:y∈iu.drop i:=hp.subset (by simp)
    have hm2:y∈iu:=List.mem_of_mem_drop hm
    rcases hy with rfl|rfl<;>exact absurd hm2 (by decide)
 rcases hx with rfl|rfl|rfl
 ·simp
 ·rw[key 9 (.inl rfl)]
  rfl
 ·rw[key 10 (.inr rfl)]
  rfl
theorem yK{x:UInt8}(hx:DJ x=true):fA x.toNat=false∧aI x.toNat=false∧((x.toNat:Int)==46)=false∧aU x.toNat=true:=by
 unfold DJ at hx
 simp only[Bool.or_eq_true,beq_iff_eq]at hx
 rcases hx with rfl|rfl|rfl<;>exact⟨rfl,rfl,rfl,rfl⟩
theorem OP{w r0:List UInt8}{k:Int}(h:gH (w++r0)=(k,0,w.length))(hw:0<w.length){x:UInt8}(hx:DJ x=true)(r:List UInt8):gH (w++x::r)=(k,0,w.length):=by
 obtain⟨x1,x2,x3,x4⟩:=yK hx
 have h0:=ov r0 (x::r) hw
 unfold gH at h⊢
 rw[h0]
 revert h
 cases hL:isLet (at8 (w++r0) 0)
 ·cases hD:aI (at8 (w++r0) 0)
  ·cases hQ:at8 (w++r0) 0==34
   ·
    simp only[cond_false]
    intro h
    unfold wO at h⊢
    revert h
    cases hc:(decide (((w++r0).length:Int)>1)&&(Lib.contains iu ((w++r0).take 2++[32])&&(at8 (w++r0) 0 !=32&&at8 (w++r0) 1 !=32)))
    ·simp only[cond_false]
     cases ho:decide (Lib.indexByte ug (at8 (w++r0) 0).toNat.toUInt8≥0)
     ·intro h;simp at h
     ·simp only[cond_true]
      intro h
      have hl:w.length=1:=by
       have:=congrArg (fun z=>z.2.2) h
       simpa using this.symm
      obtain⟨c,rfl⟩:∃c,w=[c]:=List.length_eq_one_iff.1 hl
      have e1:(([c]++x::r).take 2++[32])=[c,x,32]:=rfl
      have e2:at8 ([c]++x::r) 0=(c.toNat:Int):=rfl
      have e3:at8 ([c]++x::r) 1=(x.toNat:Int):=rfl
      have hn:(decide ((([c]++x::r).length:Int)>1)&&(Lib.contains iu (([c]++x::r).take 2++[32])&&(at8 ([c]++x::r) 0 !=32&&at8 ([c]++x::r) 1 !=32)))=false:=by
       rw[e1,e2,e3,OQ c hx,Bool.and_false]
      rw[hn,h0]
      simp only[cond_false]
      rw[ho]
      exact h
    ·simp only[cond_true]
     intro h
     have hl:w.length=2:=by
      have:=congrArg (fun z=>z.2.2) h
      simpa using this.symm
     obtain⟨c,d,rfl⟩:∃c d,w=[c,d]:=by
      match w,hl with
      |[c,d],_=>exact⟨c,d,rfl⟩
     have hn:(decide ((([c,d]++x::r).length:Int)>1)&&(Lib.contains iu (([c,d]++x::r).take 2++[32])&&(at8 ([c,d]++x::r) 0 !=32&&at8 ([c,d]++x::r) 1 !=32)))=true:=by
      rw[Bool.and_eq_true]at hc⊢
      refine⟨decide_eq_true (by simp;omega),hc.2⟩
     rw[hn]
     exact h
   ·
    simp only[cond_true,cond_false]
    intro h
    obtain⟨c,u,rfl⟩:∃c u,w=c::u:=by
     cases w with
     |nil=>cases hw
     |cons c u=>exact⟨c,u,rfl⟩
    have hq:(eV (c::u++r0)).2=0∧(eV (c::u++r0)).1=u.length+1:=by
     revert h
     cases he:((eV (c::u++r0)).2==0&&decide (((eV (c::u++r0)).1:Int)>256))
     ·simp only[cond_false]
      intro h
      exact⟨congrArg (fun z=>z.2.1) h,congrArg (fun z=>z.2.2) h⟩
     ·simp only[cond_true]
      intro h
      have:=congrArg (fun z=>z.2.1) h
      simp at this
    have hF:cD (c::u++r0).length (u++r0)=(u.length,0):=by
     have e1:(cD (c::u++r0).length (u++r0)).1+1=u.length+1:=hq.2
     have e2:(cD (c::u++r0).length (u++r0)).2=0:=hq.1
     exact Prod.ext (by simp only;omega) e2
    have hF2:=qo _ u r0 hF (c::u++x::r).length (x::r) (by simp;omega)
    have hq2:eV (c::u++x::r)=eV (c::u++r0):=by
     have e3:eV (c::u++x::r)=(u.length+1,0):=by
      show((cD (c::u++x::r).length (u++x::r)).1+1,(cD (c::u++x::r).length (u++x::r)).2)=_
      rw[hF2]
     rw[e3]
     exact Prod.ext hq.2.symm hq.1.symm
    rw[hq2]
    exact h
  ·
   simp only[cond_true,cond_false]
   intro h
   cases hc:(decide (((aF aI (w++r0):Nat):Int)+1<(w++r0).length)&&(at8 (w++r0) (aF aI (w++r0))==46&&aI (at8 (w++r0) (aF aI (w++r0)+1))))
   ·rw[hc]at h
    simp only[cond_false]at h
    have hn:aF aI (w++r0)=w.length:=by
     revert h
     cases decide (((aF aI (w++r0):Nat):Int)>20)
     ·intro h;exact congrArg (fun z=>z.2.2) h
     ·intro h;simp at h
    have hn2:=wS x2 w r0 r (by omega)
    rw[hn]at h
    rw[hn2]
    have e1:(at8 (w++x::r) w.length==46)=false:=by rw[Hi];exact x3
    rw[e1]
    simp only[Bool.false_and,Bool.and_false,cond_false]
    exact h
   ·rw[hc]at h
    simp only[cond_true]at h
    generalize hn:aF aI (w++r0)=n at*
    have hm:n+1+aF aI ((w++r0).drop (n+1))=w.length:=by
     revert h
     cases decide (((n+1+aF aI ((w++r0).drop (n+1)):Nat):Int)>20)
     ·intro h;exact congrArg (fun z=>z.2.2) h
     ·intro h;simp at h
    simp only[Bool.and_eq_true]at hc
    have hd:1≤aF aI ((w++r0).drop (n+1)):=by
     refine v7 ?_ ?_
     ·have:at8 ((w++r0).drop (n+1)) 0=at8 (w++r0) (n+1):=by
       unfold at8
       rw[List.getD_eq_getElem?_getD,List.getD_eq_getElem?_getD,List.getElem?_drop]
      rw[this]
      exact hc.2.2
     ·have:=of_decide_eq_true hc.1
      rw[List.length_drop]
      omega
    have hn2:aF aI (w++x::r)=n:=by
     rw[←hn]
     exact zB w r0 (x::r) (by omega)
    have hdr:∀y:List UInt8,(w++y).drop (n+1)=w.drop (n+1)++y:=fun y=>List.drop_append_of_le_length (by omega)
    have hr2:aF aI ((w++x::r).drop (n+1))=w.length-(n+1):=by
     rw[hdr]
     have:=wS x2 (w.drop (n+1)) r0 r (by rw[←hdr,List.length_drop];omega)
     rw[this,List.length_drop]
    have hc2:(decide (((n:Nat):Int)+1<(w++x::r).length)&&(at8 (w++x::r) n==46&&aI (at8 (w++x::r) (n+1))))=true:=by
     rw[ov r0 (x::r) (by omega:n<w.length),ov r0 (x::r) (by omega:n+1<w.length),hc.2.1,hc.2.2,decide_eq_true (by simp;omega)]
     rfl
    rw[hn2,hc2,hr2]
    simp only[cond_true]
    have e:aF aI ((w++r0).drop (n+1))=w.length-(n+1):=by omega
    rw[e]at h
    exact h
 ·simp only[cond_true]
  intro h
  have hn:aF fA (w++r0)=w.length:=by
   revert h
   cases decide (((aF fA (w++r0):Nat):Int)>64)
   ·intro h;exact congrArg (fun z=>z.2.2) h
   ·intro h;simp at h
  have hn2:=wS x1 w r0 r (by omega)
  rw[hn]at h
  rw[hn2]
  exact h
end Go.Sx.Tryz
namespace Go.Sx.Tryz
open Go Go.Sx
set_option maxRecDepth 100000
inductive Tn where
 |mk (x:Nd) (ks:List Tn)
def c8(x:Nd)(l:List Int):Nd:=mkN (ak x) (nAt x) (nTo x) l (aH x) (al x) (au x) (ah x) (af x) (nN x) (nW1 x) (nW2 x) (aG x)
mutual
def Tn.size:Tn→Nat
 | .mk _ ks=>Tn.sizes ks+1
def Tn.sizes:List Tn→Nat
 |[]=>0
 |t::ts=>t.size+Tn.sizes ts
end
def roots:Nat→List Tn→List Int
 |_,[]=>[]
 |o,t::ts=>(((o+t.size:Nat):Int)-1)::roots (o+t.size) ts
mutual
def Tn.flat:Nat→Tn→List Nd
 |o,.mk x ks=>Tn.flats o ks++[c8 x (roots o ks)]
def Tn.flats:Nat→List Tn→List Nd
 |_,[]=>[]
 |o,t::ts=>t.flat o++Tn.flats (o+t.size) ts
end
mutual
theorem Tn.flat_len:∀(o:Nat) (t:Tn),(t.flat o).length=t.size
 |o,.mk x ks=>by
  unfold Tn.flat Tn.size
  rw[List.length_append,Tn.flats_len o ks]
  rfl
theorem Tn.flats_len:∀(o:Nat) (ts:List Tn),(Tn.flats o ts).length=Tn.sizes ts
 |_,[]=>rfl
 |o,t::ts=>by
  unfold Tn.flats Tn.sizes
  rw[List.length_append,Tn.flat_len o t,Tn.flats_len _ ts]
end
theorem Tn.flats_app:∀(o:Nat) (a b:List Tn),Tn.flats o (a++b)=Tn.flats o a++Tn.flats (o+Tn.sizes a) b
 |o,[],b=>by simp[Tn.flats,Tn.sizes]
 |o,t::a,b=>by
  show Tn.flats o (t::(a++b))=_
  rw[Tn.flats,Tn.flats_app _ a b,Tn.flats,Tn.sizes,List.append_assoc,Nat.add_assoc]
theorem tG:∀(o:Nat) (a b:List Tn),roots o (a++b)=roots o a++roots (o+Tn.sizes a) b
 |o,[],b=>by simp[roots,Tn.sizes]
 |o,t::a,b=>by
  show roots o (t::(a++b))=_
  rw[roots,tG _ a b,roots,Tn.sizes,Nat.add_assoc]
  rfl
theorem b8:∀(o:Nat) (a:List Tn),(roots o a).length=a.length
 |_,[]=>rfl
 |o,t::a=>by simp[roots,b8 _ a]
theorem Tn.flats_one(o:Nat)(t:Tn):Tn.flats o [t]=t.flat o:=by simp[Tn.flats]
theorem Tn.sizes_one(t:Tn):Tn.sizes [t]=t.size:=by simp[Tn.sizes]
def Tn.data:Tn→Nd
 | .mk x _=>x
def Tn.kids:Tn→List Tn
 | .mk _ ks=>ks
inductive TR(α:Type)where
 |ok (y:α) (a d:Int) (n:Nat)
 |fault (c p:Int)
 |bad
def TR.bind{α β:Type}(r:TR α)(k:α→Int→Int→Nat→TR β):TR β:=match r with
 | .ok y a d n=>k y a d n
 | .fault c p=>.fault c p
 | .bad=>.bad
abbrev Tm(α:Type):Type:=Int→Int→Nat→TR α
def Tm.bind{α β:Type}(m:Tm α)(k:α→Tm β):Tm β:=fun a d n=>(m a d n).bind fun y a d n=>k y a d n
def Tm.ret{α:Type}(y:α):Tm α:=fun a d n=>.ok y a d n
def Tm.flt{α:Type}(c p:Int):Tm α:=fun _ _ _=>.fault c p
def Tm.bad{α:Type}:Tm α:=fun _ _ _=>.bad
def lft{α:Type}(m:Pm α):Tm α:=fun a d n=>match m a d []with
 | .ok y a d _=>.ok y a d n
 | .fault c p=>.fault c p
 | .bad=>.bad
def Sf(A:List Nd)(ks:List Tn):List Nd:=A++Tn.flats A.length ks
theorem cd(A:List Nd):Sf A []=A:=by simp[Sf,Tn.flats]
theorem mh(A:List Nd)(ks:List Tn):(Sf A ks).length=A.length+Tn.sizes ks:=by rw[Sf,List.length_append,Tn.flats_len]
theorem Ax(A:List Nd)(ks ls:List Tn):Sf (Sf A ks) ls=Sf A (ks++ls):=by
 rw[Sf,mh,Sf,Sf,Tn.flats_app,List.append_assoc]
theorem yb(A:List Nd)(ks ls:List Tn):roots A.length (ks++ls)=roots A.length ks++roots (Sf A ks).length ls:=by rw[tG,mh]
def RX{α γ:Type}(A:List Nd)(e:Nat→γ→α)(g:γ→List Tn)(r:PR α)(s:TR γ):Prop:=match s with
 | .ok y a d n=>n=(Sf A (g y)).length∧r= .ok (e A.length y) a d (Sf A (g y))
 | .fault c p=>r= .fault c p
 | .bad=>r= .bad
def eI{α:Type}:Nat→α→α:=fun _ y=>y
def gI{α:Type}:α→List Tn:=fun _=>[]
def eT:Nat→Tn→Int:=fun o t=>((o+t.size:Nat):Int)-1
def gT:Tn→List Tn:=fun t=>[t]
def eL:Nat→List Tn→List Int:=roots
def gL:List Tn→List Tn:=fun l=>l
def eM:Nat→Nd×List Tn→Nd:=fun o x=>c8 x.1 (roots o x.2)
def gM:Nd×List Tn→List Tn:=fun x=>x.2
def H{α γ:Type}(e:Nat→γ→α)(g:γ→List Tn)(c:Pm α)(t:Tm γ):Prop:=∀a d A n,n=A.length→RX A e g (c a d A) (t a d n)
def HA{α γ:Type}(A:List Nd)(ks:List Tn)(e:Nat→γ→α)(g:γ→List Tn)(c:Pm α)(t:Tm γ):Prop:=∀a d n,n=(Sf A ks).length→RX A e g (c a d (Sf A ks)) (t a d n)
theorem H.of{α γ:Type}{e:Nat→γ→α}{g:γ→List Tn}{c:Pm α}{t:Tm γ}(h:∀A,HA A [] e g c t):H e g c t:=fun a d A n hn=>by
 have:=h A a d n (by rw[cd];exact hn)
 rwa [cd]at this
theorem H.at{α γ:Type}{e:Nat→γ→α}{g:γ→List Tn}{c:Pm α}{t:Tm γ}(h:H e g c t)(A:List Nd):HA A [] e g c t:=fun a d n hn=>by
 rw[cd]at hn⊢
 exact h a d A n hn
theorem RX.bind{α β γ δ:Type}{A B:List Nd}{e:Nat→γ→α}{g:γ→List Tn}{r:PR α}{s:TR γ}{e':Nat→δ→β}{g':δ→List Tn}{k:α→Int→Int→List Nd→PR β}{k':γ→Int→Int→Nat→TR δ}(h:RX B e g r s)
  (hk:∀y a d n,n=(Sf B (g y)).length→RX A e' g' (k (e B.length y) a d (Sf B (g y))) (k' y a d n)):RX A e' g' (r.bind k) (s.bind k'):=by
 cases s with
 |ok y a d n=>
  obtain⟨h1,h2⟩:=h
  rw[h2]
  exact hk y a d n h1
 |fault c p=>
  have h:r= .fault c p:=h
  rw[h]
  exact(rfl:PR.fault c p=PR.fault c p)
 |bad=>
  have h:r= .bad:=h
  rw[h]
  exact(rfl:(PR.bad:PR β)=PR.bad)
section
variable{α β γ δ:Type}{A:List Nd}{ks:List Tn}{e:Nat→γ→α}{g:γ→List Tn}{e':Nat→δ→β}{g':δ→List Tn}
theorem HA.bind{c:Pm α}{t:Tm γ}{k:α→Pm β}{k':γ→Tm δ}(h:H e g c t)(hk:∀y,HA A (ks++g y) e' g' (k (e (Sf A ks).length y)) (k' y)):HA A ks e' g' (c.bind k) (t.bind k'):=fun a d n hn=>
 RX.bind (h a d _ n hn) fun y a d n hn=>by
  rw[Ax]at hn⊢
  exact hk y a d n hn
theorem HA.bif{b:Bool}{c c':Pm α}{t t':Tm γ}(h:b=true→HA A ks e g c t)(h':b=false→HA A ks e g c' t'):HA A ks e g (bif b then c else c') (bif b then t else t'):=by
 cases b
 ·exact h' rfl
 ·exact h rfl
theorem HA.ret{v:α}{y:γ}(h:v=e A.length y)(h':g y=ks):HA A ks e g (.ret v) (.ret y):=fun a d n hn=>by
 subst h h'
 exact⟨hn,rfl⟩
theorem HA.flt{c p:Int}:HA A ks e g (.flt c p:Pm α) (.flt c p:Tm γ):=fun _ _ _ _=>(rfl:(PR.fault c p:PR α)= .fault c p)
theorem HA.bad:HA A ks e g (.bad:Pm α) (.bad:Tm γ):=fun _ _ _ _=>(rfl:(PR.bad:PR α)= .bad)
end
def Fre{α:Type}(m:Pm α):Prop:=∀a d A,m a d A=match m a d []with
 | .ok y a d _=>.ok y a d A
 | .fault c p=>.fault c p
 | .bad=>.bad
theorem Fre.h{α:Type}{m:Pm α}(h:Fre m):H eI gI m (lft m):=fun a d A n hn=>by
 subst hn
 rw[h a d A]
 unfold lft
 cases m a d []with
 |ok y a d _=>exact⟨by rw[gI,cd],by rw[gI,cd,eI]⟩
 |fault c p=>exact(rfl:PR.fault c p=PR.fault c p)
 |bad=>exact(rfl:(PR.bad:PR α)=PR.bad)
theorem HA.free{α β δ:Type}{A:List Nd}{ks:List Tn}{e':Nat→δ→β}{g':δ→List Tn}{m:Pm α}{k:α→Pm β}{k':α→Tm δ}(h:Fre m)(hk:∀y,HA A ks e' g' (k y) (k' y)):HA A ks e' g' (m.bind k) ((lft m).bind k'):=
 HA.bind h.h fun y=>by
  have:=hk y
  rwa [show ks++gI y=ks from List.append_nil ks]
theorem Fre.bind{α β:Type}{m:Pm α}{k:α→Pm β}(h:Fre m)(hk:∀y,Fre (k y)):Fre (m.bind k):=fun a d A=>by
 unfold Pm.bind
 rw[h a d A]
 cases m a d []with
 |ok y a' d' A'=>
  simp only[PR.bind]
  rw[hk y a' d' A,hk y a' d' A']
  cases k y a' d' []<;>rfl
 |fault c p=>rfl
 |bad=>rfl
theorem Fre.ret{α:Type}{y:α}:Fre (.ret y:Pm α):=fun _ _ _=>rfl
theorem Fre.flt{α:Type}{c p:Int}:Fre (.flt c p:Pm α):=fun _ _ _=>rfl
theorem Fre.bad{α:Type}:Fre (.bad:Pm α):=fun _ _ _=>rfl
theorem Fre.bif{α:Type}{c:Bool}{m m':Pm α}(h:Fre m)(h':Fre m'):Fre (bif c then m else m'):=by cases c<;>assumption
section
variable(T:List UInt8)(K:List Tok)
theorem cb:Fre (bM T K):=fun _ _ _=>rfl
theorem nG(n:Int):Fre (eP T K n):=fun a d A=>by
 unfold eP
 cases decide (a+n≥(K.length:Int))<;>rfl
theorem bE:Fre (aW K):=fun a d A=>by
 unfold aW
 cases ai (aa K a) !=0<;>rfl
theorem lL(s:Str):Fre (cIs T K s):=(cb T K).bind fun _=>.ret
theorem dB(s:Str):Fre (bU T K s):=(lL T K s).bind fun _=>.bif ((bE K).bind fun _=>.ret) .ret
theorem bm(s:Str):Fre (aM T K s):=(lL T K s).bind fun _=>.bif (bE K) ((cb T K).bind fun _=>.flt)
theorem kQ:Fre (cW T K):=(cb T K).bind fun _=>.bif ((bE K).bind fun _=>.ret) .flt
theorem vB:Fre (fJ K):=fun a d A=>by
 unfold fJ
 cases decide (d+1>60)<;>rfl
theorem Ao:Fre rO:=fun _ _ _=>rfl
theorem vC(n:Int):Fre (gG K n):=fun a d A=>by
 unfold gG
 cases decide (n>64)<;>rfl
theorem Md:Fre (nh T K):=(cb T K).bind fun _=>.bif
 (.bif ((bE K).bind fun _=>.ret) (.bif ((bE K).bind fun _=>.ret) (.bif ((bE K).bind fun _=>.ret) (.bif ((bE K).bind fun _=>.ret) (.bif ((bE K).bind fun _=>.ret) .flt))))) .flt
theorem o5:∀(n:Nat) (x:Nd),Fre (dE T K n x)
 |0,_=>.bad
 |n+1,x=>(cb T K).bind fun _=>(lL T K _).bind fun _=>.bif (.bif .flt ((bE K).bind fun _=>o5 n _))
  ((nG T K _).bind fun _=>(lL T K _).bind fun _=>.bif (.bif .flt ((bE K).bind fun _=>(bE K).bind fun _=>o5 n _)) .ret)
theorem rK:Fre (dW T K):=(Md T K).bind fun _=>o5 T K _ _
theorem nY(v:Bool):Fre (cF T K v):=(cb T K).bind fun _=>.bif
 ((bE K).bind fun _=>(bm T K _).bind fun _=>(rK T K).bind fun _=>(bm T K _).bind fun _=>.bif .flt .ret)
 (.bif ((bE K).bind fun _=>.ret) (rK T K))
theorem zo:Fre (dc T K):=(nG T K _).bind fun _=>.bif .ret (.bif ((nG T K _).bind fun _=>(nG T K _).bind fun _=>.ret) .ret)
def cx(x:Nd)(f:Int)(ks:List Tn):Tm Tn:=fun a d n=>bif decide ((n:Int)≥8192)then .fault 2 f else .ok (.mk (cJ x f (fj K a f)) ks) a d (n+1)
variable{K}
theorem qI(A:List Nd)(x:Nd)(ks:List Tn):Sf A [.mk x ks]=Sf A ks++[c8 x (roots A.length ks)]:=by
 rw[Sf,Tn.flats_one,Tn.flat,Sf,List.append_assoc]
theorem HA.add{A:List Nd}{ks:List Tn}{X x:Nd}{f:Int}(hX:X=c8 x (roots A.length ks)):HA A ks eT gT (bS K X f) (cx K x f ks):=fun a d n hn=>by
 subst hX
 unfold bS cx
 rw[←hn]
 cases decide ((n:Int)≥8192)
 ·refine⟨?_,?_⟩
  ·rw[gT,qI,List.length_append,←hn]
   rfl
  ·show PR.ok _ _ _ _=PR.ok _ _ _ _
   rw[gT,qI,eT,hn,mh]
   have:((A.length+(Tn.mk (cJ x f (fj K a f)) ks).size:Nat):Int)-1=((A.length+Tn.sizes ks:Nat):Int):=by
    rw[Tn.size]
    omega
   rw[this]
   rfl
 ·exact(rfl:PR.fault 2 f=PR.fault 2 f)
theorem HA.addBind{β δ:Type}{A:List Nd}{ks:List Tn}{e':Nat→δ→β}{g':δ→List Tn}{X x:Nd}{f:Int}{k:Int→Pm β}{k':Tn→Tm δ}(hX:X=c8 x (roots A.length ks))(hk:∀z,HA A [z] e' g' (k (eT A.length z)) (k' z)):
  HA A ks e' g' ((bS K X f).bind k) ((cx K x f ks).bind k'):=fun a d n hn=>RX.bind (HA.add hX a d n hn) fun y a d n hn=>hk y a d n hn
theorem H.add{X x:Nd}{f:Int}(hX:X=c8 x []):H eT gT (bS K X f) (cx K x f []):=H.of fun _=>HA.add hX
theorem rt2(A:List Nd)(x y:Tn):[eT A.length x,eT (Sf A [x]).length y]=roots A.length [x,y]:=by
 rw[mh,Tn.sizes_one]
 rfl
theorem rt3(A:List Nd)(x y z:Tn):[eT A.length x,eT (Sf A [x]).length y,eT (Sf A [x,y]).length z]=roots A.length [x,y,z]:=by
 have e1:Tn.sizes [x]=x.size:=Tn.sizes_one x
 have e2:Tn.sizes [x,y]=x.size+y.size:=by simp[Tn.sizes]
 rw[mh,mh,e1,e2,←Nat.add_assoc]
 rfl
theorem rtS(A:List Nd)(ks:List Tn)(y:Tn):roots A.length ks++[eT (Sf A ks).length y]=roots A.length (ks++[y]):=by
 rw[yb]
 rfl
end
end Go.Sx.Tryz
namespace Go.Sx.Tryz
open Go Go.Sx
set_option maxRecDepth 100000
structure Kt where
 val:Tm Tn
 blk:Tm Tn
 un:Tm Tn
section
variable(T:List UInt8)(K:List Tok)(q:Kt)
def du:Tm Tn:=(lft (aM T K [40])).bind fun _=>q.val.bind fun x=>(lft (aM T K [41])).bind fun _=>.ret x
def comma(l:Nat):Pm Unit:=bif decide ((l:Int)>0)then(aM T K [44]).bind fun _=>.ret ()else .ret ()
def lR:Nat→List Tn→Tm (List Tn)
 |0,_=>.bad
 |n+1,L=>(lft (bU T K [41])).bind fun b=>bif b then .ret L
  else(lft (comma T K L.length)).bind fun _=>(lft (gG K ((L.length:Int)+1))).bind fun _=>q.val.bind fun x=>lR n (L++[x])
def pA:Tm (List Tn):=(lft (aM T K [40])).bind fun _=>lR T K q (K.length+2) []
def lY(x:Nd)(e:Int):Tm Tn:=(lft (bM T K)).bind fun t=>bif e !=0 then .flt e (ab t.1)else(lft (aW K)).bind fun _=>cx K x (ab t.1) []
def tE:Tm (Nd×List Tn):=(lft (dW T K)).bind fun x=>(lft (cIs T K [40])).bind fun b=>bif b then
  (bif al x !=5||(decide (ah x>0)|| !Lib.trimB (af x) 32==[])then .flt 5 (nW1 x)else(pA T K q).bind fun l=>.ret (bL x 30 [] (aH x),l))
 else(lft (aM T K [91])).bind fun _=>q.val.bind fun y=>(lft (aM T K [93])).bind fun _=>.ret (bL x 31 [] (aH x),[y])
def vk(t:Tok)(s:Str):Tm Tn:=
 bif s==[116,114,117,101]then lY T K (eu 21 1 []) 0
 else bif s==[102,97,108,115,101]then lY T K (eu 21 0 []) 0
 else bif s==[110,117,108,108]then lY T K (eu 23 0 []) 0
 else bif s==[110,111,110,101]then lY T K (eu 42 0 []) 0
 else bif s==[116,104,105,115]then lY T K (eu 24 0 []) 0
 else bif s==[105,110,112,117,116]then(lft (aW K)).bind fun _=>(lft (aM T K [40])).bind fun _=>(lft (aM T K [41])).bind fun _=>cx K (nod 38 [] []) (ab t) []
 else bif isWrap s then(lft (aW K)).bind fun _=>(du T K q).bind fun x=>cx K (nod (pR s) [] []) (ab t) [x]
 else bif s==[99,97,115,116]then(lft (aW K)).bind fun _=>(lft (aM T K [60])).bind fun _=>(lft (cF T K false)).bind fun x=>(lft (aM T K [62])).bind fun _=>(du T K q).bind fun y=>cx K (bL x 35 [] (aH x)) (ab t) [y]
 else bif s==[110,101,119]then(lft (aW K)).bind fun _=>(tE T K q).bind fun x=>cx K x.1 (ab t) x.2
 else .flt 80 (ab t)
def iv:Tm Tn:=(lft (bM T K)).bind fun t=>
 bif ai t.1==2 then lY T K (eu 19 (lx t.2).1 []) (lx t.2).2
 else bif ai t.1==3 then lY T K (eu 20 (IntKind.wrap .i64 (nA t.2).1) t.2) (nA t.2).2
 else bif ai t.1==4 then lY T K (eu 22 0 (lT t.2).1) (lT t.2).2
 else bif ai t.1==5 then(bif t.2==[40]then du T K q else .flt 80 (ab t.1))
 else bif ai t.1==1 then(bif bV t.2 then lY T K (eu 25 0 t.2) 0 else vk T K q t.1 t.2)
 else .flt 80 (ab t.1)
def tu(x:Tn)(f:Int):Tm Tn:=(lft (bU T K [108,101,110,103,116,104])).bind fun b=>bif b then cx K (nod 28 [] []) f [x]
 else(lft (bU T K [118,97,108])).bind fun b=>bif b then cx K (nod 45 [] []) f [x]
 else(lft (cW T K)).bind fun s=>(lft (cIs T K [40])).bind fun b=>bif b then(pA T K q).bind fun l=>cx K (nod 29 [] s) f (x::l)else cx K (nod 26 [] s) f [x]
def eS(f:Int):Nat→Tn→Tm Tn
 |0,_=>.bad
 |n+1,x=>(lft (bU T K [33])).bind fun b=>bif b then(cx K (nod 40 [] []) f [x]).bind fun y=>eS f n y
  else(lft (bU T K [91])).bind fun b=>bif b then q.val.bind fun y=>(lft (aM T K [93])).bind fun _=>(cx K (nod 27 [] []) f [x,y]).bind fun y=>eS f n y
  else(lft (bU T K [46])).bind fun b=>bif b then(tu T K q x f).bind fun y=>eS f n y
  else .ret x
def kH:Tm Tn:=(lft (bM T K)).bind fun t=>(iv T K q).bind fun x=>eS T K q (ab t.1) (K.length+2) x
def om:Tm Tn:=(lft (bM T K)).bind fun t=>bif ai t.1==5&&(t.2==[33]||t.2==[45])then
  ((lft (fJ K)).bind fun _=>(lft (aW K)).bind fun _=>q.un.bind fun x=>(lft rO).bind fun _=>cx K (nod (bif t.2==[45]then 32 else 33) [] []) (ab t.1) [x])
 else kH T K q
def fO(least f:Int)(sub:Tm Tn):Nat→Tn→Tm Tn
 |0,_=>.bad
 |n+1,x=>(lft (bM T K)).bind fun t=>bif ai t.1==5&&ie t.2==least then
   ((lft (aW K)).bind fun _=>sub.bind fun y=>(cx K (nod 34 [] t.2) f [x,y]).bind fun z=>fO least f sub n z)
  else bif least==3 then((lft (bU T K [105,115])).bind fun b=>bif b then
    ((lft (bU T K [115,111,109,101])).bind fun b=>bif b then(cx K (nod 43 [] []) f [x]).bind fun z=>fO least f sub n z
     else(lft (aM T K [110,111,110,101])).bind fun _=>(cx K (nod 44 [] []) f [x]).bind fun z=>fO least f sub n z)
    else .ret x)
  else .ret x
def kf:Nat→Tm Tn
 |0=>(lft (bM T K)).bind fun _=>q.un
 |j+1=>(lft (bM T K)).bind fun t=>(kf j).bind fun x=>fO T K (5-(j:Int)) (ab t.1) (kf j) (K.length+2) x
def oR:Tm Tn:=(lft (fJ K)).bind fun _=>(kf T K q 6).bind fun x=>(lft rO).bind fun _=>.ret x
def rN(s:Str):Tm ((Nd×List Tn)×Bool):=
 bif s==[105,102]then(lft (aW K)).bind fun _=>(du T K q).bind fun x=>q.blk.bind fun y=>(lft (bU T K [101,108,115,101])).bind fun b=>bif b then q.blk.bind fun z=>.ret ((nod 11 [] [],[x,y,z]),true)else .ret ((nod 11 [] [],[x,y]),true)
 else bif s==[119,104,105,108,101]then(lft (aW K)).bind fun _=>(du T K q).bind fun x=>q.blk.bind fun y=>.ret ((nod 12 [] [],[x,y]),true)
 else bif s==[98,114,101,97,107]then(lft (aW K)).bind fun _=>(lft (aM T K [59])).bind fun _=>.ret ((nod 13 [] [],[]),true)
 else bif s==[99,111,110,116,105,110,117,101]then(lft (aW K)).bind fun _=>(lft (aM T K [59])).bind fun _=>.ret ((nod 14 [] [],[]),true)
 else bif s==[114,101,116,117,114,110]then(lft (aW K)).bind fun _=>(lft (cIs T K [59])).bind fun b=>bif b then(lft (aM T K [59])).bind fun _=>.ret ((nod 15 [] [],[]),true)else q.val.bind fun x=>(lft (aM T K [59])).bind fun _=>.ret ((nod 15 [] [],[x]),true)
 else bif s==[112,114,105,110,116]then(lft (aW K)).bind fun _=>(du T K q).bind fun x=>(lft (aM T K [59])).bind fun _=>.ret ((nod 16 [] [],[x]),true)
 else bif s==[115,117,112,101,114]then(lft (aW K)).bind fun _=>(pA T K q).bind fun l=>(lft (aM T K [59])).bind fun _=>.ret ((nod 17 [] [],l),true)
 else .ret ((nod 0 [] [],[]),false)
def l7(f:Int):Tm Tn:=q.val.bind fun x=>(lft (bM T K)).bind fun t=>(lft (bU T K [61])).bind fun b=>bif b then
  (bif ak x.data==25||(ak x.data==26||ak x.data==27)then q.val.bind fun y=>(lft (aM T K [59])).bind fun _=>cx K (nod 10 [] []) f [x,y]else .flt 132 (ab t.1))
 else bif ak x.data==29||ak x.data==30 then(lft (aM T K [59])).bind fun _=>cx K (nod 18 [] []) f [x]else .flt 132 f
def vi:Tm Tn:=(lft (bM T K)).bind fun t=>bif ai t.1==5&&t.2==[123]then q.blk
 else(lft (dc T K)).bind fun b=>bif b then
  ((lft (cF T K false)).bind fun x=>(lft (cW T K)).bind fun s=>(lft (bU T K [61])).bind fun b=>bif b then q.val.bind fun y=>(lft (aM T K [59])).bind fun _=>cx K (bL x 9 [] s) (ab t.1) [y]
   else(lft (aM T K [59])).bind fun _=>cx K (bL x 9 [] s) (ab t.1) [])
 else bif ai t.1==1 then(rN T K q t.2).bind fun w=>bif w.2 then cx K w.1.1 (ab t.1) w.1.2 else l7 T K q (ab t.1)
 else l7 T K q (ab t.1)
def jg(f:Int):Nat→List Tn→Tm Tn
 |0,_=>.bad
 |n+1,L=>(lft (cIs T K [125])).bind fun b=>bif b then(lft (aM T K [125])).bind fun _=>(lft rO).bind fun _=>cx K (nod 8 [] []) f L
  else(vi T K q).bind fun x=>jg f n (L++[x])
def oX:Tm Tn:=(lft (bM T K)).bind fun t=>(lft (fJ K)).bind fun _=>(lft (aM T K [123])).bind fun _=>jg T K q (ab t.1) (K.length+2) []
end
def knt(T:List UInt8)(K:List Tok):Nat→Kt
 |0=>⟨.bad,.bad,.bad⟩
 |n+1=>⟨oR T K (knt T K n),oX T K (knt T K n),om T K (knt T K n)⟩
section
variable(T:List UInt8)(K:List Tok)(q:Kt)
def gf:Nat→List Tn→Tm (List Tn)
 |0,_=>.bad
 |n+1,L=>(lft (bU T K [41])).bind fun b=>bif b then .ret L
  else(lft (comma T K L.length)).bind fun _=>(lft (gG K ((L.length:Int)+1))).bind fun _=>(lft (bM T K)).bind fun t=>(lft (cF T K false)).bind fun x=>(lft (cW T K)).bind fun s=>(cx K (bL x 7 [] s) (ab t.1) []).bind fun y=>gf n (L++[y])
def jk:Tm (List Tn):=(lft (aM T K [40])).bind fun _=>gf T K (K.length+2) []
def kV:Tm Tn:=(lft (bM T K)).bind fun t=>bif ai t.1==1&&t.2==[105,110,105,116]then
  ((lft (aW K)).bind fun _=>(jk T K).bind fun l=>q.blk.bind fun b=>cx K (nod 5 [] []) (ab t.1) (l++[b]))
 else(lft (cF T K true)).bind fun x=>(lft (cW T K)).bind fun s=>(lft (cIs T K [40])).bind fun b=>bif b then
   ((jk T K).bind fun l=>q.blk.bind fun b=>cx K (bL x 6 [] s) (ab t.1) (l++[b]))
  else bif al x==6 then .flt 80 (ab t.1)else(lft (aM T K [59])).bind fun _=>cx K (bL x 4 [] s) (ab t.1) []
def gP(f:Int)(s:Str):Nat→List Tn→Tm Tn
 |0,_=>.bad
 |n+1,L=>(lft (cIs T K [125])).bind fun b=>bif b then(lft (aM T K [125])).bind fun _=>cx K (nod 2 [] s) f L
  else(lft (gG K ((L.length:Int)+1))).bind fun _=>(kV T K q).bind fun x=>gP f s n (L++[x])
def fD:Tm Tn:=(lft (bM T K)).bind fun t=>(lft (aM T K [99,108,97,115,115])).bind fun _=>(lft (cW T K)).bind fun s=>(lft (bM T K)).bind fun u=>(lft (bU T K [101,120,116,101,110,100,115])).bind fun b=>bif b then
  ((lft (cW T K)).bind fun e=>(cx K (nod 3 [] e) (ab u.1) []).bind fun y=>(lft (aM T K [123])).bind fun _=>gP T K q (ab t.1) s (K.length+2) [y])
 else(lft (aM T K [123])).bind fun _=>gP T K q (ab t.1) s (K.length+2) []
def bb:Nat→List Tn→Tm Tn
 |0,_=>.bad
 |n+1,L=>(lft (bM T K)).bind fun t=>bif ai t.1==0 then cx K (nod 1 [] []) 0 L
  else(lft (gG K ((L.length:Int)+1))).bind fun _=>(fD T K q).bind fun x=>bb n (L++[x])
def yk:Tm Tn:=bb T K q (K.length+2) []
end
end Go.Sx.Tryz
namespace Go.Sx.Tryz
open Go Go.Sx
set_option maxRecDepth 100000
variable{T:List UInt8}{K:List Tok}{q:Kn}{p:Kt}
structure HK(q:Kn)(p:Kt):Prop where
 val:H eT gT q.val p.val
 blk:H eT gT q.blk p.blk
 un:H eT gT q.un p.un
theorem zc(l:Nat):Fre (comma T K l):=.bif ((bm T K _).bind fun _=>.ret) .ret
def Ens{α:Type}(m:Pm α)(Q:α→Prop):Prop:=∀a d A,match m a d A with
 | .ok y _ _ _=>Q y
 |_=>True
theorem Ens.bind{α β:Type}{m:Pm α}{k:α→Pm β}{Q:α→Prop}{Q':β→Prop}(h:Ens m Q)(hk:∀y,Q y→Ens (k y) Q'):Ens (m.bind k) Q':=fun a d A=>by
 have:=h a d A
 unfold Pm.bind
 cases e:m a d A with
 |ok y a' d' A'=>
  rw[e]at this
  exact hk y this a' d' A'
 |fault c p=>trivial
 |bad=>trivial
theorem Ens.any{α:Type}(m:Pm α):Ens m fun _=>True:=fun a d A=>by cases m a d A<;>trivial
theorem Ens.ret{α:Type}{y:α}{Q:α→Prop}(h:Q y):Ens (.ret y:Pm α) Q:=fun _ _ _=>h
theorem Ens.flt{α:Type}{c p:Int}{Q:α→Prop}:Ens (.flt c p:Pm α) Q:=fun _ _ _=>trivial
theorem Ens.bad{α:Type}{Q:α→Prop}:Ens (.bad:Pm α) Q:=fun _ _ _=>trivial
theorem Ens.bif{α:Type}{c:Bool}{m m':Pm α}{Q:α→Prop}(h:c=true→Ens m Q)(h':c=false→Ens m' Q):Ens (bif c then m else m') Q:=by
 cases c
 ·exact h' rfl
 ·exact h rfl
theorem Ens.then{α β:Type}{m:Pm α}{k:α→Pm β}{Q':β→Prop}(hk:∀y,Ens (k y) Q'):Ens (m.bind k) Q':=Ens.bind (Ens.any m) fun y _=>hk y
theorem HA.freeQ{α β δ:Type}{A:List Nd}{ks:List Tn}{e':Nat→δ→β}{g':δ→List Tn}{m:Pm α}{Q:α→Prop}{k:α→Pm β}{k':α→Tm δ}(h:Fre m)(hq:Ens m Q)(hk:∀y,Q y→HA A ks e' g' (k y) (k' y)):HA A ks e' g' (m.bind k) ((lft m).bind k'):=fun a d n hn=>by
 subst hn
 have hq:=hq a d []
 show RX A e' g' ((m a d (Sf A ks)).bind _) ((lft m a d _).bind _)
 rw[h a d (Sf A ks)]
 unfold lft
 cases e:m a d []with
 |ok y a' d' A'=>
  rw[e]at hq
  exact hk y hq a' d' _ rfl
 |fault c p=>exact(rfl:(PR.fault c p:PR β)= .fault c p)
 |bad=>exact(rfl:(PR.bad:PR β)= .bad)
def ca{α:Type}(m:Tm α)(Q:α→Prop):Prop:=∀a d n,match m a d n with
 | .ok y _ _ _=>Q y
 |_=>True
theorem ca.bind{α β:Type}{m:Tm α}{k:α→Tm β}{Q:α→Prop}{Q':β→Prop}(h:ca m Q)(hk:∀y,Q y→ca (k y) Q'):ca (m.bind k) Q':=fun a d n=>by
 have:=h a d n
 unfold Tm.bind
 cases e:m a d n with
 |ok y a' d' n'=>
  rw[e]at this
  exact hk y this a' d' n'
 |fault c p=>trivial
 |bad=>trivial
theorem ca.any{α:Type}(m:Tm α):ca m fun _=>True:=fun a d n=>by cases m a d n<;>trivial
theorem ca.ret{α:Type}{y:α}{Q:α→Prop}(h:Q y):ca (.ret y:Tm α) Q:=fun _ _ _=>h
theorem ca.flt{α:Type}{c p:Int}{Q:α→Prop}:ca (.flt c p:Tm α) Q:=fun _ _ _=>trivial
theorem ca.bad{α:Type}{Q:α→Prop}:ca (.bad:Tm α) Q:=fun _ _ _=>trivial
theorem ca.bif{α:Type}{c:Bool}{m m':Tm α}{Q:α→Prop}(h:c=true→ca m Q)(h':c=false→ca m' Q):ca (bif c then m else m') Q:=by
 cases c
 ·exact h' rfl
 ·exact h rfl
theorem ca.then{α β:Type}{m:Tm α}{k:α→Tm β}{Q':β→Prop}(hk:∀y,ca (k y) Q'):ca (m.bind k) Q':=ca.bind (ca.any m) fun y _=>hk y
theorem HA.bindQ{α β γ δ:Type}{A:List Nd}{ks:List Tn}{e:Nat→γ→α}{g:γ→List Tn}{e':Nat→δ→β}{g':δ→List Tn}{c:Pm α}{t:Tm γ}{Q:γ→Prop}{k:α→Pm β}{k':γ→Tm δ}(h:H e g c t)(hq:ca t Q)(hk:∀y,Q y→HA A (ks++g y) e' g' (k (e (Sf A ks).length y)) (k' y)):HA A ks e' g' (c.bind k) (t.bind k'):=fun a d n hn=>by
 have h1:=h a d _ n hn
 have h2:=hq a d n
 show RX A e' g' ((c a d (Sf A ks)).bind _) ((t a d n).bind _)
 cases et:t a d n with
 |ok y a' d' n'=>
  rw[et]at h1 h2
  obtain⟨h3,h4⟩:=h1
  rw[h4,Ax]
  rw[Ax]at h3
  exact hk y h2 a' d' n' h3
 |fault c' p=>
  rw[et]at h1
  have h1:c a d (Sf A ks)= .fault c' p:=h1
  rw[h1]
  exact(rfl:(PR.fault c' p:PR β)= .fault c' p)
 |bad=>
  rw[et]at h1
  have h1:c a d (Sf A ks)= .bad:=h1
  rw[h1]
  exact(rfl:(PR.bad:PR β)= .bad)
def k0(x:Nd):Prop:=aj x=[]
theorem Li:Ens (nh T K) k0:=.then fun t=>.bif (fun _=>.bif (fun _=>.then fun _=>.ret rfl) fun _=>.bif (fun _=>.then fun _=>.ret rfl) fun _=>.bif (fun _=>.then fun _=>.ret rfl) fun _=>.bif (fun _=>.then fun _=>.ret rfl) fun _=>.bif (fun _=>.then fun _=>.ret rfl) fun _=>.flt) fun _=>.flt
theorem oN:∀(n:Nat) (x:Nd),k0 x→Ens (dE T K n x) k0
 |0,_,_=>.bad
 |n+1,x,h=>.then fun _=>.then fun _=>.bif (fun _=>.bif (fun _=>.flt) fun _=>.then fun _=>oN n _ h) fun _=>.then fun _=>.then fun _=>.bif (fun _=>.bif (fun _=>.flt) fun _=>.then fun _=>.then fun _=>oN n _ h) fun _=>.ret h
theorem xX:Ens (dW T K) k0:=.bind Li fun x h=>oN _ x h
theorem rm(v:Bool):Ens (cF T K v) k0:=.then fun _=>.bif (fun _=>.then fun _=>.then fun _=>.bind xX fun x h=>.then fun _=>.bif (fun _=>.flt) fun _=>.ret h) fun _=>.bif (fun _=>.then fun _=>.ret rfl) fun _=>xX
theorem AT{x:Nd}(h:k0 x)(k:Int)(s:Str):bL x k (aj x) s=c8 (bL x k [] s) []:=by
 rw[h]
 rfl
theorem r1{A:List Nd}{x:Tn}{k:Int}{w:Str}:nod k [eT A.length x] w=c8 (nod k [] w) (roots A.length [x]):=rfl
theorem fU(h:HK q p):H eT gT (dO T K q) (du T K p):=H.of fun A=>
 HA.free (bm T K _) fun _=>HA.bind h.val fun x=>HA.free (bm T K _) fun _=>HA.ret (by rw[cd]) rfl
theorem BS(h:HK q p)(A:List Nd):∀(n:Nat) (ks:List Tn),HA A ks eL gL (oH T K q n (roots A.length ks)) (lR T K p n ks)
 |0,_=>HA.bad
 |n+1,ks=>by
  have e:(roots A.length ks).length=ks.length:=b8 _ _
  refine HA.free (dB T K _) fun b=>HA.bif (fun _=>HA.ret rfl rfl) fun _=>?_
  rw[e]
  refine HA.free (zc _) fun _=>HA.free (vC K _) fun _=>HA.bind h.val fun x=>?_
  rw[rtS]
  exact BS h A n (ks++[x])
theorem AK(h:HK q p):H eL gL (uC T K q) (pA T K p):=H.of fun A=>HA.free (bm T K _) fun _=>BS h A _ []
theorem mU{X x:Nd}{e:Int}(hX:X=c8 x []):H eT gT (oP T K X e) (lY T K x e):=H.of fun A=>
 HA.free (cb T K) fun _=>HA.bif (fun _=>HA.flt) fun _=>HA.free (bE K) fun _=>HA.add hX
theorem Qc(h:HK q p):H eM gM (CF T K q) (tE T K p):=H.of fun A=>by
 refine HA.free (rK T K) fun x=>HA.free (lL T K _) fun b=>HA.bif (fun _=>HA.bif (fun _=>HA.flt) fun _=>HA.bind (AK h) fun l=>HA.ret ?_ rfl) fun _=>HA.free (bm T K _) fun _=>HA.bind h.val fun y=>HA.free (bm T K _) fun _=>HA.ret ?_ rfl
 ·rw[cd];rfl
 ·rw[cd];rfl
theorem NP(h:HK q p)(t:Tok)(s:Str):H eT gT (B8 T K q t s) (vk T K p t s):=H.of fun A=>by
 refine HA.bif (fun _=>(mU rfl).at A) fun _=>HA.bif (fun _=>(mU rfl).at A) fun _=>HA.bif (fun _=>(mU rfl).at A) fun _=>HA.bif (fun _=>(mU rfl).at A) fun _=>HA.bif (fun _=>(mU rfl).at A) fun _=>?_
 refine HA.bif (fun _=>HA.free (bE K) fun _=>HA.free (bm T K _) fun _=>HA.free (bm T K _) fun _=>HA.add rfl) fun _=>?_
 refine HA.bif (fun _=>HA.free (bE K) fun _=>HA.bind (fU h) fun x=>HA.add (by rw[cd];rfl)) fun _=>?_
 refine HA.bif (fun _=>HA.free (bE K) fun _=>HA.free (bm T K _) fun _=>HA.free (nY T K _) fun _=>HA.free (bm T K _) fun _=>HA.bind (fU h) fun x=>HA.add (by rw[cd];rfl)) fun _=>?_
 exact HA.bif (fun _=>HA.free (bE K) fun _=>HA.bind (Qc h) fun x=>HA.add (by rw[cd];rfl)) fun _=>HA.flt
theorem Dv(h:HK q p):H eT gT (nC T K q) (iv T K p):=H.of fun A=>
 HA.free (cb T K) fun _=>HA.bif (fun _=>(mU rfl).at A) fun _=>HA.bif (fun _=>(mU rfl).at A) fun _=>HA.bif (fun _=>(mU rfl).at A) fun _=>
  HA.bif (fun _=>HA.bif (fun _=>(fU h).at A) fun _=>HA.flt) fun _=>HA.bif (fun _=>HA.bif (fun _=>(mU rfl).at A) fun _=>(NP h _ _).at A) fun _=>HA.flt
theorem PV(h:HK q p)(A:List Nd)(x:Tn)(f:Int):HA A [x] eT gT (BL T K q (eT A.length x) f) (tu T K p x f):=by
 refine HA.free (dB T K _) fun _=>HA.bif (fun _=>HA.add rfl) fun _=>HA.free (dB T K _) fun _=>HA.bif (fun _=>HA.add rfl) fun _=>?_
 refine HA.free (kQ T K) fun s=>HA.free (lL T K _) fun _=>HA.bif (fun _=>HA.bind (AK h) fun l=>HA.add ?_) fun _=>HA.add rfl
 show nod 29 ([eT A.length x]++roots (Sf A [x]).length l) s=c8 (nod 29 [] s) (roots A.length ([x]++l))
 rw[yb]
 rfl
theorem kP(h:HK q p)(f:Int)(A:List Nd):∀(n:Nat) (x:Tn),HA A [x] eT gT (fw T K q f n (eT A.length x)) (eS T K p f n x)
 |0,_=>HA.bad
 |n+1,x=>by
  refine HA.free (dB T K _) fun _=>HA.bif (fun _=>HA.addBind rfl fun z=>kP h f A n z) fun _=>?_
  refine HA.free (dB T K _) fun _=>HA.bif (fun _=>HA.bind h.val fun y=>HA.free (bm T K _) fun _=>HA.addBind ?_ fun z=>kP h f A n z) fun _=>?_
  ·show nod 27 [eT A.length x,eT (Sf A [x]).length y] []=_
   rw[rt2]
   rfl
  refine HA.free (dB T K _) fun _=>HA.bif (fun _=>fun a d n' hn=>?_) fun _=>HA.ret rfl rfl
  exact RX.bind (PV h A x f a d n' hn) fun y a d n' hn=>kP h f A n y a d n' hn
theorem F4(h:HK q p):H eT gT (nV T K q) (kH T K p):=H.of fun A=>
 HA.free (cb T K) fun _=>HA.bind (Dv h) fun x=>by
  rw[cd]
  exact kP h _ A _ x
theorem LP(h:HK q p):H eT gT (vz T K q) (om T K p):=H.of fun A=>
 HA.free (cb T K) fun _=>HA.bif (fun _=>HA.free (vB K) fun _=>HA.free (bE K) fun _=>HA.bind h.un fun x=>HA.free Ao fun _=>HA.add (by rw[cd];rfl)) fun _=>(F4 h).at A
theorem nW{sub:Pm Int}{sut:Tm Tn}(hs:H eT gT sub sut)(least f:Int)(A:List Nd):∀(n:Nat) (x:Tn),HA A [x] eT gT (fm T K least f sub n (eT A.length x)) (fO T K least f sut n x)
 |0,_=>HA.bad
 |n+1,x=>by
  refine HA.free (cb T K) fun t=>HA.bif (fun _=>HA.free (bE K) fun _=>HA.bind hs fun y=>HA.addBind ?_ fun z=>nW hs least f A n z) fun _=>?_
  ·show nod 34 [eT A.length x,eT (Sf A [x]).length y] t.2=_
   rw[rt2]
   rfl
  refine HA.bif (fun _=>HA.free (dB T K _) fun _=>HA.bif (fun _=>HA.free (dB T K _) fun _=>HA.bif (fun _=>HA.addBind rfl fun z=>nW hs least f A n z) fun _=>?_) fun _=>HA.ret rfl rfl) fun _=>HA.ret rfl rfl
  exact HA.free (bm T K _) fun _=>HA.addBind rfl fun z=>nW hs least f A n z
theorem w7(h:HK q p):∀j:Nat,H eT gT (kF T K q j) (kf T K p j)
 |0=>H.of fun A=>HA.free (cb T K) fun _=>h.un.at A
 |j+1=>H.of fun A=>HA.free (cb T K) fun _=>HA.bind (w7 h j) fun x=>by
  rw[cd]
  exact nW (w7 h j) _ _ A _ x
theorem Mb(h:HK q p):H eT gT (vL T K q) (oR T K p):=H.of fun A=>
 HA.free (vB K) fun _=>HA.bind (w7 h 6) fun x=>HA.free Ao fun _=>HA.ret (by rw[cd]) rfl
def eW:Nat→(Nd×List Tn)×Bool→Nd×Bool:=fun o w=>(eM o w.1,w.2)
def gW:(Nd×List Tn)×Bool→List Tn:=fun w=>w.1.2
theorem N5(h:HK q p)(s:Str):H eW gW (pE T K q s) (rN T K p s):=H.of fun A=>by
 refine HA.bif (fun _=>HA.free (bE K) fun _=>HA.bind (fU h) fun x=>HA.bind h.blk fun y=>HA.free (dB T K _) fun _=>HA.bif (fun _=>HA.bind h.blk fun z=>HA.ret ?_ rfl) fun _=>HA.ret ?_ rfl) fun _=>?_
 ·show(nod 11 [eT (Sf A []).length x,eT (Sf A [x]).length y,eT (Sf A [x,y]).length z] [],true)=_
  rw[cd,rt3]
  rfl
 ·show(nod 11 [eT (Sf A []).length x,eT (Sf A [x]).length y] [],true)=_
  rw[cd,rt2]
  rfl
 refine HA.bif (fun _=>HA.free (bE K) fun _=>HA.bind (fU h) fun x=>HA.bind h.blk fun y=>HA.ret ?_ rfl) fun _=>?_
 ·show(nod 12 [eT (Sf A []).length x,eT (Sf A [x]).length y] [],true)=_
  rw[cd,rt2]
  rfl
 refine HA.bif (fun _=>HA.free (bE K) fun _=>HA.free (bm T K _) fun _=>HA.ret rfl rfl) fun _=>?_
 refine HA.bif (fun _=>HA.free (bE K) fun _=>HA.free (bm T K _) fun _=>HA.ret rfl rfl) fun _=>?_
 refine HA.bif (fun _=>HA.free (bE K) fun _=>HA.free (lL T K _) fun _=>HA.bif (fun _=>HA.free (bm T K _) fun _=>HA.ret rfl rfl) fun _=>HA.bind h.val fun x=>HA.free (bm T K _) fun _=>HA.ret (by rw[cd];rfl) rfl) fun _=>?_
 refine HA.bif (fun _=>HA.free (bE K) fun _=>HA.bind (fU h) fun x=>HA.free (bm T K _) fun _=>HA.ret (by rw[cd];rfl) rfl) fun _=>?_
 refine HA.bif (fun _=>HA.free (bE K) fun _=>HA.bind (AK h) fun l=>HA.free (bm T K _) fun _=>HA.ret (by rw[cd];rfl) rfl) fun _=>?_
 exact HA.ret rfl rfl
theorem C4(A:List Nd)(x:Tn)(ks:List Tn):ak (ag (Sf A (x::ks)) (eT A.length x).toNat)=ak x.data:=by
 obtain⟨d,l⟩:=x
 have e:Sf A (.mk d l::ks)=(Sf A l++[c8 d (roots A.length l)])++Tn.flats (A.length+(Tn.mk d l).size) ks:=by
  rw[←qI,Sf,Sf,Tn.flats,Tn.flats_one,List.append_assoc]
 have e2:(eT A.length (.mk d l)).toNat=(Sf A l).length:=by
  rw[eT,mh,Tn.size]
  omega
 rw[e,e2]
 unfold ag
 rw[List.getD_eq_getElem?_getD,List.append_assoc,List.getElem?_append_right (Nat.le_refl _),Nat.sub_self]
 rfl
theorem Cx(h:HK q p)(f:Int):H eT gT (fc T K q f) (l7 T K p f):=H.of fun A=>by
 refine HA.bind h.val fun x=>HA.free (cb T K) fun t=>?_
 rw[cd]
 have key:∀(k':Tm Tn) (k:Int→Pm Int),HA A [x] eT gT (k (ak x.data)) k'→HA A [x] eT gT ((CG (eT A.length x)).bind k) k':=fun k' k hk a d n hn=>by
  show RX A eT gT (k (ak (ag (Sf A [x]) (eT A.length x).toNat)) a d (Sf A [x])) _
  rw[C4]
  exact hk a d n hn
 refine key _ _ (HA.free (dB T K _) fun b=>HA.bif (fun _=>HA.bif (fun _=>HA.bind h.val fun y=>HA.free (bm T K _) fun _=>HA.add ?_) fun _=>HA.flt) fun _=>HA.bif (fun _=>HA.free (bm T K _) fun _=>HA.add rfl) fun _=>HA.flt)
 show nod 10 [eT A.length x,eT (Sf A [x]).length y] []=_
 rw[rt2]
 rfl
theorem Lr(s:Str):ca (rN T K p s) fun w=>w.2=false→w.1.2=[]:=by
 refine .bif (fun _=>.then fun _=>.then fun _=>.then fun _=>.then fun _=>.bif (fun _=>.then fun _=>.ret (fun h=>by cases h)) fun _=>.ret (fun h=>by cases h)) fun _=>?_
 refine .bif (fun _=>.then fun _=>.then fun _=>.then fun _=>.ret (fun h=>by cases h)) fun _=>?_
 refine .bif (fun _=>.then fun _=>.then fun _=>.ret (fun h=>by cases h)) fun _=>?_
 refine .bif (fun _=>.then fun _=>.then fun _=>.ret (fun h=>by cases h)) fun _=>?_
 refine .bif (fun _=>.then fun _=>.then fun _=>.bif (fun _=>.then fun _=>.ret (fun h=>by cases h)) fun _=>.then fun _=>.then fun _=>.ret (fun h=>by cases h)) fun _=>?_
 refine .bif (fun _=>.then fun _=>.then fun _=>.then fun _=>.ret (fun h=>by cases h)) fun _=>?_
 refine .bif (fun _=>.then fun _=>.then fun _=>.then fun _=>.ret (fun h=>by cases h)) fun _=>?_
 exact .ret fun _=>rfl
theorem PT(h:HK q p):H eT gT (BX T K q) (vi T K p):=H.of fun A=>by
 refine HA.free (cb T K) fun t=>HA.bif (fun _=>h.blk.at A) fun _=>HA.free (zo T K) fun b=>HA.bif (fun _=>?_) fun _=>HA.bif (fun _=>?_) fun _=>(Cx h _).at A
 ·exact HA.freeQ (nY T K _) (rm _) fun x hx=>HA.free (kQ T K) fun s=>HA.free (dB T K _) fun b=>HA.bif (fun _=>HA.bind h.val fun y=>HA.free (bm T K _) fun _=>HA.add (by rw[cd];rfl)) fun _=>HA.free (bm T K _) fun _=>HA.add (AT hx _ _)
 ·refine HA.bindQ (N5 h _) (Lr _) fun w hq=>HA.bif (fun _=>HA.add (by rw[cd];rfl)) fun hw=>?_
  have e:[]++gW w=[]:=hq hw
  rw[e]
  exact(Cx h _).at A
theorem xi(h:HK q p)(f:Int)(A:List Nd):∀(n:Nat) (ks:List Tn),HA A ks eT gT (nn T K q f n (roots A.length ks)) (jg T K p f n ks)
 |0,_=>HA.bad
 |n+1,ks=>by
  refine HA.free (lL T K _) fun _=>HA.bif (fun _=>HA.free (bm T K _) fun _=>HA.free Ao fun _=>HA.add rfl) fun _=>HA.bind (PT h) fun x=>?_
  rw[rtS]
  exact xi h f A n (ks++[x])
theorem Kz(h:HK q p):H eT gT (xb T K q) (oX T K p):=H.of fun A=>HA.free (cb T K) fun _=>HA.free (vB K) fun _=>HA.free (bm T K _) fun _=>xi h _ A _ []
theorem Gp:H eT gT (.bad:Pm Int) (.bad:Tm Tn):=H.of fun _=>HA.bad
theorem vP(T:List UInt8)(K:List Tok):∀n,HK (kns T K n) (knt T K n)
 |0=>⟨Gp,Gp,Gp⟩
 |n+1=>⟨Mb (vP T K n),Kz (vP T K n),LP (vP T K n)⟩
theorem vl(A:List Nd):∀(n:Nat) (ks:List Tn),HA A ks eL gL (iw T K n (roots A.length ks)) (gf T K n ks)
 |0,_=>HA.bad
 |n+1,ks=>by
  have e:(roots A.length ks).length=ks.length:=b8 _ _
  refine HA.free (dB T K _) fun b=>HA.bif (fun _=>HA.ret rfl rfl) fun _=>?_
  rw[e]
  refine HA.free (zc _) fun _=>HA.free (vC K _) fun _=>HA.free (cb T K) fun t=>HA.freeQ (nY T K _) (rm _) fun x hx=>HA.free (kQ T K) fun s=>HA.bind (H.add (AT hx _ _)) fun y=>?_
  rw[rtS]
  exact vl A n (ks++[y])
theorem zt:H eL gL (kY T K) (jk T K):=H.of fun A=>HA.free (bm T K _) fun _=>vl A _ []
theorem GQ(h:HK q p):H eT gT (qf T K q) (kV T K p):=H.of fun A=>by
 refine HA.free (cb T K) fun t=>HA.bif (fun _=>HA.free (bE K) fun _=>HA.bind zt fun l=>HA.bind h.blk fun b=>HA.add ?_) fun _=>HA.freeQ (nY T K _) (rm _) fun x hx=>HA.free (kQ T K) fun s=>HA.free (lL T K _) fun _=>HA.bif (fun _=>HA.bind zt fun l=>HA.bind h.blk fun b=>HA.add ?_) fun _=>HA.bif (fun _=>HA.flt) fun _=>HA.free (bm T K _) fun _=>HA.add (AT hx _ _)
 ·show nod 5 (roots (Sf A []).length l++[eT (Sf A l).length b]) []=c8 (nod 5 [] []) (roots A.length (l++[b]))
  rw[cd,rtS]
  rfl
 ·show bL x 6 (roots (Sf A []).length l++[eT (Sf A l).length b]) s=c8 (bL x 6 [] s) (roots A.length (l++[b]))
  rw[cd,rtS]
  rfl
theorem r7(h:HK q p)(f:Int)(s:Str)(A:List Nd):∀(n:Nat) (ks:List Tn),HA A ks eT gT (lj T K q f s n (roots A.length ks)) (gP T K p f s n ks)
 |0,_=>HA.bad
 |n+1,ks=>by
  have e:(roots A.length ks).length=ks.length:=b8 _ _
  refine HA.free (lL T K _) fun _=>HA.bif (fun _=>HA.free (bm T K _) fun _=>HA.add rfl) fun _=>?_
  rw[e]
  refine HA.free (vC K _) fun _=>HA.bind (GQ h) fun x=>?_
  rw[rtS]
  exact r7 h f s A n (ks++[x])
theorem Lc(h:HK q p):H eT gT (vq T K q) (fD T K p):=H.of fun A=>by
 refine HA.free (cb T K) fun t=>HA.free (bm T K _) fun _=>HA.free (kQ T K) fun s=>HA.free (cb T K) fun u=>HA.free (dB T K _) fun b=>HA.bif (fun _=>?_) fun _=>HA.free (bm T K _) fun _=>r7 h _ _ A _ []
 refine HA.free (kQ T K) fun e=>HA.addBind rfl fun y=>HA.free (bm T K _) fun _=>?_
 exact r7 h _ _ A _ [y]
def eU:Nat→Tn→Unit:=fun _ _=>()
theorem re(h:HK q p)(A:List Nd):∀(n:Nat) (ks:List Tn),HA A ks eU gT (iD T K q n (roots A.length ks)) (bb T K p n ks)
 |0,_=>HA.bad
 |n+1,ks=>by
  have e:(roots A.length ks).length=ks.length:=b8 _ _
  refine HA.free (cb T K) fun t=>HA.bif (fun _=>fun a d n' hn=>?_) fun _=>?_
  ·have:=HA.add (A:=A) (ks:=ks) (x:=nod 1 [] []) (f:=0) (K:=K) rfl a d n' hn
   show RX A eU gT ((bS K (c8 (nod 1 [] []) (roots A.length ks)) 0 a d (Sf A ks)).bind _) _
   revert this
   cases cx K (nod 1 [] []) 0 ks a d n' with
   |ok y a' d' n''=>
    rintro ⟨h1,h2⟩
    refine⟨h1,?_⟩
    rw[h2]
    rfl
   |fault c p=>
    intro h
    have h:bS K (c8 (nod 1 [] []) (roots A.length ks)) 0 a d (Sf A ks)= .fault c p:=h
    rw[h]
    exact(rfl:(PR.fault c p:PR Unit)= .fault c p)
   |bad=>
    intro h
    have h:bS K (c8 (nod 1 [] []) (roots A.length ks)) 0 a d (Sf A ks)= .bad:=h
    rw[h]
    exact(rfl:(PR.bad:PR Unit)= .bad)
  rw[e]
  refine HA.free (vC K _) fun _=>HA.bind (Lc h) fun x=>?_
  rw[rtS]
  exact re h A n (ks++[x])
theorem Dp(h:HK q p):H eU gT (mJ T K q) (yk T K p):=H.of fun A=>re h A _ []
end Go.Sx.Tryz
namespace Go.Sx.Tryz
open Go Go.Sx
set_option maxRecDepth 100000
section
variable{T:List UInt8}{K:List Tok}
end
end Go.Sx.Tryz
namespace Go.Sx.Tryz
open Go Go.Sx
set_option maxRecDepth 100000
section
variable{T:List UInt8}{K:List Tok}
end
end Go.Sx.Tryz
namespace Go.Sx.Tryz
open Go Go.Sx
set_option maxRecDepth 100000
section
variable{T:List UInt8}{K:List Tok}
variable{p:Kt}
end
end Go.Sx.Tryz
namespace Go.Sx.Tryz
open Go Go.Sx
set_option maxRecDepth 100000
section
variable{T:List UInt8}{K:List Tok}{p:Kt}
end
def eJ(T:List UInt8):TR Tn:=yk T (bJ T) (knt T (bJ T) iC) 0 0 0
theorem qK(T:List UInt8):RX [] eU gT (lZ T) (eJ T):=Dp (vP T (bJ T) iC) 0 0 [] 0 rfl
end Go.Sx.Tryz
namespace Go.Sx.Tryz
open Go Go.Sx
set_option maxRecDepth 100000
theorem CR(x:Nd)(l:List Int):dF (c8 x l)=dF (c8 x (List.replicate l.length 0)):=by
 show(bif cA (ak x)==[]then(3:Int)else bif decide ((l.length:Int)<fH (ak x))then 131 else bif decide (dG (ak x)≥0)&&decide ((l.length:Int)>dG (ak x))then 131 else bif !p8 (ak x)&& !(aH x==[])then 5 else bif sV x then 5 else 0)=
  (bif cA (ak x)==[]then(3:Int)else bif decide (((List.replicate l.length (0:Int)).length:Int)<fH (ak x))then 131 else bif decide (dG (ak x)≥0)&&decide (((List.replicate l.length (0:Int)).length:Int)>dG (ak x))then 131 else bif !p8 (ak x)&& !(aH x==[])then 5 else bif sV x then 5 else 0)
 rw[List.length_replicate]
structure NG(x:Nd)(m:Nat):Prop where
 e:dF (c8 x (List.replicate m 0))=0
 t:(aH x).length≤70000
 nm:(au x).length≤200
 mr:(af x).length≤50
 n:dR x=true
mutual
def Gk:Tn→Prop
 | .mk x ks=>NG x ks.length∧GkL ks
def GkL:List Tn→Prop
 |[]=>True
 |t::ts=>Gk t∧GkL ts
end
theorem GkL.app:∀{a b:List Tn},GkL a→GkL b→GkL (a++b)
 |[],_,_,h=>h
 |t::a,b,h,h'=>by
  unfold GkL at h
  show GkL (t::(a++b))
  unfold GkL
  exact⟨h.1,GkL.app h.2 h'⟩
theorem GkL.one{t:Tn}(h:Gk t):GkL [t]:=by
 unfold GkL
 exact⟨h,trivial⟩
theorem GkL.two{t u:Tn}(h:Gk t)(h':Gk u):GkL [t,u]:=GkL.app (GkL.one h) (GkL.one h')
theorem GkL.three{t u v:Tn}(h:Gk t)(h':Gk u)(h2:Gk v):GkL [t,u,v]:=GkL.app (GkL.one h) (GkL.two h' h2)
theorem NG.sp{x:Nd}{m:Nat}(h:NG x m)(f t:Int):NG (cJ x f t) m:=⟨h.e,h.t,h.nm,h.mr,h.n⟩
variable{T:List UInt8}{K:List Tok}
theorem b5{x:Nd}{f:Int}{ks:List Tn}(h:NG x ks.length)(hk:GkL ks):ca (cx K x f ks) Gk:=fun a d n=>by
 unfold cx
 cases decide ((n:Int)≥8192)
 ·show Gk (.mk (cJ x f (fj K a f)) ks)
  unfold Gk
  exact⟨h.sp _ _,hk⟩
 ·trivial
theorem cp{k:Int}{m:Nat}{s:Str}(h:dF (c8 (nod k [] s) (List.replicate m 0))=0)(hs:s.length≤70000):NG (nod k [] s) m:=⟨h,hs,Nat.zero_le _,Nat.zero_le _,rfl⟩
theorem nS{k n:Int}{s:Str}(h:dF (c8 (eu k n s) [])=0)(hs:s.length≤70000)(hn:dR (eu k n s)=true):NG (eu k n s) 0:=⟨h,hs,Nat.zero_le _,Nat.zero_le _,hn⟩
theorem qu{k:Int}{m:Nat}{s:Str}(hk:(k==1||(k==8||k==17))=true∧s=[]∨(k==2)=true)(hs:s.length≤70000):NG (nod k [] s) m:=by
 refine cp ?_ hs
 have key:∀k:Int,fH k=0→dG k= -1→(cA k==[])=false→(p8 k=true∨s=[])→sY k=false→dF (c8 (nod k [] s) (List.replicate m 0))=0:=by
  intro k h1 h2 h3 h4 h5
  show(bif cA k==[]then(3:Int)else bif decide (((List.replicate m (0:Int)).length:Int)<fH k)then 131 else bif decide (dG k≥0)&&decide (((List.replicate m (0:Int)).length:Int)>dG k)then 131 else bif !p8 k&& !(s==[])then 5 else bif sV (c8 (nod k [] s) (List.replicate m 0))then 5 else 0)=0
  have h6:sV (c8 (nod k [] s) (List.replicate m 0))=false:=by
   show(bif sY k then _ else _)=false
   rw[h5]
   rfl
  rw[h1,h2,h3,h6,List.length_replicate,decide_eq_false (by omega)]
  rcases h4 with h4|h4
  ·rw[h4];rfl
  ·rw[h4];simp
 rcases hk with⟨hk,rfl⟩|hk
 ·simp only[Bool.or_eq_true,beq_iff_eq]at hk
  rcases hk with rfl|rfl|rfl
  ·exact key 1 rfl rfl rfl (.inr rfl) rfl
  ·exact key 8 rfl rfl rfl (.inr rfl) rfl
  ·exact key 17 rfl rfl rfl (.inr rfl) rfl
 ·have hk:k=2:=by simpa using hk
  subst hk
  exact key 2 rfl rfl rfl (.inl rfl) rfl
theorem CM{k:Int}{m:Nat}{s:Str}(hk:k=5∧s=[]∨k=29)(hm:1≤m)(hs:s.length≤70000):NG (nod k [] s) m:=by
 refine cp ?_ hs
 have key:∀k:Int,fH k=1→dG k= -1→(cA k==[])=false→(p8 k=true∨s=[])→sY k=false→dF (c8 (nod k [] s) (List.replicate m 0))=0:=by
  intro k h1 h2 h3 h4 h5
  show(bif cA k==[]then(3:Int)else bif decide (((List.replicate m (0:Int)).length:Int)<fH k)then 131 else bif decide (dG k≥0)&&decide (((List.replicate m (0:Int)).length:Int)>dG k)then 131 else bif !p8 k&& !(s==[])then 5 else bif sV (c8 (nod k [] s) (List.replicate m 0))then 5 else 0)=0
  have h6:sV (c8 (nod k [] s) (List.replicate m 0))=false:=by
   show(bif sY k then _ else _)=false
   rw[h5]
   rfl
  rw[h1,h2,h3,h6,List.length_replicate,decide_eq_false (by omega)]
  rcases h4 with h4|h4
  ·rw[h4];rfl
  ·rw[h4];simp
 rcases hk with⟨rfl,rfl⟩|rfl
 ·exact key 5 rfl rfl rfl (.inr rfl) rfl
 ·exact key 29 rfl rfl rfl (.inl rfl) rfl
structure TyR(x:Nd):Prop where
 r:bq (al x) (au x) (ah x) (af x)=true
 nm:(au x).length≤64
 tx:aH x=[]
 n:nN x=0
theorem TyR.mk5{x:Nd}(h:TyR x):(af x).length≤5:=by
 have:=pg h.r
 omega
theorem o8{y:Nd}{k:Int}{m:Nat}{s:Str}(h:TyR y)(hy:sY k=true)(hn:(cA k==[])=false)(hl:fH k≤m)(hm:dG k= -1∨(m:Int)≤dG k)(ht:p8 k=true∨s=[])(hs:s.length≤70000):NG (bL y k [] s) m:=by
 refine⟨?_,hs,by have:=h.nm;show(au y).length≤200;omega,by have:=h.mk5;show(af y).length≤50;omega,?_⟩
 ·show(bif cA k==[]then(3:Int)else bif decide (((List.replicate m (0:Int)).length:Int)<fH k)then 131 else bif decide (dG k≥0)&&decide (((List.replicate m (0:Int)).length:Int)>dG k)then 131 else bif !p8 k&& !(s==[])then 5 else bif sV (c8 (bL y k [] s) (List.replicate m 0))then 5 else 0)=0
  have h6:sV (c8 (bL y k [] s) (List.replicate m 0))=false:=by
   show(bif sY k then !bq (al y) (au y) (ah y) (af y)else _)=false
   rw[hy,h.r]
   rfl
  have h7:(decide (dG k≥0)&&decide ((m:Int)>dG k))=false:=by
   rcases hm with hm|hm
   ·rw[hm];rfl
   ·rw[decide_eq_false (by omega:¬(m:Int)>dG k),Bool.and_false]
  rw[hn,h6,List.length_replicate,decide_eq_false (by omega),h7]
  rcases ht with h4|h4
  ·rw[h4];rfl
  ·rw[h4];simp
 ·unfold dR
  show(decide (-9223372036854775808≤nN y)&&decide (nN y≤9223372036854775807))=true
  rw[h.n]
  rfl
end Go.Sx.Tryz
