/- A part of the proof: see the row's text. -/
import Derived.Test.YtaklpoiaicepoaaGreatDoorZa30
import Derived.Test.YtaklpoiaicepoaaGreatDoorZa29
import Derived.Test.YtaklpoiaicepoaaGreatDoorZa28
set_option linter.unusedVariables false
set_option linter.unusedSimpArgs false
noncomputable section
namespace Go.Sx.Tryz
open Go Go.Sx
set_option maxRecDepth 100000
theorem uY{r:List UInt8}:ia r=0↔aG aU r=0∧Lib.hasPrefix r [47,47]=false:=by
 unfold ia
 rw[ed]
 constructor
 ·intro h
  cases hh:Lib.hasPrefix (r.drop (aG aU r)) [47,47]with
  |false=>
   rw[hh]at h
   have h:aG aU r=0:=h
   rw[h,List.drop_zero]at hh
   exact⟨h,hh⟩
  |true=>
   rw[hh]at h
   simp only[cond_true]at h
   have h1:aG aU r=0:=by omega
   rw[h1,List.drop_zero]at hh h
   obtain⟨r',e⟩:=vx hh
   rw[e,bS]at h
   have e2:nl (((47:UInt8).toNat:Nat):Int)=true:=by decide
   rw[e2]at h
   simp at h
 ·rintro ⟨h1,h2⟩
  rw[h1,List.drop_zero,h2]
  rfl
def Cf(g:List UInt8):Prop:=g=[32]∨g=[10]∨g=[9,32,13,10]∨g=[32,47,47,32,115,111,59,10]
theorem yK{g r:List UInt8}(hg:Cf g)(hr:ia r=0):ia (g++r)=g.length:=by
 obtain⟨h1,h2⟩:=uY.1 hr
 have b1:∀(n:Nat) (c:UInt8) (s:List UInt8),aU c.toNat=true→aG aU (c::s)=aG aU s+1:=fun n c s hc=>by rw[bS,hc];rfl
 have e32:aU (((32:UInt8).toNat:Nat):Int)=true:=by decide
 have e10:aU (((10:UInt8).toNat:Nat):Int)=true:=by decide
 have e9:aU (((9:UInt8).toNat:Nat):Int)=true:=by decide
 have e13:aU (((13:UInt8).toNat:Nat):Int)=true:=by decide
 have e47:aU (((47:UInt8).toNat:Nat):Int)=false:=by decide
 unfold ia
 rcases hg with rfl|rfl|rfl|rfl
 ·show pV (([32]++r).length+1) (32::r)=1
  rw[ed,b1 0 _ _ e32,h1]
  show(bif Lib.hasPrefix r [47,47]then _ else 1)=1
  rw[h2]
  rfl
 ·show pV (([10]++r).length+1) (10::r)=1
  rw[ed,b1 0 _ _ e10,h1]
  show(bif Lib.hasPrefix r [47,47]then _ else 1)=1
  rw[h2]
  rfl
 ·have d1:List.drop (0+1+1+1+1) (9::32::13::10::r)=r:=rfl
  have e:([9,32,13,10]++r:List UInt8)=9::32::13::10::r:=rfl
  rw[e,ed,b1 0 _ _ e9,b1 0 _ _ e32,b1 0 _ _ e13,b1 0 _ _ e10,h1,d1,h2]
  rfl
 ·have key:∀(n:Nat) (C:List UInt8),aG aU C=0→Lib.hasPrefix C [47,47]=true→aG nl C=6→C.drop 6=10::r→pV (n+1+1) (32::C)=8:=by
   intro n C c1 c2 c3 c4
   have d1:List.drop (0+1) (32::C)=C:=rfl
   have d2:List.drop (0+1+6) (32::C)=C.drop 6:=rfl
   have h3:pV (n+1) (10::r)=1:=by
    rw[ed,b1 0 _ _ e10,h1]
    show(bif Lib.hasPrefix r [47,47]then _ else 1)=1
    rw[h2]
    rfl
   rw[ed,b1 0 _ _ e32,c1,d1,c2,c3,d2,c4,h3]
   rfl
  have e:([32,47,47,32,115,111,59,10]++r:List UInt8)=32::47::47::32::115::111::59::10::r:=rfl
  have hlen:(32::47::47::32::115::111::59::10::r:List UInt8).length+1=r.length+7+1+1:=by simp
  rw[e,hlen]
  refine key (r.length+7) (47::47::32::115::111::59::10::r) ?_ ?_ ?_ rfl
  ·rw[bS,e47,cond_false]
  ·simp[Lib.hasPrefix]
  ·have n1:nl (((47:UInt8).toNat:Nat):Int)=true:=by decide
   have n2:nl (((32:UInt8).toNat:Nat):Int)=true:=by decide
   have n3:nl (((115:UInt8).toNat:Nat):Int)=true:=by decide
   have n4:nl (((111:UInt8).toNat:Nat):Int)=true:=by decide
   have n5:nl (((59:UInt8).toNat:Nat):Int)=true:=by decide
   have n6:nl (((10:UInt8).toNat:Nat):Int)=false:=by decide
   rw[bS,bS,bS,bS,bS,bS,bS,n1,n2,n3,n4,n5,n6]
   simp only[cond_true,cond_false]
theorem Kx{g:List UInt8}(hg:Cf g):∃x s,g=x::s∧AJ x=true:=by
 rcases hg with rfl|rfl|rfl|rfl
 ·exact⟨_,_,rfl,rfl⟩
 ·exact⟨_,_,rfl,rfl⟩
 ·exact⟨_,_,rfl,rfl⟩
 ·exact⟨_,_,rfl,rfl⟩
theorem Ri{w r0:List UInt8}{k:Int}(h:eX (w++r0)=(k,0,w.length))(hw:0<w.length){x:UInt8}(hx:AJ x=true)(r:List UInt8):ia (w++x::r)=0:=by
 obtain⟨c,u,rfl⟩:∃c u,w=c::u:=by
  cases w with
  |nil=>cases hw
  |cons c u=>exact⟨c,u,rfl⟩
 have key:∀(y:UInt8) (s:List UInt8) (k:Int) (n:Nat),(y=32∨y=9∨y=10∨y=13)→eX (y::s)=(k,0,n)→False:=by
  intro y s k n hy he
  have e1:sgB (y::s)=false:=by
   unfold sgB
   rcases hy with rfl|rfl|rfl|rfl
   ·have:(at8 (32::s) 0 !=32)=false:=rfl
    rw[this,Bool.false_and,Bool.and_false,Bool.and_false]
   all_goals
    cases s with
    |nil=>rfl
    |cons d s=>
     have hno:∀y:UInt8,y∉eF→Lib.contains eF ((y::d::s).take 2++[32])=false:=by
      intro y hy
      cases hc:Lib.contains eF ((y::d::s).take 2++[32])with
      |false=>rfl
      |true=>
       exfalso
       unfold Lib.contains at hc
       have hc:=of_decide_eq_true hc
       rcases Lib.index_spec eF ((y::d::s).take 2++[32])with⟨h1,_⟩|⟨i,h1,h2,h3,_⟩
       ·rw[h1]at hc
        exact absurd hc (by decide)
       ·unfold Lib.occAt at h3
        have hp:=List.isPrefixOf_iff_prefix.1 h3
        have hm:y∈eF.drop i:=hp.subset (by simp)
        exact hy (List.mem_of_mem_drop hm)
     rw[hno _ (by decide),Bool.false_and,Bool.and_false]
  have e2:sQ (y::s)=(0,60):=by
   rw[wo,e1]
   rcases hy with rfl|rfl|rfl|rfl<;>rfl
  unfold eX at he
  rw[e2]at he
  rcases hy with rfl|rfl|rfl|rfl<;>exact absurd (show(60:Int)=0 from congrArg (fun z=>z.2.1) he) (by decide)
 refine uY.2 ⟨?_,?_⟩
 ·show aG aU (c::(u++x::r))=0
  rw[bS]
  cases hb:aU c.toNat with
  |false=>rfl
  |true=>
   exfalso
   have hc:c=32∨c=9∨c=10∨c=13:=by
    unfold aU at hb
    simp only[Bool.or_eq_true,beq_iff_eq]at hb
    rcases hb with h|h|h|h
    ·exact .inl (UInt8.toNat_inj.1 (show c.toNat=32 by omega))
    ·exact .inr (.inl (UInt8.toNat_inj.1 (show c.toNat=9 by omega)))
    ·exact .inr (.inr (.inl (UInt8.toNat_inj.1 (show c.toNat=10 by omega))))
    ·exact .inr (.inr (.inr (UInt8.toNat_inj.1 (show c.toNat=13 by omega))))
   exact key c _ k _ hc h
 ·cases hp:Lib.hasPrefix (c::u++x::r) [47,47]with
  |false=>rfl
  |true=>
   exfalso
   obtain⟨r',e⟩:=vx hp
   have hc:c=47:=(List.cons.inj e).1
   subst hc
   cases u with
   |nil=>
    have hp:Lib.hasPrefix (47::x::r) [47,47]=true:=hp
    simp[Lib.hasPrefix]at hp
    subst hp
    exact absurd hx (by decide)
   |cons d u=>
    have hp:Lib.hasPrefix (47::d::(u++x::r)) [47,47]=true:=hp
    simp[Lib.hasPrefix]at hp
    subst hp
    have h:eX (47::47::(u++r0))=(k,0,u.length+2):=h
    have e1:eX (47::47::(u++r0))=(5,0,1):=O2 (by decide)
    rw[e1]at h
    have:=congrArg (fun z=>z.2.2) h
    simp at this
end Go.Sx.Tryz
namespace Go.Sx.Tryz
open Go Go.Sx
set_option maxRecDepth 100000
def Ik(T:List UInt8)(t:Tok):Prop:=∃r0,eX (say T t++r0)=(an t,0,(say T t).length)∧0<(say T t).length
def pU(T:List UInt8):List Tok→Nat
 |[]=>0
 |t::L=>(say T t).length+pU T L
theorem uQ(T:List UInt8):∀(n:Nat) (a:Int) (k:Nat),0≤a→a≤T.length→(T.length:Int)-a<n→(jL n T a k).1=0→
  ∃L,(jL n T a k).2.2=L++[tkn 0 T.length T.length]∧(∀t∈L,Ik T t)∧(pU T L:Int)≤T.length-a∧(L.length:Int)≤T.length-a
 |0,a,k,h0,h1,hn,h=>by omega
 |n+1,a,k,h0,h1,hn,h=>by
  unfold jL at h⊢
  cases hlt:decide (a<(T.length:Int))with
  |false=>exact⟨[],rfl,by simp,by show(0:Int)≤_;omega,by show(0:Int)≤_;omega⟩
  |true=>
   rw[hlt]at h
   have hlt:=of_decide_eq_true hlt
   simp only[cond_true]at h⊢
   cases h16:decide ((k:Int)≥16384)with
   |true=>rw[h16]at h;simp at h
   |false=>
    rw[h16]at h
    simp only[cond_false]at h⊢
    cases he:ig T a !=0 with
    |true=>
     rw[he]at h
     simp only[cond_true]at h
     rw[h]at he
     exact absurd he (by decide)
    |false=>
     rw[he]at h
     simp only[cond_false]at h⊢
     have he0:ig T a=0:=by simpa [bne]using he
     obtain⟨o1,o2⟩:=wq h0 hlt
     have o3:=o2 he0
     obtain⟨g1,g2⟩:=kE (T:=T) (a:=bZ T a) (by omega) o1
     obtain⟨L,e1,e2,e3,e4⟩:=uQ T n (gh T (bZ T a)) (k+1) (by omega) g2 (by omega) h
     have hl:=gi h0 (Int.le_of_lt hlt)
     have hn':(eX (aI T a)).2.2≤(aI T a).length:=by
      unfold bZ at o1
      omega
     have hsay:say T (tkn (lr T a) a (bZ T a))=(aI T a).take (eX (aI T a)).2.2:=by
      show List.drop a.toNat (List.take (bZ T a).toNat T)=(T.drop a.toNat).take _
      rw[List.drop_take]
      congr 1
      unfold bZ
      omega
     have hsl:(say T (tkn (lr T a) a (bZ T a))).length=(eX (aI T a)).2.2:=by
      rw[hsay,List.length_take]
      omega
     refine⟨tkn (lr T a) a (bZ T a)::L,by rw[e1];rfl,fun t ht=>?_,?_,?_⟩
     ·rcases List.mem_cons.1 ht with rfl|ht
      ·refine⟨(aI T a).drop (eX (aI T a)).2.2,?_,?_⟩
       ·rw[hsl,hsay,List.take_append_drop]
        unfold ig at he0
        exact Prod.ext rfl (Prod.ext he0 rfl)
       ·rw[hsl]
        unfold bZ at o3
        omega
      ·exact e2 t ht
     ·show(((say T (tkn (lr T a) a (bZ T a))).length+pU T L:Nat):Int)≤_
      rw[hsl]
      unfold bZ at g1 e3
      omega
     ·rw[List.length_cons]
      unfold bZ at g1 e4
      unfold bZ at o3
      omega
theorem q7{T:List UInt8}(h:cZ T=0):∃L,b9 T=L++[tkn 0 T.length T.length]∧(∀t∈L,Ik T t)∧pU T L≤T.length∧L.length≤T.length:=by
 obtain⟨hT,_⟩:=za h
 rw[wM h]
 rw[p7]at h
 unfold fB at h⊢
 rw[show decide ((T.length:Int)>65536)=false from decide_eq_false (by omega)]at h⊢
 obtain⟨g1,g2⟩:=kE (T:=T) (a:=0) (by omega) (by omega)
 obtain⟨L,e1,e2,e3,e4⟩:=uQ T (T.length+1) (gh T 0) 0 (by omega) g2 (by omega) h
 exact⟨L,e1,e2,by omega,by omega⟩
def gp(g:List Int)(i:Int):List UInt8:=bif decide ((g.length:Int)>0)then List.getD [[32],[10],[9,32,13,10],[32,47,47,32,115,111,59,10]] (Int.toNat (Int.tmod (bif decide (0<bW g (Int.toNat (Int.tmod i (g.length:Int))))then bW g (Int.toNat (Int.tmod i (g.length:Int)))else 0) 4)) (Ty.dflt Ty.str)else [10]
theorem Hz{z:Int}(h:0≤z):0≤Int.tmod z 4∧Int.tmod z 4<4:=⟨Int.tmod_nonneg 4 h,Int.tmod_lt_of_pos z (by decide)⟩
theorem rS(g:List Int)(i:Int):Cf (gp g i):=by
 unfold gp
 cases decide ((g.length:Int)>0)
 ·exact .inr (.inl rfl)
 ·simp only[cond_true]
  generalize hz:(bif decide (0<bW g (Int.toNat (Int.tmod i (g.length:Int))))then bW g (Int.toNat (Int.tmod i (g.length:Int)))else 0)=z
  have h0:0≤z:=by
   rw[←hz]
   cases h:decide (0<bW g (Int.toNat (Int.tmod i (g.length:Int))))
   ·exact Int.le_refl 0
   ·have:=of_decide_eq_true h
    simp only[cond_true]
    omega
  obtain⟨h1,h2⟩:=Hz h0
  generalize Int.tmod z 4=y at h1 h2
  have hy:y=0∨y=1∨y=2∨y=3:=by omega
  rcases hy with rfl|rfl|rfl|rfl
  ·exact .inl rfl
  ·exact .inr (.inl rfl)
  ·exact .inr (.inr (.inl rfl))
  ·exact .inr (.inr (.inr rfl))
theorem IX{g:List UInt8}(h:Cf g):g.length≤8:=by
 rcases h with rfl|rfl|rfl|rfl<;>decide
def spT(T:List UInt8)(g:List Int):Nat→List Tok→List UInt8
 |_,[]=>[]
 |i,t::K=>gp g i++(say T t++spT T g (i+1) K)
theorem wh(T:List UInt8)(g:List Int):∀(K:List Tok) (i:Nat),(spT T g i K).length≤8*K.length+pU T K
 |[],_=>Nat.zero_le _
 |t::K,i=>by
  have h1:=IX (rS g i)
  have h2:=wh T g K (i+1)
  show(gp g i++(say T t++spT T g (i+1) K)).length≤_
  rw[List.length_append,List.length_append]
  show _≤8*(K.length+1)+((say T t).length+pU T K)
  omega
theorem vc(T:List UInt8):say T (tkn 0 T.length T.length)=[]:=by
 show List.drop (Int.toNat (T.length:Int)) (List.take (Int.toNat (T.length:Int)) T)=[]
 simp
theorem Ng(T:List UInt8)(g:List Int):∀(L:List Tok) (i:Nat),(∀t∈L,Ik T t)→∃r2,spT T g i (L++[tkn 0 T.length T.length])=gp g i++r2∧ia r2=0∧Lx r2 (dP T L)
 |[],i,_=>⟨[],by
  show gp g i++(say T (tkn 0 T.length T.length)++[])=_
  rw[vc,List.append_nil],rfl,Lx.nil⟩
 |t::L,i,h=>by
  obtain⟨r2,e1,e2,e3⟩:=Ng T g L (i+1) fun u hu=>h u (by simp[hu])
  obtain⟨r0,h1,h2⟩:=h t (by simp)
  obtain⟨x,s,hx,hx2⟩:=Kx (rS g ((i+1:Nat):Int))
  have e4:say T t++(gp g ((i+1:Nat):Int)++r2)=say T t++x::(s++r2):=by rw[hx];rfl
  refine⟨say T t++(gp g ((i+1:Nat):Int)++r2),?_,?_,?_⟩
  ·show gp g i++(say T t++spT T g (i+1) (L++[tkn 0 T.length T.length]))=_
   rw[e1]
  ·rw[e4]
   exact Ri h1 h2 hx2 _
  ·show Lx _ ((an t,say T t)::dP T L)
   refine Lx.cons (r:=gp g ((i+1:Nat):Int)++r2) ?_ h2 ?_
   ·rw[e4]
    exact Qz h1 h2 hx2 _
   ·rw[yK (rS g _) e2,List.drop_left]
    exact e3
theorem LG{U:List UInt8}{ts:List Tk}(hT:U.length≤65536)(hl:Lx (U.drop (ia U)) ts)(hk:ts.length<16384):cZ U=0∧dP U (b9 U)=ts++[(0,[])]:=by
 have hg:=qj (U.length+1) U
 have h:=J8 (T:=U) hl (U.length+1) 0 (U.take (ia U)) (List.take_append_drop _ _).symm (by rw[List.length_drop];omega) (by omega)
 have hp:((U.take (ia U)).length:Int)=gh U 0:=by
  rw[List.length_take]
  unfold gh aI
  show((min (ia U) U.length:Nat):Int)=0+((ia (List.drop 0 U):Nat):Int)
  rw[List.drop_zero]
  have:ia U≤U.length:=hg
  omega
 rw[hp]at h
 have hS:fB U=jL (U.length+1) U (gh U 0) 0:=by
  unfold fB
  rw[show decide ((U.length:Int)>65536)=false from decide_eq_false (by omega)]
  rfl
 have hC:cZ U=0:=by rw[p7,hS];exact h.1
 exact⟨hC,by rw[wM hC,hS];exact h.2⟩
theorem Ps{T:List UInt8}(hT:T.length≤1500)(h:cZ T=0)(g:List Int):cZ (spT T g 0 (b9 T))=0∧Kq T (b9 T) (spT T g 0 (b9 T)) (b9 (spT T g 0 (b9 T))):=by
 obtain⟨L,e1,e2,e3,e4⟩:=q7 h
 obtain⟨r2,f1,f2,f3⟩:=Ng T g L 0 e2
 have hlen:=wh T g (b9 T) 0
 have hsum:pU T (b9 T)=pU T L:=by
  rw[e1]
  clear e1 e2 e3 e4 f1 f2 f3 hlen
  induction L with
  |nil=>show(say T (tkn 0 T.length T.length)).length+0=0;rw[vc];rfl
  |cons t L ih=>show(say T t).length+pU T (L++_)=(say T t).length+pU T L;rw[ih]
 have hKl:(b9 T).length=L.length+1:=by rw[e1];simp
 have hU:spT T g 0 (b9 T)=gp g ((0:Nat):Int)++r2:=by rw[e1];exact f1
 have hgap:ia (spT T g 0 (b9 T))=(gp g ((0:Nat):Int)).length:=by rw[hU];exact yK (rS g _) f2
 obtain⟨c1,c2⟩:=LG (U:=spT T g 0 (b9 T)) (ts:=dP T L) (by omega) (by rw[hgap,hU,List.drop_left];exact f3) (by
  unfold dP
  rw[List.length_map]
  omega)
 refine⟨c1,Sl ?_⟩
 rw[c2]
 conv=>lhs;rw[e1]
 unfold dP
 rw[List.map_append]
 show _++[((0:Int),say T (tkn 0 T.length T.length))]=_
 rw[vc]
end Go.Sx.Tryz
namespace Go.Sx.Tryz
open Go Go.Sx
set_option maxRecDepth 100000
def Fp{α:Type}(m:Pm α):Prop:=∀a d A,match m a d A with
 | .fault c _=>c≠0
 |_=>True
def Fz{α:Type}(m:Tm α):Prop:=∀a d n,match m a d n with
 | .fault c _=>c≠0
 |_=>True
theorem Fp.bind{α β:Type}{m:Pm α}{k:α→Pm β}(h:Fp m)(hk:∀y,Fp (k y)):Fp (m.bind k):=fun a d A=>by
 have:=h a d A
 unfold Pm.bind
 cases e:m a d A with
 |ok y a' d' A'=>exact hk y a' d' A'
 |fault c p=>rw[e]at this;exact this
 |bad=>trivial
theorem Fz.bind{α β:Type}{m:Tm α}{k:α→Tm β}(h:Fz m)(hk:∀y,Fz (k y)):Fz (m.bind k):=fun a d n=>by
 have:=h a d n
 unfold Tm.bind
 cases e:m a d n with
 |ok y a' d' n'=>exact hk y a' d' n'
 |fault c p=>rw[e]at this;exact this
 |bad=>trivial
theorem Fp.ret{α:Type}{y:α}:Fp (.ret y:Pm α):=fun _ _ _=>trivial
theorem Fz.ret{α:Type}{y:α}:Fz (.ret y:Tm α):=fun _ _ _=>trivial
theorem Fp.flt{α:Type}{c p:Int}(h:c≠0):Fp (.flt c p:Pm α):=fun _ _ _=>h
theorem Fz.flt{α:Type}{c p:Int}(h:c≠0):Fz (.flt c p:Tm α):=fun _ _ _=>h
theorem Fp.bad{α:Type}:Fp (.bad:Pm α):=fun _ _ _=>trivial
theorem Fz.bad{α:Type}:Fz (.bad:Tm α):=fun _ _ _=>trivial
theorem Fp.bif{α:Type}{c:Bool}{m m':Pm α}(h:Fp m)(h':Fp m'):Fp (bif c then m else m'):=by cases c<;>assumption
theorem Fz.bif{α:Type}{c:Bool}{m m':Tm α}(h:Fz m)(h':Fz m'):Fz (bif c then m else m'):=by cases c<;>assumption
theorem Fp.l{α:Type}{m:Pm α}(h:Fp m):Fz (lft m):=fun a d n=>by
 have:=h a d []
 unfold lft
 cases e:m a d []with
 |ok y a' d' A'=>trivial
 |fault c p=>rw[e]at this;exact this
 |bad=>trivial
section
variable{T:List UInt8}{K:List Tok}{p:Kt}
theorem n80:(80:Int)≠0:=by decide
theorem n2:(2:Int)≠0:=by decide
theorem n5:(5:Int)≠0:=by decide
theorem cI:Fp (bK T K):=fun _ _ _=>trivial
theorem qd{n:Int}:Fp (eN T K n):=fun a d A=>by
 unfold eN
 cases decide (a+n≥(K.length:Int))<;>trivial
theorem b7:Fp (aW K):=fun a d A=>by
 unfold aW
 cases an (ab K a) !=0<;>trivial
theorem sU{s:Str}:Fp (cIs T K s):=cI.bind fun _=>.ret
theorem eY{s:Str}:Fp (bR T K s):=sU.bind fun _=>.bif (b7.bind fun _=>.ret) .ret
theorem bL{s:Str}:Fp (aJ T K s):=sU.bind fun _=>.bif b7 (cI.bind fun _=>.flt n80)
theorem oP:Fp (dc T K):=cI.bind fun _=>.bif (b7.bind fun _=>.ret) (.flt n80)
theorem zW:Fp (fE K):=fun a d A=>by
 unfold fE
 cases decide (d+1>60)
 ·trivial
 ·show(6:Int)≠0
  decide
theorem HO:Fp rP:=fun _ _ _=>trivial
theorem B0{n:Int}:Fp (jz K n):=fun a d A=>by
 unfold jz
 cases decide (n>64)
 ·trivial
 ·exact n2
theorem Bi{l:Nat}:Fp (comma T K l):=.bif (bL.bind fun _=>.ret) .ret
theorem zD:Fp (dd T K):=qd.bind fun _=>.bif .ret (.bif (qd.bind fun _=>qd.bind fun _=>.ret) .ret)
theorem PJ:Fp (nr T K):=cI.bind fun _=>.bif (.bif (b7.bind fun _=>.ret) (.bif (b7.bind fun _=>.ret) (.bif (b7.bind fun _=>.ret) (.bif (b7.bind fun _=>.ret) (.bif (b7.bind fun _=>.ret) (.flt n80)))))) (.flt n80)
theorem sf:∀(n:Nat) (x:Nd),Fp (dz T K n x)
 |0,_=>.bad
 |n+1,x=>cI.bind fun _=>sU.bind fun _=>.bif (.bif (.flt (by decide)) (b7.bind fun _=>sf n _)) (qd.bind fun _=>sU.bind fun _=>.bif (.bif (.flt n2) (b7.bind fun _=>b7.bind fun _=>sf n _)) .ret)
theorem vf:Fp (dQ T K):=PJ.bind fun _=>sf _ _
theorem qp{v:Bool}:Fp (cE T K v):=cI.bind fun _=>.bif (b7.bind fun _=>bL.bind fun _=>vf.bind fun _=>bL.bind fun _=>.bif (.flt n5) .ret) (.bif (b7.bind fun _=>.ret) vf)
theorem cM{x:Nd}{f:Int}{ks:List Tn}:Fz (cR K x f ks):=fun a d n=>by
 unfold cR
 cases decide ((n:Int)≥8192)
 ·trivial
 ·exact n2
structure ZK(p:Kt):Prop where
 val:Fz p.val
 blk:Fz p.blk
 un:Fz p.un
theorem fS(h:ZK p):Fz (dj T K p):=bL.l.bind fun _=>h.val.bind fun _=>bL.l.bind fun _=>.ret
theorem BK(h:ZK p):∀(n:Nat) (L:List Tn),Fz (mq T K p n L)
 |0,_=>.bad
 |n+1,L=>eY.l.bind fun _=>.bif .ret (Bi.l.bind fun _=>B0.l.bind fun _=>h.val.bind fun _=>BK h n _)
theorem zL(h:ZK p):Fz (pb T K p):=bL.l.bind fun _=>BK h _ _
theorem nI{x:Nd}{e:Int}:Fz (mi T K x e):=cI.l.bind fun _=>by
 cases he:e !=0
 ·exact b7.l.bind fun _=>cM
 ·exact .flt (by simpa [bne]using he)
theorem OG(h:ZK p):Fz (tF T K p):=vf.l.bind fun _=>sU.l.bind fun _=>.bif (.bif (.flt n5) ((zL h).bind fun _=>.ret)) (bL.l.bind fun _=>h.val.bind fun _=>bL.l.bind fun _=>.ret)
theorem Pk(h:ZK p)(t:Tok)(s:Str):Fz (tD T K p t s):=.bif nI (.bif nI (.bif nI (.bif nI (.bif nI (.bif (b7.l.bind fun _=>bL.l.bind fun _=>bL.l.bind fun _=>cM) (.bif (b7.l.bind fun _=>(fS h).bind fun _=>cM)
 (.bif (b7.l.bind fun _=>bL.l.bind fun _=>qp.l.bind fun _=>bL.l.bind fun _=>(fS h).bind fun _=>cM) (.bif (b7.l.bind fun _=>(OG h).bind fun _=>cM) (.flt n80)))))))))
theorem Dz(h:ZK p):Fz (iv T K p):=cI.l.bind fun _=>.bif nI (.bif nI (.bif nI (.bif (.bif (fS h) (.flt n80)) (.bif (.bif nI (Pk h _ _)) (.flt n80)))))
theorem Ru(h:ZK p)(x:Tn)(f:Int):Fz (tH T K p x f):=eY.l.bind fun _=>.bif cM (eY.l.bind fun _=>.bif cM (oP.l.bind fun _=>sU.l.bind fun _=>.bif ((zL h).bind fun _=>cM) cM))
theorem kM(h:ZK p)(f:Int):∀(n:Nat) (x:Tn),Fz (eG T K p f n x)
 |0,_=>.bad
 |n+1,x=>eY.l.bind fun _=>.bif (cM.bind fun _=>kM h f n _) (eY.l.bind fun _=>.bif (h.val.bind fun _=>bL.l.bind fun _=>cM.bind fun _=>kM h f n _) (eY.l.bind fun _=>.bif ((Ru h _ _).bind fun _=>kM h f n _) .ret))
theorem Jv(h:ZK p):Fz (kL T K p):=cI.l.bind fun _=>(Dz h).bind fun _=>kM h _ _ _
theorem Kp(h:ZK p):Fz (oc T K p):=cI.l.bind fun _=>.bif (zW.l.bind fun _=>b7.l.bind fun _=>h.un.bind fun _=>HO.l.bind fun _=>cM) (Jv h)
theorem nG{sub:Tm Tn}(hs:Fz sub)(least f:Int):∀(n:Nat) (x:Tn),Fz (fL T K least f sub n x)
 |0,_=>.bad
 |n+1,x=>cI.l.bind fun _=>.bif (b7.l.bind fun _=>hs.bind fun _=>cM.bind fun _=>nG hs least f n _) (.bif (eY.l.bind fun _=>.bif (eY.l.bind fun _=>.bif (cM.bind fun _=>nG hs least f n _) (bL.l.bind fun _=>cM.bind fun _=>nG hs least f n _)) .ret) .ret)
theorem wa(h:ZK p):∀j:Nat,Fz (kb T K p j)
 |0=>cI.l.bind fun _=>h.un
 |j+1=>cI.l.bind fun _=>(wa h j).bind fun _=>nG (wa h j) _ _ _ _
theorem L5(h:ZK p):Fz (oJ T K p):=zW.l.bind fun _=>(wa h 6).bind fun _=>HO.l.bind fun _=>.ret
theorem OH(h:ZK p)(s:Str):Fz (qS T K p s):=
 .bif (b7.l.bind fun _=>(fS h).bind fun _=>h.blk.bind fun _=>eY.l.bind fun _=>.bif (h.blk.bind fun _=>.ret) .ret) (.bif (b7.l.bind fun _=>(fS h).bind fun _=>h.blk.bind fun _=>.ret) (.bif (b7.l.bind fun _=>bL.l.bind fun _=>.ret) (.bif (b7.l.bind fun _=>bL.l.bind fun _=>.ret)
 (.bif (b7.l.bind fun _=>sU.l.bind fun _=>.bif (bL.l.bind fun _=>.ret) (h.val.bind fun _=>bL.l.bind fun _=>.ret)) (.bif (b7.l.bind fun _=>(fS h).bind fun _=>bL.l.bind fun _=>.ret) (.bif (b7.l.bind fun _=>(zL h).bind fun _=>bL.l.bind fun _=>.ret) .ret))))))
theorem AU(h:ZK p)(f:Int):Fz (lO T K p f):=h.val.bind fun _=>cI.l.bind fun _=>eY.l.bind fun _=>.bif (.bif (h.val.bind fun _=>bL.l.bind fun _=>cM) (.flt (by decide))) (.bif (bL.l.bind fun _=>cM) (.flt (by decide)))
theorem Ol(h:ZK p):Fz (tE T K p):=cI.l.bind fun _=>.bif h.blk (zD.l.bind fun _=>.bif (qp.l.bind fun _=>oP.l.bind fun _=>eY.l.bind fun _=>.bif (h.val.bind fun _=>bL.l.bind fun _=>cM) (bL.l.bind fun _=>cM)) (.bif ((OH h _).bind fun _=>.bif cM (AU h _)) (AU h _)))
theorem zh(h:ZK p)(f:Int):∀(n:Nat) (L:List Tn),Fz (jv T K p f n L)
 |0,_=>.bad
 |n+1,L=>sU.l.bind fun _=>.bif (bL.l.bind fun _=>HO.l.bind fun _=>cM) ((Ol h).bind fun _=>zh h f n _)
theorem Kl(h:ZK p):Fz (oB T K p):=cI.l.bind fun _=>zW.l.bind fun _=>bL.l.bind fun _=>zh h _ _ _
theorem wK:∀n,ZK (knt T K n)
 |0=>⟨.bad,.bad,.bad⟩
 |n+1=>⟨L5 (wK n),Kl (wK n),Kp (wK n)⟩
theorem tv:∀(n:Nat) (L:List Tn),Fz (fU T K n L)
 |0,_=>.bad
 |n+1,L=>eY.l.bind fun _=>.bif .ret (Bi.l.bind fun _=>B0.l.bind fun _=>cI.l.bind fun _=>qp.l.bind fun _=>oP.l.bind fun _=>cM.bind fun _=>tv n _)
theorem xv:Fz (iT T K):=bL.l.bind fun _=>tv _ _
theorem Ge(h:ZK p):Fz (kW T K p):=cI.l.bind fun _=>.bif (b7.l.bind fun _=>xv.bind fun _=>h.blk.bind fun _=>cM) (qp.l.bind fun _=>oP.l.bind fun _=>sU.l.bind fun _=>.bif (xv.bind fun _=>h.blk.bind fun _=>cM) (.bif (.flt n80) (bL.l.bind fun _=>cM)))
theorem sk(h:ZK p)(f:Int)(s:Str):∀(n:Nat) (L:List Tn),Fz (gN T K p f s n L)
 |0,_=>.bad
 |n+1,L=>sU.l.bind fun _=>.bif (bL.l.bind fun _=>cM) (B0.l.bind fun _=>(Ge h).bind fun _=>sk h f s n _)
theorem Ln(h:ZK p):Fz (ox T K p):=cI.l.bind fun _=>bL.l.bind fun _=>oP.l.bind fun _=>cI.l.bind fun _=>eY.l.bind fun _=>.bif (oP.l.bind fun _=>cM.bind fun _=>bL.l.bind fun _=>sk h _ _ _ _) (bL.l.bind fun _=>sk h _ _ _ _)
theorem qE(h:ZK p):∀(n:Nat) (L:List Tn),Fz (dB T K p n L)
 |0,_=>.bad
 |n+1,L=>cI.l.bind fun _=>.bif cM (B0.l.bind fun _=>(Ln h).bind fun _=>qE h n _)
end
theorem Gt{T:List UInt8}{c p:Int}(h:jR T= .fault c p):c≠0:=by
 have:=qE (T:=T) (K:=b9 T) (wK (T:=T) (K:=b9 T) lC) ((b9 T).length+2) [] 0 0 0
 have e:dB T (b9 T) (knt T (b9 T) lC) ((b9 T).length+2) [] 0 0 0= .fault c p:=h
 rw[e]at this
 exact this
end Go.Sx.Tryz
namespace Go.Sx.Tryz
open Go Go.Sx Go.Proofs
set_option maxRecDepth 100000
theorem jQ{T:List UInt8}(hl:cZ T=0):(∃t a d n,jR T= .ok t a d n∧cd T=((t.flat 0,((t.flat 0).length:Int)-1,()),((0:Int),(0:Int),()),())∧Gk t∧aj t.data=1∧t.size≤8192∧fN (t.flat 0)=true)∨
  (∃c p,jR T= .fault c p∧c≠0∧cd T=((([]:List Nd),(0:Int),()),(c,p,()),())):=by
 have hR:=AA T
 have hc:(cZ T !=0)=false:=by rw[hl];rfl
 cases et:jR T with
 |ok t a d n=>
  rw[et]at hR
  obtain⟨_,h2⟩:=hR
  have e:Sf [] (gT t)=t.flat 0:=by
   show []++Tn.flats 0 [t]=_
   rw[List.nil_append,Tn.flats_one]
  rw[e]at h2
  have hi:=Dj hl h2
  obtain⟨g1,g2⟩:=Ff hl et
  have hs:t.size≤8192:=by
   have:=hi.len
   rwa [Tn.flat_len]at this
  refine .inl ⟨t,a,d,n,rfl,?_,g1,g2,hs,Hf g1 hs fun x hx=>(hi.nd x hx).1⟩
  unfold cd
  rw[hc,h2]
  rfl
 |fault c p=>
  rw[et]at hR
  have hR:mj T= .fault c p:=hR
  refine .inr ⟨c,p,rfl,Gt et,?_⟩
  unfold cd
  rw[hc,hR]
  rfl
 |bad=>
  exfalso
  rw[et]at hR
  have hR:mj T= .bad:=hR
  have hE:=ob hl
  rw[hR]at hE
  exact hE.elim
theorem JP{T U:List UInt8}(hl:cZ T=0)(hl':cZ U=0)(hq:Kq T (b9 T) U (b9 U))(hU:U.length≤100000000):LO T (aL U)= .ok (.ret (.bool true),[]):=by
 unfold LO
 rw[oE,bq,lR,Nat.ble_eq_true_of_le (by omega),Bool.and_self]
 simp only[cond_true]
 have hs:=Ar hq
 rcases jQ hl with⟨t,a,d,n,e1,e2,e3,e4,e5,e6⟩|⟨c,p,e1,e2,e3⟩
 ·rcases jQ hl' with⟨u,a',d',n',f1,f2,f3,f4,f5,f6⟩|⟨c,p,f1,f2,f3⟩
  ·rw[e1,f1]at hs
   have het:Et t u:=hs.1
   have p1:(cd T).2.1.1=(0:Int):=by rw[e2]
   have p2:(cd T).1.1=t.flat 0:=by rw[e2]
   have p3:(cd T).1.2.1=((t.flat 0).length:Int)-1:=by rw[e2];rfl
   have q1:(cd U).2.1.1=(0:Int):=by rw[f2]
   have q2:(cd U).1.1=u.flat 0:=by rw[f2]
   have q3:(cd U).1.2.1=((u.flat 0).length:Int)-1:=by rw[f2];rfl
   rw[p1,p2,p3,q1,q2,q3]
   have hok:Ky ((t.flat 0,((t.flat 0).length:Int)-1,()),(u.flat 0,((u.flat 0).length:Int)-1,()),())=true:=by
    show((fN (t.flat 0)&&(t.flat 0).all cN)&&(fN (u.flat 0)&&(u.flat 0).all cN))=true
    rw[e6,f6,uo e3,uo f3]
    rfl
   have hsm:tg (t.flat 0) (((t.flat 0).length:Int)-1) (u.flat 0) (((u.flat 0).length:Int)-1)=true:=by
    unfold tg
    rw[o8 e3 e4 e5,o8 f3 f4 f5,BV t u het]
    have:=Es u
    simp[this]
   rw[hok]
   exact congrArg (fun b=>(Rs.ok (Out.ret (AV.bool b),[]):Rs R0)) hsm
  ·rw[e1,f1]at hs
   exact hs.elim
 ·rcases jQ hl' with⟨u,a',d',n',f1,f2,f3,f4,f5,f6⟩|⟨c',p',f1,f2,f3⟩
  ·rw[e1,f1]at hs
   exact hs.elim
  ·rw[e1,f1]at hs
   have hs:c=c':=hs
   subst hs
   have p1:(cd T).2.1.1=c:=by rw[e3]
   have q1:(cd U).2.1.1=c:=by rw[f3]
   have h0:(c !=0)=true:=by simpa [bne]using e2
   have h1:(c==c)=true:=by simp
   rw[p1,q1]
   exact(bt h1).trans (bt h0)
abbrev pc5(n:Nat):Jump R0:=pieces (R:=R0) E (aq FQ) fi5 KN 0 .ok n
theorem uR(U a b:List UInt8):app (app (aL U) (aL a)) (aL b)=aL (U++(a++b)):=by
 unfold app
 simp[gX,List.append_assoc]
theorem fn5{T:List UInt8}{g:List Int}{K:List Tok}(hT:T.length≤1500)(hw:∀t∈K,0≤aa t∧aa t≤tTo t∧tTo t≤T.length)(hK:K.length≤20000)(hg:g.length≤100):∀(ks pre:List Tok) (U:List UInt8),K=pre++ks→U.length≤2000*pre.length→LO T (aL (U++spT T g pre.length ks))= .ok (.ret (.bool true),[])→
  ∃n,pc5 n 0 (mk5 T g K (aL U) K.length pre.length)= .ok (.ret (.bool true),[])
 |[],pre,U,hp,hU,he=>by
  refine⟨1,(bg rfl).trans ((Nb (pc5 0) T g K (aL U) K.length pre.length).trans ?_)⟩
  rw[show spT T g pre.length []=[]from rfl,List.append_nil]at he
  exact(bn (decide_eq_false (by rw[hp,List.append_nil];omega))).trans he
 |t::ks,pre,U,hp,hU,he=>by
  have hlen:K.length=pre.length+(ks.length+1):=by rw[hp];simp
  have hmr:al=68719476736:=rfl
  have hgl:=IX (rS g pre.length)
  have hsl:(say T t).length≤1500:=by
   unfold say
   rw[List.length_drop,List.length_take]
   omega
  have hpre:(pre++[t]).length=pre.length+1:=by simp
  obtain⟨n,hn⟩:=fn5 (g:=g) hT hw hK hg ks (pre++[t]) (U++(gp g pre.length++say T t)) (by rw[hp];simp) (by simp only[List.length_append,List.length_singleton];omega) (by
   rw[hpre]
   have e:spT T g pre.length (t::ks)=gp g pre.length++(say T t++spT T g (pre.length+1) ks):=rfl
   rw[e]at he
   simpa [List.append_assoc]using he)
  refine⟨n+1,(bg rfl).trans ((Nb (pc5 n) T g K (aL U) K.length pre.length).trans ?_)⟩
  have ht:ab K (pre.length:Int)=t:=by
   unfold ab
   rw[hp,Int.toNat_natCast,List.getD_eq_getElem?_getD,List.getElem?_append_right (Nat.le_refl _),Nat.sub_self]
   rfl
  have hwr:IntKind.wrap .i64 ((pre.length:Int)+1)=((pre++[t]).length:Nat):=by
   rw[wrap64 (by omega) (by omega),hpre]
   rfl
  have htk:tk3 t=t:=rfl
  obtain⟨s1,s2,s3⟩:=hw t (by rw[hp];simp)
  have hsp:Dr (T,t,())=true:=by
   show(decide ((T.length:Int)≤65536)&&(decide (0≤aa t)&&(decide (aa t≤tTo t)&&decide (tTo t≤(T.length:Int)))))=true
   rw[decide_eq_true (by omega),decide_eq_true s1,decide_eq_true s2,decide_eq_true s3]
   rfl
  rw[ht,htk,hwr]
  refine(bt (decide_eq_true (by omega))).trans ?_
  refine(bt (cB (by omega) (by omega))).trans ?_
  rw[hsp]
  by_cases h0:(g.length:Int)>0
  ·refine(bt (decide_eq_true h0)).trans ?_
   refine(bn (beq_eq_false_iff_ne.2 (by omega))).trans ?_
   have hm0:0≤Int.tmod (pre.length:Int) (g.length:Int):=Int.tmod_nonneg _ (by omega)
   have hm1:Int.tmod (pre.length:Int) (g.length:Int)<(g.length:Int):=Int.tmod_lt_of_pos _ h0
   refine(bt (cB hm0 hm1)).trans ?_
   have hgp:gp g (pre.length:Int)=List.getD [[32],[10],[9,32,13,10],[32,47,47,32,115,111,59,10]] (Int.toNat (Int.tmod (bif decide (0<bW g (Int.toNat (Int.tmod (pre.length:Int) (g.length:Int))))then bW g (Int.toNat (Int.tmod (pre.length:Int) (g.length:Int)))else 0) 4)) (Ty.dflt Ty.str):=by
    unfold gp
    rw[decide_eq_true h0]
    rfl
   rw[←hgp]
   have hz:0≤(bif decide (0<bW g (Int.toNat (Int.tmod (pre.length:Int) (g.length:Int))))then bW g (Int.toNat (Int.tmod (pre.length:Int) (g.length:Int)))else 0):=by
    cases h:decide (0<bW g (Int.toNat (Int.tmod (pre.length:Int) (g.length:Int))))
    ·exact Int.le_refl 0
    ·have:=of_decide_eq_true h
     simp only[cond_true]
     omega
   refine(bt (cB (Hz hz).1 (Hz hz).2)).trans ?_
   refine(bt (decide_eq_true (by rw[bq,bq];omega))).trans ?_
   refine(bt rfl).trans ?_
   refine(bt (decide_eq_true (by rw[eZ,bq,bq,bq];omega))).trans ?_
   rw[uR]
   exact hn
  ·refine(bn (decide_eq_false h0)).trans ?_
   have hgp:gp g (pre.length:Int)=[10]:=by
    unfold gp
    rw[decide_eq_false h0]
    rfl
   rw[hgp]at hn
   have e10:([10]:List Int)=aL [10]:=rfl
   rw[e10]
   refine(bt (decide_eq_true (by rw[bq];omega))).trans ?_
   refine(bt rfl).trans ?_
   refine(bt (decide_eq_true (by rw[eZ,bq,bq,bq];simp only[List.length_singleton];omega))).trans ?_
   rw[uR]
   exact hn
theorem G6(T:List UInt8)(g:List Int):∃n,start (R:=R0) E (aq FQ) fi5 KN (pc5 n) [.str T,.sl (.int .i64) g] [] .ok= .ok (.ret (.bool true),[]):=by
 by_cases h1:(T.length:Int)>1500
 ·exact⟨0,(wP _ T g).trans (bt (decide_eq_true h1))⟩
 by_cases h2:(g.length:Int)>100
 ·exact⟨0,(wP _ T g).trans ((bn (decide_eq_false h1)).trans (bt (decide_eq_true h2)))⟩
 have hcode:(ic (T,())).2.1.1=cZ T:=by
  unfold cZ
  rfl
 have htoks:(ic (T,())).1=b9 T:=by
  unfold b9
  rfl
 by_cases h3:cZ T=0
 ·have hT:T.length≤1500:=by omega
  have w:=lex_wf h3
  obtain⟨c1,c2⟩:=Ps hT h3 g
  obtain⟨L,e1,e2,e3,e4⟩:=q7 h3
  have hKl:(b9 T).length=L.length+1:=by rw[e1];simp
  have hw:∀t∈b9 T,0≤aa t∧aa t≤tTo t∧tTo t≤T.length:=fun t ht=>by
   obtain⟨i,hi,rfl⟩:=List.mem_iff_getElem.1 ht
   have:=w.span (i:Int) (by omega) (by omega)
   unfold ab at this
   rw[Int.toNat_natCast,List.getD_eq_getElem?_getD,List.getElem?_eq_getElem hi]at this
   exact this
  have hlen:=wh T g (b9 T) 0
  have hU:(spT T g 0 (b9 T)).length≤100000000:=by
   have hsum:∀K:List Tok,(∀t∈K,tTo t≤T.length)→pU T K≤1500*K.length:=by
    intro K
    induction K with
    |nil=>intro _;exact Nat.le_refl 0
    |cons t K ih=>
     intro h
     have h1:=ih fun u hu=>h u (by simp[hu])
     have h2:(say T t).length≤1500:=by
      unfold say
      rw[List.length_drop,List.length_take]
      omega
     show(say T t).length+pU T K≤1500*(K.length+1)
     omega
   have:=hsum (b9 T) fun t ht=>(hw t ht).2.2
   omega
  obtain⟨n,hn⟩:=fn5 (g:=g) hT hw (by omega) (by omega) (b9 T) [] [] rfl (Nat.zero_le _) (JP h3 c1 c2 hU)
  refine⟨n,(wP _ T g).trans ((bn (decide_eq_false h1)).trans ((bn (decide_eq_false h2)).trans ((bn ?_).trans ?_)))⟩
  ·rw[hcode,h3]
   rfl
  ·rw[htoks]
   exact hn
 ·refine⟨0,(wP _ T g).trans ((bn (decide_eq_false h1)).trans ((bn (decide_eq_false h2)).trans (bt ?_)))⟩
  rw[hcode]
  exact O6 h3
end Go.Sx.Tryz
namespace Go.Sx.Tryz
open Go Go.Sx Go.Proofs
set_option maxRecDepth 100000
theorem I7:pO MX:=.cons (JT .nil) .nil
theorem FW{G:Nat→Obj→Prop}:bm Tryz.prog G F0:=.cons (je (aX []) I7 (.cons (je (aX []) .nil .nil SW) .nil) RV) .nil
theorem Ji(T:List UInt8)(k f t:Int)(hx:Dr (T,(k,f,t,()),())=true):body (R:=R0) E (aq F0) KZ [.str T,.agg [.int .i64 k,.int .i64 f,.int .i64 t]] [] .ok= .ok (.ret (.str (say T (k,f,t,()))),[]):=by
 have hx:(decide ((T.length:Int)≤65536)&&(decide ((0:Int)≤f)&&(decide (f≤t)&&decide (t≤(T.length:Int)))))=true:=hx
 simp only[Bool.and_eq_true,decide_eq_true_eq]at hx
 obtain⟨h1,h2,h3,h4⟩:=hx
 refine(Ro T k f t).trans ?_
 exact(bn (decide_eq_false (by omega))).trans ((bn (decide_eq_false (by omega))).trans ((bn (decide_eq_false (by omega))).trans ((bn (decide_eq_false (by omega))).trans (bt (lP h2 h3 h4)))))
theorem NC{G:Nat→Obj→Prop}(x:au xJ)(hx:Dr x=true):SAD Tryz.prog G 18 xJ cz x (Ue x):=by
 obtain⟨T,⟨k,f,t,⟨⟩⟩,⟨⟩⟩:=x
 exact bT (aX []) (aP FW) Ud (Ji T k f t hx)
theorem K0{w0:World}(t:TabsW w0):bm Tryz.prog (GW w0) FQ:=
 .cons (d9 t) (.cons (EJ t) (.cons (aT fun x _=>Bp t.tabs x) (.cons (r6 (eP (Gw t))) (.cons (r6 (eP zt)) (.cons (aT fun x h=>NC x h) (.cons vT (.cons (aT fun x h=>KD t x h) .nil)))))))
theorem J0{w0:World}(t:TabsW w0)(T:List UInt8)(g:List Int):SA Tryz.prog (GW w0) 5 [.str T,.sl (.int .i64) g] [] (.ret (.bool true),[]):=by
 obtain⟨n,h⟩:=G6 T g
 exact bA (aX []) (aP (K0 t)) fc5 (.inl cF) h
end Go.Sx.Tryz
