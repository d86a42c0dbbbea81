/- A part of the proof: see the row's text. -/
import Derived.Test.YtaklpoiaicepoaaGreatDoorZa29
import Derived.Test.YtaklpoiaicepoaaGreatDoorZa27
import Derived.Test.YtaklpoiaicepoaaGreatDoorZa17
import Derived.Test.YtaklpoiaicepoaaGreatDoorZa00
set_option linter.unusedVariables false
set_option linter.unusedSimpArgs false
noncomputable section
namespace Go.Sx.Tryz
open Go Go.Sx
set_option maxRecDepth 100000
variable{T:List UInt8}{K:List Tok}{p:Kt}
theorem eO{α:Type}{m:Pm α}{Q:α→Prop}(h:Ens m Q):cb (lft m) Q:=fun a d n=>by
 have:=h a d []
 unfold lft
 cases e:m a d []with
 |ok y a' d' A'=>rw[e]at this;exact this
 |fault c p=>trivial
 |bad=>trivial
structure GK(p:Kt):Prop where
 val:cb p.val Gk
 blk:cb p.blk Gk
 un:cb p.un Gk
theorem fR(h:GK p):cb (dj T K p) Gk:=.then fun _=>.bind h.val fun x hx=>.then fun _=>.ret hx
theorem Cr(h:GK p):∀(n:Nat) (L:List Tn),GkL L→cb (mq T K p n L) GkL
 |0,_,_=>.bad
 |n+1,L,hL=>.then fun _=>.bif (fun _=>.ret hL) fun _=>.then fun _=>.then fun _=>.bind h.val fun x hx=>Cr h n _ (hL.app (GkL.one hx))
theorem zq(h:GK p):cb (pb T K p) GkL:=.then fun _=>Cr h _ _ trivial
theorem wX{x:Nd}{e:Int}(hx:NG x 0):cb (mi T K x e) Gk:=.then fun _=>.bif (fun _=>.flt) fun _=>.then fun _=>b5 (ks:=[]) hx trivial
def GM(x:Nd×List Tn):Prop:=NG x.1 x.2.length∧GkL x.2
theorem lH{s:Str}(h:ca s=true):s.length≤70000:=by have:=(oQ h).1;omega
theorem Oc(h:GK p):cb (tF T K p) GM:=.bind (eO nR) fun x hx=>.then fun _=>.bif (fun _=>.bif (fun _=>.flt) fun _=>.bind (zq h) fun l hl=>.ret ⟨by
  rw[hx.tx]
  exact oR hx.r rfl rfl (Int.natCast_nonneg _) (.inl rfl) (.inr rfl) (Nat.zero_le _),hl⟩) fun _=>.then fun _=>.bind h.val fun y hy=>.then fun _=>.ret ⟨by
  rw[hx.tx]
  exact oR hx.r rfl rfl (Int.le_refl 1) (.inr (Int.le_refl 1)) (.inr rfl) (Nat.zero_le _),GkL.one hy⟩
theorem ym(s:Str):oT s=39∨oT s=36∨oT s=37∨oT s=41:=by
 unfold oT
 cases s==[97,115,107]
 ·cases s==[116,111,105,110,116]
  ·cases s==[116,111,100,111,117,98,108,101]
   ·exact .inr (.inr (.inr rfl))
   ·exact .inr (.inr (.inl rfl))
  ·exact .inr (.inl rfl)
 ·exact .inl rfl
theorem Om(h:GK p)(t:Tok)(s:Str):cb (tD T K p t s) Gk:=by
 have v:∀k n:Int,dC (di (eA k n []) [])=0→cN (eA k n [])=true→cb (mi T K (eA k n []) 0) Gk:=fun k n h1 h2=>wX (nn h1 (Nat.zero_le _) h2)
 refine .bif (fun _=>v 21 1 rfl rfl) fun _=>.bif (fun _=>v 21 0 rfl rfl) fun _=>.bif (fun _=>v 23 0 rfl rfl) fun _=>.bif (fun _=>v 42 0 rfl rfl) fun _=>.bif (fun _=>v 24 0 rfl rfl) fun _=>?_
 refine .bif (fun _=>.then fun _=>.then fun _=>.then fun _=>b5 (ks:=[]) (cq rfl (Nat.zero_le _)) trivial) fun _=>?_
 refine .bif (fun _=>.then fun _=>.bind (fR h) fun x hx=>b5 (ks:=[x]) ?_ (GkL.one hx)) fun _=>?_
 ·rcases ym s with e|e|e|e<;>rw[e]<;>exact cq rfl (Nat.zero_le _)
 refine .bif (fun _=>.then fun _=>.then fun _=>.bind (eO (kN _)) fun y hy=>.then fun _=>.bind (fR h) fun x hx=>b5 (ks:=[x]) ?_ (GkL.one hx)) fun _=>?_
 ·rw[hy.tx]
  exact oR hy rfl rfl (Int.le_refl 1) (.inr (Int.le_refl 1)) (.inr rfl) (Nat.zero_le _)
 exact .bif (fun _=>.then fun _=>.bind (Oc h) fun x hx=>b5 hx.1 hx.2) fun _=>.flt
theorem CR(hT:T.length≤65536)(h:GK p):cb (iv T K p) Gk:=by
 refine .bind (eO BZ) fun t ht=>?_
 refine .bif (fun _=>wX (nn rfl (Nat.zero_le _) (Bw (zI _)))) fun _=>.bif (fun _=>wX (nn rfl (by omega) (Bw (Ac _)))) fun _=>?_
 refine .bif (fun _=>wX (nn rfl (by have:=Hk t.2;omega) rfl)) fun _=>.bif (fun _=>.bif (fun _=>fR h) fun _=>.flt) fun _=>?_
 exact .bif (fun _=>.bif (fun _=>wX (nn rfl (by omega) rfl)) fun _=>Om h _ _) fun _=>.flt
theorem Qt(h:GK p){x:Tn}(hx:Gk x)(f:Int):cb (tH T K p x f) Gk:=.then fun _=>.bif (fun _=>b5 (ks:=[x]) (cq rfl (Nat.zero_le _)) (GkL.one hx)) fun _=>.then fun _=>.bif (fun _=>b5 (ks:=[x]) (cq rfl (Nat.zero_le _)) (GkL.one hx)) fun _=>
 .bind (eO kG) fun s hs=>.then fun _=>.bif (fun _=>.bind (zq h) fun l hl=>b5 (ks:=x::l) (Br (.inr rfl) (by simp) (lH hs)) (GkL.app (GkL.one hx) hl)) fun _=>b5 (ks:=[x]) (cq rfl (lH hs)) (GkL.one hx)
theorem kU(h:GK p)(f:Int):∀(n:Nat) (x:Tn),Gk x→cb (eG T K p f n x) Gk
 |0,_,_=>.bad
 |n+1,x,hx=>.then fun _=>.bif (fun _=>.bind (b5 (ks:=[x]) (cq rfl (Nat.zero_le _)) (GkL.one hx)) fun y hy=>kU h f n y hy) fun _=>
  .then fun _=>.bif (fun _=>.bind h.val fun y hy=>.then fun _=>.bind (b5 (ks:=[x,y]) (cq rfl (Nat.zero_le _)) (GkL.two hx hy)) fun z hz=>kU h f n z hz) fun _=>
  .then fun _=>.bif (fun _=>.bind (Qt h hx f) fun y hy=>kU h f n y hy) fun _=>.ret hx
theorem H8(hT:T.length≤65536)(h:GK p):cb (kL T K p) Gk:=.then fun _=>.bind (CR hT h) fun x hx=>kU h _ _ x hx
theorem L4(hT:T.length≤65536)(h:GK p):cb (oc T K p) Gk:=.then fun t=>.bif (fun _=>.then fun _=>.then fun _=>.bind h.un fun x hx=>.then fun _=>b5 (ks:=[x]) (by
  cases t.2==[45]
  ·exact cq rfl (Nat.zero_le _)
  ·exact cq rfl (Nat.zero_le _)) (GkL.one hx)) fun _=>H8 hT h
theorem mL(hT:T.length≤65536){sub:Tm Tn}(hs:cb sub Gk)(least f:Int):∀(n:Nat) (x:Tn),Gk x→cb (fL T K least f sub n x) Gk
 |0,_,_=>.bad
 |n+1,x,hx=>.bind (eO BZ) fun t ht=>.bif (fun _=>.then fun _=>.bind hs fun y hy=>.bind (b5 (ks:=[x,y]) (cq rfl (by omega)) (GkL.two hx hy)) fun z hz=>mL hT hs least f n z hz) fun _=>
  .bif (fun _=>.then fun _=>.bif (fun _=>.then fun _=>.bif (fun _=>.bind (b5 (ks:=[x]) (cq rfl (Nat.zero_le _)) (GkL.one hx)) fun z hz=>mL hT hs least f n z hz) fun _=>.then fun _=>.bind (b5 (ks:=[x]) (cq rfl (Nat.zero_le _)) (GkL.one hx)) fun z hz=>mL hT hs least f n z hz) fun _=>.ret hx) fun _=>.ret hx
theorem wx(hT:T.length≤65536)(h:GK p):∀j:Nat,cb (kb T K p j) Gk
 |0=>.then fun _=>h.un
 |j+1=>.then fun _=>.bind (wx hT h j) fun x hx=>mL hT (wx hT h j) _ _ _ x hx
theorem J1(hT:T.length≤65536)(h:GK p):cb (oJ T K p) Gk:=.then fun _=>.bind (wx hT h 6) fun x hx=>.then fun _=>.ret hx
def GW2(w:(Nd×List Tn)×Bool):Prop:=w.2=true→GM w.1
theorem PX(h:GK p)(s:Str):cb (qS T K p s) GW2:=by
 refine .bif (fun _=>.then fun _=>.bind (fR h) fun x hx=>.bind h.blk fun y hy=>.then fun _=>.bif (fun _=>.bind h.blk fun z hz=>.ret fun _=>⟨cq rfl (Nat.zero_le _),GkL.three hx hy hz⟩) fun _=>.ret fun _=>⟨cq rfl (Nat.zero_le _),GkL.two hx hy⟩) fun _=>?_
 refine .bif (fun _=>.then fun _=>.bind (fR h) fun x hx=>.bind h.blk fun y hy=>.ret fun _=>⟨cq rfl (Nat.zero_le _),GkL.two hx hy⟩) fun _=>?_
 refine .bif (fun _=>.then fun _=>.then fun _=>.ret fun _=>⟨cq rfl (Nat.zero_le _),trivial⟩) fun _=>?_
 refine .bif (fun _=>.then fun _=>.then fun _=>.ret fun _=>⟨cq rfl (Nat.zero_le _),trivial⟩) fun _=>?_
 refine .bif (fun _=>.then fun _=>.then fun _=>.bif (fun _=>.then fun _=>.ret fun _=>⟨cq rfl (Nat.zero_le _),trivial⟩) fun _=>.bind h.val fun x hx=>.then fun _=>.ret fun _=>⟨cq rfl (Nat.zero_le _),GkL.one hx⟩) fun _=>?_
 refine .bif (fun _=>.then fun _=>.bind (fR h) fun x hx=>.then fun _=>.ret fun _=>⟨cq rfl (Nat.zero_le _),GkL.one hx⟩) fun _=>?_
 refine .bif (fun _=>.then fun _=>.bind (zq h) fun l hl=>.then fun _=>.ret fun _=>⟨p8 (.inl ⟨rfl,rfl⟩) (Nat.zero_le _),hl⟩) fun _=>?_
 exact .ret fun h=>by cases h
theorem Cs(h:GK p)(f:Int):cb (lO T K p f) Gk:=.bind h.val fun x hx=>.then fun _=>.then fun _=>.bif (fun _=>.bif (fun _=>.bind h.val fun y hy=>.then fun _=>b5 (ks:=[x,y]) (cq rfl (Nat.zero_le _)) (GkL.two hx hy)) fun _=>.flt) fun _=>
 .bif (fun _=>.then fun _=>b5 (ks:=[x]) (cq rfl (Nat.zero_le _)) (GkL.one hx)) fun _=>.flt
theorem N7(h:GK p):cb (tE T K p) Gk:=.then fun _=>.bif (fun _=>h.blk) fun _=>.then fun _=>.bif (fun _=>.bind (eO (kN _)) fun y hy=>.bind (eO kG) fun s hs=>.then fun _=>
  .bif (fun _=>.bind h.val fun x hx=>.then fun _=>b5 (ks:=[x]) (oR hy rfl rfl (show(0:Int)≤1 by decide) (.inr (Int.le_refl 1)) (.inl rfl) (lH hs)) (GkL.one hx)) fun _=>.then fun _=>b5 (ks:=[]) (oR hy rfl rfl (Int.le_refl 0) (.inr (show(0:Int)≤1 by decide)) (.inl rfl) (lH hs)) trivial) fun _=>
 .bif (fun _=>.bind (PX h _) fun w hw=>.bif (fun hb=>b5 (hw hb).1 (hw hb).2) fun _=>Cs h _) fun _=>Cs h _
theorem xM(h:GK p)(f:Int):∀(n:Nat) (L:List Tn),GkL L→cb (jv T K p f n L) Gk
 |0,_,_=>.bad
 |n+1,L,hL=>.then fun _=>.bif (fun _=>.then fun _=>.then fun _=>b5 (p8 (.inl ⟨rfl,rfl⟩) (Nat.zero_le _)) hL) fun _=>.bind (N7 h) fun x hx=>xM h f n _ (hL.app (GkL.one hx))
theorem KB(h:GK p):cb (oB T K p) Gk:=.then fun _=>.then fun _=>.then fun _=>xM h _ _ _ trivial
theorem vk(hT:T.length≤65536):∀n,GK (knt T K n)
 |0=>⟨.bad,.bad,.bad⟩
 |n+1=>⟨J1 hT (vk hT n),KB (vk hT n),L4 hT (vk hT n)⟩
theorem uM:∀(n:Nat) (L:List Tn),GkL L→cb (fU T K n L) GkL
 |0,_,_=>.bad
 |n+1,L,hL=>.then fun _=>.bif (fun _=>.ret hL) fun _=>.then fun _=>.then fun _=>.then fun _=>.bind (eO (kN _)) fun y hy=>.bind (eO kG) fun s hs=>
  .bind (b5 (ks:=[]) (oR hy rfl rfl (Int.le_refl 0) (.inr (Int.le_refl 0)) (.inl rfl) (lH hs)) trivial) fun z hz=>uM n _ (hL.app (GkL.one hz))
theorem yD:cb (iT T K) GkL:=.then fun _=>uM _ _ trivial
theorem EM(h:GK p):cb (kW T K p) Gk:=.then fun _=>.bif (fun _=>.then fun _=>.bind yD fun l hl=>.bind h.blk fun b hb=>b5 (Br (.inl ⟨rfl,rfl⟩) (by simp) (Nat.zero_le _)) (hl.app (GkL.one hb))) fun _=>
 .bind (eO (kN _)) fun y hy=>.bind (eO kG) fun s hs=>.then fun _=>.bif (fun _=>.bind yD fun l hl=>.bind h.blk fun b hb=>b5 (oR hy rfl rfl (by
   show(1:Int)≤((l++[b]).length:Int)
   rw[List.length_append,List.length_singleton]
   omega) (.inl rfl) (.inl rfl) (lH hs)) (hl.app (GkL.one hb))) fun _=>.bif (fun _=>.flt) fun _=>.then fun _=>b5 (ks:=[]) (oR hy rfl rfl (Int.le_refl 0) (.inr (Int.le_refl 0)) (.inl rfl) (lH hs)) trivial
theorem qT(h:GK p)(f:Int){s:Str}(hs:s.length≤70000):∀(n:Nat) (L:List Tn),GkL L→cb (gN T K p f s n L) Gk
 |0,_,_=>.bad
 |n+1,L,hL=>.then fun _=>.bif (fun _=>.then fun _=>b5 (p8 (.inr rfl) hs) hL) fun _=>.then fun _=>.bind (EM h) fun x hx=>qT h f hs n _ (hL.app (GkL.one hx))
theorem KF(h:GK p):cb (ox T K p) Gk:=.then fun _=>.then fun _=>.bind (eO kG) fun s hs=>.then fun _=>.then fun _=>.bif (fun _=>.bind (eO kG) fun e he=>.bind (b5 (ks:=[]) (cq rfl (lH he)) trivial) fun y hy=>.then fun _=>qT h _ (lH hs) _ _ (GkL.one hy)) fun _=>.then fun _=>qT h _ (lH hs) _ _ trivial
theorem qP(h:GK p):∀(n:Nat) (L:List Tn),GkL L→cb (dB T K p n L) fun t=>Gk t∧aj t.data=1
 |0,_,_=>.bad
 |n+1,L,hL=>.then fun _=>.bif (fun _=>fun a d m=>by
   have:=b5 (K:=K) (x:=nod 1 [] []) (f:=0) (ks:=L) (p8 (.inl ⟨rfl,rfl⟩) (Nat.zero_le _)) hL a d m
   unfold cR at this⊢
   revert this
   cases decide ((m:Int)≥8192)
   ·exact fun h=>⟨h,rfl⟩
   ·exact fun _=>trivial) fun _=>.then fun _=>.bind (KF h) fun x hx=>qP h n _ (hL.app (GkL.one hx))
theorem Ff{T:List UInt8}(h:cZ T=0){t:Tn}{a d:Int}{n:Nat}(ht:jR T= .ok t a d n):Gk t∧aj t.data=1:=by
 have hT:=(lex_wf h).len
 have:=qP (T:=T) (K:=b9 T) (vk (K:=b9 T) hT lC) ((b9 T).length+2) [] trivial 0 0 0
 have e:dB T (b9 T) (knt T (b9 T) lC) ((b9 T).length+2) [] 0 0 0= .ok t a d n:=ht
 rw[e]at this
 exact this
end Go.Sx.Tryz
namespace Go.Sx.Tryz
open Go Go.Sx Go.Proofs
set_option maxRecDepth 100000
end Go.Sx.Tryz
namespace Go.Sx.Tryz
theorem bt{α:Type}{b:Bool}{x y:α}(h:b=true):(bif b then x else y)=x:=by rw[h];rfl
theorem bn{α:Type}{b:Bool}{x y:α}(h:b=false):(bif b then x else y)=y:=by rw[h];rfl
end Go.Sx.Tryz
namespace Go.Sx.Tryz
open Go Go.Sx Go.Proofs
set_option maxRecDepth 100000
theorem BC(P S:List Nd)(d:Nd)(l:List Tn):ag (P++(Tn.mk d l).flat P.length++S) (eT P.length (.mk d l)).toNat=di d (roots P.length l):=by
 have e2:(eT P.length (.mk d l)).toNat=(P++Tn.flats P.length l).length:=by
  rw[eT,List.length_append,Tn.flats_len,Tn.size]
  omega
 rw[e2,Tn.flat,←List.append_assoc,List.append_assoc]
 unfold ag
 rw[List.getD_eq_getElem?_getD,List.getElem?_append_right (Nat.le_refl _),Nat.sub_self]
 rfl
section
variable{T:List UInt8}{L:List Nd}{r l i:Int}{x:Nd}
end
theorem Dj{T:List UInt8}{y:Unit}{a d:Int}{A:List Nd}(hl:cZ T=0)(h:mj T= .ok y a d A):Inv (b9 T) a d A:=by
 have hE:=ob hl
 rw[h]at hE
 exact hE.2.inv
theorem O6{n:Int}(h:¬n=0):(n !=0)=true:=by simpa [bne]using h
end Go.Sx.Tryz
namespace Go.Sx.Tryz
open Go Go.Sx
set_option maxRecDepth 100000
theorem kr(i:Int)(x:Nd)(r:List Nd)(u:List Int):ct i (x::r) u=bif dC x !=0 then .inl (dC x)else match dW i (ai x) u with
  | .inl c=>.inl c
  | .inr u'=>ct (i+1) r u':=rfl
theorem lW:∀(A B:List Nd) (i:Int) (u:List Int),ct i (A++B) u=match ct i A u with
  | .inl c=>.inl c
  | .inr u'=>ct (i+A.length) B u'
 |[],B,i,u=>by
  show ct i B u=ct (i+((0:Nat):Int)) B u
  rw[show i+((0:Nat):Int)=i by omega]
 |x::A,B,i,u=>by
  show ct i (x::(A++B)) u=_
  rw[kr,kr i x A u]
  cases dC x !=0
  ·simp only[cond_false]
   cases dW i (ai x) u with
   |inl c=>rfl
   |inr u'=>
    simp only
    rw[lW A B (i+1) u',show i+1+(A.length:Int)=i+((x::A).length:Int) by simp;omega]
  ·rfl
theorem u0(u:List Int)(k:Nat)(v:Int)(j:Nat)(hk:k<u.length):bW (mS u k v) j=if j=k then v else bW u j:=by
 unfold bW mS
 rw[List.getD_eq_getElem?_getD,List.getD_eq_getElem?_getD,List.getElem?_set]
 by_cases h:k=j
 ·subst h
  simp[hk]
 ·simp only[h,if_false]
  rw[if_neg (fun e=>h e.symm)]
theorem tf{i:Int}:∀(l:List Int) (u:List Int),(∀k∈l,0≤k∧k<i∧k.toNat<u.length∧bW u k.toNat=0)→l.Nodup→∃u',dW i l u= .inr u'∧u'.length=u.length∧∀j:Nat,bW u' j=if(j:Int)∈l then 1 else bW u j
 |[],u,_,_=>⟨u,rfl,rfl,fun j=>by simp⟩
 |k::l,u,h,hn=>by
  obtain⟨h1,h2,h3,h4⟩:=h k (by simp)
  rw[List.nodup_cons]at hn
  obtain⟨u',e1,e2,e3⟩:=tf (i:=i) l (mS u k.toNat 1) (fun q hq=>by
   obtain⟨q1,q2,q3,q4⟩:=h q (by simp[hq])
   refine⟨q1,q2,by simpa [mS]using q3,?_⟩
   rw[u0 _ _ _ _ h3,if_neg,q4]
   intro e
   have:q=k:=by omega
   subst this
   exact hn.1 hq) hn.2
  refine⟨u',?_,by rw[e2];simp[mS],fun j=>?_⟩
  ·unfold dW
   rw[decide_eq_false (by omega:¬k<0),decide_eq_false (by omega:¬k≥i),decide_eq_false (by omega:¬bW u k.toNat>0)]
   exact e1
  ·rw[e3,u0 _ _ _ _ h3]
   by_cases hj:(j:Int)=k
   ·have hj2:j=k.toNat:=by omega
    rw[if_pos (show(j:Int)∈k::l by rw[hj];simp),if_pos hj2]
    split<;>rfl
   ·have hj2:¬j=k.toNat:=by omega
    rw[if_neg hj2]
    by_cases hm:(j:Int)∈l
    ·rw[if_pos hm,if_pos (by simp[hm])]
    ·rw[if_neg hm,if_neg (by simp[hm,hj])]
theorem size_pos(t:Tn):1≤t.size:=by
 obtain⟨x,ks⟩:=t
 rw[Tn.size]
 omega
theorem iz:∀(ts:List Tn) (o:Nat) (k:Int),k∈roots o ts→(o:Int)≤k∧k<((o+Tn.sizes ts:Nat):Int)
 |[],_,_,h=>by cases h
 |t::ts,o,k,h=>by
  have hp:=size_pos t
  rw[roots,List.mem_cons]at h
  rw[Tn.sizes]
  rcases h with rfl|h
  ·omega
  ·have:=iz ts (o+t.size) k h
   omega
theorem py:∀(ts:List Tn) (o:Nat),(roots o ts).Nodup
 |[],_=>List.nodup_nil
 |t::ts,o=>by
  rw[roots,List.nodup_cons]
  refine⟨fun h=>?_,py ts _⟩
  have:=iz ts (o+t.size) _ h
  omega
structure Mk(o n:Nat)(l:List Int)(u u':List Int):Prop where
 len:u'.length=u.length
 out:∀j:Nat,j<o∨o+n≤j→bW u' j=bW u j
 inn:∀j:Nat,o≤j→j<o+n→bW u' j=if(j:Int)∈l then 0 else 1
mutual
theorem Fo:∀(t:Tn) (o:Nat) (u:List Int),Gk t→o+t.size≤u.length→(∀j:Nat,o≤j→j<o+t.size→bW u j=0)→∃u',ct (o:Int) (t.flat o) u= .inr u'∧Mk o t.size [eT o t] u u'
 | .mk x ks,o,u,hg,hu,hz=>by
  unfold Gk at hg
  rw[Tn.size]at hu hz
  obtain⟨u1,e1,m1⟩:=Cg ks o u hg.2 (by omega) (fun j h1 h2=>hz j h1 (by omega))
  have hk:∀k∈roots o ks,0≤k∧k<((o+Tn.sizes ks:Nat):Int)∧k.toNat<u1.length∧bW u1 k.toNat=0:=fun k hk=>by
   have hr:=iz ks o k hk
   refine⟨by omega,hr.2,by rw[m1.len];omega,?_⟩
   rw[m1.inn k.toNat (by omega) (by omega),if_pos]
   rwa [show((k.toNat:Nat):Int)=k by omega]
  obtain⟨u2,e2,l2,g2⟩:=tf (i:=((o+Tn.sizes ks:Nat):Int)) (roots o ks) u1 hk (py ks o)
  refine⟨u2,?_,?_⟩
  ·rw[Tn.flat,lW,e1]
   simp only
   rw[show(o:Int)+((Tn.flats o ks).length:Int)=((o+Tn.sizes ks:Nat):Int) by rw[Tn.flats_len];omega]
   rw[kr]
   have he:dC (di x (roots o ks))=0:=by
    rw[DU,fb]
    exact hg.1.e
   rw[he]
   show(match dW ((o+Tn.sizes ks:Nat):Int) (roots o ks) u1 with
    | .inl c=>Sum.inl c
    | .inr u'=>ct _ [] u')=_
   rw[e2]
   rfl
  ·have hp:Tn.sizes ks+1=(Tn.mk x ks).size:=by rw[Tn.size]
   refine⟨by rw[l2,m1.len],fun j hj=>?_,fun j h1 h2=>?_⟩
   ·rw[←hp]at hj
    rw[g2,if_neg,m1.out j (by omega)]
    intro hm
    have:=iz ks o _ hm
    omega
   ·rw[←hp]at h2
    rw[g2]
    have hroot:((j:Int)∈[eT o (.mk x ks)])↔j=o+Tn.sizes ks:=by
     rw[List.mem_singleton,eT,Tn.size]
     omega
    by_cases hj:j=o+Tn.sizes ks
    ·rw[if_pos (hroot.2 hj),if_neg,m1.out j (by omega),hz j h1 (by omega)]
     intro hm
     have:=iz ks o _ hm
     omega
    ·rw[if_neg (fun h=>hj (hroot.1 h))]
     by_cases hm:(j:Int)∈roots o ks
     ·rw[if_pos hm]
     ·rw[if_neg hm,m1.inn j h1 (by omega),if_neg hm]
theorem Cg:∀(ts:List Tn) (o:Nat) (u:List Int),GkL ts→o+Tn.sizes ts≤u.length→(∀j:Nat,o≤j→j<o+Tn.sizes ts→bW u j=0)→∃u',ct (o:Int) (Tn.flats o ts) u= .inr u'∧Mk o (Tn.sizes ts) (roots o ts) u u'
 |[],o,u,_,_,_=>⟨u,rfl,rfl,fun _ _=>rfl,fun j h1 h2=>by
  have h2:j<o+0:=h2
  omega⟩
 |t::ts,o,u,hg,hu,hz=>by
  unfold GkL at hg
  rw[Tn.sizes]at hu hz
  obtain⟨u1,e1,m1⟩:=Fo t o u hg.1 (by omega) (fun j h1 h2=>hz j h1 (by omega))
  obtain⟨u2,e2,m2⟩:=Cg ts (o+t.size) u1 hg.2 (by rw[m1.len];omega) (fun j h1 h2=>by
   rw[m1.out j (by omega)]
   exact hz j (by omega) (by omega))
  refine⟨u2,?_,?_⟩
  ·rw[Tn.flats,lW,e1]
   simp only
   rw[show(o:Int)+((t.flat o).length:Int)=((o+t.size:Nat):Int) by rw[Tn.flat_len];omega]
   exact e2
  ·refine⟨by rw[m2.len,m1.len],fun j hj=>?_,fun j h1 h2=>?_⟩
   ·rw[Tn.sizes]at hj
    rw[m2.out j (by omega),m1.out j (by omega)]
   ·rw[Tn.sizes]at h2
    simp only[roots,List.mem_cons]
    by_cases hj:j<o+t.size
    ·rw[m2.out j (by omega),m1.inn j h1 hj]
     have hn:¬(j:Int)∈roots (o+t.size) ts:=fun hm=>by
      have:=iz ts _ _ hm
      omega
     simp only[List.mem_singleton,hn,or_false]
     rfl
    ·rw[m2.inn j (by omega) (by omega)]
     have hn:¬(j:Int)=((o+t.size:Nat):Int)-1:=by omega
     simp only[hn,false_or]
end
theorem AD{t:Tn}(hg:Gk t)(hk:aj t.data=1)(hs:t.size≤8192):dS (t.flat 0) ((t.size:Int)-1)=0:=by
 have hp:=size_pos t
 have hl:=Tn.flat_len 0 t
 obtain⟨u,e,m⟩:=Fo t 0 (List.replicate (t.flat 0).length 0) hg (by simp[hl]) (fun j _ h2=>by
  unfold bW
  rw[List.getD_eq_getElem?_getD,List.getElem?_replicate]
  split<;>rfl)
 have e:ct 0 (t.flat 0) (List.replicate (t.flat 0).length 0)= .inr u:=e
 unfold dS
 rw[e,hl,decide_eq_false (by omega:¬((t.size:Int)>16384)),show((t.size:Int)==0)=false from beq_eq_false_iff_ne.2 (by omega),show((t.size:Int)-1 !=(t.size:Int)-1)=false by simp]
 have hroot:aj (ag (t.flat 0) ((t.size:Int)-1).toNat)=1:=by
  obtain⟨d,l⟩:=t
  have:=BC [] [] d l
  simp only[List.length_nil,List.nil_append,List.append_nil]at this
  rw[show((((Tn.mk d l).size:Int)-1))=eT 0 (.mk d l) by rw[eT];omega,this]
  exact hk
 rw[hroot]
 show nC (u.take (t.size-1))=0
 unfold nC
 have:(u.take (t.size-1)).any (· ==0)=false:=by
  rw[List.any_eq_false]
  intro v hv
  obtain⟨j,hj,rfl⟩:=List.mem_iff_getElem.1 hv
  rw[List.length_take]at hj
  have h1:=m.inn j (by omega) (by omega)
  have hne:¬((j:Int)∈[eT 0 t]):=by
   rw[List.mem_singleton,eT]
   omega
  rw[if_neg hne]at h1
  unfold bW at h1
  rw[List.getD_eq_getElem?_getD]at h1
  have hju:j<u.length:=by omega
  rw[List.getElem?_eq_getElem hju]at h1
  rw[List.getElem_take]
  simp only[Option.getD_some]at h1
  rw[h1]
  decide
 rw[this]
 rfl
mutual
theorem vO(Q:Nd→Prop)(hQ:∀x l,NG x l.length→Q (di x l)):∀(t:Tn) (o:Nat),Gk t→∀y∈t.flat o,Q y
 | .mk x ks,o,hg,y,hy=>by
  unfold Gk at hg
  rw[Tn.flat]at hy
  rcases List.mem_append.1 hy with hy|hy
  ·exact xO Q hQ ks o hg.2 y hy
  ·rw[List.mem_singleton]at hy
   subst hy
   exact hQ x _ (by rw[fb];exact hg.1)
theorem xO(Q:Nd→Prop)(hQ:∀x l,NG x l.length→Q (di x l)):∀(ts:List Tn) (o:Nat),GkL ts→∀y∈Tn.flats o ts,Q y
 |[],_,_,_,hy=>by cases hy
 |t::ts,o,hg,y,hy=>by
  unfold GkL at hg
  rw[Tn.flats]at hy
  rcases List.mem_append.1 hy with hy|hy
  ·exact vO Q hQ t o hg.1 y hy
  ·exact xO Q hQ ts _ hg.2 y hy
end
theorem uo{t:Tn}(hg:Gk t)(o:Nat):(t.flat o).all cN=true:=List.all_eq_true.2 (vO (fun y=>cN y=true) (fun _ _ h=>h.n) t o hg)
theorem Hf{t:Tn}(hg:Gk t)(hs:t.size≤8192)(hk:∀x∈t.flat 0,(ai x).length≤20000):fN (t.flat 0)=true:=by
 unfold fN
 rw[Tn.flat_len,decide_eq_true (by omega),Bool.true_and,List.all_eq_true]
 intro y hy
 have h2:=vO (fun y=>(aD y).length≤70000∧(aw y).length≤200∧(af y).length≤50) (fun _ _ h=>⟨h.t,h.nm,h.mr⟩) t 0 hg y hy
 unfold fu
 rw[decide_eq_true (hk y hy),decide_eq_true h2.1,decide_eq_true h2.2.1,decide_eq_true h2.2.2]
 rfl
end Go.Sx.Tryz
namespace Go.Sx.Tryz
open Go Go.Sx
set_option maxRecDepth 100000
mutual
def jD:Tn→List UInt8
 | .mk x ks=>hdS x++jP ks++[41]
def jP:List Tn→List UInt8
 |[]=>[]
 |t::ts=>[32]++jD t++jP ts
end
theorem zU(L:List Nd)(f i:Nat):nL L (f+1) i=hdS (ag L i)++(ai (ag L i)).flatMap (fun k=>[32]++nL L f k.toNat)++[41]:=rfl
mutual
theorem HJ(L S:List Nd):∀(t:Tn) (P:List Nd) (f:Nat),L=P++t.flat P.length++S→P.length+t.size≤f→nL L f (P.length+t.size-1)=jD t
 | .mk x ks,P,0,_,hf=>by
  rw[Tn.size]at hf
  omega
 | .mk x ks,P,f+1,hL,hf=>by
  have hr:ag L (P.length+(Tn.mk x ks).size-1)=di x (roots P.length ks):=by
   have:=BC P S x ks
   rw[←hL]at this
   rw[show P.length+(Tn.mk x ks).size-1=(eT P.length (.mk x ks)).toNat by rw[eT];omega]
   exact this
  have hL2:L=P++Tn.flats P.length ks++([di x (roots P.length ks)]++S):=by
   rw[hL,Tn.flat]
   simp[List.append_assoc]
  rw[Tn.size]at hf
  rw[zU,hr,jD]
  show hdS x++(roots P.length ks).flatMap (fun k=>[32]++nL L f k.toNat)++[41]=_
  rw[AW L _ ks P f hL2 (by omega)]
theorem AW(L S:List Nd):∀(ts:List Tn) (P:List Nd) (f:Nat),L=P++Tn.flats P.length ts++S→P.length+Tn.sizes ts≤f→(roots P.length ts).flatMap (fun k=>[32]++nL L f k.toNat)=jP ts
 |[],_,_,_,_=>rfl
 |t::ts,P,f,hL,hf=>by
  rw[Tn.sizes]at hf
  have hp:=size_pos t
  have hL2:L=P++t.flat P.length++(Tn.flats (P.length+t.size) ts++S):=by
   rw[hL,Tn.flats]
   simp[List.append_assoc]
  have hP:(P++t.flat P.length).length=P.length+t.size:=by rw[List.length_append,Tn.flat_len]
  have h1:=HJ L _ t P f hL2 (by omega)
  have h2:=AW L S ts (P++t.flat P.length) f (by rw[hL2,hP];simp[List.append_assoc]) (by rw[hP];omega)
  rw[hP]at h2
  rw[roots,List.flatMap_cons,h2,jP]
  rw[show(((P.length+t.size:Nat):Int)-1).toNat=P.length+t.size-1 by omega,h1]
end
theorem GX{L P S:List Nd}{t:Tn}(hL:L=P++t.flat P.length++S):cu L (P.length+t.size-1)=jD t:=by
 have hp:=size_pos t
 exact HJ L S t P _ hL (by omega)
theorem Es(t:Tn):jD t≠[]:=by
 obtain⟨x,ks⟩:=t
 rw[jD]
 simp
structure Rn(x y:Nd):Prop where
 k:aj x=aj y
 t:aD x=aD y
 b:ak x=ak y
 nm:aw x=aw y
 d:ah x=ah y
 m:af x=af y
 n:nN x=nN y
mutual
def Et:Tn→Tn→Prop
 | .mk x ks,u=>Rn x u.data∧EtL ks u.kids
def EtL:List Tn→List Tn→Prop
 |[],us=>us=[]
 |t::ts,us=>∃u us',us=u::us'∧Et t u∧EtL ts us'
end
theorem OW{x y:Nd}(h:Rn x y):hdS x=hdS y:=by
 unfold hdS tyS
 rw[h.k,h.t,h.b,h.nm,h.d,h.m,h.n]
mutual
theorem BV:∀(t u:Tn),Et t u→jD t=jD u
 | .mk x ks,.mk y ls,h=>by
  unfold Et at h
  rw[jD,jD,OW h.1,yz ks ls h.2]
  rfl
theorem yz:∀(ts us:List Tn),EtL ts us→jP ts=jP us
 |[],us,h=>by
  have h:us=[]:=h
  subst h
  rfl
 |t::ts,us,h=>by
  unfold EtL at h
  obtain⟨u,us',rfl,h1,h2⟩:=h
  rw[jP,jP,BV t u h1,yz ts us' h2]
end
theorem EtL.snoc:∀{ts us:List Tn} {t u:Tn},EtL ts us→Et t u→EtL (ts++[t]) (us++[u])
 |[],us,t,u,h,h'=>by
  have h:us=[]:=h
  subst h
  show EtL [t] [u]
  unfold EtL
  exact⟨u,[],rfl,h',rfl⟩
 |a::ts,us,t,u,h,h'=>by
  unfold EtL at h
  obtain⟨b,us',rfl,h1,h2⟩:=h
  show EtL (a::(ts++[t])) _
  unfold EtL
  exact⟨b,us'++[u],rfl,h1,EtL.snoc h2 h'⟩
theorem EtL.nil:EtL [] []:=rfl
theorem EtL.cons{t u:Tn}{ts us:List Tn}(h:Et t u)(h':EtL ts us):EtL (t::ts) (u::us):=by
 unfold EtL
 exact⟨u,us,rfl,h,h'⟩
theorem EtL.one{t u:Tn}(h:Et t u):EtL [t] [u]:=.cons h .nil
theorem EtL.len:∀{ts us:List Tn},EtL ts us→ts.length=us.length
 |[],us,h=>by
  have h:us=[]:=h
  rw[h]
 |t::ts,us,h=>by
  unfold EtL at h
  obtain⟨u,us',rfl,h1,h2⟩:=h
  simp[EtL.len h2]
theorem o8{t:Tn}(hg:Gk t)(hk:aj t.data=1)(hs:t.size≤8192):iM (t.flat 0) (((t.flat 0).length:Int)-1) (((t.flat 0).length:Int)-1)=jD t:=by
 have hp:=size_pos t
 unfold iM
 rw[Tn.flat_len,AD hg hk hs]
 have h1:inI ((t.size:Int)-1) t.size=true:=cB (by omega) (by omega)
 rw[h1]
 show cu (t.flat 0) ((t.size:Int)-1).toNat=jD t
 have:=GX (L:=t.flat 0) (P:=[]) (S:=[]) (t:=t) (by simp)
 rw[show((t.size:Int)-1).toNat=([]:List Nd).length+t.size-1 by simp]
 exact this
end Go.Sx.Tryz
namespace Go.Sx.Tryz
open Go Go.Sx Go.Proofs
set_option maxRecDepth 100000
abbrev Tk:Type:=Int×List UInt8
inductive Lx:List UInt8→List Tk→Prop
 |nil:Lx [] []
 |cons {w r:List UInt8} {k:Int} {ts:List Tk} (h:eX (w++r)=(k,0,w.length)) (hw:0<w.length) (ht:Lx (r.drop (ia r)) ts):Lx (w++r) ((k,w)::ts)
def dP(T:List UInt8)(K:List Tok):List Tk:=K.map fun t=>(an t,say T t)
theorem AY{T pre s:List UInt8}(h:T=pre++s):aI T (pre.length:Int)=s:=by
 unfold aI
 rw[h,Int.toNat_natCast]
 simp
theorem J8{T:List UInt8}{s:List UInt8}{ts:List Tk}(hl:Lx s ts):∀(n k:Nat) (pre:List UInt8),T=pre++s→s.length<n→k+ts.length<16384→
  (jL n T pre.length k).1=0∧dP T (jL n T pre.length k).2.2=ts++[(0,[])]:=by
 induction hl with
 |nil=>
  intro n k pre hT hn hk
  cases n with
  |zero=>exact absurd hn (Nat.not_lt_zero _)
  |succ n=>
   unfold jL
   have h1:decide ((pre.length:Int)<T.length)=false:=decide_eq_false (by rw[hT];simp)
   rw[h1]
   refine⟨rfl,?_⟩
   show [((0:Int),say T (tkn 0 T.length T.length))]=_
   have:say T (tkn 0 T.length T.length)=[]:=by
    show List.drop (Int.toNat (T.length:Int)) (List.take (Int.toNat (T.length:Int)) T)=[]
    simp
   rw[this]
   rfl
 | @cons w r k ts h hw ht ih=>
  intro n kk pre hT hn hk
  cases n with
  |zero=>exact absurd hn (Nat.not_lt_zero _)
  |succ n=>
   unfold jL
   have hlen:T.length=pre.length+(w.length+r.length):=by rw[hT];simp
   have h1:decide ((pre.length:Int)<T.length)=true:=decide_eq_true (by omega)
   simp only[List.length_cons]at hk
   have h2:decide ((kk:Int)≥16384)=false:=decide_eq_false (by omega)
   have hr:=AY hT
   have h3:ig T pre.length=0:=by unfold ig;rw[hr,h]
   have h4:lr T pre.length=k:=by unfold lr;rw[hr,h]
   have h5:bZ T pre.length=((pre++w).length:Nat):=by unfold bZ;rw[hr,h];simp
   have hr2:aI T ((pre++w).length:Nat)=r:=AY (by rw[hT];simp)
   have hg:=qj (r.length+1) r
   have h6:gh T ((pre++w).length:Nat)=((pre++w++r.take (ia r)).length:Nat):=by
    unfold gh
    rw[hr2]
    unfold ia
    simp only[List.length_append,List.length_take]
    omega
   have hT2:T=(pre++w++r.take (ia r))++r.drop (ia r):=by rw[hT];simp
   rw[h1,h2,h3,h4,h5,h6]
   have:=ih n (kk+1) _ hT2 (by
    simp only[List.length_append,List.length_drop]at hn⊢
    omega) (by omega)
   refine⟨this.1,?_⟩
   show(k,say T (tkn k pre.length ((pre++w).length:Nat)))::dP T _=_
   rw[this.2]
   have:say T (tkn k pre.length ((pre++w).length:Nat))=w:=by
    show List.drop (Int.toNat (pre.length:Int)) (List.take (Int.toNat ((pre++w).length:Int)) T)=w
    rw[Int.toNat_natCast,Int.toNat_natCast,hT,←List.append_assoc]
    rw[List.take_left' rfl]
    simp
   rw[this]
   rfl
end Go.Sx.Tryz
namespace Go.Sx.Tryz
open Go Go.Sx
set_option maxRecDepth 100000
structure Kq(T:List UInt8)(K:List Tok)(T':List UInt8)(K':List Tok):Prop where
 len:K.length=K'.length
 tok:∀a:Int,an (ab K a)=an (ab K' a)∧say T (ab K a)=say T' (ab K' a)
theorem Sl{T T':List UInt8}{K K':List Tok}(h:dP T K=dP T' K'):Kq T K T' K':=by
 have hl:K.length=K'.length:=by
  have:=congrArg List.length h
  simpa [dP]using this
 refine⟨hl,fun a=>?_⟩
 unfold ab
 rw[List.getD_eq_getElem?_getD,List.getD_eq_getElem?_getD]
 have hi:=congrArg (fun l=>l[a.toNat]?) h
 simp only[dP,List.getElem?_map]at hi
 cases h1:K[a.toNat]? with
 |none=>
  rw[h1]at hi
  cases h2:K'[a.toNat]? with
  |none=>exact⟨rfl,by show say T (0,0,0,())=say T' (0,0,0,());simp[say,aa,tTo]⟩
  |some u=>rw[h2]at hi;cases hi
 |some t=>
  rw[h1]at hi
  cases h2:K'[a.toNat]? with
  |none=>rw[h2]at hi;cases hi
  |some u=>
   rw[h2]at hi
   simp only[Option.map_some,Option.some.injEq,Prod.mk.injEq]at hi
   exact hi
def SP{α β:Type}(R:α→β→Prop)(r:PR α)(r':PR β):Prop:=match r,r' with
 | .ok y a d A,.ok y' a' d' A'=>R y y'∧a=a'∧d=d'∧A=A'
 | .fault c _,.fault c' _=>c=c'
 | .bad,.bad=>True
 |_,_=>False
def SR{α β:Type}(R:α→β→Prop)(r:TR α)(r':TR β):Prop:=match r,r' with
 | .ok y a d n,.ok y' a' d' n'=>R y y'∧a=a'∧d=d'∧n=n'
 | .fault c _,.fault c' _=>c=c'
 | .bad,.bad=>True
 |_,_=>False
def Pl{α β:Type}(R:α→β→Prop)(m:Pm α)(m':Pm β):Prop:=∀a d A,SP R (m a d A) (m' a d A)
def Rl{α β:Type}(R:α→β→Prop)(m:Tm α)(m':Tm β):Prop:=∀a d n,SR R (m a d n) (m' a d n)
theorem Pl.bind{α β γ δ:Type}{R:α→β→Prop}{R':γ→δ→Prop}{m:Pm α}{m':Pm β}{k:α→Pm γ}{k':β→Pm δ}(h:Pl R m m')(hk:∀y y',R y y'→Pl R' (k y) (k' y')):Pl R' (m.bind k) (m'.bind k'):=fun a d A=>by
 have:=h a d A
 unfold Pm.bind
 cases e:m a d A with
 |ok y a1 d1 A1=>
  cases e':m' a d A with
  |ok y' a2 d2 A2=>
   rw[e,e']at this
   obtain⟨h1,rfl,rfl,rfl⟩:=this
   exact hk y y' h1 a1 d1 A1
  |fault c p=>rw[e,e']at this;exact this.elim
  |bad=>rw[e,e']at this;exact this.elim
 |fault c p=>
  cases e':m' a d A with
  |ok y' a2 d2 A2=>rw[e,e']at this;exact this.elim
  |fault c' p'=>rw[e,e']at this;exact this
  |bad=>rw[e,e']at this;exact this.elim
 |bad=>
  cases e':m' a d A with
  |ok y' a2 d2 A2=>rw[e,e']at this;exact this.elim
  |fault c' p'=>rw[e,e']at this;exact this.elim
  |bad=>trivial
theorem Rl.bind{α β γ δ:Type}{R:α→β→Prop}{R':γ→δ→Prop}{m:Tm α}{m':Tm β}{k:α→Tm γ}{k':β→Tm δ}(h:Rl R m m')(hk:∀y y',R y y'→Rl R' (k y) (k' y')):Rl R' (m.bind k) (m'.bind k'):=fun a d n=>by
 have:=h a d n
 unfold Tm.bind
 cases e:m a d n with
 |ok y a1 d1 n1=>
  cases e':m' a d n with
  |ok y' a2 d2 n2=>
   rw[e,e']at this
   obtain⟨h1,rfl,rfl,rfl⟩:=this
   exact hk y y' h1 a1 d1 n1
  |fault c p=>rw[e,e']at this;exact this.elim
  |bad=>rw[e,e']at this;exact this.elim
 |fault c p=>
  cases e':m' a d n with
  |ok y' a2 d2 n2=>rw[e,e']at this;exact this.elim
  |fault c' p'=>rw[e,e']at this;exact this
  |bad=>rw[e,e']at this;exact this.elim
 |bad=>
  cases e':m' a d n with
  |ok y' a2 d2 n2=>rw[e,e']at this;exact this.elim
  |fault c' p'=>rw[e,e']at this;exact this.elim
  |bad=>trivial
theorem Pl.ret{α β:Type}{R:α→β→Prop}{y:α}{y':β}(h:R y y'):Pl R (.ret y) (.ret y'):=fun _ _ _=>⟨h,rfl,rfl,rfl⟩
theorem Pl.flt{α β:Type}{R:α→β→Prop}{c p p':Int}:Pl R (.flt c p:Pm α) (.flt c p':Pm β):=fun _ _ _=>rfl
theorem Pl.bad{α β:Type}{R:α→β→Prop}:Pl R (.bad:Pm α) (.bad:Pm β):=fun _ _ _=>trivial
theorem Pl.bif{α β:Type}{R:α→β→Prop}{c c':Bool}{m n:Pm α}{m' n':Pm β}(e:c=c')(h:Pl R m m')(h':Pl R n n'):Pl R (bif c then m else n) (bif c' then m' else n'):=by
 subst e
 cases c
 ·exact h'
 ·exact h
theorem Rl.ret{α β:Type}{R:α→β→Prop}{y:α}{y':β}(h:R y y'):Rl R (.ret y) (.ret y'):=fun _ _ _=>⟨h,rfl,rfl,rfl⟩
theorem Rl.flt{α β:Type}{R:α→β→Prop}{c p p':Int}:Rl R (.flt c p:Tm α) (.flt c p':Tm β):=fun _ _ _=>rfl
theorem Rl.flt'{α β:Type}{R:α→β→Prop}{c c' p p':Int}(h:c=c'):Rl R (.flt c p:Tm α) (.flt c' p':Tm β):=fun _ _ _=>h
theorem Rl.bad{α β:Type}{R:α→β→Prop}:Rl R (.bad:Tm α) (.bad:Tm β):=fun _ _ _=>trivial
theorem Rl.bif{α β:Type}{R:α→β→Prop}{c c':Bool}{m n:Tm α}{m' n':Tm β}(e:c=c')(h:Rl R m m')(h':Rl R n n'):Rl R (bif c then m else n) (bif c' then m' else n'):=by
 subst e
 cases c
 ·exact h'
 ·exact h
theorem Pl.lft{α β:Type}{R:α→β→Prop}{m:Pm α}{m':Pm β}(h:Pl R m m'):Rl R (lft m) (lft m'):=fun a d n=>by
 have:=h a d []
 unfold Tryz.lft
 cases e:m a d []with
 |ok y a1 d1 A1=>
  cases e':m' a d []with
  |ok y' a2 d2 A2=>
   rw[e,e']at this
   exact⟨this.1,this.2.1,this.2.2.1,rfl⟩
  |fault c p=>rw[e,e']at this;exact this.elim
  |bad=>rw[e,e']at this;exact this.elim
 |fault c p=>
  cases e':m' a d []with
  |ok y' a2 d2 n2=>rw[e,e']at this;exact this.elim
  |fault c' p'=>rw[e,e']at this;exact this
  |bad=>rw[e,e']at this;exact this.elim
 |bad=>
  cases e':m' a d []with
  |ok y' a2 d2 n2=>rw[e,e']at this;exact this.elim
  |fault c' p'=>rw[e,e']at this;exact this.elim
  |bad=>trivial
def Rx{α β:Type}:α→β→Prop:=fun _ _=>True
def Rq(t u:Tok×Str):Prop:=an t.1=an u.1∧t.2=u.2
section
variable{T T':List UInt8}{K K':List Tok}
theorem cJ(h:Kq T K T' K'):Pl Rq (bK T K) (bK T' K'):=fun a _ _=>⟨h.tok a,rfl,rfl,rfl⟩
theorem qg(h:Kq T K T' K')(n:Int):Pl (fun x y=>x=y) (eN T K n) (eN T' K' n):=fun a d A=>by
 unfold eN
 rw[h.len,(h.tok (a+n)).1,(h.tok (a+n)).2]
 cases decide (a+n≥(K'.length:Int))<;>exact⟨rfl,rfl,rfl,rfl⟩
theorem b6(h:Kq T K T' K'):Pl (Rx (α:=Int) (β:=Int)) (aW K) (aW K'):=fun a d A=>by
 unfold aW
 rw[(h.tok a).1]
 cases an (ab K' a) !=0<;>exact⟨trivial,rfl,rfl,rfl⟩
theorem sL(h:Kq T K T' K')(s:Str):Pl (fun x y=>x=y) (cIs T K s) (cIs T' K' s):=.bind (cJ h) fun t u e=>.ret (by rw[e.1,e.2])
theorem eK(h:Kq T K T' K')(s:Str):Pl (fun x y=>x=y) (bR T K s) (bR T' K' s):=.bind (sL h s) fun t u e=>.bif e (.bind (b6 h) fun _ _ _=>.ret rfl) (.ret rfl)
theorem bJ(h:Kq T K T' K')(s:Str):Pl (Rx (α:=Int) (β:=Int)) (aJ T K s) (aJ T' K' s):=.bind (sL h s) fun t u e=>.bif e (b6 h) (.bind (cJ h) fun _ _ _=>.flt)
theorem ou(h:Kq T K T' K'):Pl (fun x y=>x=y) (dc T K) (dc T' K'):=.bind (cJ h) fun t u e=>.bif (by rw[e.1,e.2]) (.bind (b6 h) fun _ _ _=>.ret e.2) .flt
theorem An:Pl (Rx (α:=Unit) (β:=Unit)) (fE K) (fE K'):=fun a d A=>by
 unfold fE
 cases decide (d+1>60)
 ·exact⟨trivial,rfl,rfl,rfl⟩
 ·exact rfl
theorem HE:Pl (Rx (α:=Unit) (β:=Unit)) rP rP:=fun _ _ _=>⟨trivial,rfl,rfl,rfl⟩
theorem CA{n n':Int}(e:n=n'):Pl (Rx (α:=Unit) (β:=Unit)) (jz K n) (jz K' n'):=fun a d A=>by
 subst e
 unfold jz
 cases decide (n>64)
 ·exact⟨trivial,rfl,rfl,rfl⟩
 ·exact rfl
theorem CF(h:Kq T K T' K'){l l':Nat}(e:l=l'):Pl (Rx (α:=Unit) (β:=Unit)) (comma T K l) (comma T' K' l'):=.bif (by rw[e]) (.bind (bJ h _) fun _ _ _=>.ret trivial) (.ret trivial)
theorem AR(h:Kq T K T' K'):Pl (fun x y=>x=y) (dd T K) (dd T' K'):=.bind (qg h 0) fun x y e=>by
 subst e
 exact .bif rfl (.ret rfl) (.bif rfl (.bind (qg h 1) fun y y' e=>.bind (qg h 2) fun z z' e'=>.ret (by rw[e,e'])) (.ret rfl))
theorem kP{b w1 w2 e w1' w2' e':Int}{n n':Str}(hn:n=n'):Rn (oC b n w1 w2 e) (oC b n' w1' w2' e'):=⟨rfl,rfl,rfl,hn,rfl,rfl,rfl⟩
theorem PM(h:Kq T K T' K'):Pl Rn (nr T K) (nr T' K'):=.bind (cJ h) fun t u e=>.bif (by rw[e.1]) (.bif (by rw[e.2]) (.bind (b6 h) fun _ _ _=>.ret (kP rfl)) (.bif (by rw[e.2]) (.bind (b6 h) fun _ _ _=>.ret (kP rfl)) (.bif (by rw[e.2]) (.bind (b6 h) fun _ _ _=>.ret (kP rfl)) (.bif (by rw[e.2]) (.bind (b6 h) fun _ _ _=>.ret (kP rfl)) (.bif (by rw[e.2]) (.bind (b6 h) fun _ _ _=>.ret (kP e.2)) .flt))))) .flt
theorem Co{x y:Nd}(h:Rn x y)(c:UInt8){w1 w2 w1' w2':Int}:Rn (fe x c w1 w2) (fe y c w1' w2'):=⟨h.k,h.t,h.b,h.nm,h.d,by
 show(af x).take (ah x).toNat++[c]=(af y).take (ah y).toNat++[c]
 rw[h.m,h.d],h.n⟩
theorem QG{x y:Nd}(h:Rn x y){e e':Int}:Rn (rR x e) (rR y e'):=⟨h.k,h.t,h.b,h.nm,by
 show ah x+1=ah y+1
 rw[h.d],by
 show af x++[32]=af y++[32]
 rw[h.m],h.n⟩
theorem mark_eq{x y:Nd}(h:Rn x y):eV x (ah x)=eV y (ah y):=by
 unfold eV
 rw[h.m,h.d]
theorem qW(h:Kq T K T' K'):∀(n:Nat) (x y:Nd),Rn x y→Pl Rn (dz T K n x) (dz T' K' n y)
 |0,_,_,_=>.bad
 |n+1,x,y,e=>.bind (cJ h) fun _ _ _=>.bind (sL h _) fun _ _ e1=>.bif e1 (.bif (by rw[mark_eq e,e.b,e.d]) .flt (.bind (b6 h) fun _ _ _=>qW h n _ _ (Co e _)))
  (.bind (qg h 1) fun _ _ e2=>.bind (sL h _) fun _ _ e3=>.bif (by rw[e2,e3]) (.bif (by rw[e.d]) .flt (.bind (b6 h) fun _ _ _=>.bind (b6 h) fun _ _ _=>qW h n _ _ (QG e))) (.ret e))
theorem we(h:Kq T K T' K'):Pl Rn (dQ T K) (dQ T' K'):=.bind (PM h) fun x y e=>by
 rw[h.len]
 exact qW h _ x y e
theorem qh(h:Kq T K T' K')(v:Bool):Pl Rn (cE T K v) (cE T' K' v):=.bind (cJ h) fun t u e=>.bif (by rw[e.1,e.2]) (.bind (b6 h) fun _ _ _=>.bind (bJ h _) fun _ _ _=>.bind (we h) fun x y e1=>.bind (bJ h _) fun _ _ _=>.bif (by rw[mark_eq e1,e1.b,e1.d]) .flt (.ret (Co e1 _)))
 (.bif (by rw[e.1,e.2]) (.bind (b6 h) fun _ _ _=>.ret (kP rfl)) (we h))
end
end Go.Sx.Tryz
namespace Go.Sx.Tryz
open Go Go.Sx
set_option maxRecDepth 100000
def RM(x y:Nd×List Tn):Prop:=Rn x.1 y.1∧EtL x.2 y.2
def RW(x y:(Nd×List Tn)×Bool):Prop:=RM x.1 y.1∧x.2=y.2
theorem bY{k:Int}{w w':Str}(e:w=w'):Rn (nod k [] w) (nod k [] w'):=⟨rfl,e,rfl,rfl,rfl,rfl,rfl⟩
theorem fG{k n n':Int}{w w':Str}(e:n=n')(e':w=w'):Rn (eA k n w) (eA k n' w'):=⟨rfl,e',rfl,rfl,rfl,rfl,e⟩
theorem gQ{x y:Nd}(h:Rn x y)(k:Int){w w':Str}(e:w=w'):Rn (bI x k [] w) (bI y k [] w'):=⟨rfl,e,h.b,h.nm,h.d,h.m,h.n⟩
theorem VJ{x y:Nd}{ks ls:List Tn}(h:Rn x y)(h':EtL ks ls):Et (.mk x ks) (.mk y ls):=by
 unfold Et
 exact⟨h,h'⟩
theorem EtL.two{a b c d:Tn}(h:Et a c)(h':Et b d):EtL [a,b] [c,d]:=.cons h (.one h')
theorem EtL.three{a b c d e f:Tn}(h:Et a d)(h':Et b e)(h2:Et c f):EtL [a,b,c] [d,e,f]:=.cons h (.two h' h2)
section
variable{T T':List UInt8}{K K':List Tok}{p p':Kt}
theorem cL{x y:Nd}{f f':Int}{ks ls:List Tn}(h:Rn x y)(h':EtL ks ls):Rl Et (cR K x f ks) (cR K' y f' ls):=fun a d n=>by
 unfold cR
 cases decide ((n:Int)≥8192)
 ·exact⟨VJ ⟨h.k,h.t,h.b,h.nm,h.d,h.m,h.n⟩ h',rfl,rfl,rfl⟩
 ·exact rfl
structure EK(p p':Kt):Prop where
 val:Rl Et p.val p'.val
 blk:Rl Et p.blk p'.blk
 un:Rl Et p.un p'.un
theorem fP(h:Kq T K T' K')(hp:EK p p'):Rl Et (dj T K p) (dj T' K' p'):=.bind (bJ h _).lft fun _ _ _=>.bind hp.val fun x y e=>.bind (bJ h _).lft fun _ _ _=>.ret e
theorem Bq(h:Kq T K T' K')(hp:EK p p'):∀(n:Nat) (L M:List Tn),EtL L M→Rl EtL (mq T K p n L) (mq T' K' p' n M)
 |0,_,_,_=>.bad
 |n+1,L,M,e=>.bind (eK h _).lft fun _ _ e1=>.bif e1 (.ret e) (.bind (CF h e.len).lft fun _ _ _=>.bind (CA (by rw[e.len])).lft fun _ _ _=>.bind hp.val fun x y e2=>Bq h hp n _ _ (e.snoc e2))
theorem zX(h:Kq T K T' K')(hp:EK p p'):Rl EtL (pb T K p) (pb T' K' p'):=.bind (bJ h _).lft fun _ _ _=>by
 rw[h.len]
 exact Bq h hp _ _ _ .nil
theorem mR(h:Kq T K T' K'){x y:Nd}{e e':Int}(hx:Rn x y)(he:e=e'):Rl Et (mi T K x e) (mi T' K' y e'):=.bind (cJ h).lft fun t u _=>.bif (by rw[he]) (.flt' he) (.bind (b6 h).lft fun _ _ _=>cL hx .nil)
theorem Oo(h:Kq T K T' K')(hp:EK p p'):Rl RM (tF T K p) (tF T' K' p'):=.bind (we h).lft fun x y e=>.bind (sL h _).lft fun _ _ e1=>.bif e1 (.bif (by rw[e.b,e.d,e.m]) .flt (.bind (zX h hp) fun l m e2=>.ret ⟨gQ e _ e.t,e2⟩))
 (.bind (bJ h _).lft fun _ _ _=>.bind hp.val fun v u e2=>.bind (bJ h _).lft fun _ _ _=>.ret ⟨gQ e _ e.t,.one e2⟩)
theorem PZ(h:Kq T K T' K')(hp:EK p p')(t t':Tok)(s:Str):Rl Et (tD T K p t s) (tD T' K' p' t' s):=
 .bif rfl (mR h (fG rfl rfl) rfl) (.bif rfl (mR h (fG rfl rfl) rfl) (.bif rfl (mR h (fG rfl rfl) rfl) (.bif rfl (mR h (fG rfl rfl) rfl) (.bif rfl (mR h (fG rfl rfl) rfl)
 (.bif rfl (.bind (b6 h).lft fun _ _ _=>.bind (bJ h _).lft fun _ _ _=>.bind (bJ h _).lft fun _ _ _=>cL (bY rfl) .nil)
 (.bif rfl (.bind (b6 h).lft fun _ _ _=>.bind (fP h hp) fun x y e=>cL (bY rfl) (.one e))
 (.bif rfl (.bind (b6 h).lft fun _ _ _=>.bind (bJ h _).lft fun _ _ _=>.bind (qh h _).lft fun x y e=>.bind (bJ h _).lft fun _ _ _=>.bind (fP h hp) fun v u e2=>cL (gQ e _ e.t) (.one e2))
 (.bif rfl (.bind (b6 h).lft fun _ _ _=>.bind (Oo h hp) fun x y e=>cL e.1 e.2) .flt))))))))
theorem D7(h:Kq T K T' K')(hp:EK p p'):Rl Et (iv T K p) (iv T' K' p'):=.bind (cJ h).lft fun t u e=>by
 obtain⟨e1,e2⟩:=e
 rw[e1,e2]
 exact .bif rfl (mR h (fG rfl rfl) rfl) (.bif rfl (mR h (fG rfl rfl) rfl) (.bif rfl (mR h (fG rfl rfl) rfl) (.bif rfl (.bif rfl (fP h hp) .flt) (.bif rfl (.bif rfl (mR h (fG rfl rfl) rfl) (PZ h hp _ _ _)) .flt))))
theorem OT(h:Kq T K T' K')(hp:EK p p'){x y:Tn}(e:Et x y)(f f':Int):Rl Et (tH T K p x f) (tH T' K' p' y f'):=.bind (eK h _).lft fun _ _ e1=>.bif e1 (cL (bY rfl) (.one e)) (.bind (eK h _).lft fun _ _ e2=>.bif e2 (cL (bY rfl) (.one e))
 (.bind (ou h).lft fun s s' e3=>.bind (sL h _).lft fun _ _ e4=>.bif e4 (.bind (zX h hp) fun l m e5=>cL (bY e3) (.cons e e5)) (cL (bY e3) (.one e))))
theorem kF(h:Kq T K T' K')(hp:EK p p')(f f':Int):∀(n:Nat) (x y:Tn),Et x y→Rl Et (eG T K p f n x) (eG T' K' p' f' n y)
 |0,_,_,_=>.bad
 |n+1,x,y,e=>.bind (eK h _).lft fun _ _ e1=>.bif e1 (.bind (cL (bY rfl) (.one e)) fun _ _ e2=>kF h hp f f' n _ _ e2)
  (.bind (eK h _).lft fun _ _ e1=>.bif e1 (.bind hp.val fun _ _ e2=>.bind (bJ h _).lft fun _ _ _=>.bind (cL (bY rfl) (.two e e2)) fun _ _ e3=>kF h hp f f' n _ _ e3)
  (.bind (eK h _).lft fun _ _ e1=>.bif e1 (.bind (OT h hp e f f') fun _ _ e2=>kF h hp f f' n _ _ e2) (.ret e)))
theorem G1(h:Kq T K T' K')(hp:EK p p'):Rl Et (kL T K p) (kL T' K' p'):=.bind (cJ h).lft fun t u _=>.bind (D7 h hp) fun x y e=>by
 rw[h.len]
 exact kF h hp _ _ _ _ _ e
theorem LJ(h:Kq T K T' K')(hp:EK p p'):Rl Et (oc T K p) (oc T' K' p'):=.bind (cJ h).lft fun t u e=>.bif (by rw[e.1,e.2]) (.bind An.lft fun _ _ _=>.bind (b6 h).lft fun _ _ _=>.bind hp.un fun x y e2=>.bind HE.lft fun _ _ _=>by
 rw[e.2]
 exact cL (bY rfl) (.one e2)) (G1 h hp)
theorem mT(h:Kq T K T' K'){sub sub':Tm Tn}(hs:Rl Et sub sub')(least f f':Int):∀(n:Nat) (x y:Tn),Et x y→Rl Et (fL T K least f sub n x) (fL T' K' least f' sub' n y)
 |0,_,_,_=>.bad
 |n+1,x,y,e=>.bind (cJ h).lft fun t u e0=>.bif (by rw[e0.1,e0.2]) (.bind (b6 h).lft fun _ _ _=>.bind hs fun _ _ e1=>.bind (cL (bY e0.2) (.two e e1)) fun _ _ e2=>mT h hs least f f' n _ _ e2)
  (.bif rfl (.bind (eK h _).lft fun _ _ e1=>.bif e1 (.bind (eK h _).lft fun _ _ e2=>.bif e2 (.bind (cL (bY rfl) (.one e)) fun _ _ e3=>mT h hs least f f' n _ _ e3) (.bind (bJ h _).lft fun _ _ _=>.bind (cL (bY rfl) (.one e)) fun _ _ e3=>mT h hs least f f' n _ _ e3)) (.ret e)) (.ret e))
theorem vG(h:Kq T K T' K')(hp:EK p p'):∀j:Nat,Rl Et (kb T K p j) (kb T' K' p' j)
 |0=>.bind (cJ h).lft fun _ _ _=>hp.un
 |j+1=>.bind (cJ h).lft fun _ _ _=>.bind (vG h hp j) fun x y e=>by
  rw[h.len]
  exact mT h (vG h hp j) _ _ _ _ _ _ e
theorem Kd(h:Kq T K T' K')(hp:EK p p'):Rl Et (oJ T K p) (oJ T' K' p'):=.bind An.lft fun _ _ _=>.bind (vG h hp 6) fun _ _ e=>.bind HE.lft fun _ _ _=>.ret e
theorem Rj(h:Kq T K T' K')(hp:EK p p')(s:Str):Rl RW (qS T K p s) (qS T' K' p' s):=
 .bif rfl (.bind (b6 h).lft fun _ _ _=>.bind (fP h hp) fun _ _ e1=>.bind hp.blk fun _ _ e2=>.bind (eK h _).lft fun _ _ e3=>.bif e3 (.bind hp.blk fun _ _ e4=>.ret ⟨⟨bY rfl,.three e1 e2 e4⟩,rfl⟩) (.ret ⟨⟨bY rfl,.two e1 e2⟩,rfl⟩))
 (.bif rfl (.bind (b6 h).lft fun _ _ _=>.bind (fP h hp) fun _ _ e1=>.bind hp.blk fun _ _ e2=>.ret ⟨⟨bY rfl,.two e1 e2⟩,rfl⟩)
 (.bif rfl (.bind (b6 h).lft fun _ _ _=>.bind (bJ h _).lft fun _ _ _=>.ret ⟨⟨bY rfl,.nil⟩,rfl⟩)
 (.bif rfl (.bind (b6 h).lft fun _ _ _=>.bind (bJ h _).lft fun _ _ _=>.ret ⟨⟨bY rfl,.nil⟩,rfl⟩)
 (.bif rfl (.bind (b6 h).lft fun _ _ _=>.bind (sL h _).lft fun _ _ e1=>.bif e1 (.bind (bJ h _).lft fun _ _ _=>.ret ⟨⟨bY rfl,.nil⟩,rfl⟩) (.bind hp.val fun _ _ e2=>.bind (bJ h _).lft fun _ _ _=>.ret ⟨⟨bY rfl,.one e2⟩,rfl⟩))
 (.bif rfl (.bind (b6 h).lft fun _ _ _=>.bind (fP h hp) fun _ _ e1=>.bind (bJ h _).lft fun _ _ _=>.ret ⟨⟨bY rfl,.one e1⟩,rfl⟩)
 (.bif rfl (.bind (b6 h).lft fun _ _ _=>.bind (zX h hp) fun _ _ e1=>.bind (bJ h _).lft fun _ _ _=>.ret ⟨⟨bY rfl,e1⟩,rfl⟩)
 (.ret ⟨⟨bY rfl,.nil⟩,rfl⟩)))))))
theorem Et.kind{x y:Tn}(h:Et x y):aj x.data=aj y.data:=by
 obtain⟨a,b⟩:=x
 unfold Et at h
 exact h.1.k
theorem Bl(h:Kq T K T' K')(hp:EK p p')(f f':Int):Rl Et (lO T K p f) (lO T' K' p' f'):=.bind hp.val fun x y e=>.bind (cJ h).lft fun _ _ _=>.bind (eK h _).lft fun _ _ e1=>.bif e1 (.bif (by rw[e.kind]) (.bind hp.val fun _ _ e2=>.bind (bJ h _).lft fun _ _ _=>cL (bY rfl) (.two e e2)) .flt)
 (.bif (by rw[e.kind]) (.bind (bJ h _).lft fun _ _ _=>cL (bY rfl) (.one e)) .flt)
theorem Ot(h:Kq T K T' K')(hp:EK p p'):Rl Et (tE T K p) (tE T' K' p'):=.bind (cJ h).lft fun t u e=>.bif (by rw[e.1,e.2]) hp.blk (.bind (AR h).lft fun _ _ e1=>.bif e1 (.bind (qh h _).lft fun x y e2=>.bind (ou h).lft fun _ _ e3=>.bind (eK h _).lft fun _ _ e4=>
  .bif e4 (.bind hp.val fun _ _ e5=>.bind (bJ h _).lft fun _ _ _=>cL (gQ e2 _ e3) (.one e5)) (.bind (bJ h _).lft fun _ _ _=>cL (gQ e2 _ e3) .nil))
 (.bif (by rw[e.1]) (by
  rw[e.2]
  exact .bind (Rj h hp _) fun w w' e5=>.bif e5.2 (cL e5.1.1 e5.1.2) (Bl h hp _ _)) (Bl h hp _ _)))
theorem w7(h:Kq T K T' K')(hp:EK p p')(f f':Int):∀(n:Nat) (L M:List Tn),EtL L M→Rl Et (jv T K p f n L) (jv T' K' p' f' n M)
 |0,_,_,_=>.bad
 |n+1,L,M,e=>.bind (sL h _).lft fun _ _ e1=>.bif e1 (.bind (bJ h _).lft fun _ _ _=>.bind HE.lft fun _ _ _=>cL (bY rfl) e) (.bind (Ot h hp) fun _ _ e2=>w7 h hp f f' n _ _ (e.snoc e2))
theorem JN(h:Kq T K T' K')(hp:EK p p'):Rl Et (oB T K p) (oB T' K' p'):=.bind (cJ h).lft fun _ _ _=>.bind An.lft fun _ _ _=>.bind (bJ h _).lft fun _ _ _=>by
 rw[h.len]
 exact w7 h hp _ _ _ _ _ .nil
theorem wH(h:Kq T K T' K'):∀n,EK (knt T K n) (knt T' K' n)
 |0=>⟨.bad,.bad,.bad⟩
 |n+1=>⟨Kd h (wH h n),JN h (wH h n),LJ h (wH h n)⟩
theorem u7(h:Kq T K T' K'):∀(n:Nat) (L M:List Tn),EtL L M→Rl EtL (fU T K n L) (fU T' K' n M)
 |0,_,_,_=>.bad
 |n+1,L,M,e=>.bind (eK h _).lft fun _ _ e1=>.bif e1 (.ret e) (.bind (CF h e.len).lft fun _ _ _=>.bind (CA (by rw[e.len])).lft fun _ _ _=>.bind (cJ h).lft fun _ _ _=>.bind (qh h _).lft fun _ _ e2=>.bind (ou h).lft fun _ _ e3=>
  .bind (cL (gQ e2 _ e3) .nil) fun _ _ e4=>u7 h n _ _ (e.snoc e4))
theorem yu(h:Kq T K T' K'):Rl EtL (iT T K) (iT T' K'):=.bind (bJ h _).lft fun _ _ _=>by
 rw[h.len]
 exact u7 h _ _ _ .nil
theorem G5(h:Kq T K T' K')(hp:EK p p'):Rl Et (kW T K p) (kW T' K' p'):=.bind (cJ h).lft fun t u e=>.bif (by rw[e.1,e.2]) (.bind (b6 h).lft fun _ _ _=>.bind (yu h) fun _ _ e1=>.bind hp.blk fun _ _ e2=>cL (bY rfl) (e1.snoc e2))
 (.bind (qh h _).lft fun _ _ e1=>.bind (ou h).lft fun _ _ e2=>.bind (sL h _).lft fun _ _ e3=>.bif e3 (.bind (yu h) fun _ _ e4=>.bind hp.blk fun _ _ e5=>cL (gQ e1 _ e2) (e4.snoc e5)) (.bif (by rw[e1.b]) .flt (.bind (bJ h _).lft fun _ _ _=>cL (gQ e1 _ e2) .nil)))
theorem rE(h:Kq T K T' K')(hp:EK p p')(f f':Int){s s':Str}(es:s=s'):∀(n:Nat) (L M:List Tn),EtL L M→Rl Et (gN T K p f s n L) (gN T' K' p' f' s' n M)
 |0,_,_,_=>.bad
 |n+1,L,M,e=>.bind (sL h _).lft fun _ _ e1=>.bif e1 (.bind (bJ h _).lft fun _ _ _=>cL (bY es) e) (.bind (CA (by rw[e.len])).lft fun _ _ _=>.bind (G5 h hp) fun _ _ e2=>rE h hp f f' es n _ _ (e.snoc e2))
theorem Me(h:Kq T K T' K')(hp:EK p p'):Rl Et (ox T K p) (ox T' K' p'):=.bind (cJ h).lft fun _ _ _=>.bind (bJ h _).lft fun _ _ _=>.bind (ou h).lft fun _ _ e1=>.bind (cJ h).lft fun _ _ _=>.bind (eK h _).lft fun _ _ e2=>.bif e2
 (.bind (ou h).lft fun _ _ e3=>.bind (cL (bY e3) .nil) fun _ _ e4=>.bind (bJ h _).lft fun _ _ _=>by
  rw[h.len]
  exact rE h hp _ _ e1 _ _ _ (.one e4))
 (.bind (bJ h _).lft fun _ _ _=>by
  rw[h.len]
  exact rE h hp _ _ e1 _ _ _ .nil)
theorem rO(h:Kq T K T' K')(hp:EK p p'):∀(n:Nat) (L M:List Tn),EtL L M→Rl Et (dB T K p n L) (dB T' K' p' n M)
 |0,_,_,_=>.bad
 |n+1,L,M,e=>.bind (cJ h).lft fun t u e1=>.bif (by rw[e1.1]) (cL (bY rfl) e) (.bind (CA (by rw[e.len])).lft fun _ _ _=>.bind (Me h hp) fun _ _ e2=>rO h hp n _ _ (e.snoc e2))
theorem DS(h:Kq T K T' K')(hp:EK p p'):Rl Et (kg T K p) (kg T' K' p'):=by
 unfold kg
 rw[h.len]
 exact rO h hp _ _ _ .nil
end
theorem Ar{T T':List UInt8}(h:Kq T (b9 T) T' (b9 T')):SR Et (jR T) (jR T'):=DS h (wH h lC) 0 0 0
end Go.Sx.Tryz
namespace Go.Sx.Tryz
open Go Go.Sx Go.Proofs
set_option maxRecDepth 100000
def sy1(c d:UInt8):Bool:= !isLet c.toNat&&(!aH c.toNat&&(!((c.toNat:Int)==34)&&(!Lib.contains eF [c,d,32]&&decide (Lib.indexByte q9 (c.toNat:Int).toNat.toUInt8≥0))))
theorem O2{c d:UInt8}{r:List UInt8}(h:sy1 c d=true):eX (c::d::r)=(5,0,1):=by
 unfold sy1 at h
 simp only[Bool.and_eq_true,Bool.not_eq_true']at h
 obtain⟨h1,h2,h3,h4,h5⟩:=h
 have e0:at8 (c::d::r) 0=(c.toNat:Int):=rfl
 have e1:((c::d::r).take 2++[32])=[c,d,32]:=rfl
 unfold eX sQ
 rw[e0,e1,h1,h2,h3,h4,h5]
 simp only[Bool.false_and,Bool.and_false,cond_true,cond_false]
def nb(d:UInt8):Bool:= !aU d.toNat&& !(d==47)
end Go.Sx.Tryz
namespace Go.Sx.Tryz
open Go Go.Sx
set_option maxRecDepth 100000
theorem kQ(p:Int→Bool)(c:UInt8)(s:List UInt8):aG p (c::s)=bif p c.toNat then aG p s+1 else 0:=bS p c s
theorem ve{p:Int→Bool}{x:UInt8}(hx:p x.toNat=false):∀(w r0 r:List UInt8),w.length≤aG p (w++r0)→aG p (w++x::r)=w.length
 |[],_,r,_=>by
  show aG p (x::r)=0
  rw[kQ,hx]
  rfl
 |c::w,r0,r,h=>by
  have h:w.length+1≤aG p (c::(w++r0)):=h
  show aG p (c::(w++x::r))=w.length+1
  rw[kQ]at h⊢
  cases hp:p c.toNat with
  |false=>rw[hp]at h;exact absurd h (by simp)
  |true=>
   rw[hp]at h
   simp only[cond_true]at h⊢
   rw[ve hx w r0 r (by omega)]
theorem ET{p:Int→Bool}:∀(w r0 y:List UInt8),aG p (w++r0)<w.length→aG p (w++y)=aG p (w++r0)
 |[],_,_,h=>by cases h
 |c::w,r0,y,h=>by
  have h:aG p (c::(w++r0))<w.length+1:=h
  show aG p (c::(w++y))=aG p (c::(w++r0))
  rw[kQ]at h⊢
  rw[kQ]
  cases hp:p c.toNat with
  |false=>rfl
  |true=>
   rw[hp]at h
   simp only[cond_true]at h⊢
   rw[ET w r0 y (by omega)]
theorem zN{w:List UInt8}(r y:List UInt8){i:Nat}(h:i<w.length):at8 (w++y) i=at8 (w++r) i:=by
 unfold at8
 rw[List.getD_eq_getElem?_getD,List.getD_eq_getElem?_getD,List.getElem?_append_left h,List.getElem?_append_left h]
theorem Py(w r:List UInt8)(x:UInt8):at8 (w++x::r) w.length=x.toNat:=by
 unfold at8
 rw[List.getD_eq_getElem?_getD,List.getElem?_append_right (Nat.le_refl _),Nat.sub_self]
 rfl
theorem wL:∀(n:Nat) (u r0:List UInt8),cU n (u++r0)=(u.length,0)→∀(m:Nat) (y:List UInt8),u.length≤m→cU m (u++y)=(u.length,0)
 |0,u,r0,h,m,y,hm=>by
  exfalso
  cases hu:u++r0 with
  |nil=>
   rw[hu]at h
   exact absurd (show(61:Int)=0 from congrArg Prod.snd h) (by decide)
  |cons c s=>
   rw[hu]at h
   exact absurd (show(61:Int)=0 from congrArg Prod.snd h) (by decide)
 |n+1,[],r0,h,m,y,hm=>by
  exfalso
  cases r0 with
  |nil=>exact absurd (show(61:Int)=0 from congrArg Prod.snd h) (by decide)
  |cons c s=>
   have h:cU (n+1) (c::s)=(0,0):=h
   unfold cU at h
   revert h
   cases (c.toNat:Int)==34
   ·cases (c.toNat:Int)==10
    ·cases (decide ((c.toNat:Int)<32)||decide ((c.toNat:Int)>126))
     ·cases (c.toNat:Int)==92
      ·intro h;simp at h
      ·cases s with
       |nil=>intro h;simp at h
       |cons d s'=>
        simp only[cond_true,cond_false]
        cases decide (Lib.indexByte rL (d.toNat:Int).toNat.toUInt8<0)
        ·intro h;simp at h
        ·intro h;simp at h
     ·intro h;simp at h
    ·intro h;simp at h
   ·intro h;simp at h
 |n+1,c::u,r0,h,m,y,hm=>by
  cases m with
  |zero=>simp at hm
  |succ m=>
   have h:cU (n+1) (c::(u++r0))=(u.length+1,0):=h
   show cU (m+1) (c::(u++y))=(u.length+1,0)
   unfold cU at h⊢
   revert h
   cases (c.toNat:Int)==34
   ·cases (c.toNat:Int)==10
    ·cases (decide ((c.toNat:Int)<32)||decide ((c.toNat:Int)>126))
     ·cases (c.toNat:Int)==92
      ·simp only[cond_false]
       intro h
       have h1:cU n (u++r0)=(u.length,0):=by
        have e1:=congrArg Prod.fst h
        have e2:=congrArg Prod.snd h
        simp only at e1 e2
        exact Prod.ext (by simp only;omega) e2
       rw[wL n u r0 h1 m y (by simp at hm;omega)]
      ·cases u with
       |nil=>
        cases r0 with
        |nil=>intro h;simp at h
        |cons d s=>
         simp only[cond_true,cond_false,List.nil_append]
         cases decide (Lib.indexByte rL (d.toNat:Int).toNat.toUInt8<0)
         ·intro h;simp at h
         ·intro h;simp at h
       |cons d u=>
        simp only[cond_true,cond_false,List.cons_append]
        cases decide (Lib.indexByte rL (d.toNat:Int).toNat.toUInt8<0)
        ·simp only[cond_false]
         intro h
         have h1:cU n (u++r0)=(u.length,0):=by
          have e1:=congrArg Prod.fst h
          have e2:=congrArg Prod.snd h
          simp only[List.length_cons]at e1 e2
          exact Prod.ext (by simp only;omega) e2
         rw[wL n u r0 h1 m y (by simp at hm;omega)]
         rfl
        ·intro h;simp at h
     ·intro h;simp at h
    ·intro h;simp at h
   ·simp only[cond_true]
    intro h
    have e1:=congrArg Prod.fst h
    simp only at e1
    have:u.length=0:=by omega
    rw[this]
def AJ(x:UInt8):Bool:=x==32||(x==9||x==10)
theorem Pn(c:UInt8){x:UInt8}(hx:AJ x=true):(Lib.contains eF [c,x,32]&&((c.toNat:Int) !=32&&(x.toNat:Int) !=32))=false:=by
 unfold AJ at hx
 simp only[Bool.or_eq_true,beq_iff_eq]at hx
 have key:∀y:UInt8,y=9∨y=10→Lib.contains eF [c,y,32]=false:=by
  intro y hy
  cases hc:Lib.contains eF [c,y,32]with
  |false=>rfl
  |true=>
   exfalso
   unfold Lib.contains at hc
   have hc:=of_decide_eq_true hc
   rcases Lib.index_spec eF [c,y,32]with⟨h1,_⟩|⟨i,h1,h2,h3,_⟩
   ·rw[h1]at hc
    exact absurd hc (by decide)
   ·unfold Lib.occAt at h3
    have hp:=List.isPrefixOf_iff_prefix.1 h3
    have hm:y∈eF.drop i:=hp.subset (by simp)
    have hm2:y∈eF:=List.mem_of_mem_drop hm
    rcases hy with rfl|rfl<;>exact absurd hm2 (by decide)
 rcases hx with rfl|rfl|rfl
 ·simp
 ·rw[key 9 (.inl rfl)]
  rfl
 ·rw[key 10 (.inr rfl)]
  rfl
theorem FR{x:UInt8}(hx:AJ x=true):fk x.toNat=false∧aH x.toNat=false∧((x.toNat:Int)==46)=false∧aU x.toNat=true:=by
 unfold AJ at hx
 simp only[Bool.or_eq_true,beq_iff_eq]at hx
 rcases hx with rfl|rfl|rfl<;>exact⟨rfl,rfl,rfl,rfl⟩
theorem Qz{w r0:List UInt8}{k:Int}(h:eX (w++r0)=(k,0,w.length))(hw:0<w.length){x:UInt8}(hx:AJ x=true)(r:List UInt8):eX (w++x::r)=(k,0,w.length):=by
 obtain⟨x1,x2,x3,x4⟩:=FR hx
 have h0:=zN r0 (x::r) hw
 unfold eX at h⊢
 rw[h0]
 revert h
 cases hL:isLet (at8 (w++r0) 0)
 ·cases hD:aH (at8 (w++r0) 0)
  ·cases hQ:at8 (w++r0) 0==34
   ·
    simp only[cond_false]
    intro h
    unfold sQ at h⊢
    revert h
    cases hc:(decide (((w++r0).length:Int)>1)&&(Lib.contains eF ((w++r0).take 2++[32])&&(at8 (w++r0) 0 !=32&&at8 (w++r0) 1 !=32)))
    ·simp only[cond_false]
     cases ho:decide (Lib.indexByte q9 (at8 (w++r0) 0).toNat.toUInt8≥0)
     ·intro h;simp at h
     ·simp only[cond_true]
      intro h
      have hl:w.length=1:=by
       have:=congrArg (fun z=>z.2.2) h
       simpa using this.symm
      obtain⟨c,rfl⟩:∃c,w=[c]:=List.length_eq_one_iff.1 hl
      have e1:(([c]++x::r).take 2++[32])=[c,x,32]:=rfl
      have e2:at8 ([c]++x::r) 0=(c.toNat:Int):=rfl
      have e3:at8 ([c]++x::r) 1=(x.toNat:Int):=rfl
      have hn:(decide ((([c]++x::r).length:Int)>1)&&(Lib.contains eF (([c]++x::r).take 2++[32])&&(at8 ([c]++x::r) 0 !=32&&at8 ([c]++x::r) 1 !=32)))=false:=by
       rw[e1,e2,e3,Pn c hx,Bool.and_false]
      rw[hn,h0]
      simp only[cond_false]
      rw[ho]
      exact h
    ·simp only[cond_true]
     intro h
     have hl:w.length=2:=by
      have:=congrArg (fun z=>z.2.2) h
      simpa using this.symm
     obtain⟨c,d,rfl⟩:∃c d,w=[c,d]:=by
      match w,hl with
      |[c,d],_=>exact⟨c,d,rfl⟩
     have hn:(decide ((([c,d]++x::r).length:Int)>1)&&(Lib.contains eF (([c,d]++x::r).take 2++[32])&&(at8 ([c,d]++x::r) 0 !=32&&at8 ([c,d]++x::r) 1 !=32)))=true:=by
      rw[Bool.and_eq_true]at hc⊢
      refine⟨decide_eq_true (by simp;omega),hc.2⟩
     rw[hn]
     exact h
   ·
    simp only[cond_true,cond_false]
    intro h
    obtain⟨c,u,rfl⟩:∃c u,w=c::u:=by
     cases w with
     |nil=>cases hw
     |cons c u=>exact⟨c,u,rfl⟩
    have hq:(gD (c::u++r0)).2=0∧(gD (c::u++r0)).1=u.length+1:=by
     revert h
     cases he:((gD (c::u++r0)).2==0&&decide (((gD (c::u++r0)).1:Int)>256))
     ·simp only[cond_false]
      intro h
      exact⟨congrArg (fun z=>z.2.1) h,congrArg (fun z=>z.2.2) h⟩
     ·simp only[cond_true]
      intro h
      have:=congrArg (fun z=>z.2.1) h
      simp at this
    have hF:cU (c::u++r0).length (u++r0)=(u.length,0):=by
     have e1:(cU (c::u++r0).length (u++r0)).1+1=u.length+1:=hq.2
     have e2:(cU (c::u++r0).length (u++r0)).2=0:=hq.1
     exact Prod.ext (by simp only;omega) e2
    have hF2:=wL _ u r0 hF (c::u++x::r).length (x::r) (by simp;omega)
    have hq2:gD (c::u++x::r)=gD (c::u++r0):=by
     have e3:gD (c::u++x::r)=(u.length+1,0):=by
      show((cU (c::u++x::r).length (u++x::r)).1+1,(cU (c::u++x::r).length (u++x::r)).2)=_
      rw[hF2]
     rw[e3]
     exact Prod.ext hq.2.symm hq.1.symm
    rw[hq2]
    exact h
  ·
   simp only[cond_true,cond_false]
   intro h
   cases hc:(decide (((aG aH (w++r0):Nat):Int)+1<(w++r0).length)&&(at8 (w++r0) (aG aH (w++r0))==46&&aH (at8 (w++r0) (aG aH (w++r0)+1))))
   ·rw[hc]at h
    simp only[cond_false]at h
    have hn:aG aH (w++r0)=w.length:=by
     revert h
     cases decide (((aG aH (w++r0):Nat):Int)>20)
     ·intro h;exact congrArg (fun z=>z.2.2) h
     ·intro h;simp at h
    have hn2:=ve x2 w r0 r (by omega)
    rw[hn]at h
    rw[hn2]
    have e1:(at8 (w++x::r) w.length==46)=false:=by rw[Py];exact x3
    rw[e1]
    simp only[Bool.false_and,Bool.and_false,cond_false]
    exact h
   ·rw[hc]at h
    simp only[cond_true]at h
    generalize hn:aG aH (w++r0)=n at*
    have hm:n+1+aG aH ((w++r0).drop (n+1))=w.length:=by
     revert h
     cases decide (((n+1+aG aH ((w++r0).drop (n+1)):Nat):Int)>20)
     ·intro h;exact congrArg (fun z=>z.2.2) h
     ·intro h;simp at h
    simp only[Bool.and_eq_true]at hc
    have hd:1≤aG aH ((w++r0).drop (n+1)):=by
     refine wk ?_ ?_
     ·have:at8 ((w++r0).drop (n+1)) 0=at8 (w++r0) (n+1):=by
       unfold at8
       rw[List.getD_eq_getElem?_getD,List.getD_eq_getElem?_getD,List.getElem?_drop]
      rw[this]
      exact hc.2.2
     ·have:=of_decide_eq_true hc.1
      rw[List.length_drop]
      omega
    have hn2:aG aH (w++x::r)=n:=by
     rw[←hn]
     exact ET w r0 (x::r) (by omega)
    have hdr:∀y:List UInt8,(w++y).drop (n+1)=w.drop (n+1)++y:=fun y=>List.drop_append_of_le_length (by omega)
    have hr2:aG aH ((w++x::r).drop (n+1))=w.length-(n+1):=by
     rw[hdr]
     have:=ve x2 (w.drop (n+1)) r0 r (by rw[←hdr,List.length_drop];omega)
     rw[this,List.length_drop]
    have hc2:(decide (((n:Nat):Int)+1<(w++x::r).length)&&(at8 (w++x::r) n==46&&aH (at8 (w++x::r) (n+1))))=true:=by
     rw[zN r0 (x::r) (by omega:n<w.length),zN r0 (x::r) (by omega:n+1<w.length),hc.2.1,hc.2.2,decide_eq_true (by simp;omega)]
     rfl
    rw[hn2,hc2,hr2]
    simp only[cond_true]
    have e:aG aH ((w++r0).drop (n+1))=w.length-(n+1):=by omega
    rw[e]at h
    exact h
 ·simp only[cond_true]
  intro h
  have hn:aG fk (w++r0)=w.length:=by
   revert h
   cases decide (((aG fk (w++r0):Nat):Int)>64)
   ·intro h;exact congrArg (fun z=>z.2.2) h
   ·intro h;simp at h
  have hn2:=ve x1 w r0 r (by omega)
  rw[hn]at h
  rw[hn2]
  exact h
end Go.Sx.Tryz
