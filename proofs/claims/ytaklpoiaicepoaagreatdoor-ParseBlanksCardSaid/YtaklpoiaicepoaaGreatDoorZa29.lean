/- A part of the proof: see the row's text. -/
import Derived.Test.YtaklpoiaicepoaaGreatDoorZa21
import Derived.Test.YtaklpoiaicepoaaGreatDoorZa28
set_option linter.unusedVariables false
set_option linter.unusedSimpArgs false
noncomputable section
namespace Go.Sx.Tryz
open Go Go.Sx
set_option maxRecDepth 100000
inductive Tn where
 |mk (x:Nd) (ks:List Tn)
def di(x:Nd)(l:List Int):Nd:=mkN (aj x) (nAt x) (nTo x) l (aD x) (ak x) (aw x) (ah x) (af x) (nN x) (nW1 x) (nW2 x) (aC x)
mutual
def Tn.size:Tn→Nat
 | .mk _ ks=>Tn.sizes ks+1
def Tn.sizes:List Tn→Nat
 |[]=>0
 |t::ts=>t.size+Tn.sizes ts
end
def roots:Nat→List Tn→List Int
 |_,[]=>[]
 |o,t::ts=>(((o+t.size:Nat):Int)-1)::roots (o+t.size) ts
mutual
def Tn.flat:Nat→Tn→List Nd
 |o,.mk x ks=>Tn.flats o ks++[di x (roots o ks)]
def Tn.flats:Nat→List Tn→List Nd
 |_,[]=>[]
 |o,t::ts=>t.flat o++Tn.flats (o+t.size) ts
end
mutual
theorem Tn.flat_len:∀(o:Nat) (t:Tn),(t.flat o).length=t.size
 |o,.mk x ks=>by
  unfold Tn.flat Tn.size
  rw[List.length_append,Tn.flats_len o ks]
  rfl
theorem Tn.flats_len:∀(o:Nat) (ts:List Tn),(Tn.flats o ts).length=Tn.sizes ts
 |_,[]=>rfl
 |o,t::ts=>by
  unfold Tn.flats Tn.sizes
  rw[List.length_append,Tn.flat_len o t,Tn.flats_len _ ts]
end
theorem Tn.flats_app:∀(o:Nat) (a b:List Tn),Tn.flats o (a++b)=Tn.flats o a++Tn.flats (o+Tn.sizes a) b
 |o,[],b=>by simp[Tn.flats,Tn.sizes]
 |o,t::a,b=>by
  show Tn.flats o (t::(a++b))=_
  rw[Tn.flats,Tn.flats_app _ a b,Tn.flats,Tn.sizes,List.append_assoc,Nat.add_assoc]
theorem uK:∀(o:Nat) (a b:List Tn),roots o (a++b)=roots o a++roots (o+Tn.sizes a) b
 |o,[],b=>by simp[roots,Tn.sizes]
 |o,t::a,b=>by
  show roots o (t::(a++b))=_
  rw[roots,uK _ a b,roots,Tn.sizes,Nat.add_assoc]
  rfl
theorem fb:∀(o:Nat) (a:List Tn),(roots o a).length=a.length
 |_,[]=>rfl
 |o,t::a=>by simp[roots,fb _ a]
theorem Tn.flats_one(o:Nat)(t:Tn):Tn.flats o [t]=t.flat o:=by simp[Tn.flats]
theorem Tn.sizes_one(t:Tn):Tn.sizes [t]=t.size:=by simp[Tn.sizes]
def Tn.data:Tn→Nd
 | .mk x _=>x
def Tn.kids:Tn→List Tn
 | .mk _ ks=>ks
inductive TR(α:Type)where
 |ok (y:α) (a d:Int) (n:Nat)
 |fault (c p:Int)
 |bad
def TR.bind{α β:Type}(r:TR α)(k:α→Int→Int→Nat→TR β):TR β:=match r with
 | .ok y a d n=>k y a d n
 | .fault c p=>.fault c p
 | .bad=>.bad
abbrev Tm(α:Type):Type:=Int→Int→Nat→TR α
def Tm.bind{α β:Type}(m:Tm α)(k:α→Tm β):Tm β:=fun a d n=>(m a d n).bind fun y a d n=>k y a d n
def Tm.ret{α:Type}(y:α):Tm α:=fun a d n=>.ok y a d n
def Tm.flt{α:Type}(c p:Int):Tm α:=fun _ _ _=>.fault c p
def Tm.bad{α:Type}:Tm α:=fun _ _ _=>.bad
def lft{α:Type}(m:Pm α):Tm α:=fun a d n=>match m a d []with
 | .ok y a d _=>.ok y a d n
 | .fault c p=>.fault c p
 | .bad=>.bad
def Sf(A:List Nd)(ks:List Tn):List Nd:=A++Tn.flats A.length ks
theorem ck(A:List Nd):Sf A []=A:=by simp[Sf,Tn.flats]
theorem lQ(A:List Nd)(ks:List Tn):(Sf A ks).length=A.length+Tn.sizes ks:=by rw[Sf,List.length_append,Tn.flats_len]
theorem AM(A:List Nd)(ks ls:List Tn):Sf (Sf A ks) ls=Sf A (ks++ls):=by
 rw[Sf,lQ,Sf,Sf,Tn.flats_app,List.append_assoc]
theorem xQ(A:List Nd)(ks ls:List Tn):roots A.length (ks++ls)=roots A.length ks++roots (Sf A ks).length ls:=by rw[uK,lQ]
def RX{α γ:Type}(A:List Nd)(e:Nat→γ→α)(g:γ→List Tn)(r:PR α)(s:TR γ):Prop:=match s with
 | .ok y a d n=>n=(Sf A (g y)).length∧r= .ok (e A.length y) a d (Sf A (g y))
 | .fault c p=>r= .fault c p
 | .bad=>r= .bad
def eI{α:Type}:Nat→α→α:=fun _ y=>y
def gI{α:Type}:α→List Tn:=fun _=>[]
def eT:Nat→Tn→Int:=fun o t=>((o+t.size:Nat):Int)-1
def gT:Tn→List Tn:=fun t=>[t]
def eL:Nat→List Tn→List Int:=roots
def gL:List Tn→List Tn:=fun l=>l
def eM:Nat→Nd×List Tn→Nd:=fun o x=>di x.1 (roots o x.2)
def gM:Nd×List Tn→List Tn:=fun x=>x.2
def H{α γ:Type}(e:Nat→γ→α)(g:γ→List Tn)(c:Pm α)(t:Tm γ):Prop:=∀a d A n,n=A.length→RX A e g (c a d A) (t a d n)
def HA{α γ:Type}(A:List Nd)(ks:List Tn)(e:Nat→γ→α)(g:γ→List Tn)(c:Pm α)(t:Tm γ):Prop:=∀a d n,n=(Sf A ks).length→RX A e g (c a d (Sf A ks)) (t a d n)
theorem H.of{α γ:Type}{e:Nat→γ→α}{g:γ→List Tn}{c:Pm α}{t:Tm γ}(h:∀A,HA A [] e g c t):H e g c t:=fun a d A n hn=>by
 have:=h A a d n (by rw[ck];exact hn)
 rwa [ck]at this
theorem H.at{α γ:Type}{e:Nat→γ→α}{g:γ→List Tn}{c:Pm α}{t:Tm γ}(h:H e g c t)(A:List Nd):HA A [] e g c t:=fun a d n hn=>by
 rw[ck]at hn⊢
 exact h a d A n hn
theorem RX.bind{α β γ δ:Type}{A B:List Nd}{e:Nat→γ→α}{g:γ→List Tn}{r:PR α}{s:TR γ}{e':Nat→δ→β}{g':δ→List Tn}{k:α→Int→Int→List Nd→PR β}{k':γ→Int→Int→Nat→TR δ}(h:RX B e g r s)
  (hk:∀y a d n,n=(Sf B (g y)).length→RX A e' g' (k (e B.length y) a d (Sf B (g y))) (k' y a d n)):RX A e' g' (r.bind k) (s.bind k'):=by
 cases s with
 |ok y a d n=>
  obtain⟨h1,h2⟩:=h
  rw[h2]
  exact hk y a d n h1
 |fault c p=>
  have h:r= .fault c p:=h
  rw[h]
  exact(rfl:PR.fault c p=PR.fault c p)
 |bad=>
  have h:r= .bad:=h
  rw[h]
  exact(rfl:(PR.bad:PR β)=PR.bad)
section
variable{α β γ δ:Type}{A:List Nd}{ks:List Tn}{e:Nat→γ→α}{g:γ→List Tn}{e':Nat→δ→β}{g':δ→List Tn}
theorem HA.bind{c:Pm α}{t:Tm γ}{k:α→Pm β}{k':γ→Tm δ}(h:H e g c t)(hk:∀y,HA A (ks++g y) e' g' (k (e (Sf A ks).length y)) (k' y)):HA A ks e' g' (c.bind k) (t.bind k'):=fun a d n hn=>
 RX.bind (h a d _ n hn) fun y a d n hn=>by
  rw[AM]at hn⊢
  exact hk y a d n hn
theorem HA.bif{b:Bool}{c c':Pm α}{t t':Tm γ}(h:b=true→HA A ks e g c t)(h':b=false→HA A ks e g c' t'):HA A ks e g (bif b then c else c') (bif b then t else t'):=by
 cases b
 ·exact h' rfl
 ·exact h rfl
theorem HA.ret{v:α}{y:γ}(h:v=e A.length y)(h':g y=ks):HA A ks e g (.ret v) (.ret y):=fun a d n hn=>by
 subst h h'
 exact⟨hn,rfl⟩
theorem HA.flt{c p:Int}:HA A ks e g (.flt c p:Pm α) (.flt c p:Tm γ):=fun _ _ _ _=>(rfl:(PR.fault c p:PR α)= .fault c p)
theorem HA.bad:HA A ks e g (.bad:Pm α) (.bad:Tm γ):=fun _ _ _ _=>(rfl:(PR.bad:PR α)= .bad)
end
def Fre{α:Type}(m:Pm α):Prop:=∀a d A,m a d A=match m a d []with
 | .ok y a d _=>.ok y a d A
 | .fault c p=>.fault c p
 | .bad=>.bad
theorem Fre.h{α:Type}{m:Pm α}(h:Fre m):H eI gI m (lft m):=fun a d A n hn=>by
 subst hn
 rw[h a d A]
 unfold lft
 cases m a d []with
 |ok y a d _=>exact⟨by rw[gI,ck],by rw[gI,ck,eI]⟩
 |fault c p=>exact(rfl:PR.fault c p=PR.fault c p)
 |bad=>exact(rfl:(PR.bad:PR α)=PR.bad)
theorem HA.free{α β δ:Type}{A:List Nd}{ks:List Tn}{e':Nat→δ→β}{g':δ→List Tn}{m:Pm α}{k:α→Pm β}{k':α→Tm δ}(h:Fre m)(hk:∀y,HA A ks e' g' (k y) (k' y)):HA A ks e' g' (m.bind k) ((lft m).bind k'):=
 HA.bind h.h fun y=>by
  have:=hk y
  rwa [show ks++gI y=ks from List.append_nil ks]
theorem Fre.bind{α β:Type}{m:Pm α}{k:α→Pm β}(h:Fre m)(hk:∀y,Fre (k y)):Fre (m.bind k):=fun a d A=>by
 unfold Pm.bind
 rw[h a d A]
 cases m a d []with
 |ok y a' d' A'=>
  simp only[PR.bind]
  rw[hk y a' d' A,hk y a' d' A']
  cases k y a' d' []<;>rfl
 |fault c p=>rfl
 |bad=>rfl
theorem Fre.ret{α:Type}{y:α}:Fre (.ret y:Pm α):=fun _ _ _=>rfl
theorem Fre.flt{α:Type}{c p:Int}:Fre (.flt c p:Pm α):=fun _ _ _=>rfl
theorem Fre.bad{α:Type}:Fre (.bad:Pm α):=fun _ _ _=>rfl
theorem Fre.bif{α:Type}{c:Bool}{m m':Pm α}(h:Fre m)(h':Fre m'):Fre (bif c then m else m'):=by cases c<;>assumption
section
variable(T:List UInt8)(K:List Tok)
theorem cf:Fre (bK T K):=fun _ _ _=>rfl
theorem nH(n:Int):Fre (eN T K n):=fun a d A=>by
 unfold eN
 cases decide (a+n≥(K.length:Int))<;>rfl
theorem bD:Fre (aW K):=fun a d A=>by
 unfold aW
 cases an (ab K a) !=0<;>rfl
theorem lz(s:Str):Fre (cIs T K s):=(cf T K).bind fun _=>.ret
theorem dx(s:Str):Fre (bR T K s):=(lz T K s).bind fun _=>.bif ((bD K).bind fun _=>.ret) .ret
theorem bd(s:Str):Fre (aJ T K s):=(lz T K s).bind fun _=>.bif (bD K) ((cf T K).bind fun _=>.flt)
theorem kT:Fre (dc T K):=(cf T K).bind fun _=>.bif ((bD K).bind fun _=>.ret) .flt
theorem vr:Fre (fE K):=fun a d A=>by
 unfold fE
 cases decide (d+1>60)<;>rfl
theorem zo:Fre rP:=fun _ _ _=>rfl
theorem vY(n:Int):Fre (jz K n):=fun a d A=>by
 unfold jz
 cases decide (n>64)<;>rfl
theorem KJ:Fre (nr T K):=(cf T K).bind fun _=>.bif
 (.bif ((bD K).bind fun _=>.ret) (.bif ((bD K).bind fun _=>.ret) (.bif ((bD K).bind fun _=>.ret) (.bif ((bD K).bind fun _=>.ret) (.bif ((bD K).bind fun _=>.ret) .flt))))) .flt
theorem oI:∀(n:Nat) (x:Nd),Fre (dz T K n x)
 |0,_=>.bad
 |n+1,x=>(cf T K).bind fun _=>(lz T K _).bind fun _=>.bif (.bif .flt ((bD K).bind fun _=>oI n _))
  ((nH T K _).bind fun _=>(lz T K _).bind fun _=>.bif (.bif .flt ((bD K).bind fun _=>(bD K).bind fun _=>oI n _)) .ret)
theorem rp:Fre (dQ T K):=(KJ T K).bind fun _=>oI T K _ _
theorem nE(v:Bool):Fre (cE T K v):=(cf T K).bind fun _=>.bif
 ((bD K).bind fun _=>(bd T K _).bind fun _=>(rp T K).bind fun _=>(bd T K _).bind fun _=>.bif .flt .ret)
 (.bif ((bD K).bind fun _=>.ret) (rp T K))
theorem zf:Fre (dd T K):=(nH T K _).bind fun _=>.bif .ret (.bif ((nH T K _).bind fun _=>(nH T K _).bind fun _=>.ret) .ret)
def cR(x:Nd)(f:Int)(ks:List Tn):Tm Tn:=fun a d n=>bif decide ((n:Int)≥8192)then .fault 2 f else .ok (.mk (cX x f (fZ K a f)) ks) a d (n+1)
variable{K}
theorem rT(A:List Nd)(x:Nd)(ks:List Tn):Sf A [.mk x ks]=Sf A ks++[di x (roots A.length ks)]:=by
 rw[Sf,Tn.flats_one,Tn.flat,Sf,List.append_assoc]
theorem HA.add{A:List Nd}{ks:List Tn}{X x:Nd}{f:Int}(hX:X=di x (roots A.length ks)):HA A ks eT gT (bP K X f) (cR K x f ks):=fun a d n hn=>by
 subst hX
 unfold bP cR
 rw[←hn]
 cases decide ((n:Int)≥8192)
 ·refine⟨?_,?_⟩
  ·rw[gT,rT,List.length_append,←hn]
   rfl
  ·show PR.ok _ _ _ _=PR.ok _ _ _ _
   rw[gT,rT,eT,hn,lQ]
   have:((A.length+(Tn.mk (cX x f (fZ K a f)) ks).size:Nat):Int)-1=((A.length+Tn.sizes ks:Nat):Int):=by
    rw[Tn.size]
    omega
   rw[this]
   rfl
 ·exact(rfl:PR.fault 2 f=PR.fault 2 f)
theorem HA.addBind{β δ:Type}{A:List Nd}{ks:List Tn}{e':Nat→δ→β}{g':δ→List Tn}{X x:Nd}{f:Int}{k:Int→Pm β}{k':Tn→Tm δ}(hX:X=di x (roots A.length ks))(hk:∀z,HA A [z] e' g' (k (eT A.length z)) (k' z)):
  HA A ks e' g' ((bP K X f).bind k) ((cR K x f ks).bind k'):=fun a d n hn=>RX.bind (HA.add hX a d n hn) fun y a d n hn=>hk y a d n hn
theorem H.add{X x:Nd}{f:Int}(hX:X=di x []):H eT gT (bP K X f) (cR K x f []):=H.of fun _=>HA.add hX
theorem rt2(A:List Nd)(x y:Tn):[eT A.length x,eT (Sf A [x]).length y]=roots A.length [x,y]:=by
 rw[lQ,Tn.sizes_one]
 rfl
theorem rt3(A:List Nd)(x y z:Tn):[eT A.length x,eT (Sf A [x]).length y,eT (Sf A [x,y]).length z]=roots A.length [x,y,z]:=by
 have e1:Tn.sizes [x]=x.size:=Tn.sizes_one x
 have e2:Tn.sizes [x,y]=x.size+y.size:=by simp[Tn.sizes]
 rw[lQ,lQ,e1,e2,←Nat.add_assoc]
 rfl
theorem rtS(A:List Nd)(ks:List Tn)(y:Tn):roots A.length ks++[eT (Sf A ks).length y]=roots A.length (ks++[y]):=by
 rw[xQ]
 rfl
end
end Go.Sx.Tryz
namespace Go.Sx.Tryz
open Go Go.Sx
set_option maxRecDepth 100000
structure Kt where
 val:Tm Tn
 blk:Tm Tn
 un:Tm Tn
section
variable(T:List UInt8)(K:List Tok)(q:Kt)
def dj:Tm Tn:=(lft (aJ T K [40])).bind fun _=>q.val.bind fun x=>(lft (aJ T K [41])).bind fun _=>.ret x
def comma(l:Nat):Pm Unit:=bif decide ((l:Int)>0)then(aJ T K [44]).bind fun _=>.ret ()else .ret ()
def mq:Nat→List Tn→Tm (List Tn)
 |0,_=>.bad
 |n+1,L=>(lft (bR T K [41])).bind fun b=>bif b then .ret L
  else(lft (comma T K L.length)).bind fun _=>(lft (jz K ((L.length:Int)+1))).bind fun _=>q.val.bind fun x=>mq n (L++[x])
def pb:Tm (List Tn):=(lft (aJ T K [40])).bind fun _=>mq T K q (K.length+2) []
def mi(x:Nd)(e:Int):Tm Tn:=(lft (bK T K)).bind fun t=>bif e !=0 then .flt e (aa t.1)else(lft (aW K)).bind fun _=>cR K x (aa t.1) []
def tF:Tm (Nd×List Tn):=(lft (dQ T K)).bind fun x=>(lft (cIs T K [40])).bind fun b=>bif b then
  (bif ak x !=5||(decide (ah x>0)|| !Lib.trimB (af x) 32==[])then .flt 5 (nW1 x)else(pb T K q).bind fun l=>.ret (bI x 30 [] (aD x),l))
 else(lft (aJ T K [91])).bind fun _=>q.val.bind fun y=>(lft (aJ T K [93])).bind fun _=>.ret (bI x 31 [] (aD x),[y])
def tD(t:Tok)(s:Str):Tm Tn:=
 bif s==[116,114,117,101]then mi T K (eA 21 1 []) 0
 else bif s==[102,97,108,115,101]then mi T K (eA 21 0 []) 0
 else bif s==[110,117,108,108]then mi T K (eA 23 0 []) 0
 else bif s==[110,111,110,101]then mi T K (eA 42 0 []) 0
 else bif s==[116,104,105,115]then mi T K (eA 24 0 []) 0
 else bif s==[105,110,112,117,116]then(lft (aW K)).bind fun _=>(lft (aJ T K [40])).bind fun _=>(lft (aJ T K [41])).bind fun _=>cR K (nod 38 [] []) (aa t) []
 else bif isWrap s then(lft (aW K)).bind fun _=>(dj T K q).bind fun x=>cR K (nod (oT s) [] []) (aa t) [x]
 else bif s==[99,97,115,116]then(lft (aW K)).bind fun _=>(lft (aJ T K [60])).bind fun _=>(lft (cE T K false)).bind fun x=>(lft (aJ T K [62])).bind fun _=>(dj T K q).bind fun y=>cR K (bI x 35 [] (aD x)) (aa t) [y]
 else bif s==[110,101,119]then(lft (aW K)).bind fun _=>(tF T K q).bind fun x=>cR K x.1 (aa t) x.2
 else .flt 80 (aa t)
def iv:Tm Tn:=(lft (bK T K)).bind fun t=>
 bif an t.1==2 then mi T K (eA 19 (lj t.2).1 []) (lj t.2).2
 else bif an t.1==3 then mi T K (eA 20 (IntKind.wrap .i64 (ng t.2).1) t.2) (ng t.2).2
 else bif an t.1==4 then mi T K (eA 22 0 (mf t.2).1) (mf t.2).2
 else bif an t.1==5 then(bif t.2==[40]then dj T K q else .flt 80 (aa t.1))
 else bif an t.1==1 then(bif ca t.2 then mi T K (eA 25 0 t.2) 0 else tD T K q t.1 t.2)
 else .flt 80 (aa t.1)
def tH(x:Tn)(f:Int):Tm Tn:=(lft (bR T K [108,101,110,103,116,104])).bind fun b=>bif b then cR K (nod 28 [] []) f [x]
 else(lft (bR T K [118,97,108])).bind fun b=>bif b then cR K (nod 45 [] []) f [x]
 else(lft (dc T K)).bind fun s=>(lft (cIs T K [40])).bind fun b=>bif b then(pb T K q).bind fun l=>cR K (nod 29 [] s) f (x::l)else cR K (nod 26 [] s) f [x]
def eG(f:Int):Nat→Tn→Tm Tn
 |0,_=>.bad
 |n+1,x=>(lft (bR T K [33])).bind fun b=>bif b then(cR K (nod 40 [] []) f [x]).bind fun y=>eG f n y
  else(lft (bR T K [91])).bind fun b=>bif b then q.val.bind fun y=>(lft (aJ T K [93])).bind fun _=>(cR K (nod 27 [] []) f [x,y]).bind fun y=>eG f n y
  else(lft (bR T K [46])).bind fun b=>bif b then(tH T K q x f).bind fun y=>eG f n y
  else .ret x
def kL:Tm Tn:=(lft (bK T K)).bind fun t=>(iv T K q).bind fun x=>eG T K q (aa t.1) (K.length+2) x
def oc:Tm Tn:=(lft (bK T K)).bind fun t=>bif an t.1==5&&(t.2==[33]||t.2==[45])then
  ((lft (fE K)).bind fun _=>(lft (aW K)).bind fun _=>q.un.bind fun x=>(lft rP).bind fun _=>cR K (nod (bif t.2==[45]then 32 else 33) [] []) (aa t.1) [x])
 else kL T K q
def fL(least f:Int)(sub:Tm Tn):Nat→Tn→Tm Tn
 |0,_=>.bad
 |n+1,x=>(lft (bK T K)).bind fun t=>bif an t.1==5&&hZ t.2==least then
   ((lft (aW K)).bind fun _=>sub.bind fun y=>(cR K (nod 34 [] t.2) f [x,y]).bind fun z=>fL least f sub n z)
  else bif least==3 then((lft (bR T K [105,115])).bind fun b=>bif b then
    ((lft (bR T K [115,111,109,101])).bind fun b=>bif b then(cR K (nod 43 [] []) f [x]).bind fun z=>fL least f sub n z
     else(lft (aJ T K [110,111,110,101])).bind fun _=>(cR K (nod 44 [] []) f [x]).bind fun z=>fL least f sub n z)
    else .ret x)
  else .ret x
def kb:Nat→Tm Tn
 |0=>(lft (bK T K)).bind fun _=>q.un
 |j+1=>(lft (bK T K)).bind fun t=>(kb j).bind fun x=>fL T K (5-(j:Int)) (aa t.1) (kb j) (K.length+2) x
def oJ:Tm Tn:=(lft (fE K)).bind fun _=>(kb T K q 6).bind fun x=>(lft rP).bind fun _=>.ret x
def qS(s:Str):Tm ((Nd×List Tn)×Bool):=
 bif s==[105,102]then(lft (aW K)).bind fun _=>(dj T K q).bind fun x=>q.blk.bind fun y=>(lft (bR T K [101,108,115,101])).bind fun b=>bif b then q.blk.bind fun z=>.ret ((nod 11 [] [],[x,y,z]),true)else .ret ((nod 11 [] [],[x,y]),true)
 else bif s==[119,104,105,108,101]then(lft (aW K)).bind fun _=>(dj T K q).bind fun x=>q.blk.bind fun y=>.ret ((nod 12 [] [],[x,y]),true)
 else bif s==[98,114,101,97,107]then(lft (aW K)).bind fun _=>(lft (aJ T K [59])).bind fun _=>.ret ((nod 13 [] [],[]),true)
 else bif s==[99,111,110,116,105,110,117,101]then(lft (aW K)).bind fun _=>(lft (aJ T K [59])).bind fun _=>.ret ((nod 14 [] [],[]),true)
 else bif s==[114,101,116,117,114,110]then(lft (aW K)).bind fun _=>(lft (cIs T K [59])).bind fun b=>bif b then(lft (aJ T K [59])).bind fun _=>.ret ((nod 15 [] [],[]),true)else q.val.bind fun x=>(lft (aJ T K [59])).bind fun _=>.ret ((nod 15 [] [],[x]),true)
 else bif s==[112,114,105,110,116]then(lft (aW K)).bind fun _=>(dj T K q).bind fun x=>(lft (aJ T K [59])).bind fun _=>.ret ((nod 16 [] [],[x]),true)
 else bif s==[115,117,112,101,114]then(lft (aW K)).bind fun _=>(pb T K q).bind fun l=>(lft (aJ T K [59])).bind fun _=>.ret ((nod 17 [] [],l),true)
 else .ret ((nod 0 [] [],[]),false)
def lO(f:Int):Tm Tn:=q.val.bind fun x=>(lft (bK T K)).bind fun t=>(lft (bR T K [61])).bind fun b=>bif b then
  (bif aj x.data==25||(aj x.data==26||aj x.data==27)then q.val.bind fun y=>(lft (aJ T K [59])).bind fun _=>cR K (nod 10 [] []) f [x,y]else .flt 132 (aa t.1))
 else bif aj x.data==29||aj x.data==30 then(lft (aJ T K [59])).bind fun _=>cR K (nod 18 [] []) f [x]else .flt 132 f
def tE:Tm Tn:=(lft (bK T K)).bind fun t=>bif an t.1==5&&t.2==[123]then q.blk
 else(lft (dd T K)).bind fun b=>bif b then
  ((lft (cE T K false)).bind fun x=>(lft (dc T K)).bind fun s=>(lft (bR T K [61])).bind fun b=>bif b then q.val.bind fun y=>(lft (aJ T K [59])).bind fun _=>cR K (bI x 9 [] s) (aa t.1) [y]
   else(lft (aJ T K [59])).bind fun _=>cR K (bI x 9 [] s) (aa t.1) [])
 else bif an t.1==1 then(qS T K q t.2).bind fun w=>bif w.2 then cR K w.1.1 (aa t.1) w.1.2 else lO T K q (aa t.1)
 else lO T K q (aa t.1)
def jv(f:Int):Nat→List Tn→Tm Tn
 |0,_=>.bad
 |n+1,L=>(lft (cIs T K [125])).bind fun b=>bif b then(lft (aJ T K [125])).bind fun _=>(lft rP).bind fun _=>cR K (nod 8 [] []) f L
  else(tE T K q).bind fun x=>jv f n (L++[x])
def oB:Tm Tn:=(lft (bK T K)).bind fun t=>(lft (fE K)).bind fun _=>(lft (aJ T K [123])).bind fun _=>jv T K q (aa t.1) (K.length+2) []
end
def knt(T:List UInt8)(K:List Tok):Nat→Kt
 |0=>⟨.bad,.bad,.bad⟩
 |n+1=>⟨oJ T K (knt T K n),oB T K (knt T K n),oc T K (knt T K n)⟩
section
variable(T:List UInt8)(K:List Tok)(q:Kt)
def fU:Nat→List Tn→Tm (List Tn)
 |0,_=>.bad
 |n+1,L=>(lft (bR T K [41])).bind fun b=>bif b then .ret L
  else(lft (comma T K L.length)).bind fun _=>(lft (jz K ((L.length:Int)+1))).bind fun _=>(lft (bK T K)).bind fun t=>(lft (cE T K false)).bind fun x=>(lft (dc T K)).bind fun s=>(cR K (bI x 7 [] s) (aa t.1) []).bind fun y=>fU n (L++[y])
def iT:Tm (List Tn):=(lft (aJ T K [40])).bind fun _=>fU T K (K.length+2) []
def kW:Tm Tn:=(lft (bK T K)).bind fun t=>bif an t.1==1&&t.2==[105,110,105,116]then
  ((lft (aW K)).bind fun _=>(iT T K).bind fun l=>q.blk.bind fun b=>cR K (nod 5 [] []) (aa t.1) (l++[b]))
 else(lft (cE T K true)).bind fun x=>(lft (dc T K)).bind fun s=>(lft (cIs T K [40])).bind fun b=>bif b then
   ((iT T K).bind fun l=>q.blk.bind fun b=>cR K (bI x 6 [] s) (aa t.1) (l++[b]))
  else bif ak x==6 then .flt 80 (aa t.1)else(lft (aJ T K [59])).bind fun _=>cR K (bI x 4 [] s) (aa t.1) []
def gN(f:Int)(s:Str):Nat→List Tn→Tm Tn
 |0,_=>.bad
 |n+1,L=>(lft (cIs T K [125])).bind fun b=>bif b then(lft (aJ T K [125])).bind fun _=>cR K (nod 2 [] s) f L
  else(lft (jz K ((L.length:Int)+1))).bind fun _=>(kW T K q).bind fun x=>gN f s n (L++[x])
def ox:Tm Tn:=(lft (bK T K)).bind fun t=>(lft (aJ T K [99,108,97,115,115])).bind fun _=>(lft (dc T K)).bind fun s=>(lft (bK T K)).bind fun u=>(lft (bR T K [101,120,116,101,110,100,115])).bind fun b=>bif b then
  ((lft (dc T K)).bind fun e=>(cR K (nod 3 [] e) (aa u.1) []).bind fun y=>(lft (aJ T K [123])).bind fun _=>gN T K q (aa t.1) s (K.length+2) [y])
 else(lft (aJ T K [123])).bind fun _=>gN T K q (aa t.1) s (K.length+2) []
def dB:Nat→List Tn→Tm Tn
 |0,_=>.bad
 |n+1,L=>(lft (bK T K)).bind fun t=>bif an t.1==0 then cR K (nod 1 [] []) 0 L
  else(lft (jz K ((L.length:Int)+1))).bind fun _=>(ox T K q).bind fun x=>dB n (L++[x])
def kg:Tm Tn:=dB T K q (K.length+2) []
end
end Go.Sx.Tryz
namespace Go.Sx.Tryz
open Go Go.Sx
set_option maxRecDepth 100000
variable{T:List UInt8}{K:List Tok}{q:Kn}{p:Kt}
structure HK(q:Kn)(p:Kt):Prop where
 val:H eT gT q.val p.val
 blk:H eT gT q.blk p.blk
 un:H eT gT q.un p.un
theorem xF(l:Nat):Fre (comma T K l):=.bif ((bd T K _).bind fun _=>.ret) .ret
def Ens{α:Type}(m:Pm α)(Q:α→Prop):Prop:=∀a d A,match m a d A with
 | .ok y _ _ _=>Q y
 |_=>True
theorem Ens.bind{α β:Type}{m:Pm α}{k:α→Pm β}{Q:α→Prop}{Q':β→Prop}(h:Ens m Q)(hk:∀y,Q y→Ens (k y) Q'):Ens (m.bind k) Q':=fun a d A=>by
 have:=h a d A
 unfold Pm.bind
 cases e:m a d A with
 |ok y a' d' A'=>
  rw[e]at this
  exact hk y this a' d' A'
 |fault c p=>trivial
 |bad=>trivial
theorem Ens.any{α:Type}(m:Pm α):Ens m fun _=>True:=fun a d A=>by cases m a d A<;>trivial
theorem Ens.ret{α:Type}{y:α}{Q:α→Prop}(h:Q y):Ens (.ret y:Pm α) Q:=fun _ _ _=>h
theorem Ens.flt{α:Type}{c p:Int}{Q:α→Prop}:Ens (.flt c p:Pm α) Q:=fun _ _ _=>trivial
theorem Ens.bad{α:Type}{Q:α→Prop}:Ens (.bad:Pm α) Q:=fun _ _ _=>trivial
theorem Ens.bif{α:Type}{c:Bool}{m m':Pm α}{Q:α→Prop}(h:c=true→Ens m Q)(h':c=false→Ens m' Q):Ens (bif c then m else m') Q:=by
 cases c
 ·exact h' rfl
 ·exact h rfl
theorem Ens.then{α β:Type}{m:Pm α}{k:α→Pm β}{Q':β→Prop}(hk:∀y,Ens (k y) Q'):Ens (m.bind k) Q':=Ens.bind (Ens.any m) fun y _=>hk y
theorem HA.freeQ{α β δ:Type}{A:List Nd}{ks:List Tn}{e':Nat→δ→β}{g':δ→List Tn}{m:Pm α}{Q:α→Prop}{k:α→Pm β}{k':α→Tm δ}(h:Fre m)(hq:Ens m Q)(hk:∀y,Q y→HA A ks e' g' (k y) (k' y)):HA A ks e' g' (m.bind k) ((lft m).bind k'):=fun a d n hn=>by
 subst hn
 have hq:=hq a d []
 show RX A e' g' ((m a d (Sf A ks)).bind _) ((lft m a d _).bind _)
 rw[h a d (Sf A ks)]
 unfold lft
 cases e:m a d []with
 |ok y a' d' A'=>
  rw[e]at hq
  exact hk y hq a' d' _ rfl
 |fault c p=>exact(rfl:(PR.fault c p:PR β)= .fault c p)
 |bad=>exact(rfl:(PR.bad:PR β)= .bad)
def cb{α:Type}(m:Tm α)(Q:α→Prop):Prop:=∀a d n,match m a d n with
 | .ok y _ _ _=>Q y
 |_=>True
theorem cb.bind{α β:Type}{m:Tm α}{k:α→Tm β}{Q:α→Prop}{Q':β→Prop}(h:cb m Q)(hk:∀y,Q y→cb (k y) Q'):cb (m.bind k) Q':=fun a d n=>by
 have:=h a d n
 unfold Tm.bind
 cases e:m a d n with
 |ok y a' d' n'=>
  rw[e]at this
  exact hk y this a' d' n'
 |fault c p=>trivial
 |bad=>trivial
theorem cb.any{α:Type}(m:Tm α):cb m fun _=>True:=fun a d n=>by cases m a d n<;>trivial
theorem cb.ret{α:Type}{y:α}{Q:α→Prop}(h:Q y):cb (.ret y:Tm α) Q:=fun _ _ _=>h
theorem cb.flt{α:Type}{c p:Int}{Q:α→Prop}:cb (.flt c p:Tm α) Q:=fun _ _ _=>trivial
theorem cb.bad{α:Type}{Q:α→Prop}:cb (.bad:Tm α) Q:=fun _ _ _=>trivial
theorem cb.bif{α:Type}{c:Bool}{m m':Tm α}{Q:α→Prop}(h:c=true→cb m Q)(h':c=false→cb m' Q):cb (bif c then m else m') Q:=by
 cases c
 ·exact h' rfl
 ·exact h rfl
theorem cb.then{α β:Type}{m:Tm α}{k:α→Tm β}{Q':β→Prop}(hk:∀y,cb (k y) Q'):cb (m.bind k) Q':=cb.bind (cb.any m) fun y _=>hk y
theorem HA.bindQ{α β γ δ:Type}{A:List Nd}{ks:List Tn}{e:Nat→γ→α}{g:γ→List Tn}{e':Nat→δ→β}{g':δ→List Tn}{c:Pm α}{t:Tm γ}{Q:γ→Prop}{k:α→Pm β}{k':γ→Tm δ}(h:H e g c t)(hq:cb t Q)(hk:∀y,Q y→HA A (ks++g y) e' g' (k (e (Sf A ks).length y)) (k' y)):HA A ks e' g' (c.bind k) (t.bind k'):=fun a d n hn=>by
 have h1:=h a d _ n hn
 have h2:=hq a d n
 show RX A e' g' ((c a d (Sf A ks)).bind _) ((t a d n).bind _)
 cases et:t a d n with
 |ok y a' d' n'=>
  rw[et]at h1 h2
  obtain⟨h3,h4⟩:=h1
  rw[h4,AM]
  rw[AM]at h3
  exact hk y h2 a' d' n' h3
 |fault c' p=>
  rw[et]at h1
  have h1:c a d (Sf A ks)= .fault c' p:=h1
  rw[h1]
  exact(rfl:(PR.fault c' p:PR β)= .fault c' p)
 |bad=>
  rw[et]at h1
  have h1:c a d (Sf A ks)= .bad:=h1
  rw[h1]
  exact(rfl:(PR.bad:PR β)= .bad)
def k0(x:Nd):Prop:=ai x=[]
theorem Ll:Ens (nr T K) k0:=.then fun t=>.bif (fun _=>.bif (fun _=>.then fun _=>.ret rfl) fun _=>.bif (fun _=>.then fun _=>.ret rfl) fun _=>.bif (fun _=>.then fun _=>.ret rfl) fun _=>.bif (fun _=>.then fun _=>.ret rfl) fun _=>.bif (fun _=>.then fun _=>.ret rfl) fun _=>.flt) fun _=>.flt
theorem nX:∀(n:Nat) (x:Nd),k0 x→Ens (dz T K n x) k0
 |0,_,_=>.bad
 |n+1,x,h=>.then fun _=>.then fun _=>.bif (fun _=>.bif (fun _=>.flt) fun _=>.then fun _=>nX n _ h) fun _=>.then fun _=>.then fun _=>.bif (fun _=>.bif (fun _=>.flt) fun _=>.then fun _=>.then fun _=>nX n _ h) fun _=>.ret h
theorem yw:Ens (dQ T K) k0:=.bind Ll fun x h=>nX _ x h
theorem rB(v:Bool):Ens (cE T K v) k0:=.then fun _=>.bif (fun _=>.then fun _=>.then fun _=>.bind yw fun x h=>.then fun _=>.bif (fun _=>.flt) fun _=>.ret h) fun _=>.bif (fun _=>.then fun _=>.ret rfl) fun _=>yw
theorem zC{x:Nd}(h:k0 x)(k:Int)(s:Str):bI x k (ai x) s=di (bI x k [] s) []:=by
 rw[h]
 rfl
theorem r1{A:List Nd}{x:Tn}{k:Int}{w:Str}:nod k [eT A.length x] w=di (nod k [] w) (roots A.length [x]):=rfl
theorem fQ(h:HK q p):H eT gT (dM T K q) (dj T K p):=H.of fun A=>
 HA.free (bd T K _) fun _=>HA.bind h.val fun x=>HA.free (bd T K _) fun _=>HA.ret (by rw[ck]) rfl
theorem BE(h:HK q p)(A:List Nd):∀(n:Nat) (ks:List Tn),HA A ks eL gL (ow T K q n (roots A.length ks)) (mq T K p n ks)
 |0,_=>HA.bad
 |n+1,ks=>by
  have e:(roots A.length ks).length=ks.length:=fb _ _
  refine HA.free (dx T K _) fun b=>HA.bif (fun _=>HA.ret rfl rfl) fun _=>?_
  rw[e]
  refine HA.free (xF _) fun _=>HA.free (vY K _) fun _=>HA.bind h.val fun x=>?_
  rw[rtS]
  exact BE h A n (ks++[x])
theorem Ao(h:HK q p):H eL gL (ta T K q) (pb T K p):=H.of fun A=>HA.free (bd T K _) fun _=>BE h A _ []
theorem na{X x:Nd}{e:Int}(hX:X=di x []):H eT gT (n8 T K X e) (mi T K x e):=H.of fun A=>
 HA.free (cf T K) fun _=>HA.bif (fun _=>HA.flt) fun _=>HA.free (bD K) fun _=>HA.add hX
theorem PU(h:HK q p):H eM gM (BT T K q) (tF T K p):=H.of fun A=>by
 refine HA.free (rp T K) fun x=>HA.free (lz T K _) fun b=>HA.bif (fun _=>HA.bif (fun _=>HA.flt) fun _=>HA.bind (Ao h) fun l=>HA.ret ?_ rfl) fun _=>HA.free (bd T K _) fun _=>HA.bind h.val fun y=>HA.free (bd T K _) fun _=>HA.ret ?_ rfl
 ·rw[ck];rfl
 ·rw[ck];rfl
theorem QH(h:HK q p)(t:Tok)(s:Str):H eT gT (B4 T K q t s) (tD T K p t s):=H.of fun A=>by
 refine HA.bif (fun _=>(na rfl).at A) fun _=>HA.bif (fun _=>(na rfl).at A) fun _=>HA.bif (fun _=>(na rfl).at A) fun _=>HA.bif (fun _=>(na rfl).at A) fun _=>HA.bif (fun _=>(na rfl).at A) fun _=>?_
 refine HA.bif (fun _=>HA.free (bD K) fun _=>HA.free (bd T K _) fun _=>HA.free (bd T K _) fun _=>HA.add rfl) fun _=>?_
 refine HA.bif (fun _=>HA.free (bD K) fun _=>HA.bind (fQ h) fun x=>HA.add (by rw[ck];rfl)) fun _=>?_
 refine HA.bif (fun _=>HA.free (bD K) fun _=>HA.free (bd T K _) fun _=>HA.free (nE T K _) fun _=>HA.free (bd T K _) fun _=>HA.bind (fQ h) fun x=>HA.add (by rw[ck];rfl)) fun _=>?_
 exact HA.bif (fun _=>HA.free (bD K) fun _=>HA.bind (PU h) fun x=>HA.add (by rw[ck];rfl)) fun _=>HA.flt
theorem DG(h:HK q p):H eT gT (mH T K q) (iv T K p):=H.of fun A=>
 HA.free (cf T K) fun _=>HA.bif (fun _=>(na rfl).at A) fun _=>HA.bif (fun _=>(na rfl).at A) fun _=>HA.bif (fun _=>(na rfl).at A) fun _=>
  HA.bif (fun _=>HA.bif (fun _=>(fQ h).at A) fun _=>HA.flt) fun _=>HA.bif (fun _=>HA.bif (fun _=>(na rfl).at A) fun _=>(QH h _ _).at A) fun _=>HA.flt
theorem Pt(h:HK q p)(A:List Nd)(x:Tn)(f:Int):HA A [x] eT gT (Bx T K q (eT A.length x) f) (tH T K p x f):=by
 refine HA.free (dx T K _) fun _=>HA.bif (fun _=>HA.add rfl) fun _=>HA.free (dx T K _) fun _=>HA.bif (fun _=>HA.add rfl) fun _=>?_
 refine HA.free (kT T K) fun s=>HA.free (lz T K _) fun _=>HA.bif (fun _=>HA.bind (Ao h) fun l=>HA.add ?_) fun _=>HA.add rfl
 show nod 29 ([eT A.length x]++roots (Sf A [x]).length l) s=di (nod 29 [] s) (roots A.length ([x]++l))
 rw[xQ]
 rfl
theorem kJ(h:HK q p)(f:Int)(A:List Nd):∀(n:Nat) (x:Tn),HA A [x] eT gT (fp T K q f n (eT A.length x)) (eG T K p f n x)
 |0,_=>HA.bad
 |n+1,x=>by
  refine HA.free (dx T K _) fun _=>HA.bif (fun _=>HA.addBind rfl fun z=>kJ h f A n z) fun _=>?_
  refine HA.free (dx T K _) fun _=>HA.bif (fun _=>HA.bind h.val fun y=>HA.free (bd T K _) fun _=>HA.addBind ?_ fun z=>kJ h f A n z) fun _=>?_
  ·show nod 27 [eT A.length x,eT (Sf A [x]).length y] []=_
   rw[rt2]
   rfl
  refine HA.free (dx T K _) fun _=>HA.bif (fun _=>fun a d n' hn=>?_) fun _=>HA.ret rfl rfl
  exact RX.bind (Pt h A x f a d n' hn) fun y a d n' hn=>kJ h f A n y a d n' hn
theorem Fc(h:HK q p):H eT gT (mU T K q) (kL T K p):=H.of fun A=>
 HA.free (cf T K) fun _=>HA.bind (DG h) fun x=>by
  rw[ck]
  exact kJ h _ A _ x
theorem K9(h:HK q p):H eT gT (vS T K q) (oc T K p):=H.of fun A=>
 HA.free (cf T K) fun _=>HA.bif (fun _=>HA.free (vr K) fun _=>HA.free (bD K) fun _=>HA.bind h.un fun x=>HA.free zo fun _=>HA.add (by rw[ck];rfl)) fun _=>(Fc h).at A
theorem my{sub:Pm Int}{sut:Tm Tn}(hs:H eT gT sub sut)(least f:Int)(A:List Nd):∀(n:Nat) (x:Tn),HA A [x] eT gT (ff T K least f sub n (eT A.length x)) (fL T K least f sut n x)
 |0,_=>HA.bad
 |n+1,x=>by
  refine HA.free (cf T K) fun t=>HA.bif (fun _=>HA.free (bD K) fun _=>HA.bind hs fun y=>HA.addBind ?_ fun z=>my hs least f A n z) fun _=>?_
  ·show nod 34 [eT A.length x,eT (Sf A [x]).length y] t.2=_
   rw[rt2]
   rfl
  refine HA.bif (fun _=>HA.free (dx T K _) fun _=>HA.bif (fun _=>HA.free (dx T K _) fun _=>HA.bif (fun _=>HA.addBind rfl fun z=>my hs least f A n z) fun _=>?_) fun _=>HA.ret rfl rfl) fun _=>HA.ret rfl rfl
  exact HA.free (bd T K _) fun _=>HA.addBind rfl fun z=>my hs least f A n z
theorem vd(h:HK q p):∀j:Nat,H eT gT (jU T K q j) (kb T K p j)
 |0=>H.of fun A=>HA.free (cf T K) fun _=>h.un.at A
 |j+1=>H.of fun A=>HA.free (cf T K) fun _=>HA.bind (vd h j) fun x=>by
  rw[ck]
  exact my (vd h j) _ _ A _ x
theorem K1(h:HK q p):H eT gT (vj T K q) (oJ T K p):=H.of fun A=>
 HA.free (vr K) fun _=>HA.bind (vd h 6) fun x=>HA.free zo fun _=>HA.ret (by rw[ck]) rfl
def eW:Nat→(Nd×List Tn)×Bool→Nd×Bool:=fun o w=>(eM o w.1,w.2)
def gW:(Nd×List Tn)×Bool→List Tn:=fun w=>w.1.2
theorem NU(h:HK q p)(s:Str):H eW gW (pA T K q s) (qS T K p s):=H.of fun A=>by
 refine HA.bif (fun _=>HA.free (bD K) fun _=>HA.bind (fQ h) fun x=>HA.bind h.blk fun y=>HA.free (dx T K _) fun _=>HA.bif (fun _=>HA.bind h.blk fun z=>HA.ret ?_ rfl) fun _=>HA.ret ?_ rfl) fun _=>?_
 ·show(nod 11 [eT (Sf A []).length x,eT (Sf A [x]).length y,eT (Sf A [x,y]).length z] [],true)=_
  rw[ck,rt3]
  rfl
 ·show(nod 11 [eT (Sf A []).length x,eT (Sf A [x]).length y] [],true)=_
  rw[ck,rt2]
  rfl
 refine HA.bif (fun _=>HA.free (bD K) fun _=>HA.bind (fQ h) fun x=>HA.bind h.blk fun y=>HA.ret ?_ rfl) fun _=>?_
 ·show(nod 12 [eT (Sf A []).length x,eT (Sf A [x]).length y] [],true)=_
  rw[ck,rt2]
  rfl
 refine HA.bif (fun _=>HA.free (bD K) fun _=>HA.free (bd T K _) fun _=>HA.ret rfl rfl) fun _=>?_
 refine HA.bif (fun _=>HA.free (bD K) fun _=>HA.free (bd T K _) fun _=>HA.ret rfl rfl) fun _=>?_
 refine HA.bif (fun _=>HA.free (bD K) fun _=>HA.free (lz T K _) fun _=>HA.bif (fun _=>HA.free (bd T K _) fun _=>HA.ret rfl rfl) fun _=>HA.bind h.val fun x=>HA.free (bd T K _) fun _=>HA.ret (by rw[ck];rfl) rfl) fun _=>?_
 refine HA.bif (fun _=>HA.free (bD K) fun _=>HA.bind (fQ h) fun x=>HA.free (bd T K _) fun _=>HA.ret (by rw[ck];rfl) rfl) fun _=>?_
 refine HA.bif (fun _=>HA.free (bD K) fun _=>HA.bind (Ao h) fun l=>HA.free (bd T K _) fun _=>HA.ret (by rw[ck];rfl) rfl) fun _=>?_
 exact HA.ret rfl rfl
theorem CM(A:List Nd)(x:Tn)(ks:List Tn):aj (ag (Sf A (x::ks)) (eT A.length x).toNat)=aj x.data:=by
 obtain⟨d,l⟩:=x
 have e:Sf A (.mk d l::ks)=(Sf A l++[di d (roots A.length l)])++Tn.flats (A.length+(Tn.mk d l).size) ks:=by
  rw[←rT,Sf,Sf,Tn.flats,Tn.flats_one,List.append_assoc]
 have e2:(eT A.length (.mk d l)).toNat=(Sf A l).length:=by
  rw[eT,lQ,Tn.size]
  omega
 rw[e,e2]
 unfold ag
 rw[List.getD_eq_getElem?_getD,List.append_assoc,List.getElem?_append_right (Nat.le_refl _),Nat.sub_self]
 rfl
theorem BN(h:HK q p)(f:Int):H eT gT (eS T K q f) (lO T K p f):=H.of fun A=>by
 refine HA.bind h.val fun x=>HA.free (cf T K) fun t=>?_
 rw[ck]
 have key:∀(k':Tm Tn) (k:Int→Pm Int),HA A [x] eT gT (k (aj x.data)) k'→HA A [x] eT gT ((Bf (eT A.length x)).bind k) k':=fun k' k hk a d n hn=>by
  show RX A eT gT (k (aj (ag (Sf A [x]) (eT A.length x).toNat)) a d (Sf A [x])) _
  rw[CM]
  exact hk a d n hn
 refine key _ _ (HA.free (dx T K _) fun b=>HA.bif (fun _=>HA.bif (fun _=>HA.bind h.val fun y=>HA.free (bd T K _) fun _=>HA.add ?_) fun _=>HA.flt) fun _=>HA.bif (fun _=>HA.free (bd T K _) fun _=>HA.add rfl) fun _=>HA.flt)
 show nod 10 [eT A.length x,eT (Sf A [x]).length y] []=_
 rw[rt2]
 rfl
theorem LV(s:Str):cb (qS T K p s) fun w=>w.2=false→w.1.2=[]:=by
 refine .bif (fun _=>.then fun _=>.then fun _=>.then fun _=>.then fun _=>.bif (fun _=>.then fun _=>.ret (fun h=>by cases h)) fun _=>.ret (fun h=>by cases h)) fun _=>?_
 refine .bif (fun _=>.then fun _=>.then fun _=>.then fun _=>.ret (fun h=>by cases h)) fun _=>?_
 refine .bif (fun _=>.then fun _=>.then fun _=>.ret (fun h=>by cases h)) fun _=>?_
 refine .bif (fun _=>.then fun _=>.then fun _=>.ret (fun h=>by cases h)) fun _=>?_
 refine .bif (fun _=>.then fun _=>.then fun _=>.bif (fun _=>.then fun _=>.ret (fun h=>by cases h)) fun _=>.then fun _=>.then fun _=>.ret (fun h=>by cases h)) fun _=>?_
 refine .bif (fun _=>.then fun _=>.then fun _=>.then fun _=>.ret (fun h=>by cases h)) fun _=>?_
 refine .bif (fun _=>.then fun _=>.then fun _=>.then fun _=>.ret (fun h=>by cases h)) fun _=>?_
 exact .ret fun _=>rfl
theorem Rr(h:HK q p):H eT gT (By T K q) (tE T K p):=H.of fun A=>by
 refine HA.free (cf T K) fun t=>HA.bif (fun _=>h.blk.at A) fun _=>HA.free (zf T K) fun b=>HA.bif (fun _=>?_) fun _=>HA.bif (fun _=>?_) fun _=>(BN h _).at A
 ·exact HA.freeQ (nE T K _) (rB _) fun x hx=>HA.free (kT T K) fun s=>HA.free (dx T K _) fun b=>HA.bif (fun _=>HA.bind h.val fun y=>HA.free (bd T K _) fun _=>HA.add (by rw[ck];rfl)) fun _=>HA.free (bd T K _) fun _=>HA.add (zC hx _ _)
 ·refine HA.bindQ (NU h _) (LV _) fun w hq=>HA.bif (fun _=>HA.add (by rw[ck];rfl)) fun hw=>?_
  have e:[]++gW w=[]:=hq hw
  rw[e]
  exact(BN h _).at A
theorem xi(h:HK q p)(f:Int)(A:List Nd):∀(n:Nat) (ks:List Tn),HA A ks eT gT (nk T K q f n (roots A.length ks)) (jv T K p f n ks)
 |0,_=>HA.bad
 |n+1,ks=>by
  refine HA.free (lz T K _) fun _=>HA.bif (fun _=>HA.free (bd T K _) fun _=>HA.free zo fun _=>HA.add rfl) fun _=>HA.bind (Rr h) fun x=>?_
  rw[rtS]
  exact xi h f A n (ks++[x])
theorem K6(h:HK q p):H eT gT (wA T K q) (oB T K p):=H.of fun A=>HA.free (cf T K) fun _=>HA.free (vr K) fun _=>HA.free (bd T K _) fun _=>xi h _ A _ []
theorem Ju:H eT gT (.bad:Pm Int) (.bad:Tm Tn):=H.of fun _=>HA.bad
theorem vq(T:List UInt8)(K:List Tok):∀n,HK (kns T K n) (knt T K n)
 |0=>⟨Ju,Ju,Ju⟩
 |n+1=>⟨K1 (vq T K n),K6 (vq T K n),K9 (vq T K n)⟩
theorem ue(A:List Nd):∀(n:Nat) (ks:List Tn),HA A ks eL gL (iC T K n (roots A.length ks)) (fU T K n ks)
 |0,_=>HA.bad
 |n+1,ks=>by
  have e:(roots A.length ks).length=ks.length:=fb _ _
  refine HA.free (dx T K _) fun b=>HA.bif (fun _=>HA.ret rfl rfl) fun _=>?_
  rw[e]
  refine HA.free (xF _) fun _=>HA.free (vY K _) fun _=>HA.free (cf T K) fun t=>HA.freeQ (nE T K _) (rB _) fun x hx=>HA.free (kT T K) fun s=>HA.bind (H.add (zC hx _ _)) fun y=>?_
  rw[rtS]
  exact ue A n (ks++[y])
theorem yk:H eL gL (ld T K) (iT T K):=H.of fun A=>HA.free (bd T K _) fun _=>ue A _ []
theorem Ip(h:HK q p):H eT gT (p9 T K q) (kW T K p):=H.of fun A=>by
 refine HA.free (cf T K) fun t=>HA.bif (fun _=>HA.free (bD K) fun _=>HA.bind yk fun l=>HA.bind h.blk fun b=>HA.add ?_) fun _=>HA.freeQ (nE T K _) (rB _) fun x hx=>HA.free (kT T K) fun s=>HA.free (lz T K _) fun _=>HA.bif (fun _=>HA.bind yk fun l=>HA.bind h.blk fun b=>HA.add ?_) fun _=>HA.bif (fun _=>HA.flt) fun _=>HA.free (bd T K _) fun _=>HA.add (zC hx _ _)
 ·show nod 5 (roots (Sf A []).length l++[eT (Sf A l).length b]) []=di (nod 5 [] []) (roots A.length (l++[b]))
  rw[ck,rtS]
  rfl
 ·show bI x 6 (roots (Sf A []).length l++[eT (Sf A l).length b]) s=di (bI x 6 [] s) (roots A.length (l++[b]))
  rw[ck,rtS]
  rfl
theorem se(h:HK q p)(f:Int)(s:Str)(A:List Nd):∀(n:Nat) (ks:List Tn),HA A ks eT gT (lg T K q f s n (roots A.length ks)) (gN T K p f s n ks)
 |0,_=>HA.bad
 |n+1,ks=>by
  have e:(roots A.length ks).length=ks.length:=fb _ _
  refine HA.free (lz T K _) fun _=>HA.bif (fun _=>HA.free (bd T K _) fun _=>HA.add rfl) fun _=>?_
  rw[e]
  refine HA.free (vY K _) fun _=>HA.bind (Ip h) fun x=>?_
  rw[rtS]
  exact se h f s A n (ks++[x])
theorem LB(h:HK q p):H eT gT (wC T K q) (ox T K p):=H.of fun A=>by
 refine HA.free (cf T K) fun t=>HA.free (bd T K _) fun _=>HA.free (kT T K) fun s=>HA.free (cf T K) fun u=>HA.free (dx T K _) fun b=>HA.bif (fun _=>?_) fun _=>HA.free (bd T K _) fun _=>se h _ _ A _ []
 refine HA.free (kT T K) fun e=>HA.addBind rfl fun y=>HA.free (bd T K _) fun _=>?_
 exact se h _ _ A _ [y]
def eU:Nat→Tn→Unit:=fun _ _=>()
theorem ry(h:HK q p)(A:List Nd):∀(n:Nat) (ks:List Tn),HA A ks eU gT (iD T K q n (roots A.length ks)) (dB T K p n ks)
 |0,_=>HA.bad
 |n+1,ks=>by
  have e:(roots A.length ks).length=ks.length:=fb _ _
  refine HA.free (cf T K) fun t=>HA.bif (fun _=>fun a d n' hn=>?_) fun _=>?_
  ·have:=HA.add (A:=A) (ks:=ks) (x:=nod 1 [] []) (f:=0) (K:=K) rfl a d n' hn
   show RX A eU gT ((bP K (di (nod 1 [] []) (roots A.length ks)) 0 a d (Sf A ks)).bind _) _
   revert this
   cases cR K (nod 1 [] []) 0 ks a d n' with
   |ok y a' d' n''=>
    rintro ⟨h1,h2⟩
    refine⟨h1,?_⟩
    rw[h2]
    rfl
   |fault c p=>
    intro h
    have h:bP K (di (nod 1 [] []) (roots A.length ks)) 0 a d (Sf A ks)= .fault c p:=h
    rw[h]
    exact(rfl:(PR.fault c p:PR Unit)= .fault c p)
   |bad=>
    intro h
    have h:bP K (di (nod 1 [] []) (roots A.length ks)) 0 a d (Sf A ks)= .bad:=h
    rw[h]
    exact(rfl:(PR.bad:PR Unit)= .bad)
  rw[e]
  refine HA.free (vY K _) fun _=>HA.bind (LB h) fun x=>?_
  rw[rtS]
  exact ry h A n (ks++[x])
theorem C9(h:HK q p):H eU gT (mW T K q) (kg T K p):=H.of fun A=>ry h A _ []
end Go.Sx.Tryz
namespace Go.Sx.Tryz
open Go Go.Sx
set_option maxRecDepth 100000
section
variable{T:List UInt8}{K:List Tok}
end
end Go.Sx.Tryz
namespace Go.Sx.Tryz
open Go Go.Sx
set_option maxRecDepth 100000
section
variable{T:List UInt8}{K:List Tok}
end
end Go.Sx.Tryz
namespace Go.Sx.Tryz
open Go Go.Sx
set_option maxRecDepth 100000
section
variable{T:List UInt8}{K:List Tok}
variable{p:Kt}
end
end Go.Sx.Tryz
namespace Go.Sx.Tryz
open Go Go.Sx
set_option maxRecDepth 100000
section
variable{T:List UInt8}{K:List Tok}{p:Kt}
end
def jR(T:List UInt8):TR Tn:=kg T (b9 T) (knt T (b9 T) lC) 0 0 0
theorem AA(T:List UInt8):RX [] eU gT (mj T) (jR T):=C9 (vq T (b9 T) lC) 0 0 [] 0 rfl
end Go.Sx.Tryz
namespace Go.Sx.Tryz
open Go Go.Sx
set_option maxRecDepth 100000
theorem DU(x:Nd)(l:List Int):dC (di x l)=dC (di x (List.replicate l.length 0)):=by
 show(bif cA (aj x)==[]then(3:Int)else bif decide ((l.length:Int)<fw (aj x))then 131 else bif decide (dD (aj x)≥0)&&decide ((l.length:Int)>dD (aj x))then 131 else bif !pW (aj x)&& !(aD x==[])then 5 else bif sS x then 5 else 0)=
  (bif cA (aj x)==[]then(3:Int)else bif decide (((List.replicate l.length (0:Int)).length:Int)<fw (aj x))then 131 else bif decide (dD (aj x)≥0)&&decide (((List.replicate l.length (0:Int)).length:Int)>dD (aj x))then 131 else bif !pW (aj x)&& !(aD x==[])then 5 else bif sS x then 5 else 0)
 rw[List.length_replicate]
structure NG(x:Nd)(m:Nat):Prop where
 e:dC (di x (List.replicate m 0))=0
 t:(aD x).length≤70000
 nm:(aw x).length≤200
 mr:(af x).length≤50
 n:cN x=true
mutual
def Gk:Tn→Prop
 | .mk x ks=>NG x ks.length∧GkL ks
def GkL:List Tn→Prop
 |[]=>True
 |t::ts=>Gk t∧GkL ts
end
theorem GkL.app:∀{a b:List Tn},GkL a→GkL b→GkL (a++b)
 |[],_,_,h=>h
 |t::a,b,h,h'=>by
  unfold GkL at h
  show GkL (t::(a++b))
  unfold GkL
  exact⟨h.1,GkL.app h.2 h'⟩
theorem GkL.one{t:Tn}(h:Gk t):GkL [t]:=by
 unfold GkL
 exact⟨h,trivial⟩
theorem GkL.two{t u:Tn}(h:Gk t)(h':Gk u):GkL [t,u]:=GkL.app (GkL.one h) (GkL.one h')
theorem GkL.three{t u v:Tn}(h:Gk t)(h':Gk u)(h2:Gk v):GkL [t,u,v]:=GkL.app (GkL.one h) (GkL.two h' h2)
theorem NG.sp{x:Nd}{m:Nat}(h:NG x m)(f t:Int):NG (cX x f t) m:=⟨h.e,h.t,h.nm,h.mr,h.n⟩
variable{T:List UInt8}{K:List Tok}
theorem b5{x:Nd}{f:Int}{ks:List Tn}(h:NG x ks.length)(hk:GkL ks):cb (cR K x f ks) Gk:=fun a d n=>by
 unfold cR
 cases decide ((n:Int)≥8192)
 ·show Gk (.mk (cX x f (fZ K a f)) ks)
  unfold Gk
  exact⟨h.sp _ _,hk⟩
 ·trivial
theorem cq{k:Int}{m:Nat}{s:Str}(h:dC (di (nod k [] s) (List.replicate m 0))=0)(hs:s.length≤70000):NG (nod k [] s) m:=⟨h,hs,Nat.zero_le _,Nat.zero_le _,rfl⟩
theorem nn{k n:Int}{s:Str}(h:dC (di (eA k n s) [])=0)(hs:s.length≤70000)(hn:cN (eA k n s)=true):NG (eA k n s) 0:=⟨h,hs,Nat.zero_le _,Nat.zero_le _,hn⟩
theorem p8{k:Int}{m:Nat}{s:Str}(hk:(k==1||(k==8||k==17))=true∧s=[]∨(k==2)=true)(hs:s.length≤70000):NG (nod k [] s) m:=by
 refine cq ?_ hs
 have key:∀k:Int,fw k=0→dD k= -1→(cA k==[])=false→(pW k=true∨s=[])→sF k=false→dC (di (nod k [] s) (List.replicate m 0))=0:=by
  intro k h1 h2 h3 h4 h5
  show(bif cA k==[]then(3:Int)else bif decide (((List.replicate m (0:Int)).length:Int)<fw k)then 131 else bif decide (dD k≥0)&&decide (((List.replicate m (0:Int)).length:Int)>dD k)then 131 else bif !pW k&& !(s==[])then 5 else bif sS (di (nod k [] s) (List.replicate m 0))then 5 else 0)=0
  have h6:sS (di (nod k [] s) (List.replicate m 0))=false:=by
   show(bif sF k then _ else _)=false
   rw[h5]
   rfl
  rw[h1,h2,h3,h6,List.length_replicate,decide_eq_false (by omega)]
  rcases h4 with h4|h4
  ·rw[h4];rfl
  ·rw[h4];simp
 rcases hk with⟨hk,rfl⟩|hk
 ·simp only[Bool.or_eq_true,beq_iff_eq]at hk
  rcases hk with rfl|rfl|rfl
  ·exact key 1 rfl rfl rfl (.inr rfl) rfl
  ·exact key 8 rfl rfl rfl (.inr rfl) rfl
  ·exact key 17 rfl rfl rfl (.inr rfl) rfl
 ·have hk:k=2:=by simpa using hk
  subst hk
  exact key 2 rfl rfl rfl (.inl rfl) rfl
theorem Br{k:Int}{m:Nat}{s:Str}(hk:k=5∧s=[]∨k=29)(hm:1≤m)(hs:s.length≤70000):NG (nod k [] s) m:=by
 refine cq ?_ hs
 have key:∀k:Int,fw k=1→dD k= -1→(cA k==[])=false→(pW k=true∨s=[])→sF k=false→dC (di (nod k [] s) (List.replicate m 0))=0:=by
  intro k h1 h2 h3 h4 h5
  show(bif cA k==[]then(3:Int)else bif decide (((List.replicate m (0:Int)).length:Int)<fw k)then 131 else bif decide (dD k≥0)&&decide (((List.replicate m (0:Int)).length:Int)>dD k)then 131 else bif !pW k&& !(s==[])then 5 else bif sS (di (nod k [] s) (List.replicate m 0))then 5 else 0)=0
  have h6:sS (di (nod k [] s) (List.replicate m 0))=false:=by
   show(bif sF k then _ else _)=false
   rw[h5]
   rfl
  rw[h1,h2,h3,h6,List.length_replicate,decide_eq_false (by omega)]
  rcases h4 with h4|h4
  ·rw[h4];rfl
  ·rw[h4];simp
 rcases hk with⟨rfl,rfl⟩|rfl
 ·exact key 5 rfl rfl rfl (.inr rfl) rfl
 ·exact key 29 rfl rfl rfl (.inl rfl) rfl
structure TyR(x:Nd):Prop where
 r:bh (ak x) (aw x) (ah x) (af x)=true
 nm:(aw x).length≤64
 tx:aD x=[]
 n:nN x=0
theorem TyR.mk5{x:Nd}(h:TyR x):(af x).length≤5:=by
 have:=oU h.r
 omega
theorem oR{y:Nd}{k:Int}{m:Nat}{s:Str}(h:TyR y)(hy:sF k=true)(hn:(cA k==[])=false)(hl:fw k≤m)(hm:dD k= -1∨(m:Int)≤dD k)(ht:pW k=true∨s=[])(hs:s.length≤70000):NG (bI y k [] s) m:=by
 refine⟨?_,hs,by have:=h.nm;show(aw y).length≤200;omega,by have:=h.mk5;show(af y).length≤50;omega,?_⟩
 ·show(bif cA k==[]then(3:Int)else bif decide (((List.replicate m (0:Int)).length:Int)<fw k)then 131 else bif decide (dD k≥0)&&decide (((List.replicate m (0:Int)).length:Int)>dD k)then 131 else bif !pW k&& !(s==[])then 5 else bif sS (di (bI y k [] s) (List.replicate m 0))then 5 else 0)=0
  have h6:sS (di (bI y k [] s) (List.replicate m 0))=false:=by
   show(bif sF k then !bh (ak y) (aw y) (ah y) (af y)else _)=false
   rw[hy,h.r]
   rfl
  have h7:(decide (dD k≥0)&&decide ((m:Int)>dD k))=false:=by
   rcases hm with hm|hm
   ·rw[hm];rfl
   ·rw[decide_eq_false (by omega:¬(m:Int)>dD k),Bool.and_false]
  rw[hn,h6,List.length_replicate,decide_eq_false (by omega),h7]
  rcases ht with h4|h4
  ·rw[h4];rfl
  ·rw[h4];simp
 ·unfold cN
  show(decide (-9223372036854775808≤nN y)&&decide (nN y≤9223372036854775807))=true
  rw[h.n]
  rfl
end Go.Sx.Tryz
namespace Go.Sx.Tryz
open Go Go.Sx
set_option maxRecDepth 100000
theorem AN{s:List UInt8}{v:Int}(h:Lib.parseIntB 64 s= .ok v): -9223372036854775808≤v∧v≤9223372036854775807:=by
 have e:(2:Nat)^(64-1)=9223372036854775808:=by decide
 cases s with
 |nil=>cases h
 |cons c r=>
  simp only[Lib.parseIntB,e]at h
  generalize Lib.parseUintB 64 (if c.toNat=43∨c.toNat=45 then r else c::r)=q at h
  rcases q with u|_|_
  ·simp only at h
   by_cases hn:c.toNat=45
   ·simp only[hn,not_true,false_and,if_false,true_and,if_true]at h
    split at h
    ·cases h
    ·rename_i h2
     simp only[Lib.NumEnd.ok.injEq]at h
     omega
   ·simp only[hn,not_false_eq_true,true_and,false_and,if_false]at h
    split at h
    ·cases h
    ·rename_i h2
     simp only[Lib.NumEnd.ok.injEq]at h
     omega
  ·cases h
  ·cases h
theorem lT:(-9223372036854775808:Int)≤0∧(0:Int)≤9223372036854775807:=⟨by decide,by decide⟩
theorem zI(s:List UInt8): -9223372036854775808≤(lj s).1∧(lj s).1≤9223372036854775807:=by
 unfold lj
 cases !dL s
 ·cases (decide ((s.length:Int)>1)&&at8 s 0==48)
  ·cases h:(dH s).2
   ·exact lT
   ·show-9223372036854775808≤(dH s).1∧(dH s).1≤9223372036854775807
    unfold dH at h⊢
    cases hp:Lib.parseIntB 64 s with
    |ok v=>exact AN hp
    |_=>rw[hp]at h;cases h
  ·exact lT
 ·exact lT
theorem Ac(n:Int): -9223372036854775808≤IntKind.wrap .i64 n∧IntKind.wrap .i64 n≤9223372036854775807:=by
 unfold IntKind.wrap
 have hb:IntKind.bits .i64=64:=rfl
 have hs:IntKind.signed .i64=true:=rfl
 simp only[hb,hs,Bool.true_and]
 split
 ·rename_i h;simp only[decide_eq_true_eq]at h;omega
 ·rename_i h;simp only[decide_eq_true_eq]at h;omega
theorem Bw{x:Nd}(h: -9223372036854775808≤nN x∧nN x≤9223372036854775807):cN x=true:=by
 unfold cN
 rw[decide_eq_true h.1,decide_eq_true h.2]
 rfl
theorem rf:∀(n:Nat) (r:List UInt8),r.length≤n→(lZ r).length≤r.length
 |_,[],_=>Nat.zero_le _
 |_,[_],_=>Nat.zero_le _
 |0,c::d::r,h=>by simp at h
 |n+1,c::d::r,h=>by
  have h1:=rf n (d::r) (by simpa using h)
  have h2:=rf n r (by simp at h;omega)
  unfold lZ
  cases (c.toNat:Int)==92
  ·simp only[cond_false,List.length_cons]at h1⊢
   omega
  ·simp only[cond_true,List.length_cons]
   omega
theorem Hk(s:List UInt8):(mf s).1.length≤s.length:=by
 unfold mf
 cases s==[]
 ·cases at8 s 0 !=34
  ·cases pZ s 0 !=0
   ·cases j6 s 0 !=s.length
    ·have:=rf _ (s.drop 1) (Nat.le_refl _)
     rw[List.length_drop]at this
     show(lZ (s.drop 1)).length≤_
     omega
    ·exact Nat.zero_le _
   ·exact Nat.zero_le _
  ·exact Nat.zero_le _
 ·exact Nat.zero_le _
theorem oQ{s:List UInt8}(h:ca s=true):s.length≤64∧s≠[]:=by
 unfold ca at h
 simp only[Bool.and_eq_true,decide_eq_true_eq,Bool.not_eq_true']at h
 refine⟨by omega,fun e=>?_⟩
 rw[e]at h
 exact absurd h.2.1 (by decide)
theorem l8{b d:Int}:∀(m:List UInt8) (i:Int),(∀(j:Nat) (c:UInt8),m[j]? =some c→c=32∨(c=63∧(i+j=0→b=5))∨(c=111∧(i+j=0→b=5)∧d≤i+j))→fI b d i m=true
 |[],_,_=>rfl
 |c::m,i,h=>by
  unfold fI
  rw[Bool.and_eq_true]
  refine⟨?_,l8 m (i+1) fun j c' hc=>?_⟩
  ·have h0:=h 0 c rfl
   have hb:∀h1:(i+((0:Nat):Int)=0→b=5),(bif i==0 then b==5 else true)=true:=fun h1=>by
    cases e:i==0
    ·rfl
    ·have e:i=0:=by simpa using e
     rw[h1 (by omega)]
     rfl
   unfold okM
   rcases h0 with rfl|⟨rfl,h1⟩|⟨rfl,h1,h2⟩
   ·rfl
   ·show(bif i==0 then b==5 else true)=true
    exact hb h1
   ·show((bif i==0 then b==5 else true)&& !decide (i<d))=true
    rw[hb h1,decide_eq_false (by omega)]
    rfl
  ·have:=h (j+1) c' (by simpa using hc)
   rw[show i+1+(j:Int)=i+((j+1:Nat):Int) by omega]
   exact this
structure TyI(x:Nd):Prop where
 b:1≤ak x∧ak x≤5
 nb:(ak x==5)=(aw x !=[])
 d:0≤ah x∧ah x≤4
 ml:((af x).length:Int)=ah x+1
 mo:∀(j:Nat) (c:UInt8),(af x)[j]? =some c→c=32∨(c=63∧((j:Int)=0→ak x=5))
 nm:(aw x).length≤64
 tx:aD x=[]
 n:nN x=0
theorem yp{b d:Int}{n m:List UInt8}(hb:1≤b∧b≤6)(hn:(b==5)=(n !=[]))(hd:0≤d∧d≤4)(hm:(m.length:Int)=d+1)(h6:b=6→d=0)(hk:fI b d 0 m=true):bh b n d m=true:=by
 unfold bh
 rw[decide_eq_false (by omega:¬d<0),decide_eq_false (by omega:¬d>4),decide_eq_false (by omega:¬b<1),decide_eq_false (by omega:¬b>6),hn,hk,show((m.length:Int)==d+1)=true by rw[hm];simp]
 have:(b==6&&decide (d>0))=false:=by
  cases e:b==6
  ·rfl
  ·have e:b=6:=by simpa using e
   rw[decide_eq_false (by have:=h6 e;omega)]
   rfl
 rw[this]
 simp
theorem TyI.r{x:Nd}(h:TyI x):TyR x:=⟨yp ⟨h.b.1,by have:=h.b.2;omega⟩ h.nb h.d h.ml (fun h6=>by have:=h.b.2;omega) (l8 _ 0 fun j c hc=>by
 rcases h.mo j c hc with h1|⟨h1,h2⟩
 ·exact .inl h1
 ·exact .inr (.inl ⟨h1,fun h0=>h2 (by omega)⟩)),h.nm,h.tx,h.n⟩
variable{T:List UInt8}{K:List Tok}
theorem BZ:Ens (bK T K) fun t=>t.2.length≤T.length:=fun a d A=>by
 show(say T (ab K a)).length≤T.length
 unfold say
 rw[List.length_drop,List.length_take]
 omega
theorem kG:Ens (dc T K) fun s=>ca s=true:=.then fun t=>.bif (fun h=>.then fun _=>.ret (by rw[Bool.and_eq_true]at h;exact h.2)) fun _=>.flt
theorem kx{b w1 w2 e:Int}{nm:Str}(hb:1≤b∧b≤5)(hn:(b==5)=(nm !=[]))(hl:nm.length≤64):TyI (oC b nm w1 w2 e):=by
 refine⟨hb,hn,⟨Int.le_refl _,show(0:Int)≤4 by decide⟩,rfl,fun j c hc=>?_,hl,rfl,rfl⟩
 have hc:([32]:List UInt8)[j]? =some c:=hc
 match j,hc with
 |0,hc=>cases hc;exact .inl rfl
 |j+1,hc=>simp at hc
theorem IA:Ens (nr T K) TyI:=.then fun t=>.bif (fun _=>.bif (fun _=>.then fun _=>.ret (kx ⟨by decide,by decide⟩ rfl (Nat.zero_le _))) fun _=>.bif (fun _=>.then fun _=>.ret (kx ⟨by decide,by decide⟩ rfl (Nat.zero_le _))) fun _=>
 .bif (fun _=>.then fun _=>.ret (kx ⟨by decide,by decide⟩ rfl (Nat.zero_le _))) fun _=>.bif (fun _=>.then fun _=>.ret (kx ⟨by decide,by decide⟩ rfl (Nat.zero_le _))) fun _=>.bif (fun h=>.then fun _=>.ret (by
  obtain⟨h1,h2⟩:=oQ h
  exact kx ⟨by decide,by decide⟩ (by simp[bne,h2]) h1)) fun _=>.flt) fun _=>.flt
theorem yi{x:Nd}(h:((af x).length:Int)=ah x+1)(hd:0≤ah x){m:UInt8}{j:Nat}{c:UInt8}(hc:((af x).take (ah x).toNat++[m])[j]? =some c):(af x)[j]? =some c∨(c=m∧(j:Int)=ah x):=by
 by_cases hj:j<(ah x).toNat
 ·rw[List.getElem?_append_left (by rw[List.length_take];omega),List.getElem?_take_of_lt hj]at hc
  exact .inl hc
 ·rw[List.getElem?_append_right (by rw[List.length_take];omega),List.length_take]at hc
  have:j-min (ah x).toNat (af x).length=0:=by
   cases hz:j-min (ah x).toNat (af x).length with
   |zero=>rfl
   |succ z=>rw[hz]at hc;simp at hc
  rw[this]at hc
  cases hc
  exact .inr ⟨rfl,by omega⟩
theorem oy:∀(n:Nat) (x:Nd),TyI x→Ens (dz T K n x) TyI
 |0,_,_=>.bad
 |n+1,x,h=>.then fun _=>.then fun _=>.bif (fun _=>.bif (fun _=>.flt) fun hc=>.then fun _=>oy n _ (by
   rw[Bool.or_eq_false_iff,Bool.and_eq_false_iff]at hc
   refine⟨h.b,h.nb,h.d,?_,fun j c hj=>?_,h.nm,h.tx,h.n⟩
   ·show(((af x).take (ah x).toNat++[63]).length:Int)=ah x+1
    have:=h.ml
    have:=h.d
    rw[List.length_append,List.length_take,List.length_singleton]
    omega
   ·rcases yi h.ml h.d.1 hj with h1|⟨rfl,h2⟩
    ·exact h.mo j c h1
    ·refine .inr ⟨rfl,fun h0=>?_⟩
     rcases hc.1 with h3|h3
     ·show ak x=5
      simpa [bne]using h3
     ·have:¬ah x=0:=by simpa using h3
      omega)) fun _=>.then fun _=>.then fun _=>.bif (fun _=>.bif (fun _=>.flt) fun hc=>.then fun _=>.then fun _=>oy n _ (by
   have h4:¬ah x=4:=by simpa using hc
   have hd:=h.d
   refine⟨h.b,h.nb,⟨by show 0≤ah x+1;omega,by show ah x+1≤4;omega⟩,?_,fun j c hj=>?_,h.nm,h.tx,h.n⟩
   ·show((af x++[32]).length:Int)=ah x+1+1
    have:=h.ml
    rw[List.length_append,List.length_singleton]
    omega
   ·have hj:(af x++[32])[j]? =some c:=hj
    by_cases hl:j<(af x).length
    ·rw[List.getElem?_append_left hl]at hj
     exact h.mo j c hj
    ·rw[List.getElem?_append_right (by omega)]at hj
     cases hz:j-(af x).length with
     |zero=>rw[hz]at hj;cases hj;exact .inl rfl
     |succ z=>rw[hz]at hj;simp at hj)) fun _=>.ret h
theorem nR:Ens (dQ T K) TyI:=.bind IA fun x h=>oy _ x h
theorem kN(v:Bool):Ens (cE T K v) TyR:=.then fun _=>.bif (fun _=>.then fun _=>.then fun _=>.bind nR fun x h=>.then fun e=>.bif (fun _=>.flt) fun hc=>.ret (by
  rw[Bool.or_eq_false_iff,Bool.and_eq_false_iff]at hc
  have hd:=h.d
  refine⟨yp ⟨h.b.1,by have:=h.b.2;show ak x≤6;omega⟩ h.nb h.d ?_ (fun h6=>by have:=h.b.2;have h6:ak x=6:=h6;omega) (l8 _ 0 fun j c hj=>?_),h.nm,h.tx,h.n⟩
  ·show(((af x).take (ah x).toNat++[111]).length:Int)=ah x+1
   have:=h.ml
   rw[List.length_append,List.length_take,List.length_singleton]
   omega
  ·rcases yi h.ml h.d.1 hj with h1|⟨rfl,h2⟩
   ·rcases h.mo j c h1 with h3|⟨h3,h4⟩
    ·exact .inl h3
    ·exact .inr (.inl ⟨h3,fun h0=>h4 (by omega)⟩)
   ·refine .inr (.inr ⟨rfl,fun h0=>?_,by show ah x≤0+(j:Int);omega⟩)
    rcases hc.1 with h3|h3
    ·show ak x=5
     simpa [bne]using h3
    ·have:¬ah x=0:=by simpa using h3
     omega)) fun _=>.bif (fun _=>.then fun _=>.ret ⟨rfl,Nat.zero_le _,rfl,rfl⟩) fun _=>fun a d A=>by
  have:=nR (T:=T) (K:=K) a d A
  cases e:dQ T K a d A with
  |ok y a' d' A'=>rw[e]at this;exact TyI.r this
  |fault c p=>trivial
  |bad=>trivial
end Go.Sx.Tryz
