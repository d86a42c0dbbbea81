/- A part of the proof: see the row's text. -/
import Derived.Test.YtaklpoiaicepoaaGreatDoorZa29
import Derived.Test.YtaklpoiaicepoaaGreatDoorZa26
import Derived.Test.YtaklpoiaicepoaaGreatDoorZa28
set_option linter.unusedVariables false
set_option linter.unusedSimpArgs false
noncomputable section
namespace Go.Sx.Tryz
open Go Go.Sx
set_option maxRecDepth 100000
section
variable{s a0 L:Int}{T T':List UInt8}{K K':List Tok}{p p':Kt}
theorem eV{sl:Int}{x y:Nd}{f f':Int}{ks ls:List Tn}(h:Rn x y)(h':EtL ks ls):Yl s a0 L 0 sl Et (bK K x f ks) (bK K' y f' ls):=fun a d n z a1 d1 n1 ha e=>by
 unfold bK at e
 cases hc:decide ((n:Int)≥8192)with
 |true=>rw[hc]at e;cases e
 |false=>
  rw[hc]at e
  cases e
  refine⟨by omega,fun _=>by omega,fun _ d' n'=>?_⟩
  unfold bK
  cases decide ((n':Int)≥8192)
  ·exact⟨rfl,TN (x:=cW x f (ef K a f)) (y:=cW y f' (ef K' (a+s) f')) ⟨h.k,h.t,h.b,h.nm,h.d,h.m,h.n⟩ h'⟩
  ·exact .inl rfl
structure YK(s a0 L:Int)(p p':Kt):Prop where
 val:Yl s a0 L 1 0 Et p.val p'.val
 un:Yl s a0 L 1 0 Et p.un p'.un
theorem pC(h:Al T K T' K' s a0 L)(hp:YK s a0 L p p'):Yl s a0 L 1 0 Et (cF T K p) (cF T' K' p'):=.bindL (eh h _).lft fun _ _ _=>.bind hp.val fun x y e=>.bind (eh h _).lft fun _ _ _=>.ret e
theorem DC(h:Al T K T' K' s a0 L)(hp:YK s a0 L p p')(n n':Nat)(ih:∀A M,EtL A M→Yl s a0 L 1 0 EtL (fW T K p n A) (fW T' K' p' n' M))(A M:List Tn)(e:EtL A M):Yl s a0 L 1 0 EtL (fW T K p (n+1) A) (fW T' K' p' (n'+1) M):=
 .ifb (kA:=0) (kB:=1) (Mc h _) (.ret e) (.bind (K4 h e.len).lft fun _ _ _=>.bind (SG (by rw[e.len])).lft fun _ _ _=>.bind hp.val fun x y e2=>ih _ _ (e.snoc e2))
theorem ye(h:Al T K T' K' s a0 L)(hp:YK s a0 L p p'):∀(n n':Nat) (A M:List Tn),EtL A M→Yl s a0 L 1 0 EtL (fW T K p n A) (fW T' K' p' n' M)
 |0,_,_,_,_=>.bad
 |n+1,0,A,M,e=>.no (DC h hp n 0 (fun A M e=>ye h hp n 0 A M e) A M e)
 |n+1,n'+1,A,M,e=>DC h hp n n' (fun A M e=>ye h hp n n' A M e) A M e
theorem J8(h:Al T K T' K' s a0 L)(hp:YK s a0 L p p'):Yl s a0 L 2 0 EtL (oe T K p) (oe T' K' p'):=.bindS (k:=1) (eh h _).lft fun _ _ _=>ye h hp _ _ _ _ .nil
theorem oU(h:Al T K T' K' s a0 L){x y:Nd}{e e':Int}(hx:Rn x y)(he:e=e'):Yl s a0 L 1 0 Et (gq T K x e) (gq T' K' y e'):=.bind (iW h).lft fun t u _=>.bif (by rw[he]) .flt (.bindL (dG h).lft fun _ _ _=>eV hx .nil)
theorem PK(h:Al T K T' K' s a0 L)(hp:YK s a0 L p p'):Yl s a0 L 2 0 RM (ur T K p) (ur T' K' p'):=.bind (xA h).lft fun x y e=>.bind (O2 h _).lft fun _ _ e1=>.bif e1 (.bif (by rw[e.b,e.d,e.m]) .flt (.bindL (J8 h hp) fun l m e2=>.ret ⟨yp e _ e.t,e2⟩))
 (.bindS (k:=1) (eh h _).lft fun _ _ _=>.bindL hp.val fun v u e2=>.bind (eh h _).lft fun _ _ _=>.ret ⟨yp e _ e.t,.one e2⟩)
theorem QV(h:Al T K T' K' s a0 L)(hp:YK s a0 L p p')(t t':Tok)(w:Str):Yl s a0 L 1 0 Et (nM T K p t w) (nM T' K' p' t' w):=
 .bif rfl (oU h (gu rfl rfl) rfl) (.bif rfl (oU h (gu rfl rfl) rfl) (.bif rfl (oU h (gu rfl rfl) rfl) (.bif rfl (oU h (gu rfl rfl) rfl) (.bif rfl (oU h (gu rfl rfl) rfl)
 (.bif rfl (.bindL (dG h).lft fun _ _ _=>.bind (eh h _).lft fun _ _ _=>.bind (eh h _).lft fun _ _ _=>eV (dP rfl) .nil)
 (.bif rfl (.bindL (dG h).lft fun _ _ _=>.bind (pC h hp) fun x y e=>eV (dP rfl) (.one e))
 (.bif rfl (.wk (k1:=2) (sl1:=0) (.bind (dG h).lft fun _ _ _=>.bind (eh h _).lft fun _ _ _=>.bind (LN h _).lft fun x y e=>.bindS (k:=1) (eh h _).lft fun _ _ _=>.bindL (pC h hp) fun v u e2=>eV (yp e _ e.t) (.one e2)))
 (.bif rfl (.bindL (dG h).lft fun _ _ _=>.bind (PK h hp) fun x y e=>eV e.1 e.2) .flt))))))))
theorem pj(h:Al T K T' K' s a0 L)(hp:YK s a0 L p p'):Yl s a0 L 1 0 Et (cm T K p) (cm T' K' p'):=.bind (iW h).lft fun t u e=>by
 obtain⟨e1,e2⟩:=e
 rw[e1,e2]
 exact .bif rfl (oU h (gu rfl rfl) rfl) (.bif rfl (oU h (gu rfl rfl) rfl) (.bif rfl (oU h (gu rfl rfl) rfl) (.bif rfl (.bif rfl (pC h hp) .flt) (.bif rfl (.bif rfl (oU h (gu rfl rfl) rfl) (QV h hp _ _ _)) .flt))))
theorem Jr(h:Al T K T' K' s a0 L)(hp:YK s a0 L p p'){x y:Tn}(e:Et x y)(f f':Int):Yl s a0 L 0 0 Et (qK T K p x f) (qK T' K' p' y f'):=.bind (mN h _).lft fun _ _ e1=>.bif e1 (eV (dP rfl) (.one e)) (.bind (mN h _).lft fun _ _ e2=>.bif e2 (eV (dP rfl) (.one e))
 (.bind (Ox h).lft fun w w' e3=>.ifb (kA:=1) (kB:=0) (Tj h _ (by decide)) (.bindL (J8 h hp) fun l m e5=>eV (dP e3) (.cons e e5)) (eV (dP e3) (.one e))))
theorem vC(h:Al T K T' K' s a0 L)(hp:YK s a0 L p p')(f f':Int)(n n':Nat)(ih:∀x y,Et x y→Yl s a0 L 0 0 Et (aV T K p f n x) (aV T' K' p' f' n' y))(x y:Tn)(e:Et x y):Yl s a0 L 0 0 Et (aV T K p f (n+1) x) (aV T' K' p' f' (n'+1) y):=
 .bind (mN h _).lft fun _ _ e1=>.bif e1 (.bind (eV (sl:=0) (dP rfl) (.one e)) fun _ _ e2=>ih _ _ e2)
  (.bind (mN h _).lft fun _ _ e1=>.bif e1 (.bind hp.val fun _ _ e2=>.bind (eh h _).lft fun _ _ _=>.bind (eV (sl:=0) (dP rfl) (.two e e2)) fun _ _ e3=>ih _ _ e3)
  (.bind (mN h _).lft fun _ _ e1=>.bif e1 (.bind (Jr h hp e f f') fun _ _ e2=>ih _ _ e2) (.ret e)))
theorem qh(h:Al T K T' K' s a0 L)(hp:YK s a0 L p p')(f f':Int):∀(n n':Nat) (x y:Tn),Et x y→Yl s a0 L 0 0 Et (aV T K p f n x) (aV T' K' p' f' n' y)
 |0,_,_,_,_=>.bad
 |n+1,0,x,y,e=>.no (vC h hp f f' n 0 (fun x y e=>qh h hp f f' n 0 x y e) x y e)
 |n+1,n'+1,x,y,e=>vC h hp f f' n n' (fun x y e=>qh h hp f f' n n' x y e) x y e
theorem J3(h:Al T K T' K' s a0 L)(hp:YK s a0 L p p'):Yl s a0 L 1 0 Et (dY T K p) (dY T' K' p'):=.bind (iW h).lft fun t u _=>.bindL (pj h hp) fun x y e=>qh h hp _ _ _ _ _ _ e
theorem yB(h:Al T K T' K' s a0 L)(hp:YK s a0 L p p'):Yl s a0 L 1 0 Et (ja T K p) (ja T' K' p'):=.bind (iW h).lft fun t u e=>.bif (by rw[e.1,e.2]) (.bind JB.lft fun _ _ _=>.bindL (dG h).lft fun _ _ _=>.bind hp.un fun x y e2=>.bind Nr.lft fun _ _ _=>by
 rw[e.2]
 exact eV (dP rfl) (.one e2)) (J3 h hp)
theorem Yl.peek{α:Type}{R:α→α→Prop}{c:Tok×Str→Bool}{A A':Tok×Str→Tm α}{B B':Tm α}(h:Al T K T' K' s a0 L)(hc:∀t u,Rq t u→c t=c u)(hs:∀t,ak t.1=5→t.2=[41]→c t=false)(hA:∀t u,Rq t u→Yl s a0 L 1 0 R (A t) (A' u))(hB:Yl s a0 L 0 0 R B B'):Yl s a0 L 0 0 R ((lft (bc T K)).bind fun t=>bif c t then A t else B) ((lft (bc T' K')).bind fun t=>bif c t then A' t else B'):=fun a d n z a2 d2 n2 ha e=>by
 replace e:(bif c (aa K a,say T (aa K a))then A (aa K a,say T (aa K a))else B) a d n= .ok z a2 d2 n2:=e
 have hnew:∀d' n' (Q:α→Int→Prop),dy ((bif c (aa K' (a+s),say T' (aa K' (a+s)))then A' (aa K' (a+s),say T' (aa K' (a+s)))else B') (a+s) d' n') Q→dy (((lft (bc T' K')).bind fun t=>bif c t then A' t else B') (a+s) d' n') Q:=fun d' n' Q hQ=>hQ
 cases hb:c (aa K a,say T (aa K a))with
 |true=>
  rw[hb]at e
  replace e:A (aa K a,say T (aa K a)) a d n= .ok z a2 d2 n2:=e
  obtain⟨g1,g2,_⟩:=hA _ _ (Rf.rf (R:=Rq) _) a d n z a2 d2 n2 ha e
  refine⟨g1,fun hl=>by have:=g2 hl;omega,fun hl d' n'=>?_⟩
  have g2:=g2 (by omega)
  have hr:Rq (aa K a,say T (aa K a)) (aa K' (a+s),say T' (aa K' (a+s))):=h.tok a ha (by omega)
  refine hnew d' n' _ ?_
  rw[←hc _ _ hr,hb]
  exact(hA _ _ hr a d n z a2 d2 n2 ha e).2.2 hl d' n'
 |false=>
  rw[hb]at e
  replace e:B a d n= .ok z a2 d2 n2:=e
  obtain⟨g1,g2,g3⟩:=hB a d n z a2 d2 n2 ha e
  refine⟨g1,g2,fun hl d' n'=>?_⟩
  refine hnew d' n' _ ?_
  have:c (aa K' (a+s),say T' (aa K' (a+s)))=false:=by
   by_cases hlt:a<L
   ·have hr:Rq (aa K a,say T (aa K a)) (aa K' (a+s),say T' (aa K' (a+s))):=h.tok a ha hlt
    rw[←hc _ _ hr,hb]
   ·have:a=L:=by omega
    subst this
    exact hs _ h.sk h.sy
  rw[this]
  exact g3 hl d' n'
theorem zC(h:Al T K T' K' s a0 L){sub sub':Tm Tn}(hs:Yl s a0 L 1 0 Et sub sub')(least f f':Int)(h0:0≤least)(n n':Nat)(ih:∀x y,Et x y→Yl s a0 L 0 0 Et (bG T K least f sub n x) (bG T' K' least f' sub' n' y))(x y:Tn)(e:Et x y):Yl s a0 L 0 0 Et (bG T K least f sub (n+1) x) (bG T' K' least f' sub' (n'+1) y):=
 .peek (c:=fun t=>ak t.1==5&&cU t.2==least) h (fun t u e=>by rw[e.1,e.2]) (fun t h1 h2=>by
  have:(cU t.2==least)=false:=by
   rw[h2]
   show((-1:Int)==least)=false
   simp
   omega
  show(ak t.1==5&&cU t.2==least)=false
  rw[this,Bool.and_false]) (fun t u e0=>.bindL (dG h).lft fun _ _ _=>.bind hs fun _ _ e1=>.bind (eV (sl:=0) (dP e0.2) (.two e e1)) fun _ _ e2=>ih _ _ e2)
  (.bif rfl (.bind (mN h _).lft fun _ _ e1=>.bif e1 (.bind (mN h _).lft fun _ _ e2=>.bif e2 (.bind (eV (sl:=0) (dP rfl) (.one e)) fun _ _ e3=>ih _ _ e3) (.bind (eh h _).lft fun _ _ _=>.bind (eV (sl:=0) (dP rfl) (.one e)) fun _ _ e3=>ih _ _ e3)) (.ret e)) (.ret e))
theorem ug(h:Al T K T' K' s a0 L){sub sub':Tm Tn}(hs:Yl s a0 L 1 0 Et sub sub')(least f f':Int)(h0:0≤least):∀(n n':Nat) (x y:Tn),Et x y→Yl s a0 L 0 0 Et (bG T K least f sub n x) (bG T' K' least f' sub' n' y)
 |0,_,_,_,_=>.bad
 |n+1,0,x,y,e=>.no (zC h hs least f f' h0 n 0 (fun x y e=>ug h hs least f f' h0 n 0 x y e) x y e)
 |n+1,n'+1,x,y,e=>zC h hs least f f' h0 n n' (fun x y e=>ug h hs least f f' h0 n n' x y e) x y e
theorem n8(h:Al T K T' K' s a0 L)(hp:YK s a0 L p p'):∀j:Nat,j≤6→Yl s a0 L 1 0 Et (bD T K p j) (bD T' K' p' j)
 |0,_=>.bind (iW h).lft fun _ _ _=>hp.un
 |j+1,hj=>.bind (iW h).lft fun _ _ _=>.bindL (n8 h hp j (by omega)) fun x y e=>ug h (n8 h hp j (by omega)) _ _ _ (by omega) _ _ _ _ e
theorem DM(h:Al T K T' K' s a0 L)(hp:YK s a0 L p p'):Yl s a0 L 1 0 Et (dd T K p) (dd T' K' p'):=.bind JB.lft fun _ _ _=>.bindL (n8 h hp 6 (by omega)) fun _ _ e=>.bind Nr.lft fun _ _ _=>.ret e
theorem gJ(h:Al T K T' K' s a0 L):∀n n',YK s a0 L (knt T K n) (knt T' K' n')
 |0,_=>⟨.bad,.bad⟩
 |n+1,0=>⟨.no (DM h (gJ h n 0)),.no (yB h (gJ h n 0))⟩
 |n+1,n'+1=>⟨DM h (gJ h n n'),yB h (gJ h n n')⟩
end
end Go.Sx.Tryz
namespace Go.Sx.Tryz
open Go Go.Sx Go.Proofs
set_option maxRecDepth 100000
structure At(T:List UInt8)(K:List Tok)(a:Int)(r:List Tk):Prop where
 nn:0≤a
 eq:(bH T K).drop a.toNat=r
section
variable{T:List UInt8}{K:List Tok}{a d:Int}{A:List Nd}{r:List Tk}{k:Int}{s:List UInt8}{q:Kn}
theorem At.get(h:At T K a ((k,s)::r)):ak (aa K a)=k∧say T (aa K a)=s∧a<K.length:=by
 have h1:(bH T K)[a.toNat]? =some (k,s):=by
  have:=congrArg (·[0]?) h.eq
  simpa using this
 unfold bH at h1
 rw[List.getElem?_map]at h1
 cases hk:K[a.toNat]? with
 |none=>rw[hk]at h1;cases h1
 |some t=>
  rw[hk]at h1
  simp only[Option.map_some,Option.some.injEq,Prod.mk.injEq]at h1
  have ht:aa K a=t:=by unfold aa;rw[List.getD_eq_getElem?_getD,hk];rfl
  rw[ht]
  have:=(List.getElem?_eq_some_iff.1 hk).1
  exact⟨h1.1,h1.2,by have:=h.nn;omega⟩
theorem At.step{x:Tk}(h:At T K a (x::r)):At T K (a+1) r:=by
 refine⟨by have:=h.nn;omega,?_⟩
 rw[show(a+1).toNat=a.toNat+1 by have:=h.nn;omega,←List.drop_drop,h.eq]
 rfl
theorem dK(h:At T K a ((k,s)::r)):bc T K a d A= .ok (aa K a,s) a d A:=by
 unfold bc
 rw[h.get.2.1]
theorem mC(h:At T K a ((k,s)::r))(w:List UInt8):cIs T K w a d A= .ok ((k==1||k==5)&&s==w) a d A:=by
 unfold cIs Pm.bind
 rw[dK h]
 show Pm.ret _ a d A=_
 rw[h.get.1]
 rfl
theorem nJ(h:At T K a ((k,s)::r))(hk:(k !=0)=true):aJ K a d A= .ok (tTo (aa K a)) (a+1) d A:=by
 unfold aJ
 rw[h.get.1,hk]
 rfl
theorem Ab{w:List UInt8}(h:At T K a ((k,s)::r))(hy:((k==1||k==5)&&s==w)=true):bp T K w a d A= .ok true (a+1) d A:=by
 unfold bp Pm.bind
 rw[mC h w,hy]
 have hk:(k !=0)=true:=by
  cases h0:k==0 with
  |false=>rw[bne,h0];rfl
  |true=>
   have h0:k=0:=by simpa using h0
   subst h0
   simp at hy
 show((aJ K).bind fun _=>.ret true) a d A=_
 unfold Pm.bind
 rw[nJ h hk]
 rfl
theorem KY{w:List UInt8}(h:At T K a ((k,s)::r))(hy:((k==1||k==5)&&s==w)=false):bp T K w a d A= .ok false a d A:=by
 unfold bp Pm.bind
 rw[mC h w,hy]
 rfl
theorem gr{w:List UInt8}(h:At T K a ((k,s)::r))(hy:((k==1||k==5)&&s==w)=true):aE T K w a d A= .ok (tTo (aa K a)) (a+1) d A:=by
 unfold aE Pm.bind
 rw[mC h w,hy]
 have hk:(k !=0)=true:=by
  cases h0:k==0 with
  |false=>rw[bne,h0];rfl
  |true=>
   have h0:k=0:=by simpa using h0
   subst h0
   simp at hy
 show aJ K a d A=_
 rw[nJ h hk]
theorem Dc(h:At T K a ((1,s)::r))(hn:bW s=true):cY T K a d A= .ok s (a+1) d A:=by
 unfold cY Pm.bind
 rw[dK h]
 show(bif ak (aa K a)==1&&bW s then(aJ K).bind fun _=>.ret s else .flt 80 (ab (aa K a))) a d A=_
 rw[h.get.1,hn]
 show((aJ K).bind fun _=>.ret s) a d A=_
 unfold Pm.bind
 rw[nJ h rfl]
 rfl
def clo(x:Tk):Bool:=x.1==5&&(cU x.2== -1&&(!x.2==[33]&&(!x.2==[91]&&(!x.2==[46]&& !x.2==[105,115]))))
theorem IX{x:Tk}(h:clo x=true):x.1=5∧cU x.2= -1∧(x.2==[33])=false∧(x.2==[91])=false∧(x.2==[46])=false∧(x.2==[105,115])=false:=by
 unfold clo at h
 simp only[Bool.and_eq_true,Bool.not_eq_true']at h
 obtain⟨h1,h2,h3,h4,h5,h6⟩:=h
 exact⟨by simpa using h1,by simpa using h2,h3,h4,h5,h6⟩
end
end Go.Sx.Tryz
namespace Go.Sx.Tryz
open Go Go.Sx Go.Proofs
set_option maxRecDepth 100000
section
variable{T:List UInt8}{K:List Tok}{a d:Int}{A:List Nd}{r:List Tk}{k:Int}{s:List UInt8}{q:Kn}
end
end Go.Sx.Tryz
namespace Go.Sx.Tryz
open Go Go.Sx Go.Proofs
set_option maxRecDepth 100000
section
variable{T:List UInt8}{K:List Tok}{a d:Int}{A:List Nd}{r:List Tk}{k:Int}{s:List UInt8}{q:Kn}
theorem oV{n:Int}(h:At T K (a+n) ((k,s)::r)):cO T K n a d A= .ok (k,s) a d A:=by
 unfold cO
 obtain⟨h1,h2,h3⟩:=h.get
 rw[decide_eq_false (by omega:¬(a+n≥(K.length:Int))),h1,h2]
 rfl
theorem QX(h:At T K a ((1,[120])::(5,[61])::(k,s)::r)):dr T K a d A= .ok false a d A:=by
 have h0:At T K (a+0) ((1,[120])::(5,[61])::(k,s)::r):=by rw[Int.add_zero];exact h
 have h2:At T K (a+2) ((k,s)::r):=by rw[show a+2=a+1+1 by omega];exact h.step.step
 unfold dr
 show(cO T K 0 a d A).bind _=_
 rw[oV h0]
 simp only[PR.bind,show bW [120]=true from by decide,cond_true]
 show(cO T K 1 a d A).bind _=_
 rw[oV h.step]
 show(cO T K 2 a d A).bind _=_
 rw[oV h2]
 rfl
end
end Go.Sx.Tryz
namespace Go.Sx.Tryz
open Go Go.Sx Go.Proofs
set_option maxRecDepth 100000
section
variable{T:List UInt8}{K:List Tok}{a d:Int}{A:List Nd}{r:List Tk}{k:Int}{s:List UInt8}{q:Kn}
theorem GC{x:Tk}(h:At T K a ((1,[105,110,116])::x::r))(h1:((x.1==1||x.1==5)&&x.2==[63])=false)(h2:((x.1==1||x.1==5)&&x.2==[91])=false)(hx:At T K (a+2) r)(hr:r≠[]):dB T K a d A= .ok (jS 1 [] (ab (aa K a)) (tTo (aa K a)) (tTo (aa K a))) (a+1) d A:=by
 obtain⟨k,s⟩:=x
 obtain⟨y,r',rfl⟩:∃y r',r=y::r':=by
  cases r with
  |nil=>exact absurd rfl hr
  |cons y r'=>exact⟨y,r',rfl⟩
 obtain⟨k2,s2⟩:=y
 have hbase:jD T K a d A= .ok (jS 1 [] (ab (aa K a)) (tTo (aa K a)) (tTo (aa K a))) (a+1) d A:=by
  unfold jD
  show(bc T K a d A).bind _=_
  rw[dK h]
  simp only[PR.bind]
  rw[h.get.1]
  show((aJ K).bind fun e=>.ret (jS 1 [] (ab (aa K a)) (tTo (aa K a)) e)) a d A=_
  show(aJ K a d A).bind _=_
  rw[nJ h rfl]
  rfl
 unfold dB
 show(jD T K a d A).bind _=_
 rw[hbase]
 simp only[PR.bind]
 show((bc T K).bind fun t=>(cIs T K [63]).bind fun b=>bif b then _ else(cO T K 1).bind fun z=>_:Pm Nd) (a+1) d A=_
 show(bc T K (a+1) d A).bind _=_
 rw[dK h.step]
 simp only[PR.bind]
 show(cIs T K [63] (a+1) d A).bind _=_
 rw[mC h.step,h1]
 simp only[PR.bind,cond_false]
 show(cO T K 1 (a+1) d A).bind _=_
 rw[oV (n:=1) (by rw[show a+1+1=a+2 by omega];exact hx)]
 simp only[PR.bind]
 show(cIs T K [91] (a+1) d A).bind _=_
 rw[mC h.step,h2]
 simp only[PR.bind,Bool.false_and,cond_false]
 rfl
theorem Fj{v:Bool}{x:Tk}(h:At T K a ((1,[105,110,116])::x::r))(h1:((x.1==1||x.1==5)&&x.2==[63])=false)(h2:((x.1==1||x.1==5)&&x.2==[91])=false)(hx:At T K (a+2) r)(hr:r≠[]):cC T K v a d A= .ok (jS 1 [] (ab (aa K a)) (tTo (aa K a)) (tTo (aa K a))) (a+1) d A:=by
 unfold cC
 show(bc T K a d A).bind _=_
 rw[dK h]
 simp only[PR.bind]
 rw[show(([105,110,116]:List UInt8)==[79,112,116,105,111,110]&&ak (aa K a)==1)=false from rfl,show(v&&(ak (aa K a)==1&&([105,110,116]:List UInt8)==[118,111,105,100]))=false by rw[show(([105,110,116]:List UInt8)==[118,111,105,100])=false from rfl,Bool.and_false,Bool.and_false]]
 exact GC h h1 h2 hx hr
end
end Go.Sx.Tryz
namespace Go.Sx.Tryz
open Go Go.Sx
set_option maxRecDepth 100000
theorem dy.bind{α β:Type}{r:TR α}{Q:α→Int→Prop}{Q':β→Int→Prop}{k:α→Int→Int→Nat→TR β}(h:dy r Q)(hk:∀y e d n,Q y e→dy (k y e d n) Q'):dy (r.bind k) Q':=by
 cases r with
 |ok y e d n=>exact hk y e d n h
 |fault c p=>exact h
 |bad=>trivial
theorem dy.mono{α:Type}{r:TR α}{Q Q':α→Int→Prop}(h:dy r Q)(hq:∀y e,Q y e→Q' y e):dy r Q':=by
 cases r with
 |ok y e d n=>exact hq _ _ h
 |fault c p=>exact h
 |bad=>trivial
structure Stp(T:List UInt8)(K:List Tok)(b:Int):Prop where
 sk:ak (aa K b)=5
 cl:clo (5,say T (aa K b))=true
section
variable{T:List UInt8}{K:List Tok}{p:Kt}{b:Int}{P:Tn→Prop}
theorem Stp.no(h:Stp T K b){t:Str}(ht:(t==[33]||(t==[91]||(t==[46]||t==[105,115])))=true):dD T K b t=false:=by
 obtain⟨_,_,h1,h2,h3,h4⟩:=IX h.cl
 unfold dD
 simp only[Bool.or_eq_true,beq_iff_eq]at ht
 rcases ht with rfl|rfl|rfl|rfl
 ·rw[show(say T (aa K b)==[33])=false from h1,Bool.and_false]
 ·rw[show(say T (aa K b)==[91])=false from h2,Bool.and_false]
 ·rw[show(say T (aa K b)==[46])=false from h3,Bool.and_false]
 ·rw[show(say T (aa K b)==[105,115])=false from h4,Bool.and_false]
theorem kP(t:Str)(a d:Int)(n:Nat):lft (bp T K t) a d n=bif dD T K a t then .ok true (a+1) d n else .ok false a d n:=by
 unfold lft
 rw[jZ]
 cases dD T K a t<;>rfl
theorem ie(f:Int)(m:Nat)(x:Tn)(a d:Int)(n:Nat):aV T K p f (m+1) x a d n=bif dD T K a [33]then((bK K (nod 40 [] []) f [x]).bind fun y=>aV T K p f m y) (a+1) d n
  else bif dD T K a [91]then(p.val.bind fun y=>(lft (aE T K [93])).bind fun _=>(bK K (nod 27 [] []) f [x,y]).bind fun y=>aV T K p f m y) (a+1) d n
  else bif dD T K a [46]then((qK T K p x f).bind fun y=>aV T K p f m y) (a+1) d n else .ok x a d n:=by
 rw[aV]
 unfold Tm.bind
 rw[kP]
 cases dD T K a [33]with
 |true=>rfl
 |false=>
  show((lft (bp T K [91])) a d n).bind _=_
  rw[kP]
  cases dD T K a [91]with
  |true=>rfl
  |false=>
   show((lft (bp T K [46])) a d n).bind _=_
   rw[kP]
   cases dD T K a [46]<;>rfl
theorem jd(least f:Int)(sub:Tm Tn)(m:Nat)(x:Tn)(a d:Int)(n:Nat):bG T K least f sub (m+1) x a d n=bif ak (aa K a)==5&&cU (say T (aa K a))==least then
   ((lft (aJ K)).bind fun _=>sub.bind fun y=>(bK K (nod 34 [] (say T (aa K a))) f [x,y]).bind fun z=>bG T K least f sub m z) a d n
  else bif least==3 then(bif dD T K a [105,115]then(bif dD T K (a+1) [115,111,109,101]then((bK K (nod 43 [] []) f [x]).bind fun z=>bG T K least f sub m z) (a+1+1) d n
     else((lft (aE T K [110,111,110,101])).bind fun _=>(bK K (nod 44 [] []) f [x]).bind fun z=>bG T K least f sub m z) (a+1) d n)else .ok x a d n)else .ok x a d n:=by
 rw[bG]
 show(bif ak (aa K a)==5&&cU (say T (aa K a))==least then _ else _:Tm Tn) a d n=_
 cases ak (aa K a)==5&&cU (say T (aa K a))==least with
 |true=>rfl
 |false=>
  cases least==3 with
  |false=>rfl
  |true=>
   show((lft (bp T K [105,115])) a d n).bind _=_
   rw[kP]
   cases dD T K a [105,115]with
   |false=>rfl
   |true=>
    show((lft (bp T K [115,111,109,101])) (a+1) d n).bind _=_
    rw[kP]
    cases dD T K (a+1) [115,111,109,101]<;>rfl
theorem nF(h:Stp T K b)(f:Int)(y:Tn)(d:Int)(n:Nat):∀m,dy (aV T K p f m y b d n) fun z e=>e=b∧z=y
 |0=>trivial
 |m+1=>by
  rw[ie,h.no (by decide),h.no (by decide),h.no (by decide)]
  exact⟨rfl,rfl⟩
theorem qz(h:Stp T K b){least:Int}(h0:0≤least)(f:Int)(sub:Tm Tn)(y:Tn)(d:Int)(n:Nat):∀m,dy (bG T K least f sub m y b d n) fun z e=>e=b∧z=y
 |0=>trivial
 |m+1=>by
  have hc:(cU (say T (aa K b))==least)=false:=by
   rw[show cU (say T (aa K b))= -1 from(IX h.cl).2.1]
   simp
   omega
  rw[jd,hc,Bool.and_false,h.no (by decide)]
  cases least==3<;>exact⟨rfl,rfl⟩
theorem qy(h:Stp T K b){c d:Int}{n:Nat}(hp:dy (cm T K p c d n) fun y e=>e=b∧P y):dy (dY T K p c d n) fun y e=>e=b∧P y:=by
 show dy ((cm T K p c d n).bind fun x a d n=>aV T K p (ab (aa K c)) (K.length+2) x a d n) _
 refine hp.bind fun y e d n hq=>?_
 obtain⟨rfl,hq⟩:=hq
 exact(nF h _ y d n _).mono fun z e hz=>⟨hz.1,hz.2▸hq⟩
def kl(T:List UInt8)(K:List Tok)(c:Int):Bool:=ak (aa K c)==5&&(say T (aa K c)==[33]||say T (aa K c)==[45])
theorem qq{c d:Int}{n:Nat}(hk:kl T K c=false):ja T K p c d n=dY T K p c d n:=by
 show(bif kl T K c then _ else dY T K p:Tm Tn) c d n=_
 rw[hk]
 rfl
theorem AB(h:Stp T K b){c d:Int}{n:Nat}{j:Nat}(hj:j≤5)(hp:dy (bD T K p j c d n) fun y e=>e=b∧P y):dy (bD T K p (j+1) c d n) fun y e=>e=b∧P y:=by
 show dy ((bD T K p j c d n).bind fun x a d n=>bG T K (5-(j:Int)) (ab (aa K c)) (bD T K p j) (K.length+2) x a d n) _
 refine hp.bind fun y e d n hq=>?_
 obtain⟨rfl,hq⟩:=hq
 exact(qz h (by omega) _ _ y d n _).mono fun z e hz=>⟨hz.1,hz.2▸hq⟩
theorem mM(h:Stp T K b){c d:Int}{n:Nat}{j:Nat}(hp:dy (bD T K p j c d n) fun y e=>e=b∧P y):∀i:Nat,j+i≤6→dy (bD T K p (j+i) c d n) fun y e=>e=b∧P y
 |0,_=>hp
 |i+1,hi=>AB h (j:=j+i) (by omega) (mM h hp i (by omega))
theorem sP{c:Int}{d:Int}{n:Nat}(hp:∀d n,dy (bD T K p 6 c d n) fun y e=>e=b∧P y):dy (dd T K p c d n) fun y e=>e=b∧P y:=by
 show dy ((lft (dq K) c d n).bind fun _ a d n=>((bD T K p 6).bind fun x=>(lft mV).bind fun _=>.ret x) a d n) _
 have hi:lft (dq K) c d n=bif decide (d+1>60)then .fault 6 (ab (aa K c))else .ok () c (d+1) n:=by
  unfold lft dq
  cases decide (d+1>60)<;>rfl
 rw[hi]
 cases decide (d+1>60)with
 |true=>exact .inr rfl
 |false=>
  show dy ((bD T K p 6 c (d+1) n).bind fun x a d n=>((lft mV).bind fun _=>.ret x:Tm Tn) a d n) _
  exact(hp (d+1) n).bind fun y e d n hq=>hq
theorem rG(h:Stp T K b){c:Int}(hp:∀m d n,dy (ja T K (knt T K m) c d n) fun y e=>e=b∧P y)(m:Nat)(d:Int)(n:Nat):dy (dd T K (knt T K m) c d n) fun y e=>e=b∧P y:=by
 refine sP fun d n=>?_
 refine mM h (j:=0) ?_ 6 (by omega)
 show dy ((knt T K m).un c d n) _
 cases m with
 |zero=>trivial
 |succ m=>exact hp m d n
end
section
variable{T:List UInt8}{K:List Tok}{a0 L:Int}
def Rd(T:List UInt8)(K:List Tok)(a0 L:Int)(y:Tn):Prop:=∀(T':List UInt8) (K':List Tok) (s:Int),Al T K T' K' s a0 L→∀m d n,dy (dd T' K' (knt T' K' m) (a0+s) d n) fun y' e=>e=L+s∧Et y y'
theorem Al.stp{T':List UInt8}{K':List Tok}{s:Int}(h:Al T K T' K' s a0 L):Stp T' K' (L+s):=⟨h.sk,by rw[h.sy];rfl⟩
theorem Al.sgn{T':List UInt8}{K':List Tok}{s a:Int}(h:Al T K T' K' s a0 L)(h0:a0≤a)(h1:a<L):kl T' K' (a+s)=kl T K a:=by
 unfold kl
 rw[(h.tok a h0 h1).1,(h.tok a h0 h1).2]
theorem y5{p:Kt}{a d a1 d1:Int}{n n1:Nat}{y:Tn}(e:cm T K p a d n= .ok y a1 d1 n1):kl T K a=false:=by
 cases hc:kl T K a with
 |false=>rfl
 |true=>
  exfalso
  unfold kl at hc
  rw[Bool.and_eq_true,Bool.or_eq_true,beq_iff_eq,beq_iff_eq,beq_iff_eq]at hc
  have e2:cm T K p a d n=(bif ak (aa K a)==2 then gq T K (dA 19 (kq (say T (aa K a))).1 []) (kq (say T (aa K a))).2
   else bif ak (aa K a)==3 then gq T K (dA 20 (IntKind.wrap .i64 (mg (say T (aa K a))).1) (say T (aa K a))) (mg (say T (aa K a))).2
   else bif ak (aa K a)==4 then gq T K (dA 22 0 (kK (say T (aa K a))).1) (kK (say T (aa K a))).2
   else bif ak (aa K a)==5 then(bif say T (aa K a)==[40]then cF T K p else .flt 80 (ab (aa K a)))
   else bif ak (aa K a)==1 then(bif bW (say T (aa K a))then gq T K (dA 25 0 (say T (aa K a))) 0 else nM T K p (aa K a) (say T (aa K a)))
   else .flt 80 (ab (aa K a)):Tm Tn) a d n:=rfl
  have e3:cm T K p a d n= .fault 80 (ab (aa K a)):=by
   rw[e2,hc.1]
   rcases hc.2 with h|h<;>rw[h]<;>rfl
  rw[e3]at e
  cases e
theorem Ju{k:Nat}{d d1:Int}{n n1:Nat}{y:Tn}(e:ja T K (knt T K k) a0 d n= .ok y L d1 n1):Rd T K a0 L y:=fun T' K' s h=>by
 refine rG h.stp fun m d' n'=>?_
 exact(yB h (gJ h k m) a0 d n y L d1 n1 (Int.le_refl _) e).2.2 (by omega) d' n'
theorem BX{k:Nat}{d d1:Int}{n n1:Nat}{y:Tn}(e:cm T K (knt T K k) a0 d n= .ok y L d1 n1):Rd T K a0 L y:=fun T' K' s h=>by
 refine rG h.stp fun m d' n'=>?_
 obtain⟨_,h2,h3⟩:=pj h (gJ h k m) a0 d n y L d1 n1 (Int.le_refl _) e
 rw[qq (by rw[h.sgn (Int.le_refl _) (by have:=h2 (Int.le_refl _);omega),y5 e])]
 exact qy h.stp (h3 (by omega) d' n')
def No(r:TR Tn):Prop:=dy r fun _ _=>False
theorem Tm.bind_eq{α β:Type}{m:Tm α}{k:α→Tm β}{a d:Int}{n:Nat}{y:α}{a1 d1:Int}{n1:Nat}(e:m a d n= .ok y a1 d1 n1):(m.bind k) a d n=k y a1 d1 n1:=by
 unfold Tm.bind
 rw[e]
 rfl
theorem Gi{s k a b d d2:Int}{n n2:Nat}{z:Tn}{m0 m0':Tm Tn}{loop':Tn→Tm Tn}(h:Yl s a0 L k 0 Et m0 m0')(ha:a0≤a)(e:m0 a d n= .ok z b d2 n2)(hb:b≤L)(d':Int)(n':Nat):No ((m0'.bind loop') (a+s) d' n')∨∃z' d3 n3,Et z z'∧(m0'.bind loop') (a+s) d' n'=loop' z' (b+s) d3 n3:=by
 have g:=(h a d n z b d2 n2 ha e).2.2 (by omega) d' n'
 unfold Tm.bind
 cases e2:m0' (a+s) d' n' with
 |ok y' e' d'' n''=>
  rw[e2]at g
  obtain⟨rfl,hy⟩:=g
  exact .inr ⟨y',d'',n'',hy,rfl⟩
 |fault c p=>rw[e2]at g;exact .inl g
 |bad=>exact .inl trivial
structure PreB(T:List UInt8)(K:List Tok)(a0 b:Int)(x:Tn):Prop where
 lt:a0<b
 ns:kl T K a0=false
 re:∀(T':List UInt8) (K':List Tok) (s L:Int),b≤L→Al T K T' K' s a0 L→∀m d n,No (dY T' K' (knt T' K' m) (a0+s) d n)∨∃x' f fu d1 n1,Et x x'∧dY T' K' (knt T' K' m) (a0+s) d n=aV T' K' (knt T' K' m) f fu x' (b+s) d1 n1
theorem PreB.rd{b:Int}{x:Tn}(h:PreB T K a0 b x):Rd T K a0 b x:=fun T' K' s hA=>by
 refine rG hA.stp fun m d n=>?_
 have hl:=h.lt
 rw[qq (by rw[hA.sgn (Int.le_refl _) hl,h.ns])]
 rcases h.re T' K' s b (Int.le_refl _) hA m d n with hn|⟨x',f,fu,d1,n1,he,e⟩
 ·exact dy.mono hn fun _ _ h=>h.elim
 ·rw[e]
  exact(nF hA.stp _ _ _ _ _).mono fun z e hz=>⟨hz.1,hz.2▸he⟩
theorem PreB.of{k:Nat}{b d d1:Int}{n n1:Nat}{y:Tn}(hl:a0<b)(e:cm T K (knt T K k) a0 d n= .ok y b d1 n1):PreB T K a0 b y:=⟨hl,y5 e,fun T' K' s L hL h m d' n'=>by
 have g:=(pj h (gJ h k m) a0 d n y b d1 n1 (Int.le_refl _) e).2.2 (by omega) d' n'
 have e0:dY T' K' (knt T' K' m) (a0+s) d' n'=(cm T' K' (knt T' K' m) (a0+s) d' n').bind fun x a d n=>aV T' K' (knt T' K' m) (ab (aa K' (a0+s))) (K'.length+2) x a d n:=rfl
 rw[e0]
 cases e2:cm T' K' (knt T' K' m) (a0+s) d' n' with
 |ok y' e' d'' n''=>
  rw[e2]at g
  obtain⟨rfl,hy⟩:=g
  exact .inr ⟨y',_,_,d'',n'',hy,rfl⟩
 |fault c p=>rw[e2]at g;exact .inl g
 |bad=>exact .inl trivial⟩
theorem PreB.step{b b2:Int}{x z:Tn}(h:PreB T K a0 b x)(hl:b<b2)(hs:∀(T':List UInt8) (K':List Tok) (s L:Int),b2≤L→Al T K T' K' s a0 L→∀m f fu x' d n,Et x x'→No (aV T' K' (knt T' K' m) f (fu+1) x' (b+s) d n)∨∃z' d1 n1,Et z z'∧aV T' K' (knt T' K' m) f (fu+1) x' (b+s) d n=aV T' K' (knt T' K' m) f fu z' (b2+s) d1 n1):PreB T K a0 b2 z:=⟨by have:=h.lt;omega,h.ns,fun T' K' s L hL hA m d n=>by
 rcases h.re T' K' s L (by omega) hA m d n with hn|⟨x',f,fu,d1,n1,he,e⟩
 ·exact .inl hn
 ·rw[e]
  cases fu with
  |zero=>exact .inl trivial
  |succ fu=>
   rcases hs T' K' s L hL hA m f fu x' d1 n1 he with hn|⟨z',d2,n2,he2,e2⟩
   ·exact .inl hn
   ·exact .inr ⟨z',f,fu,d2,n2,he2,e2⟩⟩
structure PreC(T:List UInt8)(K:List Tok)(j:Nat)(a0 b:Int)(x:Tn):Prop where
 lt:a0<b
 re:∀(T':List UInt8) (K':List Tok) (s L:Int),b≤L→Al T K T' K' s a0 L→∀m d n,No (bD T' K' (knt T' K' m) (j+1) (a0+s) d n)∨∃x' f fu d1 n1,Et x x'∧bD T' K' (knt T' K' m) (j+1) (a0+s) d n=bG T' K' (5-(j:Int)) f (bD T' K' (knt T' K' m) j) fu x' (b+s) d1 n1
theorem PreC.rd{j:Nat}(hj:j≤5){b:Int}{x:Tn}(h:PreC T K j a0 b x):Rd T K a0 b x:=fun T' K' s hA m d n=>by
 refine sP fun d n=>?_
 have:dy (bD T' K' (knt T' K' m) (j+1) (a0+s) d n) fun y e=>e=b+s∧Et x y:=by
  rcases h.re T' K' s b (Int.le_refl _) hA m d n with hn|⟨x',f,fu,d1,n1,he,e⟩
  ·exact dy.mono hn fun _ _ h=>h.elim
  ·rw[e]
   exact(qz hA.stp (by omega) _ _ _ _ _ _).mono fun z e hz=>⟨hz.1,hz.2▸he⟩
 have h6:=mM hA.stp this (5-j) (by omega)
 rwa [show j+1+(5-j)=6 by omega]at h6
theorem PreC.of{k j:Nat}(hj:j≤5){b d d1:Int}{n n1:Nat}{y:Tn}(hl:a0<b)(e:bD T K (knt T K k) j a0 d n= .ok y b d1 n1):PreC T K j a0 b y:=⟨hl,fun T' K' s L hL h m d' n'=>by
 have g:=(n8 h (gJ h k m) j (by omega) a0 d n y b d1 n1 (Int.le_refl _) e).2.2 (by omega) d' n'
 have e0:bD T' K' (knt T' K' m) (j+1) (a0+s) d' n'=(bD T' K' (knt T' K' m) j (a0+s) d' n').bind fun x a d n=>bG T' K' (5-(j:Int)) (ab (aa K' (a0+s))) (bD T' K' (knt T' K' m) j) (K'.length+2) x a d n:=rfl
 rw[e0]
 cases e2:bD T' K' (knt T' K' m) j (a0+s) d' n' with
 |ok y' e' d'' n''=>
  rw[e2]at g
  obtain⟨rfl,hy⟩:=g
  exact .inr ⟨y',_,_,d'',n'',hy,rfl⟩
 |fault c p=>rw[e2]at g;exact .inl g
 |bad=>exact .inl trivial⟩
theorem PreC.step{j:Nat}{b b2:Int}{x z:Tn}(h:PreC T K j a0 b x)(hl:b<b2)(hs:∀(T':List UInt8) (K':List Tok) (s L:Int),b2≤L→Al T K T' K' s a0 L→∀m f fu x' d n,Et x x'→No (bG T' K' (5-(j:Int)) f (bD T' K' (knt T' K' m) j) (fu+1) x' (b+s) d n)∨∃z' d1 n1,Et z z'∧bG T' K' (5-(j:Int)) f (bD T' K' (knt T' K' m) j) (fu+1) x' (b+s) d n=bG T' K' (5-(j:Int)) f (bD T' K' (knt T' K' m) j) fu z' (b2+s) d1 n1):PreC T K j a0 b2 z:=⟨by have:=h.lt;omega,fun T' K' s L hL hA m d n=>by
 rcases h.re T' K' s L (by omega) hA m d n with hn|⟨x',f,fu,d1,n1,he,e⟩
 ·exact .inl hn
 ·rw[e]
  cases fu with
  |zero=>exact .inl trivial
  |succ fu=>
   rcases hs T' K' s L hL hA m f fu x' d1 n1 he with hn|⟨z',d2,n2,he2,e2⟩
   ·exact .inl hn
   ·exact .inr ⟨z',f,fu,d2,n2,he2,e2⟩⟩
end
end Go.Sx.Tryz
namespace Go.Sx.Tryz
open Go Go.Sx
set_option maxRecDepth 100000
mutual
def Pc(T:List UInt8)(K:List Tok)(B:Int):Tn→Prop
 | .mk x ks=>(19≤aj x→∃a0 L,0≤a0∧a0<L∧L≤B∧nAt x=ab (aa K a0)∧nTo x=tTo (aa K (L-1))∧Rd T K a0 L (.mk x ks))∧PcL T K B ks
def PcL(T:List UInt8)(K:List Tok)(B:Int):List Tn→Prop
 |[]=>True
 |t::ts=>Pc T K B t∧PcL T K B ts
end
section
variable{T:List UInt8}{K:List Tok}{p:Kt}
mutual
theorem Pc.up{B B':Int}(h:B≤B'):∀{t:Tn},Pc T K B t→Pc T K B' t
 | .mk x ks,hp=>by
  unfold Pc at hp⊢
  exact⟨fun hk=>by
   obtain⟨a0,L,h1,h2,h3,h4⟩:=hp.1 hk
   exact⟨a0,L,h1,h2,by omega,h4⟩,PcL.up h hp.2⟩
theorem PcL.up{B B':Int}(h:B≤B'):∀{ts:List Tn},PcL T K B ts→PcL T K B' ts
 |[],_=>trivial
 |t::ts,hp=>by
  unfold PcL at hp⊢
  exact⟨Pc.up h hp.1,PcL.up h hp.2⟩
end
theorem PcL.app{B:Int}:∀{a b:List Tn},PcL T K B a→PcL T K B b→PcL T K B (a++b)
 |[],_,_,h=>h
 |t::a,b,h,h'=>by
  unfold PcL at h
  show PcL T K B (t::(a++b))
  unfold PcL
  exact⟨h.1,PcL.app h.2 h'⟩
theorem PcL.nil{B:Int}:PcL T K B []:=trivial
theorem PcL.one{B:Int}{t:Tn}(h:Pc T K B t):PcL T K B [t]:=by
 unfold PcL
 exact⟨h,trivial⟩
theorem PcL.two{B:Int}{t u:Tn}(h:Pc T K B t)(h':Pc T K B u):PcL T K B [t,u]:=PcL.app (PcL.one h) (PcL.one h')
def Op(T:List UInt8)(K:List Tok)(a0 a:Int)(y:Tn):Prop:=(nAt y.data=ab (aa K a0)∧nTo y.data=tTo (aa K (a-1)))∧PcL T K a y.kids
theorem Op.close{a0 a:Int}{y:Tn}(h:Op T K a0 a y)(h0:0≤a0)(hl:a0<a)(hr:Rd T K a0 a y):Pc T K a y:=by
 obtain⟨x,ks⟩:=y
 unfold Pc
 exact⟨fun _=>⟨a0,a,h0,hl,Int.le_refl _,h.1.1,h.1.2,hr⟩,h.2⟩
theorem kb(w:WS T K){a0 a:Int}{ks:List Tn}{x:Nd}(h0:0≤a0)(hl:a0<a)(ha:In K a)(hk:PcL T K a ks):TP (bK K x (ab (aa K a0)) ks) a fun t a'=>a'=a∧Op T K a0 a t:=fun d n=>by
 unfold bK
 cases decide ((n:Int)≥8192)
 ·refine⟨rfl,⟨rfl,?_⟩,hk⟩
  show ef K a (ab (aa K a0))=_
  exact(FP w h0 hl ha).1
 ·trivial
theorem Bs{a f:Int}{ks:List Tn}{x:Nd}(hx:aj x<19)(hk:PcL T K a ks):TP (bK K x f ks) a fun t a'=>a'=a∧Pc T K a t:=fun d n=>by
 unfold bK
 cases decide ((n:Int)≥8192)
 ·refine⟨rfl,?_⟩
  unfold Pc
  exact⟨fun h=>by
   have h:19≤aj x:=h
   omega,hk⟩
 ·trivial
def Qv(T:List UInt8)(K:List Tok)(a:Int)(y:Tn)(a':Int):Prop:=a<a'∧In K a'∧Pc T K a' y
def Qo(T:List UInt8)(K:List Tok)(a:Int)(y:Tn)(a':Int):Prop:=a<a'∧In K a'∧Op T K a a' y
def Ql(T:List UInt8)(K:List Tok)(a:Int)(l:List Tn)(a':Int):Prop:=a<a'∧In K a'∧PcL T K a' l
structure QK(T:List UInt8)(K:List Tok)(p:Kt):Prop where
 val:∀a,In K a→TP p.val a (Qv T K a)
 blk:∀a,In K a→TP p.blk a (Qv T K a)
 un:∀a,In K a→TP p.un a (Qv T K a)
theorem TP.bindE{α β:Type}{m:Tm α}{k:α→Tm β}{a:Int}{Q:α→Int→Prop}{Q':β→Int→Prop}(h:TP m a Q)(hk:∀y a',Q y a'→(∃d n d' n',m a d n= .ok y a' d' n')→TP (k y) a' Q'):TP (m.bind k) a Q':=fun d n=>by
 have:=h d n
 unfold Tm.bind
 cases e:m a d n with
 |ok y a' d' n'=>
  rw[e]at this
  exact hk y a' this ⟨d,n,d',n',e⟩ d' n'
 |fault c p=>trivial
 |bad=>trivial
theorem TP.self{α:Type}{m:Tm α}{a:Int}{Q Q':α→Int→Prop}(h:TP m a Q)(hk:∀y a' d n d' n',Q y a'→m a d n= .ok y a' d' n'→Q' y a'):TP m a Q':=fun d n=>by
 have:=h d n
 cases e:m a d n with
 |ok y a' d' n'=>
  rw[e]at this
  exact hk y a' d n d' n' this e
 |fault c p=>trivial
 |bad=>trivial
theorem Tm.bind_assoc{α β γ:Type}(m:Tm α)(f:α→Tm β)(g:β→Tm γ):(m.bind f).bind g=m.bind fun y=>(f y).bind g:=by
 funext a d n
 unfold Tm.bind
 cases m a d n<;>rfl
theorem gD(w:WS T K)(h:QK T K p){a:Int}(ha:In K a):TP (cF T K p) a (Qv T K a):=by
 refine TP.bind (PP.lft (bm _)) fun _ a1 h1=>?_
 obtain⟨rfl,_,hz⟩:=h1
 refine TP.bind (h.val _ (w.succ ha hz)) fun x a2 h2=>?_
 refine TP.bind (PP.lft (bm _)) fun _ a3 h3=>?_
 obtain⟨rfl,_,hz2⟩:=h3
 have:=h2.1
 exact TP.ret ⟨by omega,w.succ h2.2.1 hz2,h2.2.2.up (by omega)⟩
theorem iK{a a1:Int}{b:Bool}(w:WS T K)(ha:In K a)(h:(b=true∧a1=a+1∧Nz K a)∨(b=false∧a1=a)):In K a1∧a≤a1∧(b=true→a<a1):=by
 rcases h with⟨_,rfl,hz⟩|⟨e,rfl⟩
 ·exact⟨w.succ ha hz,by omega,fun _=>by omega⟩
 ·exact⟨ha,Int.le_refl _,fun h=>by rw[e]at h;cases h⟩
theorem DU(w:WS T K)(h:QK T K p):∀(n:Nat) (a:Int) (ks:List Tn),In K a→PcL T K a ks→TP (fW T K p n ks) a (Ql T K a)
 |0,_,_,_,_=>TP.bad
 |n+1,a,ks,ha,hc=>by
  refine TP.bind (PP.lft (iG _)) fun b a1 h1=>?_
  obtain⟨i1,l1,t1⟩:=iK w ha h1
  refine TP.bif (fun hb=>TP.ret ⟨t1 hb,i1,hc.up l1⟩) fun hb=>?_
  refine TP.bind (PP.lft (yV _)) fun _ a2 h2=>?_
  have hc2:In K a2∧a1≤a2:=by
   rcases h2 with rfl|⟨rfl,hz⟩
   ·exact⟨i1,Int.le_refl _⟩
   ·exact⟨w.succ i1 hz,by omega⟩
  refine TP.bind (PP.lft xo) fun _ a3 h3=>?_
  subst h3
  refine TP.bind (h.val _ hc2.1) fun x a4 h4=>?_
  have:=h4.1
  exact(DU w h n a4 _ h4.2.1 ((hc.up (by omega)).app (.one h4.2.2))).mono fun ls a' h=>⟨by have:=h.1;omega,h.2⟩
theorem BO(w:WS T K)(h:QK T K p){a:Int}(ha:In K a):TP (oe T K p) a (Ql T K a):=by
 refine TP.bind (PP.lft (bm _)) fun _ a1 h1=>?_
 obtain⟨rfl,_,hz⟩:=h1
 exact(DU w h _ _ [] (w.succ ha hz) .nil).mono fun ls a' h=>⟨by have:=h.1;omega,h.2⟩
theorem Gu{m:Tm Tn}{a a1:Int}(h:TP m a1 fun t a'=>a'=a1∧Op T K a a1 t)(hl:a<a1)(hi:In K a1):TP m a1 (Qo T K a):=h.mono fun y a' h=>by
 obtain⟨rfl,h⟩:=h
 exact⟨hl,hi,h⟩
theorem od(w:WS T K){a:Int}(ha:In K a)(hz:Nz K a){x:Nd}{e:Int}:TP (gq T K x e) a (Qo T K a):=by
 refine TP.bind (PP.lft cy) fun t a1 h1=>?_
 obtain⟨rfl,rfl⟩:=h1
 refine TP.bif (fun _=>TP.flt) fun _=>TP.bind (PP.lft (cf hz)) fun _ a2 h2=>?_
 obtain⟨rfl,_⟩:=h2
 exact Gu (kb w ha.1 (by omega) (w.succ ha hz) .nil) (by omega) (w.succ ha hz)
theorem N4(w:WS T K)(h:QK T K p){a:Int}(ha:In K a):TP (ur T K p) a fun x a'=>Ql T K a x.2 a':=by
 refine TP.bind (PP.lft (sa w ha)) fun y a1 h1=>?_
 have h1:=h1.q
 have l1:=h1.lt
 refine TP.bind (PP.lft (mn _)) fun b a2 h2=>?_
 obtain⟨rfl,h2⟩:=h2
 refine TP.bif (fun _=>TP.bif (fun _=>TP.flt) fun _=>TP.bind (BO w h h1.inn) fun l a3 h3=>TP.ret ⟨by have:=h3.1;omega,h3.2⟩) fun _=>?_
 refine TP.bind (PP.lft (bm _)) fun _ a3 h3=>?_
 obtain⟨rfl,_,hz⟩:=h3
 refine TP.bind (h.val _ (w.succ h1.inn hz)) fun v a4 h4=>?_
 have l4:=h4.1
 refine TP.bind (PP.lft (bm _)) fun _ a5 h5=>?_
 obtain⟨rfl,_,hz5⟩:=h5
 exact TP.ret ⟨by omega,w.succ h4.2.1 hz5,.one (h4.2.2.up (by omega))⟩
theorem Oi(w:WS T K)(h:QK T K p){a:Int}(ha:In K a)(hz:Nz K a)(s:Str):TP (nM T K p (aa K a) s) a (Qo T K a):=by
 have i1:=w.succ ha hz
 have h0:=ha.1
 refine TP.bif (fun _=>od w ha hz) fun _=>TP.bif (fun _=>od w ha hz) fun _=>TP.bif (fun _=>od w ha hz) fun _=>TP.bif (fun _=>od w ha hz) fun _=>TP.bif (fun _=>od w ha hz) fun _=>?_
 refine TP.bif (fun _=>TP.bind (PP.lft (cf hz)) fun _ a1 h1=>?_) fun _=>TP.bif (fun _=>TP.bind (PP.lft (cf hz)) fun _ a1 h1=>?_) fun _=>TP.bif (fun _=>TP.bind (PP.lft (cf hz)) fun _ a1 h1=>?_) fun _=>TP.bif (fun _=>TP.bind (PP.lft (cf hz)) fun _ a1 h1=>?_) fun _=>TP.flt
 ·obtain⟨rfl,_⟩:=h1
  refine TP.bind (PP.lft (bm _)) fun _ a2 h2=>?_
  obtain⟨rfl,_,hz2⟩:=h2
  refine TP.bind (PP.lft (bm _)) fun _ a3 h3=>?_
  obtain⟨rfl,_,hz3⟩:=h3
  have i3:=w.succ (w.succ i1 hz2) hz3
  exact Gu (kb w h0 (by omega) i3 .nil) (by omega) i3
 ·obtain⟨rfl,_⟩:=h1
  refine TP.bind (gD w h i1) fun x a2 h2=>?_
  have:=h2.1
  exact Gu (kb w h0 (by omega) h2.2.1 (.one h2.2.2)) (by omega) h2.2.1
 ·obtain⟨rfl,_⟩:=h1
  refine TP.bind (PP.lft (bm _)) fun _ a2 h2=>?_
  obtain⟨rfl,_,hz2⟩:=h2
  refine TP.bind (PP.lft (oE w _ (w.succ i1 hz2))) fun y a3 h3=>?_
  have l3:=h3.lt
  refine TP.bind (PP.lft (bm _)) fun _ a4 h4=>?_
  obtain⟨rfl,_,hz4⟩:=h4
  refine TP.bind (gD w h (w.succ h3.inn hz4)) fun x a5 h5=>?_
  have l5:=h5.1
  exact Gu (kb w h0 (by omega) h5.2.1 (.one h5.2.2)) (by omega) h5.2.1
 ·obtain⟨rfl,_⟩:=h1
  refine TP.bind (N4 w h i1) fun x a2 h2=>?_
  have:=h2.1
  exact Gu (kb w h0 (by omega) h2.2.1 h2.2.2) (by omega) h2.2.1
theorem FC(w:WS T K){k:Nat}(h:QK T K (knt T K k)){a:Int}(ha:In K a):TP (cm T K (knt T K k)) a (Qv T K a):=by
 refine TP.self (Q:=fun y a'=>Qv T K a y a'∨Qo T K a y a') ?_ fun y a' d n d' n' hq e=>?_
 ·refine TP.bind (PP.lft cy) fun t a1 h1=>?_
  obtain⟨rfl,rfl⟩:=h1
  refine TP.bif (fun hk=>(od w ha (iz hk (by decide))).mono fun _ _=>.inr) fun _=>TP.bif (fun hk=>(od w ha (iz hk (by decide))).mono fun _ _=>.inr) fun _=>TP.bif (fun hk=>(od w ha (iz hk (by decide))).mono fun _ _=>.inr) fun _=>?_
  exact TP.bif (fun _=>TP.bif (fun _=>(gD w h ha).mono fun _ _=>.inl) fun _=>TP.flt) fun _=>TP.bif (fun hk=>TP.bif (fun _=>(od w ha (iz hk (by decide))).mono fun _ _=>.inr) fun _=>(Oi w h ha (iz hk (by decide)) _).mono fun _ _=>.inr) fun _=>TP.flt
 ·rcases hq with hq|hq
  ·exact hq
  ·exact⟨hq.1,hq.2.1,hq.2.2.close ha.1 hq.1 (BX e)⟩
theorem Pl(w:WS T K)(h:QK T K p){a0 a:Int}{x:Tn}(h0:0≤a0)(hl:a0<a)(ha:In K a)(hx:Pc T K a x):TP (qK T K p x (ab (aa K a0))) a fun y a'=>a≤a'∧In K a'∧Op T K a0 a' y:=by
 have fin:∀{a1:Int} {ks:List Tn} {x:Nd},a≤a1→In K a1→PcL T K a1 ks→TP (bK K x (ab (aa K a0)) ks) a1 fun y a'=>a≤a'∧In K a'∧Op T K a0 a' y:=fun h1 h2 h3=>(kb w h0 (by omega) h2 h3).mono fun y a' h=>by
  obtain⟨rfl,h⟩:=h
  exact⟨h1,h2,h⟩
 refine TP.bind (PP.lft (iG _)) fun b a1 h1=>?_
 obtain⟨i1,l1,_⟩:=iK w ha h1
 refine TP.bif (fun _=>fin l1 i1 (.one (hx.up l1))) fun _=>TP.bind (PP.lft (iG _)) fun b a2 h2=>?_
 obtain⟨i2,l2,_⟩:=iK w i1 h2
 refine TP.bif (fun _=>fin (by omega) i2 (.one (hx.up (by omega)))) fun _=>TP.bind (PP.lft lP) fun s a3 h3=>?_
 obtain⟨rfl,hz3,_⟩:=h3
 have i3:=w.succ i2 hz3
 refine TP.bind (PP.lft (mn _)) fun b a4 h4=>?_
 obtain⟨rfl,_⟩:=h4
 refine TP.bif (fun _=>TP.bind (BO w h i3) fun l a5 h5=>?_) fun _=>fin (by omega) i3 (.one (hx.up (by omega)))
 have l5:=h5.1
 exact fin (by omega) h5.2.1 (ks:=[x]++l) (PcL.app (.one (hx.up (by omega))) h5.2.2)
def OkQ{α:Type}(r:TR α)(Q:α→Int→Prop):Prop:=match r with
 | .ok y a' _ _=>Q y a'
 |_=>True
theorem TP.at{α:Type}{m:Tm α}{a d:Int}{n:Nat}{Q:α→Int→Prop}(h:TP m a Q){r:TR α}(e:r=m a d n):OkQ r Q:=by
 rw[e]
 exact h d n
theorem AN{a:Int}(h:(ak (aa K a) !=0)=true):Nz K a:=by
 intro e
 rw[e]at h
 cases h
theorem vV(w:WS T K){k:Nat}(h:QK T K (knt T K k)){a0:Int}(h0:0≤a0):∀(n:Nat) (a:Int) (x:Tn),In K a→Pc T K a x→PreB T K a0 a x→TP (aV T K (knt T K k) (ab (aa K a0)) n x) a fun y a'=>a≤a'∧In K a'∧Pc T K a' y
 |0,_,_,_,_,_=>TP.bad
 |n+1,a,x,ha,hx,hp=>fun d n0=>by
  have hl:=hp.lt
  show OkQ (aV T K (knt T K k) (ab (aa K a0)) (n+1) x a d n0) _
  have go:∀{b2:Int} {z:Tn},a<b2→In K b2→Op T K a0 b2 z→PreB T K a0 b2 z→TP (aV T K (knt T K k) (ab (aa K a0)) n z) b2 fun y a'=>a≤a'∧In K a'∧Pc T K a' y:=fun h1 h2 h3 h4=>(vV w h h0 n _ _ h2 (h3.close h0 (by omega) h4.rd) h4).mono fun y a' h=>⟨by have:=h.1;omega,h.2⟩
  have key:=ie (T:=T) (K:=K) (p:=knt T K k) (ab (aa K a0)) n x a d n0
  cases c1:dD T K a [33]with
  |true=>
   rw[c1]at key
   have i1:=w.succ ha (AN (jI c1))
   refine TP.at (TP.bindE (kb w h0 (by omega) i1 (.one (hx.up (by omega)))) fun z a' hz he=>?_) key
   obtain⟨rfl,hz⟩:=hz
   obtain⟨d1,n1,d2,n2,he⟩:=he
   refine go (by omega) i1 hz (hp.step (by omega) fun T' K' s L hL hA m f fu x' d' n' hx'=>?_)
   rw[ie,hA.is (by omega) (by omega),c1,cond_true,show a+s+1=a+1+s by omega]
   exact Gi (a0:=a0) (L:=L) (k:=0) (eV (dP rfl) (.one hx')) (by omega) he hL d' n'
  |false=>
  rw[c1,cond_false]at key
  cases c2:dD T K a [91]with
  |true=>
   rw[c2]at key
   have i1:=w.succ ha (AN (jI c2))
   have hm:(((knt T K k).val.bind fun y=>(lft (aE T K [93])).bind fun _=>bK K (nod 27 [] []) (ab (aa K a0)) [x,y]).bind fun y=>aV T K (knt T K k) (ab (aa K a0)) n y)=(knt T K k).val.bind fun y=>(lft (aE T K [93])).bind fun _=>(bK K (nod 27 [] []) (ab (aa K a0)) [x,y]).bind fun y=>aV T K (knt T K k) (ab (aa K a0)) n y:=by
    rw[Tm.bind_assoc]
    simp only[Tm.bind_assoc]
   have hq:TP ((knt T K k).val.bind fun y=>(lft (aE T K [93])).bind fun _=>bK K (nod 27 [] []) (ab (aa K a0)) [x,y]) (a+1) fun z a'=>a+1<a'∧In K a'∧Op T K a0 a' z:=by
    refine TP.bind (h.val _ i1) fun y a3 h3=>?_
    have l3:=h3.1
    refine TP.bind (PP.lft (bm _)) fun _ a4 h4=>?_
    obtain⟨rfl,_,hz4⟩:=h4
    have i4:=w.succ h3.2.1 hz4
    refine(kb w h0 (by omega) i4 (.two (hx.up (by omega)) (h3.2.2.up (by omega)))).mono fun y a' h=>?_
    obtain⟨rfl,h⟩:=h
    exact⟨by omega,i4,h⟩
   rw[cond_true,←hm]at key
   refine TP.at (TP.bindE hq fun z a' hz he=>?_) key
   obtain⟨d1,n1,d2,n2,he⟩:=he
   refine go (by have:=hz.1;omega) hz.2.1 hz.2.2 (hp.step (by have:=hz.1;omega) fun T' K' s L hL hA m f fu x' d' n' hx'=>?_)
   have hm':(((knt T' K' m).val.bind fun y=>(lft (aE T' K' [93])).bind fun _=>bK K' (nod 27 [] []) f [x',y]).bind fun y=>aV T' K' (knt T' K' m) f fu y)=(knt T' K' m).val.bind fun y=>(lft (aE T' K' [93])).bind fun _=>(bK K' (nod 27 [] []) f [x',y]).bind fun y=>aV T' K' (knt T' K' m) f fu y:=by
    rw[Tm.bind_assoc]
    simp only[Tm.bind_assoc]
   have hlt:=hz.1
   rw[ie,hA.is (by omega) (by omega),c1,hA.is (by omega) (by omega),c2,cond_true,cond_false,show a+s+1=a+1+s by omega,←hm']
   exact Gi (a0:=a0) (L:=L) (k:=0) (.bind (gJ hA k m).val fun _ _ e2=>.bind (eh hA _).lft fun _ _ _=>eV (dP rfl) (.two hx' e2)) (by omega) he hL d' n'
  |false=>
  rw[c2,cond_false]at key
  cases c3:dD T K a [46]with
  |true=>
   rw[c3]at key
   have i1:=w.succ ha (AN (jI c3))
   refine TP.at (TP.bindE (Pl w h h0 (by omega) i1 (hx.up (by omega))) fun z a' hz he=>?_) key
   obtain⟨d1,n1,d2,n2,he⟩:=he
   have hlt:=hz.1
   refine go (by omega) hz.2.1 hz.2.2 (hp.step (by omega) fun T' K' s L hL hA m f fu x' d' n' hx'=>?_)
   rw[ie,hA.is (by omega) (by omega),c1,hA.is (by omega) (by omega),c2,hA.is (by omega) (by omega),c3,cond_true,cond_false,cond_false,show a+s+1=a+1+s by omega]
   exact Gi (a0:=a0) (L:=L) (k:=0) (Jr hA (gJ hA k m) hx' _ _) (by omega) he hL d' n'
  |false=>
   rw[c3,cond_false]at key
   rw[key]
   exact⟨Int.le_refl _,ha,hx⟩
theorem I4(w:WS T K){k:Nat}(h:QK T K (knt T K k)){a:Int}(ha:In K a):TP (dY T K (knt T K k)) a (Qv T K a):=by
 refine TP.bind (PP.lft cy) fun t a1 h1=>?_
 obtain⟨rfl,rfl⟩:=h1
 refine TP.bindE (FC w h ha) fun x a2 h2 he=>?_
 obtain⟨d1,n1,d2,n2,he⟩:=he
 exact(vV w h ha.1 _ _ _ h2.2.1 h2.2.2 (.of h2.1 he)).mono fun y a' h=>⟨by have:=h2.1;have:=h.1;omega,h.2⟩
theorem L9(w:WS T K){k:Nat}(h:QK T K (knt T K k)){a:Int}(ha:In K a):TP (ja T K (knt T K k)) a (Qv T K a):=by
 refine TP.self (Q:=fun y a'=>Qv T K a y a'∨Qo T K a y a') ?_ fun y a' d n d' n' hq e=>?_
 ·refine TP.bind (PP.lft cy) fun t a1 h1=>?_
  obtain⟨rfl,rfl⟩:=h1
  refine TP.bif (fun hk=>?_) fun _=>(I4 w h ha).mono fun _ _=>.inl
  rw[Bool.and_eq_true]at hk
  have hz:Nz K a1:=iz hk.1 (by decide)
  refine TP.bind (PP.lft xQ) fun _ a2 h2=>?_
  subst h2
  refine TP.bind (PP.lft (cf hz)) fun _ a3 h3=>?_
  obtain⟨rfl,_⟩:=h3
  refine TP.bind (h.un _ (w.succ ha hz)) fun x a4 h4=>?_
  have l4:=h4.1
  refine TP.bind (PP.lft CG) fun _ a5 h5=>?_
  subst h5
  exact(Gu (kb w ha.1 (by omega) h4.2.1 (.one h4.2.2)) (by omega) h4.2.1).mono fun _ _=>.inr
 ·rcases hq with hq|hq
  ·exact hq
  ·exact⟨hq.1,hq.2.1,hq.2.2.close ha.1 hq.1 (Ju e)⟩
end
end Go.Sx.Tryz
