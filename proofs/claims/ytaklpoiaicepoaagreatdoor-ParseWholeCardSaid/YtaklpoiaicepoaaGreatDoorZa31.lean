/- A part of the proof: see the row's text. -/
import Derived.Test.YtaklpoiaicepoaaGreatDoorZa30
import Derived.Test.YtaklpoiaicepoaaGreatDoorZa27
import Derived.Test.YtaklpoiaicepoaaGreatDoorZa28
import Derived.Test.YtaklpoiaicepoaaGreatDoorZa29
set_option linter.unusedVariables false
set_option linter.unusedSimpArgs false
noncomputable section
namespace Go.Sx.Tryz
open Go Go.Sx
set_option maxRecDepth 100000
section
variable{s L:Int}{N:Nat}{T T':List UInt8}{K K':List Tok}{p p':Kt}
theorem cU{sl:Int}{x y:Nd}{f f':Int}{ks ls:List Tn}(h:Rn x y)(h':EtL ks ls):Wl s L N 0 sl Et (cx K x f ks) (cx K' y f' ls):=fun a d n z a1 d1 n1 ha e=>by
 unfold cx at e⊢
 cases hc:decide ((n:Int)≥8192)with
 |true=>rw[hc]at e;cases e
 |false=>
  rw[hc]at e
  cases e
  refine⟨by omega,by omega,fun _=>?_⟩
  cases hd:decide (((n+N:Nat):Int)≥8192)with
  |true=>
   have:=of_decide_eq_true hd
   exact .inr ⟨⟨_,rfl⟩,by omega⟩
  |false=>
   refine .inl ⟨_,?_,T7 (x:=cJ x f (fj K a f)) (y:=cJ y f' (fj K' (a+s) f')) ⟨h.k,h.t,h.b,h.nm,h.d,h.m,h.n⟩ h'⟩
   rw[show n+1+N=n+N+1 by omega]
   rfl
structure WK(s L:Int)(N:Nat)(p p':Kt):Prop where
 val:Wl s L N 0 1 Et p.val p'.val
 blk:Wl s L N 1 1 Et p.blk p'.blk
 un:Wl s L N 0 1 Et p.un p'.un
theorem fY(h:Kw T K T' K' s L)(hp:WK s L N p p'):Wl s L N 1 0 Et (du T K p) (du T' K' p'):=.bind (dI h _).lft fun _ _ _=>.bind hp.val fun x y e=>.bindL (dI h _).lft fun _ _ _=>.ret e
theorem Bo(h:Kw T K T' K' s L)(hp:WK s L N p p'):∀(n n':Nat) (A M:List Tn),n≤n'→EtL A M→Wl s L N 0 1 EtL (lR T K p n A) (lR T' K' p' n' M)
 |0,_,_,_,_,_=>.bad
 |n+1,0,_,_,hn,_=>absurd hn (by omega)
 |n+1,n'+1,A,M,hn,e=>.bind (eZ h _).lft fun _ _ e1=>.bif e1 (.ret e) (.bind (Cy h e.len).lft fun _ _ _=>.bind (JD (by rw[e.len])).lft fun _ _ _=>.bind hp.val fun x y e2=>Bo h hp n n' _ _ (by omega) (e.snoc e2))
theorem Az(h:Kw T K T' K' s L)(hp:WK s L N p p'):Wl s L N 1 1 EtL (pA T K p) (pA T' K' p'):=.bindL (dI h _).lft fun _ _ _=>Bo h hp _ _ _ _ (by have:=h.le;omega) .nil
theorem nv(h:Kw T K T' K' s L){x y:Nd}{e e':Int}(hx:Rn x y)(he:e=e'):Wl s L N 0 1 Et (lY T K x e) (lY T' K' y e'):=.bind (di h).lft fun t u _=>.bif (by rw[he]) .flt (.bind (cg h).lft fun _ _ _=>cU hx .nil)
theorem NN(h:Kw T K T' K' s L)(hp:WK s L N p p'):Wl s L N 1 1 RM (tE T K p) (tE T' K' p'):=.bind (w8 h).lft fun x y e=>.bind (vV h _).lft fun _ _ e1=>.bif e1 (.bif (by rw[e.b,e.d,e.m]) .flt (.bindL (Az h hp) fun l m e2=>.ret ⟨hH e _ e.t,e2⟩))
 (.bindL (dI h _).lft fun _ _ _=>.bind hp.val fun v u e2=>.bind (dI h _).lft fun _ _ _=>.ret ⟨hH e _ e.t,.one e2⟩)
theorem Oo(h:Kw T K T' K' s L)(hp:WK s L N p p')(t t':Tok)(w:Str):Wl s L N 0 1 Et (vk T K p t w) (vk T' K' p' t' w):=
 .bif rfl (nv h (fP rfl rfl) rfl) (.bif rfl (nv h (fP rfl rfl) rfl) (.bif rfl (nv h (fP rfl rfl) rfl) (.bif rfl (nv h (fP rfl rfl) rfl) (.bif rfl (nv h (fP rfl rfl) rfl)
 (.bif rfl (.bind (cg h).lft fun _ _ _=>.bind (dI h _).lft fun _ _ _=>.bind (dI h _).lft fun _ _ _=>cU (b6 rfl) .nil)
 (.bif rfl (.bind (cg h).lft fun _ _ _=>.bind (fY h hp) fun x y e=>cU (b6 rfl) (.one e))
 (.bif rfl (.bind (cg h).lft fun _ _ _=>.bind (dI h _).lft fun _ _ _=>.wk (k1:=1) (sl1:=1) (.bind (qp h _).lft fun x y e=>.bindL (dI h _).lft fun _ _ _=>.bind (fY h hp) fun v u e2=>cU (hH e _ e.t) (.one e2)))
 (.bif rfl (.bind (cg h).lft fun _ _ _=>.bind (NN h hp) fun x y e=>cU e.1 e.2) .flt))))))))
theorem Eb(h:Kw T K T' K' s L)(hp:WK s L N p p'):Wl s L N 0 1 Et (iv T K p) (iv T' K' p'):=.bind (di h).lft fun t u e=>by
 obtain⟨e1,e2⟩:=e
 rw[e1,e2]
 exact .bif rfl (nv h (fP rfl rfl) rfl) (.bif rfl (nv h (fP rfl rfl) rfl) (.bif rfl (nv h (fP rfl rfl) rfl) (.bif rfl (.bif rfl (fY h hp).wk .flt) (.bif rfl (.bif rfl (nv h (fP rfl rfl) rfl) (Oo h hp _ _ _)) .flt))))
theorem Qb(h:Kw T K T' K' s L)(hp:WK s L N p p'){x y:Tn}(e:Et x y)(f f':Int):Wl s L N 0 1 Et (tu T K p x f) (tu T' K' p' y f'):=.bind (eZ h _).lft fun _ _ e1=>.bif e1 (cU (b6 rfl) (.one e)) (.bind (eZ h _).lft fun _ _ e2=>.bif e2 (cU (b6 rfl) (.one e))
 (.bind (oE h).lft fun w w' e3=>.bind (vV h _).lft fun _ _ e4=>.bif e4 (.bind (Az h hp) fun l m e5=>cU (b6 e3) (.cons e e5)) (cU (b6 e3) (.one e))))
theorem kN(h:Kw T K T' K' s L)(hp:WK s L N p p')(f f':Int):∀(n n':Nat) (x y:Tn),n≤n'→Et x y→Wl s L N 0 1 Et (eS T K p f n x) (eS T' K' p' f' n' y)
 |0,_,_,_,_,_=>.bad
 |n+1,0,_,_,hn,_=>absurd hn (by omega)
 |n+1,n'+1,x,y,hn,e=>.bind (eZ h _).lft fun _ _ e1=>.bif e1 (.bind (cU (sl:=0) (b6 rfl) (.one e)) fun _ _ e2=>kN h hp f f' n n' _ _ (by omega) e2)
  (.bind (eZ h _).lft fun _ _ e1=>.bif e1 (.bind hp.val fun _ _ e2=>.bind (dI h _).lft fun _ _ _=>.bind (cU (sl:=0) (b6 rfl) (.two e e2)) fun _ _ e3=>kN h hp f f' n n' _ _ (by omega) e3)
  (.bind (eZ h _).lft fun _ _ e1=>.bif e1 (.bind (Qb h hp e f f') fun _ _ e2=>kN h hp f f' n n' _ _ (by omega) e2) (.ret e)))
theorem Jh(h:Kw T K T' K' s L)(hp:WK s L N p p'):Wl s L N 0 1 Et (kH T K p) (kH T' K' p'):=.bind (di h).lft fun t u _=>.bind (Eb h hp) fun x y e=>kN h hp _ _ _ _ _ _ (by have:=h.le;omega) e
theorem LQ(h:Kw T K T' K' s L)(hp:WK s L N p p'):Wl s L N 0 1 Et (om T K p) (om T' K' p'):=.bind (di h).lft fun t u e=>.bif (by rw[e.1,e.2]) (.bind zI.lft fun _ _ _=>.bind (cg h).lft fun _ _ _=>.bind hp.un fun x y e2=>.bind F7.lft fun _ _ _=>by
 rw[e.2]
 exact cU (b6 rfl) (.one e2)) (Jh h hp)
theorem mQ(h:Kw T K T' K' s L){sub sub':Tm Tn}(hs:Wl s L N 0 1 Et sub sub')(least f f':Int):∀(n n':Nat) (x y:Tn),n≤n'→Et x y→Wl s L N 0 1 Et (fO T K least f sub n x) (fO T' K' least f' sub' n' y)
 |0,_,_,_,_,_=>.bad
 |n+1,0,_,_,hn,_=>absurd hn (by omega)
 |n+1,n'+1,x,y,hn,e=>.bind (di h).lft fun t u e0=>.bif (by rw[e0.1,e0.2]) (.bind (cg h).lft fun _ _ _=>.bind hs fun _ _ e1=>.bind (cU (sl:=0) (b6 e0.2) (.two e e1)) fun _ _ e2=>mQ h hs least f f' n n' _ _ (by omega) e2)
  (.bif rfl (.bind (eZ h _).lft fun _ _ e1=>.bif e1 (.bind (eZ h _).lft fun _ _ e2=>.bif e2 (.bind (cU (sl:=0) (b6 rfl) (.one e)) fun _ _ e3=>mQ h hs least f f' n n' _ _ (by omega) e3) (.bind (dI h _).lft fun _ _ _=>.bind (cU (sl:=0) (b6 rfl) (.one e)) fun _ _ e3=>mQ h hs least f f' n n' _ _ (by omega) e3)) (.ret e)) (.ret e))
theorem vY(h:Kw T K T' K' s L)(hp:WK s L N p p'):∀j:Nat,Wl s L N 0 1 Et (kf T K p j) (kf T' K' p' j)
 |0=>.bind (di h).lft fun _ _ _=>hp.un
 |j+1=>.bind (di h).lft fun _ _ _=>.bind (vY h hp j) fun x y e=>mQ h (vY h hp j) _ _ _ _ _ _ _ (by have:=h.le;omega) e
theorem J8(h:Kw T K T' K' s L)(hp:WK s L N p p'):Wl s L N 0 1 Et (oR T K p) (oR T' K' p'):=.bind zI.lft fun _ _ _=>.bind (vY h hp 6) fun _ _ e=>.bind F7.lft fun _ _ _=>.ret e
end
end Go.Sx.Tryz
namespace Go.Sx.Tryz
open Go Go.Sx
set_option maxRecDepth 100000
section
variable{s L:Int}{N:Nat}{T T':List UInt8}{K K':List Tok}{p p':Kt}
def Ww(s L:Int)(N:Nat)(m m':Tm ((Nd×List Tn)×Bool)):Prop:=∀(Q:(Nd×List Tn)×Bool→Tm Tn) (Q':(Nd×List Tn)×Bool→Tm Tn),(∀w w',RM w w'→Wl s L N 0 2 Et (Q (w,true)) (Q' (w',true)))→(∀w w',RM w w'→Wl s L N 1 2 Et (Q (w,false)) (Q' (w',false)))→Wl s L N 1 2 Et (m.bind Q) (m'.bind Q')
theorem xT{α β:Type}{c:Bool}{m n:Tm α}{f:α→Tm β}:((bif c then m else n).bind f)=bif c then m.bind f else n.bind f:=by cases c<;>rfl
theorem Ww.bif{c:Bool}{m n m' n':Tm ((Nd×List Tn)×Bool)}(h:Ww s L N m m')(h':Ww s L N n n'):Ww s L N (bif c then m else n) (bif c then m' else n'):=fun Q Q' hQ hQ'=>by
 rw[xT,xT]
 exact .bif rfl (h Q Q' hQ hQ') (h' Q Q' hQ hQ')
def Yes(m:Tm ((Nd×List Tn)×Bool)):Prop:=∀a d n w a1 d1 n1,m a d n= .ok w a1 d1 n1→w.2=true
theorem Yes.bind{α:Type}{m:Tm α}{k:α→Tm ((Nd×List Tn)×Bool)}(h:∀y,Yes (k y)):Yes (m.bind k):=fun a d n w a1 d1 n1 e=>by
 unfold Tm.bind at e
 cases e1:m a d n with
 |ok y a2 d2 n2=>
  rw[e1]at e
  exact h y a2 d2 n2 w a1 d1 n1 e
 |fault c p=>rw[e1]at e;cases e
 |bad=>rw[e1]at e;cases e
theorem Yes.ret{w:Nd×List Tn}:Yes (.ret (w,true)):=fun a d n w a1 d1 n1 e=>by cases e;rfl
theorem Yes.bif{c:Bool}{m n:Tm ((Nd×List Tn)×Bool)}(h:Yes m)(h':Yes n):Yes (bif c then m else n):=by cases c<;>assumption
theorem Ww.of{m m':Tm ((Nd×List Tn)×Bool)}(h:Wl s L N 1 2 RW m m')(hy:Yes m)(hy':Yes m'):Ww s L N m m':=fun Q Q' hQ _=>by
 intro a d n z a2 d2 n2 ha e2
 unfold Tm.bind at e2⊢
 cases e1:m a d n with
 |ok y a1 d1 n1=>
  rw[e1]at e2
  obtain⟨h1,h2,h3⟩:=h a d n y a1 d1 n1 ha e1
  replace e2:Q y a1 d1 n1= .ok z a2 d2 n2:=e2
  obtain⟨y,b⟩:=y
  obtain rfl:b=true:=hy a d n _ a1 d1 n1 e1
  obtain⟨h4,h5,_⟩:=hQ y y (Rf.rf y) a1 d1 n1 z a2 d2 n2 (by omega) e2
  refine⟨by omega,by omega,fun hl=>?_⟩
  rcases h3 (by omega)with⟨y',e3,hr⟩|⟨⟨p,e3⟩,h6⟩
  ·obtain⟨y',b'⟩:=y'
   obtain rfl:b'=true:=hy' _ _ _ _ _ _ _ e3
   obtain⟨_,_,h6⟩:=hQ y y' hr.1 a1 d1 n1 z a2 d2 n2 (by omega) e2
   rw[e3]
   exact h6 hl
  ·refine .inr ⟨⟨p,?_⟩,by omega⟩
   rw[e3]
   rfl
 |fault c p=>rw[e1]at e2;cases e2
 |bad=>rw[e1]at e2;cases e2
theorem Ww.no{w w':Nd×List Tn}(h:RM w w'):Ww s L N (.ret (w,false)) (.ret (w',false)):=fun Q Q' _ hQ'=>hQ' w w' h
theorem Oj(h:Kw T K T' K' s L)(hp:WK s L N p p')(w:Str):Ww s L N (rN T K p w) (rN T' K' p' w):=
 .bif (.of (.bind (cg h).lft fun _ _ _=>.bindL (fY h hp) fun _ _ e1=>.bind hp.blk fun _ _ e2=>.bind (eZ h _).lft fun _ _ e3=>.bif e3 (.bind hp.blk fun _ _ e4=>.ret ⟨⟨b6 rfl,.three e1 e2 e4⟩,rfl⟩) (.ret ⟨⟨b6 rfl,.two e1 e2⟩,rfl⟩)) (.bind fun _=>.bind fun _=>.bind fun _=>.bind fun _=>.bif (.bind fun _=>.ret) .ret) (.bind fun _=>.bind fun _=>.bind fun _=>.bind fun _=>.bif (.bind fun _=>.ret) .ret))
 (.bif (.of (.bind (cg h).lft fun _ _ _=>.bindL (fY h hp) fun _ _ e1=>.bind hp.blk fun _ _ e2=>.ret ⟨⟨b6 rfl,.two e1 e2⟩,rfl⟩) (.bind fun _=>.bind fun _=>.bind fun _=>.ret) (.bind fun _=>.bind fun _=>.bind fun _=>.ret))
 (.bif (.of (.bind (cg h).lft fun _ _ _=>.bindL (dI h _).lft fun _ _ _=>.ret ⟨⟨b6 rfl,.nil⟩,rfl⟩) (.bind fun _=>.bind fun _=>.ret) (.bind fun _=>.bind fun _=>.ret))
 (.bif (.of (.bind (cg h).lft fun _ _ _=>.bindL (dI h _).lft fun _ _ _=>.ret ⟨⟨b6 rfl,.nil⟩,rfl⟩) (.bind fun _=>.bind fun _=>.ret) (.bind fun _=>.bind fun _=>.ret))
 (.bif (.of (.bind (cg h).lft fun _ _ _=>.bind (vV h _).lft fun _ _ e1=>.bif e1 (.bindL (dI h _).lft fun _ _ _=>.ret ⟨⟨b6 rfl,.nil⟩,rfl⟩) (.bind hp.val fun _ _ e2=>.bindL (dI h _).lft fun _ _ _=>.ret ⟨⟨b6 rfl,.one e2⟩,rfl⟩)) (.bind fun _=>.bind fun _=>.bif (.bind fun _=>.ret) (.bind fun _=>.bind fun _=>.ret)) (.bind fun _=>.bind fun _=>.bif (.bind fun _=>.ret) (.bind fun _=>.bind fun _=>.ret)))
 (.bif (.of (.bind (cg h).lft fun _ _ _=>.bindL (fY h hp) fun _ _ e1=>.bind (dI h _).lft fun _ _ _=>.ret ⟨⟨b6 rfl,.one e1⟩,rfl⟩) (.bind fun _=>.bind fun _=>.bind fun _=>.ret) (.bind fun _=>.bind fun _=>.bind fun _=>.ret))
 (.bif (.of (.bind (cg h).lft fun _ _ _=>.bindL (Az h hp) fun _ _ e1=>.bind (dI h _).lft fun _ _ _=>.ret ⟨⟨b6 rfl,e1⟩,rfl⟩) (.bind fun _=>.bind fun _=>.bind fun _=>.ret) (.bind fun _=>.bind fun _=>.bind fun _=>.ret))
 (.no ⟨b6 rfl,.nil⟩)))))))
theorem Cu(h:Kw T K T' K' s L)(hp:WK s L N p p')(f f':Int):Wl s L N 1 2 Et (l7 T K p f) (l7 T' K' p' f'):=.bind hp.val fun x y e=>.bind (di h).lft fun _ _ _=>.bind (eZ h _).lft fun _ _ e1=>.bif e1 (.bif (by rw[e.kind]) (.bind hp.val fun _ _ e2=>.bindL (dI h _).lft fun _ _ _=>cU (b6 rfl) (.two e e2)) .flt)
 (.bif (by rw[e.kind]) (.bindL (dI h _).lft fun _ _ _=>cU (b6 rfl) (.one e)) .flt)
theorem On(h:Kw T K T' K' s L)(hp:WK s L N p p'):Wl s L N 1 2 Et (vi T K p) (vi T' K' p'):=.bind (di h).lft fun t u e=>.bif (by rw[e.1,e.2]) hp.blk.wk (.bind (Al h).lft fun _ _ e1=>.bif e1 (.bind (qp h _).lft fun x y e2=>.bindL (oE h).lft fun _ _ e3=>.bind (eZ h _).lft fun _ _ e4=>
  .bif e4 (.bind hp.val fun _ _ e5=>.bind (dI h _).lft fun _ _ _=>cU (hH e2 _ e3) (.one e5)) (.bind (dI h _).lft fun _ _ _=>cU (hH e2 _ e3) .nil))
 (.bif (by rw[e.1]) (by
  rw[e.2]
  exact Oj h hp _ _ _ (fun w w' e5=>cU e5.1 e5.2) (fun w w' e5=>Cu h hp _ _)) (Cu h hp _ _)))
theorem yq(h:Kw T K T' K' s L)(hp:WK s L N p p')(f f':Int):∀(n n':Nat) (A M:List Tn),n≤n'→EtL A M→Wl s L N 1 1 Et (jg T K p f n A) (jg T' K' p' f' n' M)
 |0,_,_,_,_,_=>.bad
 |n+1,0,_,_,hn,_=>absurd hn (by omega)
 |n+1,n'+1,A,M,hn,e=>.bind (vV h _).lft fun _ _ e1=>.bif e1 (.bindL (dI h _).lft fun _ _ _=>.bind F7.lft fun _ _ _=>cU (b6 rfl) e) (.bind (On h hp) fun _ _ e2=>yq h hp f f' n n' _ _ (by omega) (e.snoc e2))
theorem Lv(h:Kw T K T' K' s L)(hp:WK s L N p p'):Wl s L N 1 1 Et (oX T K p) (oX T' K' p'):=.bind (di h).lft fun _ _ _=>.bind zI.lft fun _ _ _=>.bind (dI h _).lft fun _ _ _=>yq h hp _ _ _ _ _ _ (by have:=h.le;omega) .nil
theorem qF(h:Kw T K T' K' s L):∀n,WK s L N (knt T K n) (knt T' K' n)
 |0=>⟨.bad,.bad,.bad⟩
 |n+1=>⟨J8 h (qF h n),Lv h (qF h n),LQ h (qF h n)⟩
theorem uL(h:Kw T K T' K' s L):∀(n n':Nat) (A M:List Tn),n≤n'→EtL A M→Wl s L N 0 1 EtL (gf T K n A) (gf T' K' n' M)
 |0,_,_,_,_,_=>.bad
 |n+1,0,_,_,hn,_=>absurd hn (by omega)
 |n+1,n'+1,A,M,hn,e=>.bind (eZ h _).lft fun _ _ e1=>.bif e1 (.ret e) (.bind (Cy h e.len).lft fun _ _ _=>.bind (JD (by rw[e.len])).lft fun _ _ _=>.bind (di h).lft fun _ _ _=>.wk (k1:=1) (sl1:=1) (.bind (qp h _).lft fun _ _ e2=>.bindL (oE h).lft fun _ _ e3=>
  .bind (cU (sl:=0) (hH e2 _ e3) .nil) fun _ _ e4=>uL h n n' _ _ (by omega) (e.snoc e4)))
theorem xY(h:Kw T K T' K' s L):Wl s L N 1 1 EtL (jk T K) (jk T' K'):=.bindL (dI h _).lft fun _ _ _=>uL h _ _ _ _ (by have:=h.le;omega) .nil
theorem Ij(h:Kw T K T' K' s L)(hp:WK s L N p p'):Wl s L N 1 1 Et (kV T K p) (kV T' K' p'):=.bind (di h).lft fun t u e=>.bif (by rw[e.1,e.2]) (.bind (cg h).lft fun _ _ _=>.bindL (xY h) fun _ _ e1=>.bind hp.blk fun _ _ e2=>cU (b6 rfl) (e1.snoc e2))
 (.bind (qp h _).lft fun _ _ e1=>.bindL (oE h).lft fun _ _ e2=>.bind (vV h _).lft fun _ _ e3=>.bif e3 (.bind (xY h) fun _ _ e4=>.bind hp.blk fun _ _ e5=>cU (hH e1 _ e2) (e4.snoc e5)) (.bif (by rw[e1.b]) .flt (.bind (dI h _).lft fun _ _ _=>cU (hH e1 _ e2) .nil)))
theorem qW(h:Kw T K T' K' s L)(hp:WK s L N p p')(f f':Int){w w':Str}(es:w=w'):∀(n n':Nat) (A M:List Tn),n≤n'→EtL A M→Wl s L N 1 0 Et (gP T K p f w n A) (gP T' K' p' f' w' n' M)
 |0,_,_,_,_,_=>.bad
 |n+1,0,_,_,hn,_=>absurd hn (by omega)
 |n+1,n'+1,A,M,hn,e=>.bind (vV h _).lft fun _ _ e1=>.bif e1 (.bindL (dI h _).lft fun _ _ _=>cU (b6 es) e) (.bind (JD (by rw[e.len])).lft fun _ _ _=>.bind (Ij h hp) fun _ _ e2=>qW h hp f f' es n n' _ _ (by omega) (e.snoc e2))
theorem LL(h:Kw T K T' K' s L)(hp:WK s L N p p'):Wl s L N 1 0 Et (fD T K p) (fD T' K' p'):=.bind (di h).lft fun _ _ _=>.bind (dI h _).lft fun _ _ _=>.bind (oE h).lft fun _ _ e1=>.bind (di h).lft fun _ _ _=>.bind (eZ h _).lft fun _ _ e2=>.bif e2
 (.bind (oE h).lft fun _ _ e3=>.bind (cU (sl:=0) (b6 e3) .nil) fun _ _ e4=>.bind (dI h _).lft fun _ _ _=>qW h hp _ _ e1 _ _ _ _ (by have:=h.le;omega) (.one e4))
 (.bind (dI h _).lft fun _ _ _=>qW h hp _ _ e1 _ _ _ _ (by have:=h.le;omega) .nil)
end
end Go.Sx.Tryz
namespace Go.Sx.Tryz
open Go Go.Sx
set_option maxRecDepth 100000
section
variable{s L:Int}{N:Nat}{T T':List UInt8}{K K':List Tok}{p p':Kt}
theorem vy(T:List UInt8)(K:List Tok)(p:Kt)(n:Nat)(A:List Tn)(a d:Int)(k:Nat):bb T K p (n+1) A a d k=bif ai (aa K a)==0 then cx K (nod 1 [] []) 0 A a d k else bif decide ((A.length:Int)+1>64)then .fault 2 (ab (aa K a))else(fD T K p a d k).bind fun x a d k=>bb T K p n (A++[x]) a d k:=by
 show((bif ai (aa K a)==0 then cx K (nod 1 [] []) 0 A else(lft (gG K ((A.length:Int)+1))).bind fun _=>(fD T K p).bind fun x=>bb T K p n (A++[x])):Tm Tn) a d k=_
 cases ai (aa K a)==0
 ·show((lft (gG K ((A.length:Int)+1))).bind fun _=>(fD T K p).bind fun x=>bb T K p n (A++[x])) a d k=bif decide ((A.length:Int)+1>64)then _ else _
  unfold Tm.bind Tryz.lft gG
  cases decide ((A.length:Int)+1>64)<;>rfl
 ·rfl
theorem jc(h:Kw T K T' K' s L)(hp:WK s L N p p')(hz:∀a:Int,0≤a→a<L→ai (aa K a)≠0):∀(n n':Nat) (A M P:List Tn) (a d:Int) (k:Nat) (t:Tn) (a1 d1:Int) (k1:Nat),0≤a→a≤L→n≤n'→EtL A M→P.length+A.length≤64→bb T K p n A a d k= .ok t a1 d1 k1→
  k<k1∧A.length≤t.kids.length∧a1=L∧((∃(c:Nat) (M1:List Tn),a+(c:Int)≤L∧c≤n'∧EtL t.kids M1∧P.length+M1.length≤64∧bb T' K' p' n' (P++M) (a+s) d (k+N)=bb T' K' p' (n'-c) (P++M1) (L+s) d1 (k1-1+N))∨((∃q,bb T' K' p' n' (P++M) (a+s) d (k+N)= .fault 2 q)∧(8192<k1-1+N∨64<P.length+t.kids.length)))
 |0,_,_,_,_,_,_,_,_,_,_,_,_,_,_,_,_,e=>by cases e
 |n+1,0,_,_,_,_,_,_,_,_,_,_,_,_,hn,_,_,_=>absurd hn (by omega)
 |n+1,n'+1,A,M,P,a,d,k,t,a1,d1,k1,ha,hL,hn,hA,h64,e=>by
  rw[vy]at e
  cases hk:ai (aa K a)==0 with
  |true=>
   rw[hk]at e
   have haL:a=L:=by
    by_cases hl:a<L
    ·exact absurd (by simpa using hk) (hz a ha hl)
    ·omega
   replace e:cx K (nod 1 [] []) 0 A a d k= .ok t a1 d1 k1:=e
   unfold cx at e
   cases hc:decide ((k:Int)≥8192)with
   |true=>rw[hc]at e;cases e
   |false=>
    rw[hc]at e
    cases e
    refine⟨by omega,Nat.le_refl _,haL,.inl ⟨0,M,by omega,by omega,hA,by rw[←hA.len];exact h64,?_⟩⟩
    rw[haL]
    rfl
  |false=>
   rw[hk]at e
   have hlt:a<L:=h.lt (by rw[bne,hk];rfl)
   have htk:=(h.tok a ha hlt).1
   cases hc:decide ((A.length:Int)+1>64)with
   |true=>rw[hc]at e;cases e
   |false=>
    rw[hc]at e
    have hA64:=of_decide_eq_false hc
    replace e:(fD T K p a d k).bind (fun x a d k=>bb T K p n (A++[x]) a d k)= .ok t a1 d1 k1:=e
    cases e1:fD T K p a d k with
    |fault c q=>rw[e1]at e;cases e
    |bad=>rw[e1]at e;cases e
    |ok y a2 d2 k2=>
     rw[e1]at e
     replace e:bb T K p n (A++[y]) a2 d2 k2= .ok t a1 d1 k1:=e
     obtain⟨g1,g2,g3⟩:=LL h hp a d k y a2 d2 k2 ha e1
     have g4:=g2.2 hL
     have g0:=jc h hp hz n n' (A++[y]) (A++[y]) [] a2 d2 k2 t a1 d1 k1 (by omega) g4 (by omega) (EtL.rfl' _) (by rw[List.length_append,List.length_nil,List.length_singleton];omega) e
     have hkl:A.length+1≤t.kids.length:=by have:=g0.2.1;rw[List.length_append,List.length_singleton]at this;exact this
     refine⟨by have:=g0.1;omega,by omega,g0.2.2.1,?_⟩
     have hr:bb T' K' p' (n'+1) (P++M) (a+s) d (k+N)=bif decide (((P++M).length:Int)+1>64)then .fault 2 (ab (aa K' (a+s)))else(fD T' K' p' (a+s) d (k+N)).bind fun x a d k=>bb T' K' p' n' (P++M++[x]) a d k:=by
      rw[vy,←htk,hk]
      rfl
     cases hd:decide (((P++M).length:Int)+1>64)with
     |true=>
      have h65:=of_decide_eq_true hd
      rw[List.length_append,←hA.len]at h65
      rw[hd]at hr
      exact .inr ⟨⟨_,hr⟩,.inr (by omega)⟩
     |false=>
      have h65:=of_decide_eq_false hd
      rw[List.length_append,←hA.len]at h65
      rw[hd]at hr
      rcases g3 (by omega)with⟨y',e3,hy⟩|⟨⟨q,e3⟩,h6⟩
      ·have hr2:bb T' K' p' (n'+1) (P++M) (a+s) d (k+N)=bb T' K' p' n' (P++(M++[y'])) (a2+s) d2 (k2+N):=by
        rw[hr,e3]
        show bb T' K' p' n' (P++M++[y']) (a2+s) d2 (k2+N)=_
        rw[List.append_assoc]
       obtain⟨_,_,_,h7⟩:=jc h hp hz n n' (A++[y]) (M++[y']) P a2 d2 k2 t a1 d1 k1 (by omega) g4 (by omega) (hA.snoc hy) (by rw[List.length_append,List.length_singleton];omega) e
       rw[hr2]
       rcases h7 with⟨c,M1,i1,i2,i3,i4,i5⟩|h8
       ·refine .inl ⟨c+1,M1,by omega,by omega,i3,i4,?_⟩
        rw[i5,Nat.add_sub_add_right]
       ·exact .inr h8
      ·have hr2:bb T' K' p' (n'+1) (P++M) (a+s) d (k+N)= .fault 2 q:=by
        rw[hr,e3]
        rfl
       exact .inr ⟨⟨q,hr2⟩,.inl (by have:=g0.1;omega)⟩
end
end Go.Sx.Tryz
namespace Go.Sx.Tryz
open Go Go.Sx
set_option maxRecDepth 100000
theorem Cq(T:List UInt8):∀(n:Nat) (a:Int) (k:Nat),0≤a→a≤T.length→(T.length:Int)-a<n→(jM n T a k).1=0→
  ∃L,(jM n T a k).2.2=L++[tkn 0 T.length T.length]∧Lx (aK T a) (cB T L)∧(L.length:Int)≤T.length-a
 |0,a,k,h0,h1,hn,h=>by omega
 |n+1,a,k,h0,h1,hn,h=>by
  unfold jM at h⊢
  cases hlt:decide (a<(T.length:Int))with
  |false=>
   have:=of_decide_eq_false hlt
   refine⟨[],rfl,?_,by show(0:Int)≤_;omega⟩
   have hr:aK T a=[]:=by
    unfold aK
    exact List.drop_eq_nil_of_le (by omega)
   rw[hr]
   exact Lx.nil
  |true=>
   rw[hlt]at h
   have hlt:=of_decide_eq_true hlt
   simp only[cond_true]at h⊢
   cases h16:decide ((k:Int)≥16384)with
   |true=>rw[h16]at h;simp at h
   |false=>
    rw[h16]at h
    simp only[cond_false]at h⊢
    cases he:ic T a !=0 with
    |true=>
     rw[he]at h
     simp only[cond_true]at h
     rw[h]at he
     exact absurd he (by decide)
    |false=>
     rw[he]at h
     simp only[cond_false]at h⊢
     have he0:ic T a=0:=by simpa [bne]using he
     obtain⟨o1,o2⟩:=wW h0 hlt
     have o3:=o2 he0
     obtain⟨g1,g2⟩:=kK (T:=T) (a:=bN T a) (by omega) o1
     obtain⟨L,e1,e2,e4⟩:=Cq T n (fh T (bN T a)) (k+1) (by omega) g2 (by omega) h
     have hl:=gu h0 (Int.le_of_lt hlt)
     have hn':(gH (aK T a)).2.2≤(aK T a).length:=by
      unfold bN at o1
      omega
     have hsay:say T (tkn (jN T a) a (bN T a))=(aK T a).take (gH (aK T a)).2.2:=by
      show List.drop a.toNat (List.take (bN T a).toNat T)=(T.drop a.toNat).take _
      rw[List.drop_take]
      congr 1
      unfold bN
      omega
     have hsl:(say T (tkn (jN T a) a (bN T a))).length=(gH (aK T a)).2.2:=by
      rw[hsay,List.length_take]
      omega
     have hsp:aK T a=say T (tkn (jN T a) a (bN T a))++aK T (bN T a):=by
      have:aK T (bN T a)=(aK T a).drop (gH (aK T a)).2.2:=by
       unfold aK
       rw[List.drop_drop]
       congr 1
       unfold bN aK
       omega
      rw[this,hsay,List.take_append_drop]
     refine⟨tkn (jN T a) a (bN T a)::L,by rw[e1];rfl,?_,?_⟩
     ·rw[hsp]
      show Lx _ ((jN T a,say T (tkn (jN T a) a (bN T a)))::cB T L)
      refine Lx.cons ?_ ?_ ?_
      ·rw[←hsp,hsl]
       unfold ic at he0
       exact Prod.ext rfl (Prod.ext he0 rfl)
      ·rw[hsl]
       unfold bN at o3
       omega
      ·have hg:aK T (fh T (bN T a))=(aK T (bN T a)).drop (df (aK T (bN T a))):=by
        conv=>lhs;unfold aK fh
        conv=>rhs;unfold aK
        rw[List.drop_drop]
        congr 1
        unfold aK
        omega
       rw[←hg]
       exact e2
     ·rw[List.length_cons]
      unfold bN at g1 e4
      unfold bN at o3
      omega
theorem En{T:List UInt8}(h:cL T=0):∃L,bJ T=L++[tkn 0 T.length T.length]∧Lx (T.drop (df T)) (cB T L)∧L.length≤T.length:=by
 obtain⟨hT,_⟩:=xj h
 rw[vR h]
 rw[qj]at h
 unfold fG at h⊢
 rw[show decide ((T.length:Int)>65536)=false from decide_eq_false (by omega)]at h⊢
 obtain⟨g1,g2⟩:=kK (T:=T) (a:=0) (by omega) (by omega)
 obtain⟨L,e1,e2,e4⟩:=Cq T (T.length+1) (fh T 0) 0 (by omega) g2 (by omega) h
 refine⟨L,e1,?_,by omega⟩
 have hg:aK T (fh T 0)=T.drop (df T):=by
  unfold aK fh
  unfold aK
  show List.drop (Int.toNat (0+((df (List.drop 0 T):Nat):Int))) T=_
  rw[List.drop_zero]
  congr 1
  omega
 rw[←hg]
 exact e2
theorem H3{A B:List UInt8}(hA:A.length≤1500)(hB:B.length≤1500)(h:cL A=0)(h':cL B=0):∃LA LB,bJ A=LA++[tkn 0 A.length A.length]∧bJ B=LB++[tkn 0 B.length B.length]∧cL (A++10::B)=0∧cB (A++10::B) (bJ (A++10::B))=cB A LA++cB B (bJ B):=by
 obtain⟨LA,a1,a2,a3⟩:=En h
 obtain⟨LB,b1,b2,b3⟩:=En h'
 obtain⟨c1,c2⟩:=JU (U:=A++10::B) (by rw[List.length_append,List.length_cons];omega) (O9 a2 b2) (by
  rw[List.length_append]
  unfold cB
  rw[List.length_map,List.length_map]
  omega)
 refine⟨LA,LB,a1,b1,c1,?_⟩
 rw[c2,List.append_assoc]
 congr 1
 rw[b1]
 unfold cB
 rw[List.map_append]
 show _=_++[((0:Int),say B (tkn 0 B.length B.length))]
 rw[K6]
end Go.Sx.Tryz
namespace Go.Sx.Tryz
open Go Go.Sx Go.Proofs
set_option maxRecDepth 100000
theorem yB{T:List UInt8}(hl:cL T=0){t:Tn}{a d:Int}{n:Nat}(h:eJ T= .ok t a d n):d=0∧n=t.size:=by
 have hR:=qK T
 rw[h]at hR
 obtain⟨h1,h2⟩:=hR
 have hE:=kZ hl
 rw[h2]at hE
 refine⟨hE.2.eq,?_⟩
 rw[h1]
 show([]++Tn.flats 0 [t]).length=_
 rw[List.nil_append,Tn.flats_one,Tn.flat_len]
theorem nL{T:List UInt8}{K:List Tok}{a:Int}(h0:0≤a)(h1:a<K.length):(cB T K)[a.toNat]? =some (ai (aa K a),say T (aa K a)):=by
 unfold cB aa
 rw[List.getElem?_map,List.getD_eq_getElem?_getD,List.getElem?_eq_getElem (by omega)]
 rfl
theorem fT{T:List UInt8}{K:List Tok}:(cB T K).length=K.length:=by
 unfold cB
 rw[List.length_map]
theorem qZ{K:List Tok}{a:Int}(h:(K.length:Int)≤a):ai (aa K a)=0:=by
 unfold aa
 rw[List.getD_eq_getElem?_getD,List.getElem?_eq_none (by omega)]
 rfl
theorem Ej{A B:List UInt8}(hA:A.length≤1500)(hB:B.length≤1500)(h:cL A=0)(h':cL B=0){x y:Tn}{ax dx ay dy:Int}{nx ny:Nat}(hx:eJ A= .ok x ax dx nx)(hy:eJ B= .ok y ay dy ny):
  cL (A++10::B)=0∧((∃z az dz nz M1 M2,eJ (A++10::B)= .ok z az dz nz∧z.kids=M1++M2∧EtL x.kids M1∧EtL y.kids M2∧x.kids.length+y.kids.length≤64)∨
  ((∃q,eJ (A++10::B)= .fault 2 q)∧(8192<x.size+y.size∨64<x.kids.length+y.kids.length))):=by
 obtain⟨LA,LB,a1,b1,c1,c2⟩:=H3 hA hB h h'
 refine⟨c1,?_⟩
 have wA:=lex_wf h
 have wB:=lex_wf h'
 have hlA:(bJ A).length=LA.length+1:=by rw[a1];simp
 have hlB:(bJ B).length=LB.length+1:=by rw[b1];simp
 have hlC:(bJ (A++10::B)).length=LA.length+(LB.length+1):=by
  have:=congrArg List.length c2
  rw[fT,List.length_append,fT,fT,hlB]at this
  exact this
 have hpair:∀{T:List UInt8} {K:List Tok} {i:Int} {p q:Tk},p=q→p=(ai (aa K i),say T (aa K i))→q.1=ai (aa K i)∧q.2=say T (aa K i):=fun h1 h2=>by
  rw[←h1,h2]
  exact⟨rfl,rfl⟩
 have k1:Kw A (bJ A) (A++10::B) (bJ (A++10::B)) 0 LA.length:=by
  refine⟨Int.le_refl _,by omega,by omega,by omega,fun a ha=>?_,fun a ha hl=>?_⟩
  ·by_cases hb:a<(bJ A).length
   ·exact(wA.last a (by omega) hb).2 (by omega)
   ·exact qZ (by omega)
  ·have e1:=nL (T:=A) (K:=bJ A) ha (by omega)
   have e2:=nL (T:=A++10::B) (K:=bJ (A++10::B)) ha (by omega)
   rw[c2,List.getElem?_append_left (by rw[fT];omega)]at e2
   have e3:(cB A LA)[a.toNat]? =(cB A (bJ A))[a.toNat]? :=by
    rw[a1]
    unfold cB
    rw[List.map_append,List.getElem?_append_left (by rw[List.length_map];omega)]
   rw[e3,e1]at e2
   simp only[Option.some.injEq,Prod.mk.injEq]at e2
   rw[Int.add_zero]
   exact e2
 have k2:Kw B (bJ B) (A++10::B) (bJ (A++10::B)) LA.length LB.length:=by
  refine⟨by omega,by omega,by omega,by omega,fun a ha=>?_,fun a ha hl=>?_⟩
  ·by_cases hb:a<(bJ B).length
   ·exact(wB.last a (by omega) hb).2 (by omega)
   ·exact qZ (by omega)
  ·have e1:=nL (T:=B) (K:=bJ B) ha (by omega)
   have e2:=nL (T:=A++10::B) (K:=bJ (A++10::B)) (a:=a+LA.length) (by omega) (by omega)
   rw[c2,List.getElem?_append_right (by rw[fT];omega),fT,show(a+(LA.length:Int)).toNat-LA.length=a.toNat by omega,e1]at e2
   simp only[Option.some.injEq,Prod.mk.injEq]at e2
   exact e2
 obtain⟨rfl,hnx⟩:=yB h hx
 obtain⟨_,hny⟩:=yB h' hy
 have z1:∀a:Int,0≤a→a<LA.length→ai (aa (bJ A) a)≠0:=fun a ha hl he=>by
  have:=(wA.last a ha (by omega)).1 he
  omega
 have z2:∀a:Int,0≤a→a<LB.length→ai (aa (bJ B) a)≠0:=fun a ha hl he=>by
  have:=(wB.last a ha (by omega)).1 he
  omega
 generalize hC:A++10::B=C at*
 have r1:=jc (N:=0) k1 (qF k1 iC) z1 ((bJ A).length+2) ((bJ C).length+2) [] [] [] 0 0 0 x ax 0 nx (by omega) (by omega) (by omega) .nil (by simp) hx
 obtain⟨p1,p2,rfl,p4⟩:=r1
 have eC:eJ C=bb C (bJ C) (knt C (bJ C) iC) ((bJ C).length+2) ([]++[]) (0+0) 0 (0+0):=rfl
 rcases p4 with⟨c,M1,i1,i2,i3,i4,i5⟩|⟨⟨q,i1⟩,i2⟩
 ·have hk1:=i3.len
  have r2:=jc (N:=nx-1) k2 (qF k2 iC) z2 ((bJ B).length+2) ((bJ C).length+2-c) [] [] M1 0 0 0 y ay dy ny (by omega) (by omega) (by omega) .nil (by simpa using i4) hy
  obtain⟨q1,q2,_,q4⟩:=r2
  have e2:eJ C=bb C (bJ C) (knt C (bJ C) iC) ((bJ C).length+2-c) (M1++[]) (0+(LA.length:Int)) 0 (0+(nx-1)):=by
   rw[eC,i5,List.nil_append,List.append_nil,show(LA.length:Int)+0=0+LA.length by omega,show nx-1+0=0+(nx-1) by omega]
  rcases q4 with⟨c',M2,j1,j2,j3,j4,j5⟩|⟨⟨q,j1⟩,j2⟩
  ·have hk2:=j3.len
   have hf:∃f,(bJ C).length+2-c-c'=f+1:=⟨(bJ C).length+1-c-c',by omega⟩
   obtain⟨f,hf⟩:=hf
   rw[e2,j5,hf,vy]
   have hend:ai (aa (bJ C) ((LB.length:Int)+LA.length))=0:=((lex_wf c1).last _ (by omega) (by omega)).2 (by omega)
   rw[hend]
   show(∃z az dz nz N1 N2,cx (bJ C) (nod 1 [] []) 0 (M1++M2) ((LB.length:Int)+LA.length) dy (ny-1+(nx-1))= .ok z az dz nz∧_)∨_
   cases hd:decide (((ny-1+(nx-1):Nat):Int)≥8192)with
   |true=>
    have:=of_decide_eq_true hd
    refine .inr ⟨⟨0,?_⟩,.inl (by omega)⟩
    show cx (bJ C) (nod 1 [] []) 0 (M1++M2) ((LB.length:Int)+LA.length) dy (ny-1+(nx-1))=_
    unfold cx
    rw[hd]
    rfl
   |false=>
    left
    unfold cx
    rw[hd]
    exact⟨_,_,_,_,M1,M2,rfl,rfl,i3,j3,by omega⟩
  ·refine .inr ⟨⟨q,by rw[e2];exact j1⟩,?_⟩
   rcases j2 with j2|j2
   ·exact .inl (by omega)
   ·exact .inr (by omega)
 ·refine .inr ⟨⟨q,by rw[eC];exact i1⟩,?_⟩
  rcases i2 with i2|i2
  ·exact .inl (by omega)
  ·exact .inr (by simp at i2;omega)
end Go.Sx.Tryz
namespace Go.Sx.Tryz
open Go Go.Sx Go.Proofs
set_option maxRecDepth 100000
variable{G:Nat→Obj→Prop}
def mk5(T:List UInt8)(g:List Int)(K:List Tok)(o:List Int)(l i:Int):St:={tmps:=[(0,.str T),(1,.sl (.int .i64) g),(7,.ref 0 0),(32,.sl aJ K),(33,.int .i64 l),(34,.int .i64 i)],blks:=[(0,.cells 48 [.bself 0,.own 1 0]),(1,.list 5 (.int .u8) 0 false o)],next:=2}
end Go.Sx.Tryz
namespace Go.Sx.Tryz
open Go Go.Sx
set_option maxRecDepth 100000
def Fp{α:Type}(m:Pm α):Prop:=∀a d A,match m a d A with
 | .fault c _=>c≠0
 |_=>True
def Fz{α:Type}(m:Tm α):Prop:=∀a d n,match m a d n with
 | .fault c _=>c≠0
 |_=>True
theorem Fp.bind{α β:Type}{m:Pm α}{k:α→Pm β}(h:Fp m)(hk:∀y,Fp (k y)):Fp (m.bind k):=fun a d A=>by
 have:=h a d A
 unfold Pm.bind
 cases e:m a d A with
 |ok y a' d' A'=>exact hk y a' d' A'
 |fault c p=>rw[e]at this;exact this
 |bad=>trivial
theorem Fz.bind{α β:Type}{m:Tm α}{k:α→Tm β}(h:Fz m)(hk:∀y,Fz (k y)):Fz (m.bind k):=fun a d n=>by
 have:=h a d n
 unfold Tm.bind
 cases e:m a d n with
 |ok y a' d' n'=>exact hk y a' d' n'
 |fault c p=>rw[e]at this;exact this
 |bad=>trivial
theorem Fp.ret{α:Type}{y:α}:Fp (.ret y:Pm α):=fun _ _ _=>trivial
theorem Fz.ret{α:Type}{y:α}:Fz (.ret y:Tm α):=fun _ _ _=>trivial
theorem Fp.flt{α:Type}{c p:Int}(h:c≠0):Fp (.flt c p:Pm α):=fun _ _ _=>h
theorem Fz.flt{α:Type}{c p:Int}(h:c≠0):Fz (.flt c p:Tm α):=fun _ _ _=>h
theorem Fp.bad{α:Type}:Fp (.bad:Pm α):=fun _ _ _=>trivial
theorem Fz.bad{α:Type}:Fz (.bad:Tm α):=fun _ _ _=>trivial
theorem Fp.bif{α:Type}{c:Bool}{m m':Pm α}(h:Fp m)(h':Fp m'):Fp (bif c then m else m'):=by cases c<;>assumption
theorem Fz.bif{α:Type}{c:Bool}{m m':Tm α}(h:Fz m)(h':Fz m'):Fz (bif c then m else m'):=by cases c<;>assumption
theorem Fp.l{α:Type}{m:Pm α}(h:Fp m):Fz (lft m):=fun a d n=>by
 have:=h a d []
 unfold lft
 cases e:m a d []with
 |ok y a' d' A'=>trivial
 |fault c p=>rw[e]at this;exact this
 |bad=>trivial
section
variable{T:List UInt8}{K:List Tok}{p:Kt}
theorem n80:(80:Int)≠0:=by decide
theorem n2:(2:Int)≠0:=by decide
theorem n5:(5:Int)≠0:=by decide
theorem cM:Fp (bM T K):=fun _ _ _=>trivial
theorem qA{n:Int}:Fp (eP T K n):=fun a d A=>by
 unfold eP
 cases decide (a+n≥(K.length:Int))<;>trivial
theorem bZ:Fp (aW K):=fun a d A=>by
 unfold aW
 cases ai (aa K a) !=0<;>trivial
theorem sO{s:Str}:Fp (cIs T K s):=cM.bind fun _=>.ret
theorem fb{s:Str}:Fp (bU T K s):=sO.bind fun _=>.bif (bZ.bind fun _=>.ret) .ret
theorem bO{s:Str}:Fp (aM T K s):=sO.bind fun _=>.bif bZ (cM.bind fun _=>.flt n80)
theorem oC:Fp (cW T K):=cM.bind fun _=>.bif (bZ.bind fun _=>.ret) (.flt n80)
theorem zO:Fp (fJ K):=fun a d A=>by
 unfold fJ
 cases decide (d+1>60)
 ·trivial
 ·show(6:Int)≠0
  decide
theorem Ho:Fp rO:=fun _ _ _=>trivial
theorem BY{n:Int}:Fp (gG K n):=fun a d A=>by
 unfold gG
 cases decide (n>64)
 ·trivial
 ·exact n2
theorem Bf{l:Nat}:Fp (comma T K l):=.bif (bO.bind fun _=>.ret) .ret
theorem zA:Fp (dc T K):=qA.bind fun _=>.bif .ret (.bif (qA.bind fun _=>qA.bind fun _=>.ret) .ret)
theorem O0:Fp (nh T K):=cM.bind fun _=>.bif (.bif (bZ.bind fun _=>.ret) (.bif (bZ.bind fun _=>.ret) (.bif (bZ.bind fun _=>.ret) (.bif (bZ.bind fun _=>.ret) (.bif (bZ.bind fun _=>.ret) (.flt n80)))))) (.flt n80)
theorem sj:∀(n:Nat) (x:Nd),Fp (dE T K n x)
 |0,_=>.bad
 |n+1,x=>cM.bind fun _=>sO.bind fun _=>.bif (.bif (.flt (by decide)) (bZ.bind fun _=>sj n _)) (qA.bind fun _=>sO.bind fun _=>.bif (.bif (.flt n2) (bZ.bind fun _=>bZ.bind fun _=>sj n _)) .ret)
theorem vD:Fp (dW T K):=O0.bind fun _=>sj _ _
theorem qx{v:Bool}:Fp (cF T K v):=cM.bind fun _=>.bif (bZ.bind fun _=>bO.bind fun _=>vD.bind fun _=>bO.bind fun _=>.bif (.flt n5) .ret) (.bif (bZ.bind fun _=>.ret) vD)
theorem cO{x:Nd}{f:Int}{ks:List Tn}:Fz (cx K x f ks):=fun a d n=>by
 unfold cx
 cases decide ((n:Int)≥8192)
 ·trivial
 ·exact n2
structure ZK(p:Kt):Prop where
 val:Fz p.val
 blk:Fz p.blk
 un:Fz p.un
theorem fV(h:ZK p):Fz (du T K p):=bO.l.bind fun _=>h.val.bind fun _=>bO.l.bind fun _=>.ret
theorem Bs(h:ZK p):∀(n:Nat) (L:List Tn),Fz (lR T K p n L)
 |0,_=>.bad
 |n+1,L=>fb.l.bind fun _=>.bif .ret (Bf.l.bind fun _=>BY.l.bind fun _=>h.val.bind fun _=>Bs h n _)
theorem zG(h:ZK p):Fz (pA T K p):=bO.l.bind fun _=>Bs h _ _
theorem mO{x:Nd}{e:Int}:Fz (lY T K x e):=cM.l.bind fun _=>by
 cases he:e !=0
 ·exact bZ.l.bind fun _=>cO
 ·exact .flt (by simpa [bne]using he)
theorem NM(h:ZK p):Fz (tE T K p):=vD.l.bind fun _=>sO.l.bind fun _=>.bif (.bif (.flt n5) ((zG h).bind fun _=>.ret)) (bO.l.bind fun _=>h.val.bind fun _=>bO.l.bind fun _=>.ret)
theorem NR(h:ZK p)(t:Tok)(s:Str):Fz (vk T K p t s):=.bif mO (.bif mO (.bif mO (.bif mO (.bif mO (.bif (bZ.l.bind fun _=>bO.l.bind fun _=>bO.l.bind fun _=>cO) (.bif (bZ.l.bind fun _=>(fV h).bind fun _=>cO)
 (.bif (bZ.l.bind fun _=>bO.l.bind fun _=>qx.l.bind fun _=>bO.l.bind fun _=>(fV h).bind fun _=>cO) (.bif (bZ.l.bind fun _=>(NM h).bind fun _=>cO) (.flt n80)))))))))
theorem Df(h:ZK p):Fz (iv T K p):=cM.l.bind fun _=>.bif mO (.bif mO (.bif mO (.bif (.bif (fV h) (.flt n80)) (.bif (.bif mO (NR h _ _)) (.flt n80)))))
theorem Nz(h:ZK p)(x:Tn)(f:Int):Fz (tu T K p x f):=fb.l.bind fun _=>.bif cO (fb.l.bind fun _=>.bif cO (oC.l.bind fun _=>sO.l.bind fun _=>.bif ((zG h).bind fun _=>cO) cO))
theorem kI(h:ZK p)(f:Int):∀(n:Nat) (x:Tn),Fz (eS T K p f n x)
 |0,_=>.bad
 |n+1,x=>fb.l.bind fun _=>.bif (cO.bind fun _=>kI h f n _) (fb.l.bind fun _=>.bif (h.val.bind fun _=>bO.l.bind fun _=>cO.bind fun _=>kI h f n _) (fb.l.bind fun _=>.bif ((Nz h _ _).bind fun _=>kI h f n _) .ret))
theorem EL(h:ZK p):Fz (kH T K p):=cM.l.bind fun _=>(Df h).bind fun _=>kI h _ _ _
theorem KF(h:ZK p):Fz (om T K p):=cM.l.bind fun _=>.bif (zO.l.bind fun _=>bZ.l.bind fun _=>h.un.bind fun _=>Ho.l.bind fun _=>cO) (EL h)
theorem mV{sub:Tm Tn}(hs:Fz sub)(least f:Int):∀(n:Nat) (x:Tn),Fz (fO T K least f sub n x)
 |0,_=>.bad
 |n+1,x=>cM.l.bind fun _=>.bif (bZ.l.bind fun _=>hs.bind fun _=>cO.bind fun _=>mV hs least f n _) (.bif (fb.l.bind fun _=>.bif (fb.l.bind fun _=>.bif (cO.bind fun _=>mV hs least f n _) (bO.l.bind fun _=>cO.bind fun _=>mV hs least f n _)) .ret) .ret)
theorem vn(h:ZK p):∀j:Nat,Fz (kf T K p j)
 |0=>cM.l.bind fun _=>h.un
 |j+1=>cM.l.bind fun _=>(vn h j).bind fun _=>mV (vn h j) _ _ _ _
theorem Ku(h:ZK p):Fz (oR T K p):=zO.l.bind fun _=>(vn h 6).bind fun _=>Ho.l.bind fun _=>.ret
theorem Rm(h:ZK p)(s:Str):Fz (rN T K p s):=
 .bif (bZ.l.bind fun _=>(fV h).bind fun _=>h.blk.bind fun _=>fb.l.bind fun _=>.bif (h.blk.bind fun _=>.ret) .ret) (.bif (bZ.l.bind fun _=>(fV h).bind fun _=>h.blk.bind fun _=>.ret) (.bif (bZ.l.bind fun _=>bO.l.bind fun _=>.ret) (.bif (bZ.l.bind fun _=>bO.l.bind fun _=>.ret)
 (.bif (bZ.l.bind fun _=>sO.l.bind fun _=>.bif (bO.l.bind fun _=>.ret) (h.val.bind fun _=>bO.l.bind fun _=>.ret)) (.bif (bZ.l.bind fun _=>(fV h).bind fun _=>bO.l.bind fun _=>.ret) (.bif (bZ.l.bind fun _=>(zG h).bind fun _=>bO.l.bind fun _=>.ret) .ret))))))
theorem CB(h:ZK p)(f:Int):Fz (l7 T K p f):=h.val.bind fun _=>cM.l.bind fun _=>fb.l.bind fun _=>.bif (.bif (h.val.bind fun _=>bO.l.bind fun _=>cO) (.flt (by decide))) (.bif (bO.l.bind fun _=>cO) (.flt (by decide)))
theorem O7(h:ZK p):Fz (vi T K p):=cM.l.bind fun _=>.bif h.blk (zA.l.bind fun _=>.bif (qx.l.bind fun _=>oC.l.bind fun _=>fb.l.bind fun _=>.bif (h.val.bind fun _=>bO.l.bind fun _=>cO) (bO.l.bind fun _=>cO)) (.bif ((Rm h _).bind fun _=>.bif cO (CB h _)) (CB h _)))
theorem xB(h:ZK p)(f:Int):∀(n:Nat) (L:List Tn),Fz (jg T K p f n L)
 |0,_=>.bad
 |n+1,L=>sO.l.bind fun _=>.bif (bO.l.bind fun _=>Ho.l.bind fun _=>cO) ((O7 h).bind fun _=>xB h f n _)
theorem JV(h:ZK p):Fz (oX T K p):=cM.l.bind fun _=>zO.l.bind fun _=>bO.l.bind fun _=>xB h _ _ _
theorem wx:∀n,ZK (knt T K n)
 |0=>⟨.bad,.bad,.bad⟩
 |n+1=>⟨Ku (wx n),JV (wx n),KF (wx n)⟩
theorem um:∀(n:Nat) (L:List Tn),Fz (gf T K n L)
 |0,_=>.bad
 |n+1,L=>fb.l.bind fun _=>.bif .ret (Bf.l.bind fun _=>BY.l.bind fun _=>cM.l.bind fun _=>qx.l.bind fun _=>oC.l.bind fun _=>cO.bind fun _=>um n _)
theorem xU:Fz (jk T K):=bO.l.bind fun _=>um _ _
theorem IE(h:ZK p):Fz (kV T K p):=cM.l.bind fun _=>.bif (bZ.l.bind fun _=>xU.bind fun _=>h.blk.bind fun _=>cO) (qx.l.bind fun _=>oC.l.bind fun _=>sO.l.bind fun _=>.bif (xU.bind fun _=>h.blk.bind fun _=>cO) (.bif (.flt n80) (bO.l.bind fun _=>cO)))
theorem sG(h:ZK p)(f:Int)(s:Str):∀(n:Nat) (L:List Tn),Fz (gP T K p f s n L)
 |0,_=>.bad
 |n+1,L=>sO.l.bind fun _=>.bif (bO.l.bind fun _=>cO) (BY.l.bind fun _=>(IE h).bind fun _=>sG h f s n _)
theorem LO(h:ZK p):Fz (fD T K p):=cM.l.bind fun _=>bO.l.bind fun _=>oC.l.bind fun _=>cM.l.bind fun _=>fb.l.bind fun _=>.bif (oC.l.bind fun _=>cO.bind fun _=>bO.l.bind fun _=>sG h _ _ _ _) (bO.l.bind fun _=>sG h _ _ _ _)
theorem sc(h:ZK p):∀(n:Nat) (L:List Tn),Fz (bb T K p n L)
 |0,_=>.bad
 |n+1,L=>cM.l.bind fun _=>.bif cO (BY.l.bind fun _=>(LO h).bind fun _=>sc h n _)
end
theorem E2{T:List UInt8}{c p:Int}(h:eJ T= .fault c p):c≠0:=by
 have:=sc (T:=T) (K:=bJ T) (wx (T:=T) (K:=bJ T) iC) ((bJ T).length+2) [] 0 0 0
 have e:bb T (bJ T) (knt T (bJ T) iC) ((bJ T).length+2) [] 0 0 0= .fault c p:=h
 rw[e]at this
 exact this
end Go.Sx.Tryz
namespace Go.Sx.Tryz
open Go Go.Sx Go.Proofs
set_option maxRecDepth 100000
theorem jR{T:List UInt8}(hl:cL T=0):(∃t a d n,eJ T= .ok t a d n∧fC T=((t.flat 0,((t.flat 0).length:Int)-1,()),((0:Int),(0:Int),()),())∧Gk t∧ak t.data=1∧t.size≤8192∧jJ (t.flat 0)=true)∨
  (∃c p,eJ T= .fault c p∧c≠0∧fC T=((([]:List Nd),(0:Int),()),(c,p,()),())):=by
 have hR:=qK T
 have hc:(cL T !=0)=false:=by rw[hl];rfl
 cases et:eJ T with
 |ok t a d n=>
  rw[et]at hR
  obtain⟨_,h2⟩:=hR
  have e:Sf [] (gT t)=t.flat 0:=by
   show []++Tn.flats 0 [t]=_
   rw[List.nil_append,Tn.flats_one]
  rw[e]at h2
  have hi:=DF hl h2
  obtain⟨g1,g2⟩:=F2 hl et
  have hs:t.size≤8192:=by
   have:=hi.len
   rwa [Tn.flat_len]at this
  refine .inl ⟨t,a,d,n,rfl,?_,g1,g2,hs,Hl g1 hs fun x hx=>(hi.nd x hx).1⟩
  unfold fC
  rw[hc,h2]
  rfl
 |fault c p=>
  rw[et]at hR
  have hR:lZ T= .fault c p:=hR
  refine .inr ⟨c,p,rfl,E2 et,?_⟩
  unfold fC
  rw[hc,hR]
  rfl
 |bad=>
  exfalso
  rw[et]at hR
  have hR:lZ T= .bad:=hR
  have hE:=kZ hl
  rw[hR]at hE
  exact hE.elim
end Go.Sx.Tryz
namespace Go.Sx.Tryz
open Go Go.Sx Go.Proofs
set_option maxRecDepth 100000
theorem yr(L S:List Nd):∀(ks:List Tn) (P:List Nd),L=P++Tn.flats P.length ks++S→∀(j:Nat) (t:Tn),ks[j]? =some t→0≤b9 (roots P.length ks) j∧b9 (roots P.length ks) j<L.length∧cy L (b9 (roots P.length ks) j).toNat=nF t
 |[],_,_,_,_,h=>by cases h
 |u::us,P,hL,0,t,h=>by
  cases h
  have hp:=size_pos u
  have hL2:L=P++u.flat P.length++(Tn.flats (P.length+u.size) us++S):=by
   rw[hL,Tn.flats]
   simp[List.append_assoc]
  have hlen:L.length=P.length+u.size+(Tn.sizes us+S.length):=by
   rw[hL2]
   simp only[List.length_append,Tn.flat_len,Tn.flats_len]
  have e:b9 (roots P.length (u::us)) 0=((P.length+u.size:Nat):Int)-1:=rfl
  rw[e]
  refine⟨by omega,by omega,?_⟩
  have e2:(((P.length+u.size:Nat):Int)-1).toNat=P.length+u.size-1:=by omega
  rw[e2]
  exact EY L _ u P _ hL2 (by omega)
 |u::us,P,hL,j+1,t,h=>by
  have hL2:L=(P++u.flat P.length)++Tn.flats (P++u.flat P.length).length us++S:=by
   rw[hL,Tn.flats,List.length_append,Tn.flat_len]
   simp[List.append_assoc]
  have:=yr L S us (P++u.flat P.length) hL2 j t h
  have hP:(P++u.flat P.length).length=P.length+u.size:=by rw[List.length_append,Tn.flat_len]
  rw[hP]at this
  exact this
theorem KN(t:Tn):ag (t.flat 0) (((t.flat 0).length:Int)-1).toNat=c8 t.data (roots 0 t.kids):=by
 obtain⟨d,ks⟩:=t
 have:=w5 [] [] d ks
 rw[List.append_nil,List.nil_append]at this
 have e:(((Tn.mk d ks).flat 0).length:Int)-1=eT 0 (.mk d ks):=by
  rw[Tn.flat_len,eT]
  omega
 rw[e]
 exact this
theorem wV:∀{A M:List Tn},EtL A M→∀(i:Nat) (u:Tn),A[i]? =some u→∃v,M[i]? =some v∧Et u v
 |[],_,_,_,_,h=>by cases h
 |t::ts,M,h,i,u,hu=>by
  unfold EtL at h
  obtain⟨v,vs,rfl,h1,h2⟩:=h
  cases i with
  |zero=>
   cases hu
   exact⟨v,rfl,h1⟩
  |succ i=>exact wV h2 i u hu
structure Pd(t:Tn)(L:List Nd)(r:Int):Prop where
 l:L=t.flat 0
 r:r=(L.length:Int)-1
 g:Gk t
 k:ak t.data=1
 s:t.size≤8192
 m:jJ L=true
theorem Pd.kids{t:Tn}{L:List Nd}{r:Int}(h:Pd t L r):aj (ag L r.toNat)=roots 0 t.kids:=by
 rw[h.r,h.l,KN]
 rfl
theorem Pd.inr{t:Tn}{L:List Nd}{r:Int}(h:Pd t L r):inI r L.length=true:=by
 have:=size_pos t
 rw[h.r,h.l,Tn.flat_len]
 exact cv (by omega) (by omega)
theorem Pd.ok{t:Tn}{L:List Nd}{r:Int}(h:Pd t L r)(a:Int):zT ((L,r,()),a,())=true:=by
 show(jJ L&&L.all dR)=true
 rw[h.m,h.l,D0 h.g]
 rfl
theorem Pd.form{t u:Tn}{L:List Nd}{r:Int}(h:Pd t L r){i:Nat}(hu:t.kids[i]? =some u):na L r (b9 (roots 0 t.kids) i)=nF u:=by
 have hl:L=[]++Tn.flats ([]:List Nd).length t.kids++[c8 t.data (roots 0 t.kids)]:=by
  rw[h.l]
  obtain⟨d,ks⟩:=t
  rfl
 obtain⟨h1,h2,h3⟩:=yr L _ t.kids [] hl i u hu
 unfold na
 have hc:dH L r=0:=by rw[h.r,h.l,Tn.flat_len];exact AJ h.g h.k h.s
 rw[hc]
 refine(bt ?_).trans h3
 have h5:inI (b9 (roots 0 t.kids) i) L.length=true:=cv h1 h2
 rw[h5]
 rfl
abbrev pc3(n:Nat):Jump R0:=pieces (R:=R0) E (ao DE) fi3 HO 0 .ok n
theorem fn3{x y z:Tn}{LA LB LC:List Nd}{rA rB rC:Int}(hx:Pd x LA rA)(hy:Pd y LB rB)(hz:Pd z LC rC){M1 M2:List Tn}(e:z.kids=M1++M2)(h1:EtL x.kids M1)(h2:EtL y.kids M2)(h64:x.kids.length+y.kids.length≤64):∀(c i:Nat),c+i=x.kids.length+y.kids.length→
  ∃n,pc3 n 0 (mk3 LA LB LC rA rB rC (x.kids.length:Int) (roots 0 z.kids) ((roots 0 z.kids).length:Int) i)= .ok (.ret (.bool true),[])
 |0,i,hc=>by
  have hk1:=h1.len
  have hk2:=h2.len
  refine⟨1,(bp rfl).trans ((MV (pc3 0) LA LB LC rA rB rC _ _ _ i).trans ?_)⟩
  exact bn (decide_eq_false (by rw[b8,e,List.length_append];omega))
 |c+1,i,hc=>by
  have hk1:=h1.len
  have hk2:=h2.len
  have hzl:(roots 0 z.kids).length=x.kids.length+y.kids.length:=by rw[b8,e,List.length_append];omega
  obtain⟨n,hn⟩:=fn3 hx hy hz e h1 h2 h64 c (i+1) (by omega)
  have hw:IntKind.wrap .i64 ((i:Int)+1)=((i+1:Nat):Int):=by
   rw[wrap64 (by omega) (by omega)]
   rfl
  refine⟨n+1,(bp rfl).trans ((MV (pc3 n) LA LB LC rA rB rC _ _ _ i).trans ?_)⟩
  rw[hw]
  refine(bt (decide_eq_true (by omega))).trans ?_
  refine(bt (cv (by omega) (by omega))).trans ?_
  by_cases hi:i<x.kids.length
  ·refine(bt (decide_eq_true (by omega))).trans ?_
   refine(bt hx.inr).trans ?_
   obtain⟨v,hv,hev⟩:=wV h1 i x.kids[i] (List.getElem?_eq_getElem hi)
   have hvz:z.kids[i]? =some v:=by rw[e,List.getElem?_append_left (by omega)];exact hv
   rw[hx.kids]
   refine(bt (cv (by omega) (by rw[b8];omega))).trans ?_
   refine(bt (hx.ok _)).trans ((bt (hz.ok _)).trans ?_)
   rw[Int.toNat_natCast,hx.form (List.getElem?_eq_getElem hi),hz.form hvz,wj _ _ hev]
   refine(bn (by simp)).trans ?_
   exact hn
  ·refine(bn (decide_eq_false (by omega))).trans ?_
   refine(bt hy.inr).trans ?_
   have hsub:IntKind.wrap .i64 ((i:Int)-(x.kids.length:Int))=((i-x.kids.length:Nat):Int):=by
    rw[wrap64 (by omega) (by omega)]
    omega
   have hj:i-x.kids.length<y.kids.length:=by omega
   obtain⟨v,hv,hev⟩:=wV h2 (i-x.kids.length) y.kids[i-x.kids.length] (List.getElem?_eq_getElem hj)
   have hvz:z.kids[i]? =some v:=by rw[e,List.getElem?_append_right (by omega),←hk1];exact hv
   rw[hsub,hy.kids]
   refine(bt (cv (by omega) (by rw[b8];omega))).trans ?_
   refine(bt (hy.ok _)).trans ((bt (hz.ok _)).trans ?_)
   rw[Int.toNat_natCast,Int.toNat_natCast,hy.form (List.getElem?_eq_getElem hj),hz.form hvz,wj _ _ hev]
   refine(bn (by simp)).trans ?_
   exact hn
theorem Jk{T:List UInt8}(hl:cL T=0)(h:ndE T=0):∃t a d n,eJ T= .ok t a d n∧Pd t (ndL T) (ndR T):=by
 rcases jR hl with⟨t,a,d,n,e1,e2,e3,e4,e5,e6⟩|⟨c,p,e1,e2,e3⟩
 ·refine⟨t,a,d,n,e1,?_⟩
  have p2:ndL T=t.flat 0:=by unfold ndL;rw[e2]
  have p3:ndR T=((t.flat 0).length:Int)-1:=by unfold ndR;rw[e2]
  rw[p2,p3]
  exact⟨rfl,rfl,e3,e4,e5,e6⟩
 ·unfold ndE at h
  rw[e3]at h
  exact absurd h e2
theorem ME{T:List UInt8}(h:ndE T=0):cL T=0:=by
 cases hc:cL T !=0 with
 |true=>
  unfold ndE fC at h
  rw[hc]at h
  have h:cL T=0:=h
  rw[h]at hc
  exact absurd hc (by decide)
 |false=>simpa [bne]using hc
theorem JH(A B:List UInt8):∃n,start (R:=R0) E (ao DE) fi3 HO (pc3 n) [.str A,.str B] [] .ok= .ok (.ret (.bool true),[]):=by
 by_cases h1:(A.length:Int)>1500
 ·exact⟨0,(sE _ A B).trans (bt (decide_eq_true h1))⟩
 by_cases h2:(B.length:Int)>1500
 ·exact⟨0,(sE _ A B).trans ((bn (decide_eq_false h1)).trans (bt (decide_eq_true h2)))⟩
 by_cases h3:ndE A=0
 ·by_cases h4:ndE B=0
  ·have lA:=ME h3
   have lB:=ME h4
   obtain⟨x,ax,dx,nx,ex,px⟩:=Jk lA h3
   obtain⟨y,ay,dy,ny,ey,py⟩:=Jk lB h4
   obtain⟨lC,hw⟩:=Ej (by omega) (by omega) lA lB ex ey
   have eAB:A++[10]++B=A++10::B:=by simp
   have hkx:kdR A=roots 0 x.kids:=px.kids
   have hky:kdR B=roots 0 y.kids:=py.kids
   have hsx:=px.s
   have hsy:=py.s
   have hlx:(ndL A).length=x.size:=by rw[px.l,Tn.flat_len]
   have hly:(ndL B).length=y.size:=by rw[py.l,Tn.flat_len]
   have hks:∀t:Tn,t.kids.length≤t.size:=fun t=>by
    obtain⟨d,ks⟩:=t
    show ks.length≤_
    rw[Tn.size]
    have:∀l:List Tn,l.length≤Tn.sizes l:=by
     intro l
     induction l with
     |nil=>exact Nat.zero_le _
     |cons t l ih=>
      rw[Tn.sizes]
      have:=size_pos t
      rw[List.length_cons]
      omega
    have:=this ks
    omega
   have hx8:=hks x
   have hy8:=hks y
   have hw1:IntKind.wrap .i64 (((kdR A).length:Int)+((kdR B).length:Int))=(x.kids.length:Int)+y.kids.length:=by
    rw[hkx,hky,b8,b8,wrap64 (by omega) (by omega)]
   have hw2:IntKind.wrap .i64 (((ndL A).length:Int)+((ndL B).length:Int))=(x.size:Int)+y.size:=by
    rw[hlx,hly,wrap64 (by omega) (by omega)]
   have go:∀(r:Nat→Rs R0),(∀n,r n=bif decide ((x.kids.length:Int)+y.kids.length>64)then .ok (.ret (.bool (ndE (A++10::B)==2)),[])else
     bif ndE (A++10::B) !=0 then bif ndE (A++10::B)==2 then .ok (.ret (.bool (decide ((x.size:Int)+y.size>8192))),[])else .ok (.ret (.bool false),[])else
     bif inI (ndR (A++10::B)) (ndL (A++10::B)).length then
      bif ((kdR (A++10::B)).length:Int) !=(x.kids.length:Int)+y.kids.length then .ok (.ret (.bool false),[])else
      pc3 n 0 (mk3 (ndL A) (ndL B) (ndL (A++10::B)) (ndR A) (ndR B) (ndR (A++10::B)) ((kdR A).length:Int) (kdR (A++10::B)) (kdR (A++10::B)).length 0)
     else .err 1504)→∃n,r n= .ok (.ret (.bool true),[]):=by
    intro r hr
    rcases hw with⟨z,az,dz,nz,M1,M2,ez,e1,e2,e3,e4⟩|⟨⟨q,ez⟩,e5⟩
    ·have hz0:ndE (A++10::B)=0:=by
      rcases jR lC with⟨t,a,d,n,f1,f2,_⟩|⟨c,p,f1,_⟩
      ·unfold ndE
       rw[f2]
      ·rw[ez]at f1
       cases f1
     obtain⟨z',_,_,_,ez',pz⟩:=Jk lC hz0
     rw[ez]at ez'
     cases ez'
     have hkz:kdR (A++10::B)=roots 0 z.kids:=pz.kids
     have hk1:=e2.len
     have hk2:=e3.len
     obtain⟨n,hn⟩:=fn3 px py pz e1 e2 e3 e4 (x.kids.length+y.kids.length) 0 (by omega)
     refine⟨n,(hr n).trans ?_⟩
     refine(bn (decide_eq_false (by omega))).trans ?_
     refine(bn (by rw[hz0];rfl)).trans ?_
     refine(bt pz.inr).trans ?_
     rw[hkz,hkx,b8 0 x.kids]
     refine(bn ?_).trans hn
     have:((roots 0 z.kids).length:Int)=(x.kids.length:Int)+y.kids.length:=by
      rw[b8,e1,List.length_append]
      omega
     rw[this]
     simp
    ·have hz2:ndE (A++10::B)=2:=by
      rcases jR lC with⟨t,a,d,n,f1,_⟩|⟨c,p,f1,f2,f3⟩
      ·rw[ez]at f1
       cases f1
      ·rw[ez]at f1
       cases f1
       unfold ndE
       rw[f3]
     refine⟨0,(hr 0).trans ?_⟩
     rw[hz2]
     by_cases h64:(x.kids.length:Int)+y.kids.length>64
     ·exact bt (decide_eq_true h64)
     ·refine(bn (decide_eq_false h64)).trans ?_
      show Rs.ok (Out.ret (AV.bool (decide ((x.size:Int)+y.size>8192))),[])=_
      rw[decide_eq_true (by omega)]
   refine go (fun n=>start (R:=R0) E (ao DE) fi3 HO (pc3 n) [.str A,.str B] [] .ok) fun n=>?_
   refine(sE _ A B).trans ?_
   rw[hw1,hw2,eAB]
   refine(bn (decide_eq_false h1)).trans ((bn (decide_eq_false h2)).trans ((bn (by rw[h3];rfl)).trans ((bn (by rw[h4];rfl)).trans ?_)))
   refine(bt (decide_eq_true (by simp only[List.length_singleton];omega))).trans ((bt (decide_eq_true (by simp only[List.length_append,List.length_singleton];omega))).trans ((bt px.inr).trans (bt py.inr)))
  ·exact⟨0,(sE _ A B).trans ((bn (decide_eq_false h1)).trans ((bn (decide_eq_false h2)).trans ((bn (by rw[h3];rfl)).trans (bt (FO h4)))))⟩
 ·exact⟨0,(sE _ A B).trans ((bn (decide_eq_false h1)).trans ((bn (decide_eq_false h2)).trans (bt (FO h3))))⟩
theorem Ls{w0:World}(t:TabsW w0):bu Tryz.prog (GW w0) DE:=.cons (d9 t) (.cons (GG t) (.cons (aZ fun x h=>KX t x h) .nil))
theorem KJ{w0:World}(t:TabsW w0)(A B:List UInt8):SA Tryz.prog (GW w0) 3 [.str A,.str B] [] (.ret (.bool true),[]):=by
 obtain⟨n,h⟩:=JH A B
 exact bA (bo []) (aV (Ls t)) fc3 (.inl cH) h
end Go.Sx.Tryz
