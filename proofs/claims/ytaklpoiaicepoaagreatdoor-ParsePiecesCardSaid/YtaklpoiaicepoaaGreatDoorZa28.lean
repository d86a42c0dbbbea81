/- A part of the proof: see the row's text. -/
import Derived.Test.YtaklpoiaicepoaaGreatDoorZa27
import Derived.Test.YtaklpoiaicepoaaGreatDoorZa26
import Derived.Test.YtaklpoiaicepoaaGreatDoorZa25
import Derived.Test.YtaklpoiaicepoaaGreatDoorZa15
import Derived.Test.YtaklpoiaicepoaaGreatDoorZa00
set_option linter.unusedVariables false
set_option linter.unusedSimpArgs false
noncomputable section
namespace Go.Sx.Tryz
open Go Go.Sx
set_option maxRecDepth 100000
def tlS(s:List UInt8):List UInt8:=s.dropWhile fun c=>aG c.toNat
def qOK(T:List UInt8)(e:Int):Bool:=Lib.hasPrefix (tlS (aA T e)) [63]||Lib.contains (aA T e) [47,47]
theorem HR:∀s:List UInt8,tlS s=s.drop (ax aG s)
 |[]=>rfl
 |c::s=>by
  have ih:=HR s
  unfold tlS ax at ih⊢
  rw[List.dropWhile_cons,List.takeWhile_cons]
  cases aG (c.toNat:Int)with
  |true=>simpa using ih
  |false=>rfl
theorem PQ{s w:List UInt8}{b:Nat}(hb:b≤s.length)(h:Lib.hasPrefix (s.drop b) w=true):Lib.contains s w=true:=by
 unfold Lib.contains
 refine decide_eq_true ?_
 rcases Lib.index_spec s w with⟨_,h2⟩|⟨i,h1,_⟩
 ·have h3:=h2 b hb
  unfold Lib.occAt at h3
  unfold Lib.hasPrefix at h
  rw[h]at h3
  cases h3
 ·rw[h1]
  omega
section
variable{T:List UInt8}{K:List Tok}
theorem Th(w:WS T K){a:Int}(h0:0≤a)(h1:a+1<K.length)(hs:say T (aa K (a+1))=[63]):qOK T (tTo (aa K a))=true:=by
 have hg:=w.gap a h0 h1
 have sp:=w.wf.span a h0 (by omega)
 have sp1:=w.wf.span (a+1) (by omega) h1
 generalize he:tTo (aa K a)=e at hg sp
 have e0:0≤e:=by omega
 have hr:(aA T e).drop (cz (aA T e))=T.drop (ab (aa K (a+1))).toNat:=by
  rw[hg]
  unfold cQ aA
  rw[List.drop_drop]
  congr 1
  omega
 have hq:∃u,(aA T e).drop (cz (aA T e))=63::u:=by
  rw[hr]
  unfold say at hs
  rw[List.drop_take]at hs
  cases hd:T.drop (ab (aa K (a+1))).toNat with
  |nil=>rw[hd]at hs;simp at hs
  |cons c u=>
   rw[hd]at hs
   cases hn:(tTo (aa K (a+1))).toNat-(ab (aa K (a+1))).toNat with
   |zero=>rw[hn]at hs;simp at hs
   |succ n=>
    rw[hn,List.take_succ_cons]at hs
    exact⟨u,by rw[(List.cons.inj hs).1]⟩
 obtain⟨u,hu⟩:=hq
 unfold qOK
 rw[HR]
 generalize aA T e=s at hu
 unfold cz at hu
 rw[cn]at hu
 cases hh:Lib.hasPrefix (s.drop (ax aG s)) [47,47]with
 |true=>rw[PQ (eH aG s) hh,Bool.or_true]
 |false=>
  rw[hh]at hu
  simp only[cond_false]at hu
  rw[hu]
  rfl
def fb(T:List UInt8):Int→List Int→List UInt8→Int→Prop
 |a,[],[],l=>a=l
 |a,e::es,m::ms,l=>a<e∧(m=63→qOK T e=true)∧fb T e es ms l
 |_,[],_::_,_=>False
 |_,_::_,[],_=>False
theorem fb.snoc{e:Int}{m:UInt8}(hm:m=63→qOK T e=true):∀{a l:Int} {es:List Int} {ms:List UInt8},fb T a es ms l→l<e→fb T a (es++[e]) (ms++[m]) e
 |a,l,[],[],h,hl=>by
  have h:a=l:=h
  exact⟨by omega,hm,rfl⟩
 |a,l,e'::es,m'::ms,h,hl=>⟨h.1,h.2.1,fb.snoc hm h.2.2 hl⟩
theorem fb.last{c:UInt8}:∀{a l:Int} {es:List Int} {ms:List UInt8},fb T a es ms l→ms≠[]→(c=63→qOK T l=true)→fb T a es (ms.dropLast++[c]) l
 |a,l,[],[],h,hn,_=>absurd rfl hn
 |a,l,[e],[m],h,_,hc=>by
  obtain⟨h1,h2,h3⟩:=h
  have h3:e=l:=h3
  subst h3
  exact⟨h1,hc,rfl⟩
 |a,l,e::e2::es,m::m2::ms,h,_,hc=>⟨h.1,h.2.1,fb.last h.2.2 (by simp) hc⟩
theorem fb.first{a a' l:Int}(ha:a'≤a):∀{es:List Int} {ms:List UInt8},fb T a es ms l→ms≠[]→fb T a' es ms l
 |[],[],_,hn=>absurd rfl hn
 |e::es,m::ms,h,_=>⟨by have:=h.1;omega,h.2⟩
structure TyL(T:List UInt8)(K:List Tok)(a0 a:Int)(x:Nd):Prop where
 lt:a0<a
 inn:In K a
 w1:nW1 x=ab (aa K a0)
 w2:nW2 x=tTo (aa K (a-1))
 d0:0≤ah x
 el:((aI x).length:Int)=ah x+1
 ml:((ag x).length:Int)=ah x+1
 es:∃l,fb T (nW1 x) (aI x) (ag x) l∧l≤nW2 x∧(dF x (ah x)=32→l=tTo (aa K (a-1)))
 b0:ar x≠0
theorem TyL.base(w:WS T K){a0:Int}(h0:In K a0)(hz:Nz K a0){b:Int}(hb:b≠0)(nm:Str){e:Int}(he:e=tTo (aa K a0)):TyL T K a0 (a0+1) (jS b nm (ab (aa K a0)) (tTo (aa K a0)) e):=by
 subst he
 have hl:=w.lt a0 h0.1 h0.2 hz
 refine⟨by omega,w.succ h0 hz,rfl,?_,Int.le_refl 0,rfl,rfl,⟨tTo (aa K a0),⟨hl,fun h=>absurd h (by decide),rfl⟩,Int.le_refl _,fun _=>?_⟩,hb⟩<;>rw[show a0+1-1=a0 by omega]
 rfl
theorem TyL.mark(w:WS T K){a0 a:Int}{x:Nd}(h0:0≤a0)(h:TyL T K a0 a x)(hz:Nz K a)(hs:say T (aa K a)=[63])(h32:dF x (ah x)=32):TyL T K a0 (a+1) (dW x 63 (nW1 x) (tTo (aa K a))):=by
 obtain⟨l,e1,e2,e3⟩:=h.es
 have e3:=e3 h32
 have h1:=h.lt
 have hq:qOK T l=true:=by
  rw[e3]
  refine Th w (a:=a-1) (by omega) (by have:=h.inn.2;omega) ?_
  rw[show a-1+1=a by omega]
  exact hs
 have hml:=h.ml
 have hd:=h.d0
 have hne:ag x≠[]:=fun hh=>by rw[hh]at hml;simp at hml;omega
 have htk:(ag x).take (ah x).toNat=(ag x).dropLast:=by
  rw[List.dropLast_eq_take]
  congr 1
  omega
 have hmm:dF (dW x 63 (nW1 x) (tTo (aa K a))) (ah x)=63:=by
  show(((((ag x).take (ah x).toNat++[63]).getD (ah x).toNat 0).toNat:Nat):Int)=63
  rw[List.getD_eq_getElem?_getD,List.getElem?_append_right (by rw[List.length_take];omega),List.length_take,show(ah x).toNat-min (ah x).toNat (ag x).length=0 by omega]
  rfl
 refine⟨by omega,w.succ h.inn hz,h.w1,?_,hd,h.el,?_,⟨l,?_,?_,fun h63=>?_⟩,h.b0⟩
 ·rw[show a+1-1=a by omega]
  rfl
 ·show(((ag x).take (ah x).toNat++[63]).length:Int)=ah x+1
  rw[List.length_append,List.length_take,List.length_singleton]
  omega
 ·show fb T (nW1 x) (aI x) ((ag x).take (ah x).toNat++[63]) l
  rw[htk]
  exact fb.last e1 hne fun _=>hq
 ·show l≤tTo (aa K a)
  rw[e3]
  exact(w.le (a:=a-1) (b:=a) (by omega) (by omega) h.inn.2).2
 ·have h63:dF (dW x 63 (nW1 x) (tTo (aa K a))) (ah x)=32:=h63
  rw[hmm]at h63
  exact absurd h63 (by decide)
theorem TyL.dim(w:WS T K){a0 a:Int}{x:Nd}(h0:0≤a0)(h:TyL T K a0 a x)(hz:Nz K a)(hz2:Nz K (a+1)):TyL T K a0 (a+1+1) (p9 x (tTo (aa K (a+1)))):=by
 obtain⟨l,e1,e2,e3⟩:=h.es
 have h1:=h.lt
 have i1:=w.succ h.inn hz
 have i2:=w.succ i1 hz2
 have hl:l<tTo (aa K (a+1)):=by
  have s1:=w.sep (a:=a-1) (b:=a+1) (by omega) (by omega) i1.2
  have s2:=w.lt (a+1) (by omega) i1.2 hz2
  have:=h.w2
  omega
 refine⟨by omega,i2,h.w1,?_,by show 0≤ah x+1;have:=h.d0;omega,?_,?_,⟨tTo (aa K (a+1)),fb.snoc (fun h=>absurd h (by decide)) e1 hl,Int.le_refl _,fun _=>?_⟩,h.b0⟩
 ·rw[show a+1+1-1=a+1 by omega]
  rfl
 ·show((aI x++[_]).length:Int)=ah x+1+1
  have:=h.el
  rw[List.length_append,List.length_singleton]
  omega
 ·show((ag x++[32]).length:Int)=ah x+1+1
  have:=h.ml
  rw[List.length_append,List.length_singleton]
  omega
 ·rw[show a+1+1-1=a+1 by omega]
theorem Li(w:WS T K){a:Int}(h:In K a):PP (jD T K) a fun x a'=>a'=a+1∧TyL T K a (a+1) x:=by
 refine PP.bind cy fun t a' h=>?_
 obtain⟨rfl,rfl⟩:=h
 refine PP.bif (fun hk=>?_) fun _=>PP.flt
 have hz:Nz K a':=iz hk (by decide)
 have one:∀(b:Int) (nm:Str),b≠0→PP ((aJ K).bind fun e=>Pm.ret (jS b nm (ab (aa K a')) (tTo (aa K a')) e)) a' fun x a''=>a''=a'+1∧TyL T K a' (a'+1) x:=fun b nm hb=>
  PP.bind (cf hz) fun e a'' h2=>PP.ret ⟨h2.1,TyL.base w h hz hb nm h2.2⟩
 exact PP.bif (fun _=>one 1 [] (by decide)) fun _=>PP.bif (fun _=>one 2 [] (by decide)) fun _=>PP.bif (fun _=>one 3 [] (by decide)) fun _=>PP.bif (fun _=>one 4 [] (by decide)) fun _=>PP.bif (fun _=>one 5 _ (by decide)) fun _=>PP.flt
theorem p8(w:WS T K){a0:Int}(h0:0≤a0):∀(n:Nat) (a:Int) (x:Nd),TyL T K a0 a x→PP (cP T K n x) a fun y a'=>TyL T K a0 a' y
 |0,_,_,_=>PP.bad
 |n+1,a,x,h=>by
  refine PP.bind cy fun t a' h2=>?_
  obtain⟨rfl,rfl⟩:=h2
  refine PP.bind (mn _) fun b a'' h2=>?_
  obtain⟨rfl,h2⟩:=h2
  refine PP.bif (fun hb=>PP.bif (fun _=>PP.flt) fun hc=>?_) fun _=>?_
  ·obtain⟨hz,hs⟩:=h2 hb
   rw[Bool.or_eq_false_iff]at hc
   have h32:dF x (ah x)=32:=by simpa [bne]using hc.2
   refine PP.bind (cf hz) fun e a3 h3=>?_
   obtain⟨rfl,rfl⟩:=h3
   exact p8 w h0 n _ _ (TyL.mark w h0 h hz hs h32)
  ·refine PP.bind nE fun z a3 h3=>?_
   obtain⟨rfl,h3⟩:=h3
   refine PP.bind (mn _) fun b a4 h4=>?_
   obtain⟨rfl,h4⟩:=h4
   refine PP.bif (fun hb=>PP.bif (fun _=>PP.flt) fun _=>?_) fun _=>PP.ret h
   rw[Bool.and_eq_true]at hb
   obtain⟨hz,_⟩:=h4 hb.1
   have i1:=w.succ h.inn hz
   have hz2:Nz K (a4+1):=fun h0=>by
    rcases h3 with h3|⟨_,h3⟩
    ·rw[h3]at hb
     exact absurd hb.2 (by decide)
    ·rw[h3,w.wf.fin (a4+1) i1.1 i1.2 h0]at hb
     exact absurd (show(([]:List UInt8)==[93])=true from hb.2) (by decide)
   refine PP.bind (cf hz) fun e a5 h5=>?_
   obtain⟨rfl,rfl⟩:=h5
   refine PP.bind (cf hz2) fun e a6 h6=>?_
   obtain⟨rfl,rfl⟩:=h6
   exact p8 w h0 n _ _ (TyL.dim w h0 h hz hz2)
theorem sa(w:WS T K){a:Int}(h:In K a):PP (dB T K) a fun x a'=>TyL T K a a' x:=
 PP.bind (Li w h) fun x a' h2=>by
  obtain⟨rfl,h2⟩:=h2
  exact p8 w h.1 _ _ x h2
structure TyQ(T:List UInt8)(K:List Tok)(a0 a:Int)(x:Nd):Prop where
 lt:a0<a
 inn:In K a
 w1:ab (aa K a0)≤nW1 x
 w2:nW2 x≤tTo (aa K (a-1))
 d0:0≤ah x
 el:((aI x).length:Int)=ah x+1
 ml:((ag x).length:Int)=ah x+1
 es:∃l,fb T (nW1 x) (aI x) (ag x) l∧l≤nW2 x
 b0:ar x≠0
theorem TyL.q{a0 a:Int}{x:Nd}(h:TyL T K a0 a x):TyQ T K a0 a x:=by
 obtain⟨l,e1,e2,_⟩:=h.es
 exact⟨h.lt,h.inn,Int.le_of_eq h.w1.symm,Int.le_of_eq h.w2,h.d0,h.el,h.ml,⟨l,e1,e2⟩,h.b0⟩
theorem oE(w:WS T K)(v:Bool){a:Int}(h:In K a):PP (cC T K v) a fun x a'=>TyQ T K a a' x:=by
 refine PP.bind cy fun t a' h2=>?_
 obtain⟨rfl,rfl⟩:=h2
 refine PP.bif (fun hk=>?_) fun _=>PP.bif (fun hk=>?_) fun _=>fun d A=>?_
 ·rw[Bool.and_eq_true]at hk
  have hz:Nz K a':=iz hk.2 (by decide)
  have i1:=w.succ h hz
  refine PP.bind (cf hz) fun e a2 h2=>?_
  obtain⟨rfl,rfl⟩:=h2
  refine PP.bind (bm _) fun e a3 h3=>?_
  obtain⟨rfl,rfl,hz1⟩:=h3
  have i2:=w.succ i1 hz1
  refine PP.bind (sa w i2) fun x a4 h4=>?_
  refine PP.bind (bm _) fun e a5 h5=>?_
  obtain⟨rfl,rfl,hz4⟩:=h5
  refine PP.bif (fun _=>PP.flt) fun hc=>PP.ret ?_
  obtain⟨l,e1,e2,_⟩:=h4.es
  have l1:=h4.lt
  have hml:=h4.ml
  have hd:=h4.d0
  have hne:ag x≠[]:=fun hh=>by rw[hh]at hml;simp at hml;omega
  have htk:(ag x).take (ah x).toNat=(ag x).dropLast:=by
   rw[List.dropLast_eq_take]
   congr 1
   omega
  have s1:=(w.le (a:=a') (b:=a'+1+1) h.1 (by omega) i2.2).1
  refine⟨by omega,w.succ h4.inn hz4,Int.le_refl _,?_,hd,h4.el,?_,⟨l,?_,?_⟩,h4.b0⟩
  ·rw[show a4+1-1=a4 by omega]
   exact Int.le_refl _
  ·show(((ag x).take (ah x).toNat++[111]).length:Int)=ah x+1
   rw[List.length_append,List.length_take,List.length_singleton]
   omega
  ·show fb T (ab (aa K a')) (aI x) ((ag x).take (ah x).toNat++[111]) l
   rw[htk]
   refine fb.first (a:=nW1 x) ?_ (fb.last e1 hne fun h=>absurd h (by decide)) (by simp)
   rw[h4.w1]
   exact s1
  ·show l≤tTo (aa K a4)
   have:=h4.w2
   have ha:=h.1
   have s2:=(w.le (a:=a4-1) (b:=a4) (by omega) (by omega) h4.inn.2).2
   omega
 ·rw[Bool.and_eq_true,Bool.and_eq_true]at hk
  have hz:Nz K a':=iz hk.2.1 (by decide)
  refine PP.bind (cf hz) fun e a2 h2=>PP.ret ?_
  obtain⟨rfl,rfl⟩:=h2
  exact(TyL.base w h hz (by decide) [] rfl).q
 ·have:=sa w h d A
  revert this
  cases dB T K a' d A with
  |ok y a2 d2 A2=>exact fun h=>TyL.q h
  |fault c p=>exact fun _=>trivial
  |bad=>exact fun _=>trivial
end
end Go.Sx.Tryz
namespace Go.Sx.Tryz
open Go Go.Sx
set_option maxRecDepth 100000
section
variable{T:List UInt8}{K:List Tok}
theorem M0(w:WS T K){a b:Int}(h0:0≤a)(h:a<b)(hb:In K b):Nz K a:=fun e=>by
 have h1:=hb.2
 have:=(w.wf.last a h0 (by omega)).1 e
 omega
theorem FP(w:WS T K){a0 a:Int}(h0:0≤a0)(h:a0<a)(hi:In K a):ef K a (ab (aa K a0))=tTo (aa K (a-1))∧ab (aa K a0)<tTo (aa K (a-1)):=by
 have h1:=w.lt a0 h0 (by have:=hi.2;omega) (M0 w h0 h hi)
 have h2:=(w.le (a:=a0) (b:=a-1) h0 (by omega) (by have:=hi.2;omega)).2
 have h3:ab (aa K a0)<tTo (aa K (a-1)):=by omega
 refine⟨?_,h3⟩
 unfold ef
 rw[decide_eq_true (by omega:a>0),decide_eq_true h3]
 rfl
variable{p:Kt}
end
end Go.Sx.Tryz
namespace Go.Sx.Tryz
open Go Go.Sx
set_option maxRecDepth 100000
section
variable{T:List UInt8}{K:List Tok}{p:Kt}
end
def gR(T:List UInt8):TR Tn:=ub T (bL T) (knt T (bL T) ke) 0 0 0
theorem CF(T:List UInt8):RX [] eU gT (nk T) (gR T):=Fi (xG T (bL T) ke) 0 0 [] 0 rfl
end Go.Sx.Tryz
namespace Go.Sx.Tryz
open Go Go.Sx
set_option maxRecDepth 100000
theorem E4(x:Nd)(l:List Int):ec (c8 x l)=ec (c8 x (List.replicate l.length 0)):=by
 show(bif cM (aj x)==[]then(3:Int)else bif decide ((l.length:Int)<fY (aj x))then 131 else bif decide (dZ (aj x)≥0)&&decide ((l.length:Int)>dZ (aj x))then 131 else bif !qZ (aj x)&& !(aF x==[])then 5 else bif uV x then 5 else 0)=
  (bif cM (aj x)==[]then(3:Int)else bif decide (((List.replicate l.length (0:Int)).length:Int)<fY (aj x))then 131 else bif decide (dZ (aj x)≥0)&&decide (((List.replicate l.length (0:Int)).length:Int)>dZ (aj x))then 131 else bif !qZ (aj x)&& !(aF x==[])then 5 else bif uV x then 5 else 0)
 rw[List.length_replicate]
structure NG(x:Nd)(m:Nat):Prop where
 e:ec (c8 x (List.replicate m 0))=0
 t:(aF x).length≤70000
 nm:(aB x).length≤200
 mr:(ag x).length≤50
 n:eD x=true
mutual
def Gk:Tn→Prop
 | .mk x ks=>NG x ks.length∧GkL ks
def GkL:List Tn→Prop
 |[]=>True
 |t::ts=>Gk t∧GkL ts
end
theorem GkL.app:∀{a b:List Tn},GkL a→GkL b→GkL (a++b)
 |[],_,_,h=>h
 |t::a,b,h,h'=>by
  unfold GkL at h
  show GkL (t::(a++b))
  unfold GkL
  exact⟨h.1,GkL.app h.2 h'⟩
theorem GkL.one{t:Tn}(h:Gk t):GkL [t]:=by
 unfold GkL
 exact⟨h,trivial⟩
theorem GkL.two{t u:Tn}(h:Gk t)(h':Gk u):GkL [t,u]:=GkL.app (GkL.one h) (GkL.one h')
theorem GkL.three{t u v:Tn}(h:Gk t)(h':Gk u)(h2:Gk v):GkL [t,u,v]:=GkL.app (GkL.one h) (GkL.two h' h2)
theorem NG.sp{x:Nd}{m:Nat}(h:NG x m)(f t:Int):NG (cW x f t) m:=⟨h.e,h.t,h.nm,h.mr,h.n⟩
variable{T:List UInt8}{K:List Tok}
theorem ck{x:Nd}{f:Int}{ks:List Tn}(h:NG x ks.length)(hk:GkL ks):cp (bK K x f ks) Gk:=fun a d n=>by
 unfold bK
 cases decide ((n:Int)≥8192)
 ·show Gk (.mk (cW x f (ef K a f)) ks)
  unfold Gk
  exact⟨h.sp _ _,hk⟩
 ·trivial
theorem cE{k:Int}{m:Nat}{s:Str}(h:ec (c8 (nod k [] s) (List.replicate m 0))=0)(hs:s.length≤70000):NG (nod k [] s) m:=⟨h,hs,Nat.zero_le _,Nat.zero_le _,rfl⟩
theorem oB{k n:Int}{s:Str}(h:ec (c8 (dA k n s) [])=0)(hs:s.length≤70000)(hn:eD (dA k n s)=true):NG (dA k n s) 0:=⟨h,hs,Nat.zero_le _,Nat.zero_le _,hn⟩
theorem rJ{k:Int}{m:Nat}{s:Str}(hk:(k==1||(k==8||k==17))=true∧s=[]∨(k==2)=true)(hs:s.length≤70000):NG (nod k [] s) m:=by
 refine cE ?_ hs
 have key:∀k:Int,fY k=0→dZ k= -1→(cM k==[])=false→(qZ k=true∨s=[])→uG k=false→ec (c8 (nod k [] s) (List.replicate m 0))=0:=by
  intro k h1 h2 h3 h4 h5
  show(bif cM k==[]then(3:Int)else bif decide (((List.replicate m (0:Int)).length:Int)<fY k)then 131 else bif decide (dZ k≥0)&&decide (((List.replicate m (0:Int)).length:Int)>dZ k)then 131 else bif !qZ k&& !(s==[])then 5 else bif uV (c8 (nod k [] s) (List.replicate m 0))then 5 else 0)=0
  have h6:uV (c8 (nod k [] s) (List.replicate m 0))=false:=by
   show(bif uG k then _ else _)=false
   rw[h5]
   rfl
  rw[h1,h2,h3,h6,List.length_replicate,decide_eq_false (by omega)]
  rcases h4 with h4|h4
  ·rw[h4];rfl
  ·rw[h4];simp
 rcases hk with⟨hk,rfl⟩|hk
 ·simp only[Bool.or_eq_true,beq_iff_eq]at hk
  rcases hk with rfl|rfl|rfl
  ·exact key 1 rfl rfl rfl (.inr rfl) rfl
  ·exact key 8 rfl rfl rfl (.inr rfl) rfl
  ·exact key 17 rfl rfl rfl (.inr rfl) rfl
 ·have hk:k=2:=by simpa using hk
  subst hk
  exact key 2 rfl rfl rfl (.inl rfl) rfl
theorem C9{k:Int}{m:Nat}{s:Str}(hk:k=5∧s=[]∨k=29)(hm:1≤m)(hs:s.length≤70000):NG (nod k [] s) m:=by
 refine cE ?_ hs
 have key:∀k:Int,fY k=1→dZ k= -1→(cM k==[])=false→(qZ k=true∨s=[])→uG k=false→ec (c8 (nod k [] s) (List.replicate m 0))=0:=by
  intro k h1 h2 h3 h4 h5
  show(bif cM k==[]then(3:Int)else bif decide (((List.replicate m (0:Int)).length:Int)<fY k)then 131 else bif decide (dZ k≥0)&&decide (((List.replicate m (0:Int)).length:Int)>dZ k)then 131 else bif !qZ k&& !(s==[])then 5 else bif uV (c8 (nod k [] s) (List.replicate m 0))then 5 else 0)=0
  have h6:uV (c8 (nod k [] s) (List.replicate m 0))=false:=by
   show(bif uG k then _ else _)=false
   rw[h5]
   rfl
  rw[h1,h2,h3,h6,List.length_replicate,decide_eq_false (by omega)]
  rcases h4 with h4|h4
  ·rw[h4];rfl
  ·rw[h4];simp
 rcases hk with⟨rfl,rfl⟩|rfl
 ·exact key 5 rfl rfl rfl (.inr rfl) rfl
 ·exact key 29 rfl rfl rfl (.inl rfl) rfl
structure TyR(x:Nd):Prop where
 r:bq (ar x) (aB x) (ah x) (ag x)=true
 nm:(aB x).length≤64
 tx:aF x=[]
 n:nN x=0
theorem TyR.mk5{x:Nd}(h:TyR x):(ag x).length≤5:=by
 have:=qA h.r
 omega
theorem qR{y:Nd}{k:Int}{m:Nat}{s:Str}(h:TyR y)(hy:uG k=true)(hn:(cM k==[])=false)(hl:fY k≤m)(hm:dZ k= -1∨(m:Int)≤dZ k)(ht:qZ k=true∨s=[])(hs:s.length≤70000):NG (bQ y k [] s) m:=by
 refine⟨?_,hs,by have:=h.nm;show(aB y).length≤200;omega,by have:=h.mk5;show(ag y).length≤50;omega,?_⟩
 ·show(bif cM k==[]then(3:Int)else bif decide (((List.replicate m (0:Int)).length:Int)<fY k)then 131 else bif decide (dZ k≥0)&&decide (((List.replicate m (0:Int)).length:Int)>dZ k)then 131 else bif !qZ k&& !(s==[])then 5 else bif uV (c8 (bQ y k [] s) (List.replicate m 0))then 5 else 0)=0
  have h6:uV (c8 (bQ y k [] s) (List.replicate m 0))=false:=by
   show(bif uG k then !bq (ar y) (aB y) (ah y) (ag y)else _)=false
   rw[hy,h.r]
   rfl
  have h7:(decide (dZ k≥0)&&decide ((m:Int)>dZ k))=false:=by
   rcases hm with hm|hm
   ·rw[hm];rfl
   ·rw[decide_eq_false (by omega:¬(m:Int)>dZ k),Bool.and_false]
  rw[hn,h6,List.length_replicate,decide_eq_false (by omega),h7]
  rcases ht with h4|h4
  ·rw[h4];rfl
  ·rw[h4];simp
 ·unfold eD
  show(decide (-9223372036854775808≤nN y)&&decide (nN y≤9223372036854775807))=true
  rw[h.n]
  rfl
end Go.Sx.Tryz
namespace Go.Sx.Tryz
open Go Go.Sx
set_option maxRecDepth 100000
theorem CL{s:List UInt8}{v:Int}(h:Lib.parseIntB 64 s= .ok v): -9223372036854775808≤v∧v≤9223372036854775807:=by
 have e:(2:Nat)^(64-1)=9223372036854775808:=by decide
 cases s with
 |nil=>cases h
 |cons c r=>
  simp only[Lib.parseIntB,e]at h
  generalize Lib.parseUintB 64 (if c.toNat=43∨c.toNat=45 then r else c::r)=q at h
  rcases q with u|_|_
  ·simp only at h
   by_cases hn:c.toNat=45
   ·simp only[hn,not_true,false_and,if_false,true_and,if_true]at h
    split at h
    ·cases h
    ·rename_i h2
     simp only[Lib.NumEnd.ok.injEq]at h
     omega
   ·simp only[hn,not_false_eq_true,true_and,false_and,if_false]at h
    split at h
    ·cases h
    ·rename_i h2
     simp only[Lib.NumEnd.ok.injEq]at h
     omega
  ·cases h
  ·cases h
theorem nj:(-9223372036854775808:Int)≤0∧(0:Int)≤9223372036854775807:=⟨by decide,by decide⟩
theorem Cg(s:List UInt8): -9223372036854775808≤(kq s).1∧(kq s).1≤9223372036854775807:=by
 unfold kq
 cases !ep s
 ·cases (decide ((s.length:Int)>1)&&at8 s 0==48)
  ·cases h:(eA s).2
   ·exact nj
   ·show-9223372036854775808≤(eA s).1∧(eA s).1≤9223372036854775807
    unfold eA at h⊢
    cases hp:Lib.parseIntB 64 s with
    |ok v=>exact CL hp
    |_=>rw[hp]at h;cases h
  ·exact nj
 ·exact nj
theorem CH(n:Int): -9223372036854775808≤IntKind.wrap .i64 n∧IntKind.wrap .i64 n≤9223372036854775807:=by
 unfold IntKind.wrap
 have hb:IntKind.bits .i64=64:=rfl
 have hs:IntKind.signed .i64=true:=rfl
 simp only[hb,hs,Bool.true_and]
 split
 ·rename_i h;simp only[decide_eq_true_eq]at h;omega
 ·rename_i h;simp only[decide_eq_true_eq]at h;omega
theorem Eu{x:Nd}(h: -9223372036854775808≤nN x∧nN x≤9223372036854775807):eD x=true:=by
 unfold eD
 rw[decide_eq_true h.1,decide_eq_true h.2]
 rfl
theorem sN:∀(n:Nat) (r:List UInt8),r.length≤n→(nc r).length≤r.length
 |_,[],_=>Nat.zero_le _
 |_,[_],_=>Nat.zero_le _
 |0,c::d::r,h=>by simp at h
 |n+1,c::d::r,h=>by
  have h1:=sN n (d::r) (by simpa using h)
  have h2:=sN n r (by simp at h;omega)
  unfold nc
  cases (c.toNat:Int)==92
  ·simp only[cond_false,List.length_cons]at h1⊢
   omega
  ·simp only[cond_true,List.length_cons]
   omega
theorem JW(s:List UInt8):(kK s).1.length≤s.length:=by
 unfold kK
 cases s==[]
 ·cases at8 s 0 !=34
  ·cases rp s 0 !=0
   ·cases ld s 0 !=s.length
    ·have:=sN _ (s.drop 1) (Nat.le_refl _)
     rw[List.length_drop]at this
     show(nc (s.drop 1)).length≤_
     omega
    ·exact Nat.zero_le _
   ·exact Nat.zero_le _
  ·exact Nat.zero_le _
 ·exact Nat.zero_le _
theorem qH{s:List UInt8}(h:bW s=true):s.length≤64∧s≠[]:=by
 unfold bW at h
 simp only[Bool.and_eq_true,decide_eq_true_eq,Bool.not_eq_true']at h
 refine⟨by omega,fun e=>?_⟩
 rw[e]at h
 exact absurd h.2.1 (by decide)
theorem mY{b d:Int}:∀(m:List UInt8) (i:Int),(∀(j:Nat) (c:UInt8),m[j]? =some c→c=32∨(c=63∧(i+j=0→b=5))∨(c=111∧(i+j=0→b=5)∧d≤i+j))→gh b d i m=true
 |[],_,_=>rfl
 |c::m,i,h=>by
  unfold gh
  rw[Bool.and_eq_true]
  refine⟨?_,mY m (i+1) fun j c' hc=>?_⟩
  ·have h0:=h 0 c rfl
   have hb:∀h1:(i+((0:Nat):Int)=0→b=5),(bif i==0 then b==5 else true)=true:=fun h1=>by
    cases e:i==0
    ·rfl
    ·have e:i=0:=by simpa using e
     rw[h1 (by omega)]
     rfl
   unfold okM
   rcases h0 with rfl|⟨rfl,h1⟩|⟨rfl,h1,h2⟩
   ·rfl
   ·show(bif i==0 then b==5 else true)=true
    exact hb h1
   ·show((bif i==0 then b==5 else true)&& !decide (i<d))=true
    rw[hb h1,decide_eq_false (by omega)]
    rfl
  ·have:=h (j+1) c' (by simpa using hc)
   rw[show i+1+(j:Int)=i+((j+1:Nat):Int) by omega]
   exact this
structure TyI(x:Nd):Prop where
 b:1≤ar x∧ar x≤5
 nb:(ar x==5)=(aB x !=[])
 d:0≤ah x∧ah x≤4
 ml:((ag x).length:Int)=ah x+1
 mo:∀(j:Nat) (c:UInt8),(ag x)[j]? =some c→c=32∨(c=63∧((j:Int)=0→ar x=5))
 nm:(aB x).length≤64
 tx:aF x=[]
 n:nN x=0
theorem yT{b d:Int}{n m:List UInt8}(hb:1≤b∧b≤6)(hn:(b==5)=(n !=[]))(hd:0≤d∧d≤4)(hm:(m.length:Int)=d+1)(h6:b=6→d=0)(hk:gh b d 0 m=true):bq b n d m=true:=by
 unfold bq
 rw[decide_eq_false (by omega:¬d<0),decide_eq_false (by omega:¬d>4),decide_eq_false (by omega:¬b<1),decide_eq_false (by omega:¬b>6),hn,hk,show((m.length:Int)==d+1)=true by rw[hm];simp]
 have:(b==6&&decide (d>0))=false:=by
  cases e:b==6
  ·rfl
  ·have e:b=6:=by simpa using e
   rw[decide_eq_false (by have:=h6 e;omega)]
   rfl
 rw[this]
 simp
theorem TyI.r{x:Nd}(h:TyI x):TyR x:=⟨yT ⟨h.b.1,by have:=h.b.2;omega⟩ h.nb h.d h.ml (fun h6=>by have:=h.b.2;omega) (mY _ 0 fun j c hc=>by
 rcases h.mo j c hc with h1|⟨h1,h2⟩
 ·exact .inl h1
 ·exact .inr (.inl ⟨h1,fun h0=>h2 (by omega)⟩)),h.nm,h.tx,h.n⟩
variable{T:List UInt8}{K:List Tok}
theorem Ec:Ens (bc T K) fun t=>t.2.length≤T.length:=fun a d A=>by
 show(say T (aa K a)).length≤T.length
 unfold say
 rw[List.length_drop,List.length_take]
 omega
theorem lU:Ens (cY T K) fun s=>bW s=true:=.then fun t=>.bif (fun h=>.then fun _=>.ret (by rw[Bool.and_eq_true]at h;exact h.2)) fun _=>.flt
theorem kJ{b w1 w2 e:Int}{nm:Str}(hb:1≤b∧b≤5)(hn:(b==5)=(nm !=[]))(hl:nm.length≤64):TyI (jS b nm w1 w2 e):=by
 refine⟨hb,hn,⟨Int.le_refl _,show(0:Int)≤4 by decide⟩,rfl,fun j c hc=>?_,hl,rfl,rfl⟩
 have hc:([32]:List UInt8)[j]? =some c:=hc
 match j,hc with
 |0,hc=>cases hc;exact .inl rfl
 |j+1,hc=>simp at hc
theorem ID:Ens (jD T K) TyI:=.then fun t=>.bif (fun _=>.bif (fun _=>.then fun _=>.ret (kJ ⟨by decide,by decide⟩ rfl (Nat.zero_le _))) fun _=>.bif (fun _=>.then fun _=>.ret (kJ ⟨by decide,by decide⟩ rfl (Nat.zero_le _))) fun _=>
 .bif (fun _=>.then fun _=>.ret (kJ ⟨by decide,by decide⟩ rfl (Nat.zero_le _))) fun _=>.bif (fun _=>.then fun _=>.ret (kJ ⟨by decide,by decide⟩ rfl (Nat.zero_le _))) fun _=>.bif (fun h=>.then fun _=>.ret (by
  obtain⟨h1,h2⟩:=qH h
  exact kJ ⟨by decide,by decide⟩ (by simp[bne,h2]) h1)) fun _=>.flt) fun _=>.flt
theorem za{x:Nd}(h:((ag x).length:Int)=ah x+1)(hd:0≤ah x){m:UInt8}{j:Nat}{c:UInt8}(hc:((ag x).take (ah x).toNat++[m])[j]? =some c):(ag x)[j]? =some c∨(c=m∧(j:Int)=ah x):=by
 by_cases hj:j<(ah x).toNat
 ·rw[List.getElem?_append_left (by rw[List.length_take];omega),List.getElem?_take_of_lt hj]at hc
  exact .inl hc
 ·rw[List.getElem?_append_right (by rw[List.length_take];omega),List.length_take]at hc
  have:j-min (ah x).toNat (ag x).length=0:=by
   cases hz:j-min (ah x).toNat (ag x).length with
   |zero=>rfl
   |succ z=>rw[hz]at hc;simp at hc
  rw[this]at hc
  cases hc
  exact .inr ⟨rfl,by omega⟩
theorem pQ:∀(n:Nat) (x:Nd),TyI x→Ens (cP T K n x) TyI
 |0,_,_=>.bad
 |n+1,x,h=>.then fun _=>.then fun _=>.bif (fun _=>.bif (fun _=>.flt) fun hc=>.then fun _=>pQ n _ (by
   rw[Bool.or_eq_false_iff,Bool.and_eq_false_iff]at hc
   refine⟨h.b,h.nb,h.d,?_,fun j c hj=>?_,h.nm,h.tx,h.n⟩
   ·show(((ag x).take (ah x).toNat++[63]).length:Int)=ah x+1
    have:=h.ml
    have:=h.d
    rw[List.length_append,List.length_take,List.length_singleton]
    omega
   ·rcases za h.ml h.d.1 hj with h1|⟨rfl,h2⟩
    ·exact h.mo j c h1
    ·refine .inr ⟨rfl,fun h0=>?_⟩
     rcases hc.1 with h3|h3
     ·show ar x=5
      simpa [bne]using h3
     ·have:¬ah x=0:=by simpa using h3
      omega)) fun _=>.then fun _=>.then fun _=>.bif (fun _=>.bif (fun _=>.flt) fun hc=>.then fun _=>.then fun _=>pQ n _ (by
   have h4:¬ah x=4:=by simpa using hc
   have hd:=h.d
   refine⟨h.b,h.nb,⟨by show 0≤ah x+1;omega,by show ah x+1≤4;omega⟩,?_,fun j c hj=>?_,h.nm,h.tx,h.n⟩
   ·show((ag x++[32]).length:Int)=ah x+1+1
    have:=h.ml
    rw[List.length_append,List.length_singleton]
    omega
   ·have hj:(ag x++[32])[j]? =some c:=hj
    by_cases hl:j<(ag x).length
    ·rw[List.getElem?_append_left hl]at hj
     exact h.mo j c hj
    ·rw[List.getElem?_append_right (by omega)]at hj
     cases hz:j-(ag x).length with
     |zero=>rw[hz]at hj;cases hj;exact .inl rfl
     |succ z=>rw[hz]at hj;simp at hj)) fun _=>.ret h
theorem qo:Ens (dB T K) TyI:=.bind ID fun x h=>pQ _ x h
theorem lJ(v:Bool):Ens (cC T K v) TyR:=.then fun _=>.bif (fun _=>.then fun _=>.then fun _=>.bind qo fun x h=>.then fun e=>.bif (fun _=>.flt) fun hc=>.ret (by
  rw[Bool.or_eq_false_iff,Bool.and_eq_false_iff]at hc
  have hd:=h.d
  refine⟨yT ⟨h.b.1,by have:=h.b.2;show ar x≤6;omega⟩ h.nb h.d ?_ (fun h6=>by have:=h.b.2;have h6:ar x=6:=h6;omega) (mY _ 0 fun j c hj=>?_),h.nm,h.tx,h.n⟩
  ·show(((ag x).take (ah x).toNat++[111]).length:Int)=ah x+1
   have:=h.ml
   rw[List.length_append,List.length_take,List.length_singleton]
   omega
  ·rcases za h.ml h.d.1 hj with h1|⟨rfl,h2⟩
   ·rcases h.mo j c h1 with h3|⟨h3,h4⟩
    ·exact .inl h3
    ·exact .inr (.inl ⟨h3,fun h0=>h4 (by omega)⟩)
   ·refine .inr (.inr ⟨rfl,fun h0=>?_,by show ah x≤0+(j:Int);omega⟩)
    rcases hc.1 with h3|h3
    ·show ar x=5
     simpa [bne]using h3
    ·have:¬ah x=0:=by simpa using h3
     omega)) fun _=>.bif (fun _=>.then fun _=>.ret ⟨rfl,Nat.zero_le _,rfl,rfl⟩) fun _=>fun a d A=>by
  have:=qo (T:=T) (K:=K) a d A
  cases e:dB T K a d A with
  |ok y a' d' A'=>rw[e]at this;exact TyI.r this
  |fault c p=>trivial
  |bad=>trivial
end Go.Sx.Tryz
namespace Go.Sx.Tryz
open Go Go.Sx
set_option maxRecDepth 100000
variable{T:List UInt8}{K:List Tok}{p:Kt}
theorem fC{α:Type}{m:Pm α}{Q:α→Prop}(h:Ens m Q):cp (lft m) Q:=fun a d n=>by
 have:=h a d []
 unfold lft
 cases e:m a d []with
 |ok y a' d' A'=>rw[e]at this;exact this
 |fault c p=>trivial
 |bad=>trivial
structure GK(p:Kt):Prop where
 val:cp p.val Gk
 blk:cp p.blk Gk
 un:cp p.un Gk
theorem gE(h:GK p):cp (cF T K p) Gk:=.then fun _=>.bind h.val fun x hx=>.then fun _=>.ret hx
theorem EB(h:GK p):∀(n:Nat) (L:List Tn),GkL L→cp (fW T K p n L) GkL
 |0,_,_=>.bad
 |n+1,L,hL=>.then fun _=>.bif (fun _=>.ret hL) fun _=>.then fun _=>.then fun _=>.bind h.val fun x hx=>EB h n _ (hL.app (GkL.one hx))
theorem Cf(h:GK p):cp (oe T K p) GkL:=.then fun _=>EB h _ _ trivial
theorem yR{x:Nd}{e:Int}(hx:NG x 0):cp (gq T K x e) Gk:=.then fun _=>.bif (fun _=>.flt) fun _=>.then fun _=>ck (ks:=[]) hx trivial
def GM(x:Nd×List Tn):Prop:=NG x.1 x.2.length∧GkL x.2
theorem mA{s:Str}(h:bW s=true):s.length≤70000:=by have:=(qH h).1;omega
theorem QE(h:GK p):cp (ur T K p) GM:=.bind (fC qo) fun x hx=>.then fun _=>.bif (fun _=>.bif (fun _=>.flt) fun _=>.bind (Cf h) fun l hl=>.ret ⟨by
  rw[hx.tx]
  exact qR hx.r rfl rfl (Int.natCast_nonneg _) (.inl rfl) (.inr rfl) (Nat.zero_le _),hl⟩) fun _=>.then fun _=>.bind h.val fun y hy=>.then fun _=>.ret ⟨by
  rw[hx.tx]
  exact qR hx.r rfl rfl (Int.le_refl 1) (.inr (Int.le_refl 1)) (.inr rfl) (Nat.zero_le _),GkL.one hy⟩
theorem zE(s:Str):qO s=39∨qO s=36∨qO s=37∨qO s=41:=by
 unfold qO
 cases s==[97,115,107]
 ·cases s==[116,111,105,110,116]
  ·cases s==[116,111,100,111,117,98,108,101]
   ·exact .inr (.inr (.inr rfl))
   ·exact .inr (.inr (.inl rfl))
  ·exact .inr (.inl rfl)
 ·exact .inl rfl
theorem OT(h:GK p)(t:Tok)(s:Str):cp (nM T K p t s) Gk:=by
 have v:∀k n:Int,ec (c8 (dA k n []) [])=0→eD (dA k n [])=true→cp (gq T K (dA k n []) 0) Gk:=fun k n h1 h2=>yR (oB h1 (Nat.zero_le _) h2)
 refine .bif (fun _=>v 21 1 rfl rfl) fun _=>.bif (fun _=>v 21 0 rfl rfl) fun _=>.bif (fun _=>v 23 0 rfl rfl) fun _=>.bif (fun _=>v 42 0 rfl rfl) fun _=>.bif (fun _=>v 24 0 rfl rfl) fun _=>?_
 refine .bif (fun _=>.then fun _=>.then fun _=>.then fun _=>ck (ks:=[]) (cE rfl (Nat.zero_le _)) trivial) fun _=>?_
 refine .bif (fun _=>.then fun _=>.bind (gE h) fun x hx=>ck (ks:=[x]) ?_ (GkL.one hx)) fun _=>?_
 ·rcases zE s with e|e|e|e<;>rw[e]<;>exact cE rfl (Nat.zero_le _)
 refine .bif (fun _=>.then fun _=>.then fun _=>.bind (fC (lJ _)) fun y hy=>.then fun _=>.bind (gE h) fun x hx=>ck (ks:=[x]) ?_ (GkL.one hx)) fun _=>?_
 ·rw[hy.tx]
  exact qR hy rfl rfl (Int.le_refl 1) (.inr (Int.le_refl 1)) (.inr rfl) (Nat.zero_le _)
 exact .bif (fun _=>.then fun _=>.bind (QE h) fun x hx=>ck hx.1 hx.2) fun _=>.flt
theorem Fs(hT:T.length≤65536)(h:GK p):cp (cm T K p) Gk:=by
 refine .bind (fC Ec) fun t ht=>?_
 refine .bif (fun _=>yR (oB rfl (Nat.zero_le _) (Eu (Cg _)))) fun _=>.bif (fun _=>yR (oB rfl (by omega) (Eu (CH _)))) fun _=>?_
 refine .bif (fun _=>yR (oB rfl (by have:=JW t.2;omega) rfl)) fun _=>.bif (fun _=>.bif (fun _=>gE h) fun _=>.flt) fun _=>?_
 exact .bif (fun _=>.bif (fun _=>yR (oB rfl (by omega) rfl)) fun _=>OT h _ _) fun _=>.flt
theorem Pf(h:GK p){x:Tn}(hx:Gk x)(f:Int):cp (qK T K p x f) Gk:=.then fun _=>.bif (fun _=>ck (ks:=[x]) (cE rfl (Nat.zero_le _)) (GkL.one hx)) fun _=>.then fun _=>.bif (fun _=>ck (ks:=[x]) (cE rfl (Nat.zero_le _)) (GkL.one hx)) fun _=>
 .bind (fC lU) fun s hs=>.then fun _=>.bif (fun _=>.bind (Cf h) fun l hl=>ck (ks:=x::l) (C9 (.inr rfl) (by simp) (mA hs)) (GkL.app (GkL.one hx) hl)) fun _=>ck (ks:=[x]) (cE rfl (mA hs)) (GkL.one hx)
theorem lH(h:GK p)(f:Int):∀(n:Nat) (x:Tn),Gk x→cp (aV T K p f n x) Gk
 |0,_,_=>.bad
 |n+1,x,hx=>.then fun _=>.bif (fun _=>.bind (ck (ks:=[x]) (cE rfl (Nat.zero_le _)) (GkL.one hx)) fun y hy=>lH h f n y hy) fun _=>
  .then fun _=>.bif (fun _=>.bind h.val fun y hy=>.then fun _=>.bind (ck (ks:=[x,y]) (cE rfl (Nat.zero_le _)) (GkL.two hx hy)) fun z hz=>lH h f n z hz) fun _=>
  .then fun _=>.bif (fun _=>.bind (Pf h hx f) fun y hy=>lH h f n y hy) fun _=>.ret hx
theorem JD(hT:T.length≤65536)(h:GK p):cp (dY T K p) Gk:=.then fun _=>.bind (Fs hT h) fun x hx=>lH h _ _ x hx
theorem Ki(hT:T.length≤65536)(h:GK p):cp (ja T K p) Gk:=.then fun t=>.bif (fun _=>.then fun _=>.then fun _=>.bind h.un fun x hx=>.then fun _=>ck (ks:=[x]) (by
  cases t.2==[45]
  ·exact cE rfl (Nat.zero_le _)
  ·exact cE rfl (Nat.zero_le _)) (GkL.one hx)) fun _=>JD hT h
theorem om(hT:T.length≤65536){sub:Tm Tn}(hs:cp sub Gk)(least f:Int):∀(n:Nat) (x:Tn),Gk x→cp (bG T K least f sub n x) Gk
 |0,_,_=>.bad
 |n+1,x,hx=>.bind (fC Ec) fun t ht=>.bif (fun _=>.then fun _=>.bind hs fun y hy=>.bind (ck (ks:=[x,y]) (cE rfl (by omega)) (GkL.two hx hy)) fun z hz=>om hT hs least f n z hz) fun _=>
  .bif (fun _=>.then fun _=>.bif (fun _=>.then fun _=>.bif (fun _=>.bind (ck (ks:=[x]) (cE rfl (Nat.zero_le _)) (GkL.one hx)) fun z hz=>om hT hs least f n z hz) fun _=>.then fun _=>.bind (ck (ks:=[x]) (cE rfl (Nat.zero_le _)) (GkL.one hx)) fun z hz=>om hT hs least f n z hz) fun _=>.ret hx) fun _=>.ret hx
theorem yn(hT:T.length≤65536)(h:GK p):∀j:Nat,cp (bD T K p j) Gk
 |0=>.then fun _=>h.un
 |j+1=>.then fun _=>.bind (yn hT h j) fun x hx=>om hT (yn hT h j) _ _ _ x hx
theorem LS(hT:T.length≤65536)(h:GK p):cp (dd T K p) Gk:=.then fun _=>.bind (yn hT h 6) fun x hx=>.then fun _=>.ret hx
def GW2(w:(Nd×List Tn)×Bool):Prop:=w.2=true→GM w.1
theorem Ob(h:GK p)(s:Str):cp (sK T K p s) GW2:=by
 refine .bif (fun _=>.then fun _=>.bind (gE h) fun x hx=>.bind h.blk fun y hy=>.then fun _=>.bif (fun _=>.bind h.blk fun z hz=>.ret fun _=>⟨cE rfl (Nat.zero_le _),GkL.three hx hy hz⟩) fun _=>.ret fun _=>⟨cE rfl (Nat.zero_le _),GkL.two hx hy⟩) fun _=>?_
 refine .bif (fun _=>.then fun _=>.bind (gE h) fun x hx=>.bind h.blk fun y hy=>.ret fun _=>⟨cE rfl (Nat.zero_le _),GkL.two hx hy⟩) fun _=>?_
 refine .bif (fun _=>.then fun _=>.then fun _=>.ret fun _=>⟨cE rfl (Nat.zero_le _),trivial⟩) fun _=>?_
 refine .bif (fun _=>.then fun _=>.then fun _=>.ret fun _=>⟨cE rfl (Nat.zero_le _),trivial⟩) fun _=>?_
 refine .bif (fun _=>.then fun _=>.then fun _=>.bif (fun _=>.then fun _=>.ret fun _=>⟨cE rfl (Nat.zero_le _),trivial⟩) fun _=>.bind h.val fun x hx=>.then fun _=>.ret fun _=>⟨cE rfl (Nat.zero_le _),GkL.one hx⟩) fun _=>?_
 refine .bif (fun _=>.then fun _=>.bind (gE h) fun x hx=>.then fun _=>.ret fun _=>⟨cE rfl (Nat.zero_le _),GkL.one hx⟩) fun _=>?_
 refine .bif (fun _=>.then fun _=>.bind (Cf h) fun l hl=>.then fun _=>.ret fun _=>⟨rJ (.inl ⟨rfl,rfl⟩) (Nat.zero_le _),hl⟩) fun _=>?_
 exact .ret fun h=>by cases h
theorem D6(h:GK p)(f:Int):cp (ny T K p f) Gk:=.bind h.val fun x hx=>.then fun _=>.then fun _=>.bif (fun _=>.bif (fun _=>.bind h.val fun y hy=>.then fun _=>ck (ks:=[x,y]) (cE rfl (Nat.zero_le _)) (GkL.two hx hy)) fun _=>.flt) fun _=>
 .bif (fun _=>.then fun _=>ck (ks:=[x]) (cE rfl (Nat.zero_le _)) (GkL.one hx)) fun _=>.flt
theorem NL(h:GK p):cp (wH T K p) Gk:=.then fun _=>.bif (fun _=>h.blk) fun _=>.then fun _=>.bif (fun _=>.bind (fC (lJ _)) fun y hy=>.bind (fC lU) fun s hs=>.then fun _=>
  .bif (fun _=>.bind h.val fun x hx=>.then fun _=>ck (ks:=[x]) (qR hy rfl rfl (show(0:Int)≤1 by decide) (.inr (Int.le_refl 1)) (.inl rfl) (mA hs)) (GkL.one hx)) fun _=>.then fun _=>ck (ks:=[]) (qR hy rfl rfl (Int.le_refl 0) (.inr (show(0:Int)≤1 by decide)) (.inl rfl) (mA hs)) trivial) fun _=>
 .bif (fun _=>.bind (Ob h _) fun w hw=>.bif (fun hb=>ck (hw hb).1 (hw hb).2) fun _=>D6 h _) fun _=>D6 h _
theorem zp(h:GK p)(f:Int):∀(n:Nat) (L:List Tn),GkL L→cp (ix T K p f n L) Gk
 |0,_,_=>.bad
 |n+1,L,hL=>.then fun _=>.bif (fun _=>.then fun _=>.then fun _=>ck (rJ (.inl ⟨rfl,rfl⟩) (Nat.zero_le _)) hL) fun _=>.bind (NL h) fun x hx=>zp h f n _ (hL.app (GkL.one hx))
theorem Kl(h:GK p):cp (nw T K p) Gk:=.then fun _=>.then fun _=>.then fun _=>zp h _ _ _ trivial
theorem x9(hT:T.length≤65536):∀n,GK (knt T K n)
 |0=>⟨.bad,.bad,.bad⟩
 |n+1=>⟨LS hT (x9 hT n),Kl (x9 hT n),Ki hT (x9 hT n)⟩
theorem uZ:∀(n:Nat) (L:List Tn),GkL L→cp (gH T K n L) GkL
 |0,_,_=>.bad
 |n+1,L,hL=>.then fun _=>.bif (fun _=>.ret hL) fun _=>.then fun _=>.then fun _=>.then fun _=>.bind (fC (lJ _)) fun y hy=>.bind (fC lU) fun s hs=>
  .bind (ck (ks:=[]) (qR hy rfl rfl (Int.le_refl 0) (.inr (Int.le_refl 0)) (.inl rfl) (mA hs)) trivial) fun z hz=>uZ n _ (hL.app (GkL.one hz))
theorem zN:cp (ka T K) GkL:=.then fun _=>uZ _ _ trivial
theorem J6(h:GK p):cp (lO T K p) Gk:=.then fun _=>.bif (fun _=>.then fun _=>.bind zN fun l hl=>.bind h.blk fun b hb=>ck (C9 (.inl ⟨rfl,rfl⟩) (by simp) (Nat.zero_le _)) (hl.app (GkL.one hb))) fun _=>
 .bind (fC (lJ _)) fun y hy=>.bind (fC lU) fun s hs=>.then fun _=>.bif (fun _=>.bind zN fun l hl=>.bind h.blk fun b hb=>ck (qR hy rfl rfl (by
   show(1:Int)≤((l++[b]).length:Int)
   rw[List.length_append,List.length_singleton]
   omega) (.inl rfl) (.inl rfl) (mA hs)) (hl.app (GkL.one hb))) fun _=>.bif (fun _=>.flt) fun _=>.then fun _=>ck (ks:=[]) (qR hy rfl rfl (Int.le_refl 0) (.inr (Int.le_refl 0)) (.inl rfl) (mA hs)) trivial
theorem sJ(h:GK p)(f:Int){s:Str}(hs:s.length≤70000):∀(n:Nat) (L:List Tn),GkL L→cp (gv T K p f s n L) Gk
 |0,_,_=>.bad
 |n+1,L,hL=>.then fun _=>.bif (fun _=>.then fun _=>ck (rJ (.inr rfl) hs) hL) fun _=>.then fun _=>.bind (J6 h) fun x hx=>sJ h f hs n _ (hL.app (GkL.one hx))
theorem L6(h:GK p):cp (qc T K p) Gk:=.then fun _=>.then fun _=>.bind (fC lU) fun s hs=>.then fun _=>.then fun _=>.bif (fun _=>.bind (fC lU) fun e he=>.bind (ck (ks:=[]) (cE rfl (mA he)) trivial) fun y hy=>.then fun _=>sJ h _ (mA hs) _ _ (GkL.one hy)) fun _=>.then fun _=>sJ h _ (mA hs) _ _ trivial
theorem tv(h:GK p):∀(n:Nat) (L:List Tn),GkL L→cp (dk T K p n L) fun t=>Gk t∧aj t.data=1
 |0,_,_=>.bad
 |n+1,L,hL=>.then fun _=>.bif (fun _=>fun a d m=>by
   have:=ck (K:=K) (x:=nod 1 [] []) (f:=0) (ks:=L) (rJ (.inl ⟨rfl,rfl⟩) (Nat.zero_le _)) hL a d m
   unfold bK at this⊢
   revert this
   cases decide ((m:Int)≥8192)
   ·exact fun h=>⟨h,rfl⟩
   ·exact fun _=>trivial) fun _=>.then fun _=>.bind (L6 h) fun x hx=>tv h n _ (hL.app (GkL.one hx))
theorem Is{T:List UInt8}(h:de T=0){t:Tn}{a d:Int}{n:Nat}(ht:gR T= .ok t a d n):Gk t∧aj t.data=1:=by
 have hT:=(lex_wf h).len
 have:=tv (T:=T) (K:=bL T) (x9 (K:=bL T) hT ke) ((bL T).length+2) [] trivial 0 0 0
 have e:dk T (bL T) (knt T (bL T) ke) ((bL T).length+2) [] 0 0 0= .ok t a d n:=ht
 rw[e]at this
 exact this
end Go.Sx.Tryz
namespace Go.Sx.Tryz
open Go Go.Sx Go.Proofs
set_option maxRecDepth 100000
end Go.Sx.Tryz
namespace Go.Sx.Tryz
theorem bt{α:Type}{b:Bool}{x y:α}(h:b=true):(bif b then x else y)=x:=by rw[h];rfl
theorem bn{α:Type}{b:Bool}{x y:α}(h:b=false):(bif b then x else y)=y:=by rw[h];rfl
end Go.Sx.Tryz
namespace Go.Sx.Tryz
open Go Go.Sx Go.Proofs
set_option maxRecDepth 100000
theorem nC(P S:List Nd)(d:Nd)(l:List Tn):af (P++(Tn.mk d l).flat P.length++S) (eT P.length (.mk d l)).toNat=c8 d (roots P.length l):=by
 have e2:(eT P.length (.mk d l)).toNat=(P++Tn.flats P.length l).length:=by
  rw[eT,List.length_append,Tn.flats_len,Tn.size]
  omega
 rw[e2,Tn.flat,←List.append_assoc,List.append_assoc]
 unfold af
 rw[List.getD_eq_getElem?_getD,List.getElem?_append_right (Nat.le_refl _),Nat.sub_self]
 rfl
section
variable{T:List UInt8}{L:List Nd}{r l i:Int}{x:Nd}
end
theorem EY{T:List UInt8}{y:Unit}{a d:Int}{A:List Nd}(hl:de T=0)(h:nk T= .ok y a d A):Inv (bL T) a d A:=by
 have hE:=qk hl
 rw[h]at hE
 exact hE.2.inv
end Go.Sx.Tryz
namespace Go.Sx.Tryz
open Go Go.Sx
set_option maxRecDepth 100000
theorem kC(i:Int)(x:Nd)(r:List Nd)(u:List Int):cD i (x::r) u=bif ec x !=0 then .inl (ec x)else match eZ i (ai x) u with
  | .inl c=>.inl c
  | .inr u'=>cD (i+1) r u':=rfl
theorem mQ:∀(A B:List Nd) (i:Int) (u:List Int),cD i (A++B) u=match cD i A u with
  | .inl c=>.inl c
  | .inr u'=>cD (i+A.length) B u'
 |[],B,i,u=>by
  show cD i B u=cD (i+((0:Nat):Int)) B u
  rw[show i+((0:Nat):Int)=i by omega]
 |x::A,B,i,u=>by
  show cD i (x::(A++B)) u=_
  rw[kC,kC i x A u]
  cases ec x !=0
  ·simp only[cond_false]
   cases eZ i (ai x) u with
   |inl c=>rfl
   |inr u'=>
    simp only
    rw[mQ A B (i+1) u',show i+1+(A.length:Int)=i+((x::A).length:Int) by simp;omega]
  ·rfl
theorem wK(u:List Int)(k:Nat)(v:Int)(j:Nat)(hk:k<u.length):bE (oA u k v) j=if j=k then v else bE u j:=by
 unfold bE oA
 rw[List.getD_eq_getElem?_getD,List.getD_eq_getElem?_getD,List.getElem?_set]
 by_cases h:k=j
 ·subst h
  simp[hk]
 ·simp only[h,if_false]
  rw[if_neg (fun e=>h e.symm)]
theorem wU{i:Int}:∀(l:List Int) (u:List Int),(∀k∈l,0≤k∧k<i∧k.toNat<u.length∧bE u k.toNat=0)→l.Nodup→∃u',eZ i l u= .inr u'∧u'.length=u.length∧∀j:Nat,bE u' j=if(j:Int)∈l then 1 else bE u j
 |[],u,_,_=>⟨u,rfl,rfl,fun j=>by simp⟩
 |k::l,u,h,hn=>by
  obtain⟨h1,h2,h3,h4⟩:=h k (by simp)
  rw[List.nodup_cons]at hn
  obtain⟨u',e1,e2,e3⟩:=wU (i:=i) l (oA u k.toNat 1) (fun q hq=>by
   obtain⟨q1,q2,q3,q4⟩:=h q (by simp[hq])
   refine⟨q1,q2,by simpa [oA]using q3,?_⟩
   rw[wK _ _ _ _ h3,if_neg,q4]
   intro e
   have:q=k:=by omega
   subst this
   exact hn.1 hq) hn.2
  refine⟨u',?_,by rw[e2];simp[oA],fun j=>?_⟩
  ·unfold eZ
   rw[decide_eq_false (by omega:¬k<0),decide_eq_false (by omega:¬k≥i),decide_eq_false (by omega:¬bE u k.toNat>0)]
   exact e1
  ·rw[e3,wK _ _ _ _ h3]
   by_cases hj:(j:Int)=k
   ·have hj2:j=k.toNat:=by omega
    rw[if_pos (show(j:Int)∈k::l by rw[hj];simp),if_pos hj2]
    split<;>rfl
   ·have hj2:¬j=k.toNat:=by omega
    rw[if_neg hj2]
    by_cases hm:(j:Int)∈l
    ·rw[if_pos hm,if_pos (by simp[hm])]
    ·rw[if_neg hm,if_neg (by simp[hm,hj])]
theorem size_pos(t:Tn):1≤t.size:=by
 obtain⟨x,ks⟩:=t
 rw[Tn.size]
 omega
theorem jk:∀(ts:List Tn) (o:Nat) (k:Int),k∈roots o ts→(o:Int)≤k∧k<((o+Tn.sizes ts:Nat):Int)
 |[],_,_,h=>by cases h
 |t::ts,o,k,h=>by
  have hp:=size_pos t
  rw[roots,List.mem_cons]at h
  rw[Tn.sizes]
  rcases h with rfl|h
  ·omega
  ·have:=jk ts (o+t.size) k h
   omega
theorem qS:∀(ts:List Tn) (o:Nat),(roots o ts).Nodup
 |[],_=>List.nodup_nil
 |t::ts,o=>by
  rw[roots,List.nodup_cons]
  refine⟨fun h=>?_,qS ts _⟩
  have:=jk ts (o+t.size) _ h
  omega
structure Mk(o n:Nat)(l:List Int)(u u':List Int):Prop where
 len:u'.length=u.length
 out:∀j:Nat,j<o∨o+n≤j→bE u' j=bE u j
 inn:∀j:Nat,o≤j→j<o+n→bE u' j=if(j:Int)∈l then 0 else 1
mutual
theorem Jz:∀(t:Tn) (o:Nat) (u:List Int),Gk t→o+t.size≤u.length→(∀j:Nat,o≤j→j<o+t.size→bE u j=0)→∃u',cD (o:Int) (t.flat o) u= .inr u'∧Mk o t.size [eT o t] u u'
 | .mk x ks,o,u,hg,hu,hz=>by
  unfold Gk at hg
  rw[Tn.size]at hu hz
  obtain⟨u1,e1,m1⟩:=EV ks o u hg.2 (by omega) (fun j h1 h2=>hz j h1 (by omega))
  have hk:∀k∈roots o ks,0≤k∧k<((o+Tn.sizes ks:Nat):Int)∧k.toNat<u1.length∧bE u1 k.toNat=0:=fun k hk=>by
   have hr:=jk ks o k hk
   refine⟨by omega,hr.2,by rw[m1.len];omega,?_⟩
   rw[m1.inn k.toNat (by omega) (by omega),if_pos]
   rwa [show((k.toNat:Nat):Int)=k by omega]
  obtain⟨u2,e2,l2,g2⟩:=wU (i:=((o+Tn.sizes ks:Nat):Int)) (roots o ks) u1 hk (qS ks o)
  refine⟨u2,?_,?_⟩
  ·rw[Tn.flat,mQ,e1]
   simp only
   rw[show(o:Int)+((Tn.flats o ks).length:Int)=((o+Tn.sizes ks:Nat):Int) by rw[Tn.flats_len];omega]
   rw[kC]
   have he:ec (c8 x (roots o ks))=0:=by
    rw[E4,fB]
    exact hg.1.e
   rw[he]
   show(match eZ ((o+Tn.sizes ks:Nat):Int) (roots o ks) u1 with
    | .inl c=>Sum.inl c
    | .inr u'=>cD _ [] u')=_
   rw[e2]
   rfl
  ·have hp:Tn.sizes ks+1=(Tn.mk x ks).size:=by rw[Tn.size]
   refine⟨by rw[l2,m1.len],fun j hj=>?_,fun j h1 h2=>?_⟩
   ·rw[←hp]at hj
    rw[g2,if_neg,m1.out j (by omega)]
    intro hm
    have:=jk ks o _ hm
    omega
   ·rw[←hp]at h2
    rw[g2]
    have hroot:((j:Int)∈[eT o (.mk x ks)])↔j=o+Tn.sizes ks:=by
     rw[List.mem_singleton,eT,Tn.size]
     omega
    by_cases hj:j=o+Tn.sizes ks
    ·rw[if_pos (hroot.2 hj),if_neg,m1.out j (by omega),hz j h1 (by omega)]
     intro hm
     have:=jk ks o _ hm
     omega
    ·rw[if_neg (fun h=>hj (hroot.1 h))]
     by_cases hm:(j:Int)∈roots o ks
     ·rw[if_pos hm]
     ·rw[if_neg hm,m1.inn j h1 (by omega),if_neg hm]
theorem EV:∀(ts:List Tn) (o:Nat) (u:List Int),GkL ts→o+Tn.sizes ts≤u.length→(∀j:Nat,o≤j→j<o+Tn.sizes ts→bE u j=0)→∃u',cD (o:Int) (Tn.flats o ts) u= .inr u'∧Mk o (Tn.sizes ts) (roots o ts) u u'
 |[],o,u,_,_,_=>⟨u,rfl,rfl,fun _ _=>rfl,fun j h1 h2=>by
  have h2:j<o+0:=h2
  omega⟩
 |t::ts,o,u,hg,hu,hz=>by
  unfold GkL at hg
  rw[Tn.sizes]at hu hz
  obtain⟨u1,e1,m1⟩:=Jz t o u hg.1 (by omega) (fun j h1 h2=>hz j h1 (by omega))
  obtain⟨u2,e2,m2⟩:=EV ts (o+t.size) u1 hg.2 (by rw[m1.len];omega) (fun j h1 h2=>by
   rw[m1.out j (by omega)]
   exact hz j (by omega) (by omega))
  refine⟨u2,?_,?_⟩
  ·rw[Tn.flats,mQ,e1]
   simp only
   rw[show(o:Int)+((t.flat o).length:Int)=((o+t.size:Nat):Int) by rw[Tn.flat_len];omega]
   exact e2
  ·refine⟨by rw[m2.len,m1.len],fun j hj=>?_,fun j h1 h2=>?_⟩
   ·rw[Tn.sizes]at hj
    rw[m2.out j (by omega),m1.out j (by omega)]
   ·rw[Tn.sizes]at h2
    simp only[roots,List.mem_cons]
    by_cases hj:j<o+t.size
    ·rw[m2.out j (by omega),m1.inn j h1 hj]
     have hn:¬(j:Int)∈roots (o+t.size) ts:=fun hm=>by
      have:=jk ts _ _ hm
      omega
     simp only[List.mem_singleton,hn,or_false]
     rfl
    ·rw[m2.inn j (by omega) (by omega)]
     have hn:¬(j:Int)=((o+t.size:Nat):Int)-1:=by omega
     simp only[hn,false_or]
end
theorem r5{t:Tn}(hg:Gk t)(hk:aj t.data=1)(hs:t.size≤8192):dC (t.flat 0) ((t.size:Int)-1)=0:=by
 have hp:=size_pos t
 have hl:=Tn.flat_len 0 t
 obtain⟨u,e,m⟩:=Jz t 0 (List.replicate (t.flat 0).length 0) hg (by simp[hl]) (fun j _ h2=>by
  unfold bE
  rw[List.getD_eq_getElem?_getD,List.getElem?_replicate]
  split<;>rfl)
 have e:cD 0 (t.flat 0) (List.replicate (t.flat 0).length 0)= .inr u:=e
 unfold dC
 rw[e,hl,decide_eq_false (by omega:¬((t.size:Int)>16384)),show((t.size:Int)==0)=false from beq_eq_false_iff_ne.2 (by omega),show((t.size:Int)-1 !=(t.size:Int)-1)=false by simp]
 have hroot:aj (af (t.flat 0) ((t.size:Int)-1).toNat)=1:=by
  obtain⟨d,l⟩:=t
  have:=nC [] [] d l
  simp only[List.length_nil,List.nil_append,List.append_nil]at this
  rw[show((((Tn.mk d l).size:Int)-1))=eT 0 (.mk d l) by rw[eT];omega,this]
  exact hk
 rw[hroot]
 show nK (u.take (t.size-1))=0
 unfold nK
 have:(u.take (t.size-1)).any (· ==0)=false:=by
  rw[List.any_eq_false]
  intro v hv
  obtain⟨j,hj,rfl⟩:=List.mem_iff_getElem.1 hv
  rw[List.length_take]at hj
  have h1:=m.inn j (by omega) (by omega)
  have hne:¬((j:Int)∈[eT 0 t]):=by
   rw[List.mem_singleton,eT]
   omega
  rw[if_neg hne]at h1
  unfold bE at h1
  rw[List.getD_eq_getElem?_getD]at h1
  have hju:j<u.length:=by omega
  rw[List.getElem?_eq_getElem hju]at h1
  rw[List.getElem_take]
  simp only[Option.getD_some]at h1
  rw[h1]
  decide
 rw[this]
 rfl
mutual
theorem yu(Q:Nd→Prop)(hQ:∀x l,NG x l.length→Q (c8 x l)):∀(t:Tn) (o:Nat),Gk t→∀y∈t.flat o,Q y
 | .mk x ks,o,hg,y,hy=>by
  unfold Gk at hg
  rw[Tn.flat]at hy
  rcases List.mem_append.1 hy with hy|hy
  ·exact zo Q hQ ks o hg.2 y hy
  ·rw[List.mem_singleton]at hy
   subst hy
   exact hQ x _ (by rw[fB];exact hg.1)
theorem zo(Q:Nd→Prop)(hQ:∀x l,NG x l.length→Q (c8 x l)):∀(ts:List Tn) (o:Nat),GkL ts→∀y∈Tn.flats o ts,Q y
 |[],_,_,_,hy=>by cases hy
 |t::ts,o,hg,y,hy=>by
  unfold GkL at hg
  rw[Tn.flats]at hy
  rcases List.mem_append.1 hy with hy|hy
  ·exact yu Q hQ t o hg.1 y hy
  ·exact zo Q hQ ts _ hg.2 y hy
end
theorem Ge{t:Tn}(hg:Gk t)(o:Nat):(t.flat o).all eD=true:=List.all_eq_true.2 (yu (fun y=>eD y=true) (fun _ _ h=>h.n) t o hg)
theorem IK{t:Tn}(hg:Gk t)(hs:t.size≤8192)(hk:∀x∈t.flat 0,(ai x).length≤20000):jg (t.flat 0)=true:=by
 unfold jg
 rw[Tn.flat_len,decide_eq_true (by omega),Bool.true_and,List.all_eq_true]
 intro y hy
 have h2:=yu (fun y=>(aF y).length≤70000∧(aB y).length≤200∧(ag y).length≤50) (fun _ _ h=>⟨h.t,h.nm,h.mr⟩) t 0 hg y hy
 unfold fV
 rw[decide_eq_true (hk y hy),decide_eq_true h2.1,decide_eq_true h2.2.1,decide_eq_true h2.2.2]
 rfl
end Go.Sx.Tryz
namespace Go.Sx.Tryz
open Go Go.Sx
set_option maxRecDepth 100000
mutual
def oS:Tn→List UInt8
 | .mk x ks=>hdS x++ll ks++[41]
def ll:List Tn→List UInt8
 |[]=>[]
 |t::ts=>[32]++oS t++ll ts
end
theorem BT(L:List Nd)(f i:Nat):nV L (f+1) i=hdS (af L i)++(ai (af L i)).flatMap (fun k=>[32]++nV L f k.toNat)++[41]:=rfl
mutual
theorem J4(L S:List Nd):∀(t:Tn) (P:List Nd) (f:Nat),L=P++t.flat P.length++S→P.length+t.size≤f→nV L f (P.length+t.size-1)=oS t
 | .mk x ks,P,0,_,hf=>by
  rw[Tn.size]at hf
  omega
 | .mk x ks,P,f+1,hL,hf=>by
  have hr:af L (P.length+(Tn.mk x ks).size-1)=c8 x (roots P.length ks):=by
   have:=nC P S x ks
   rw[←hL]at this
   rw[show P.length+(Tn.mk x ks).size-1=(eT P.length (.mk x ks)).toNat by rw[eT];omega]
   exact this
  have hL2:L=P++Tn.flats P.length ks++([c8 x (roots P.length ks)]++S):=by
   rw[hL,Tn.flat]
   simp[List.append_assoc]
  rw[Tn.size]at hf
  rw[BT,hr,oS]
  show hdS x++(roots P.length ks).flatMap (fun k=>[32]++nV L f k.toNat)++[41]=_
  rw[Ej L _ ks P f hL2 (by omega)]
theorem Ej(L S:List Nd):∀(ts:List Tn) (P:List Nd) (f:Nat),L=P++Tn.flats P.length ts++S→P.length+Tn.sizes ts≤f→(roots P.length ts).flatMap (fun k=>[32]++nV L f k.toNat)=ll ts
 |[],_,_,_,_=>rfl
 |t::ts,P,f,hL,hf=>by
  rw[Tn.sizes]at hf
  have hp:=size_pos t
  have hL2:L=P++t.flat P.length++(Tn.flats (P.length+t.size) ts++S):=by
   rw[hL,Tn.flats]
   simp[List.append_assoc]
  have hP:(P++t.flat P.length).length=P.length+t.size:=by rw[List.length_append,Tn.flat_len]
  have h1:=J4 L _ t P f hL2 (by omega)
  have h2:=Ej L S ts (P++t.flat P.length) f (by rw[hL2,hP];simp[List.append_assoc]) (by rw[hP];omega)
  rw[hP]at h2
  rw[roots,List.flatMap_cons,h2,ll]
  rw[show(((P.length+t.size:Nat):Int)-1).toNat=P.length+t.size-1 by omega,h1]
end
theorem JT{L P S:List Nd}{t:Tn}(hL:L=P++t.flat P.length++S):cK L (P.length+t.size-1)=oS t:=by
 have hp:=size_pos t
 exact J4 L S t P _ hL (by omega)
structure Rn(x y:Nd):Prop where
 k:aj x=aj y
 t:aF x=aF y
 b:ar x=ar y
 nm:aB x=aB y
 d:ah x=ah y
 m:ag x=ag y
 n:nN x=nN y
mutual
def Et:Tn→Tn→Prop
 | .mk x ks,u=>Rn x u.data∧EtL ks u.kids
def EtL:List Tn→List Tn→Prop
 |[],us=>us=[]
 |t::ts,us=>∃u us',us=u::us'∧Et t u∧EtL ts us'
end
theorem NT{x y:Nd}(h:Rn x y):hdS x=hdS y:=by
 unfold hdS tyS
 rw[h.k,h.t,h.b,h.nm,h.d,h.m,h.n]
mutual
theorem DE:∀(t u:Tn),Et t u→oS t=oS u
 | .mk x ks,.mk y ls,h=>by
  unfold Et at h
  rw[oS,oS,NT h.1,AW ks ls h.2]
  rfl
theorem AW:∀(ts us:List Tn),EtL ts us→ll ts=ll us
 |[],us,h=>by
  have h:us=[]:=h
  subst h
  rfl
 |t::ts,us,h=>by
  unfold EtL at h
  obtain⟨u,us',rfl,h1,h2⟩:=h
  rw[ll,ll,DE t u h1,AW ts us' h2]
end
theorem EtL.snoc:∀{ts us:List Tn} {t u:Tn},EtL ts us→Et t u→EtL (ts++[t]) (us++[u])
 |[],us,t,u,h,h'=>by
  have h:us=[]:=h
  subst h
  show EtL [t] [u]
  unfold EtL
  exact⟨u,[],rfl,h',rfl⟩
 |a::ts,us,t,u,h,h'=>by
  unfold EtL at h
  obtain⟨b,us',rfl,h1,h2⟩:=h
  show EtL (a::(ts++[t])) _
  unfold EtL
  exact⟨b,us'++[u],rfl,h1,EtL.snoc h2 h'⟩
theorem EtL.nil:EtL [] []:=rfl
theorem EtL.cons{t u:Tn}{ts us:List Tn}(h:Et t u)(h':EtL ts us):EtL (t::ts) (u::us):=by
 unfold EtL
 exact⟨u,us,rfl,h,h'⟩
theorem EtL.one{t u:Tn}(h:Et t u):EtL [t] [u]:=.cons h .nil
theorem EtL.len:∀{ts us:List Tn},EtL ts us→ts.length=us.length
 |[],us,h=>by
  have h:us=[]:=h
  rw[h]
 |t::ts,us,h=>by
  unfold EtL at h
  obtain⟨u,us',rfl,h1,h2⟩:=h
  simp[EtL.len h2]
end Go.Sx.Tryz
namespace Go.Sx.Tryz
open Go Go.Sx
set_option maxRecDepth 100000
def SR{α β:Type}(R:α→β→Prop)(r:TR α)(r':TR β):Prop:=match r,r' with
 | .ok y a d n,.ok y' a' d' n'=>R y y'∧a=a'∧d=d'∧n=n'
 | .fault c _,.fault c' _=>c=c'
 | .bad,.bad=>True
 |_,_=>False
def Rq(t u:Tok×Str):Prop:=ak t.1=ak u.1∧t.2=u.2
section
variable{T T':List UInt8}{K K':List Tok}
theorem lF{b w1 w2 e w1' w2' e':Int}{n n':Str}(hn:n=n'):Rn (jS b n w1 w2 e) (jS b n' w1' w2' e'):=⟨rfl,rfl,rfl,hn,rfl,rfl,rfl⟩
theorem EP{x y:Nd}(h:Rn x y)(c:UInt8){w1 w2 w1' w2':Int}:Rn (dW x c w1 w2) (dW y c w1' w2'):=⟨h.k,h.t,h.b,h.nm,h.d,by
 show(ag x).take (ah x).toNat++[c]=(ag y).take (ah y).toNat++[c]
 rw[h.m,h.d],h.n⟩
theorem PJ{x y:Nd}(h:Rn x y){e e':Int}:Rn (p9 x e) (p9 y e'):=⟨h.k,h.t,h.b,h.nm,by
 show ah x+1=ah y+1
 rw[h.d],by
 show ag x++[32]=ag y++[32]
 rw[h.m],h.n⟩
theorem mark_eq{x y:Nd}(h:Rn x y):dF x (ah x)=dF y (ah y):=by
 unfold dF
 rw[h.m,h.d]
end
end Go.Sx.Tryz
namespace Go.Sx.Tryz
open Go Go.Sx
set_option maxRecDepth 100000
theorem E7{r:List UInt8}:cz r=0↔ax aG r=0∧Lib.hasPrefix r [47,47]=false:=by
 unfold cz
 rw[cn]
 constructor
 ·intro h
  cases hh:Lib.hasPrefix (r.drop (ax aG r)) [47,47]with
  |false=>
   rw[hh]at h
   have h:ax aG r=0:=h
   rw[h,List.drop_zero]at hh
   exact⟨h,hh⟩
  |true=>
   rw[hh]at h
   simp only[cond_true]at h
   have h1:ax aG r=0:=by omega
   rw[h1,List.drop_zero]at hh h
   obtain⟨r',e⟩:=rO hh
   rw[e,fG]at h
   have e2:nl (((47:UInt8).toNat:Nat):Int)=true:=by decide
   rw[e2]at h
   simp at h
 ·rintro ⟨h1,h2⟩
  rw[h1,List.drop_zero,h2]
  rfl
end Go.Sx.Tryz
namespace Go.Sx.Tryz
open Go Go.Sx
set_option maxRecDepth 100000
end Go.Sx.Tryz
namespace Go.Sx.Tryz
open Go Go.Sx
set_option maxRecDepth 100000
theorem nS{p:Int→Bool}{x:UInt8}(hx:p x.toNat=false):∀(s r:List UInt8),ax p (s++x::r)=ax p s
 |[],r=>by
  show ax p (x::r)=0
  rw[bS,hx]
  rfl
 |c::s,r=>by
  show ax p (c::(s++x::r))=_
  rw[bS,bS,nS hx s r]
theorem ou(p:Int→Bool):∀s:List UInt8,ax p s≤s.length
 |[]=>Nat.le_refl _
 |c::s=>by
  rw[bS]
  cases p c.toNat
  ·exact Nat.zero_le _
  ·exact Nat.succ_le_succ (ou p s)
theorem LZ{w r0:List UInt8}{k:Int}(h:ed (w++r0)=(k,0,w.length))(hw:0<w.length){x:UInt8}(hx:F6 x=true)(r:List UInt8):ed (w++(r0++x::r))=(k,0,w.length):=by
 cases hr0:r0 with
 |nil=>exact O3 h hw hx r
 |cons c0 r1=>
  have hl2:2≤(w++r0).length:=by rw[List.length_append,hr0,List.length_cons];omega
  rw[←hr0]
  clear hr0
  obtain⟨x1,x2,x3,x4⟩:=zk hx
  have h0:=iR r0 (r0++x::r) hw
  unfold ed at h⊢
  rw[h0]
  revert h
  cases hL:isLet (at8 (w++r0) 0)
  ·cases hD:aC (at8 (w++r0) 0)
   ·cases hQ:at8 (w++r0) 0==34
    ·simp only[cond_false]
     intro h
     have e1:(w++(r0++x::r)).take 2=(w++r0).take 2:=by
      rw[←List.append_assoc,List.take_append_of_le_length hl2]
     have e2:at8 (w++(r0++x::r)) 1=at8 (w++r0) 1:=by
      rw[←List.append_assoc]
      have:=iR (w:=w++r0) [] (x::r) (i:=1) (by omega)
      rw[List.append_nil]at this
      exact this
     have hlen:decide (((w++(r0++x::r)).length:Int)>1)=decide (((w++r0).length:Int)>1):=by
      rw[decide_eq_true (by omega:((w++r0).length:Int)>1),decide_eq_true]
      rw[←List.append_assoc,List.length_append]
      omega
     unfold sI at h⊢
     rw[e1,e2,h0,hlen]
     exact h
    ·simp only[cond_true,cond_false]
     intro h
     obtain⟨c,u,rfl⟩:∃c u,w=c::u:=by
      cases w with
      |nil=>cases hw
      |cons c u=>exact⟨c,u,rfl⟩
     have hq:(dL (c::u++r0)).2=0∧(dL (c::u++r0)).1=u.length+1:=by
      revert h
      cases he:((dL (c::u++r0)).2==0&&decide (((dL (c::u++r0)).1:Int)>256))
      ·simp only[cond_false]
       intro h
       exact⟨congrArg (fun z=>z.2.1) h,congrArg (fun z=>z.2.2) h⟩
      ·simp only[cond_true]
       intro h
       have:=congrArg (fun z=>z.2.1) h
       simp at this
     have hF:cG (c::u++r0).length (u++r0)=(u.length,0):=by
      have e1:(cG (c::u++r0).length (u++r0)).1+1=u.length+1:=hq.2
      have e2:(cG (c::u++r0).length (u++r0)).2=0:=hq.1
      exact Prod.ext (by simp only;omega) e2
     have hF2:=n7 _ u r0 hF (c::u++(r0++x::r)).length (r0++x::r) (by simp;omega)
     have hq2:dL (c::u++(r0++x::r))=dL (c::u++r0):=by
      have e3:dL (c::u++(r0++x::r))=(u.length+1,0):=by
       show((cG (c::u++(r0++x::r)).length (u++(r0++x::r))).1+1,(cG (c::u++(r0++x::r)).length (u++(r0++x::r))).2)=_
       rw[hF2]
      rw[e3]
      exact Prod.ext hq.2.symm hq.1.symm
     rw[hq2]
     exact h
   ·simp only[cond_true,cond_false]
    intro h
    have hr:=nS x2 (w++r0) r
    rw[List.append_assoc]at hr
    have hle:=ou aC (w++r0)
    have hat:∀i,i<(w++r0).length→at8 (w++(r0++x::r)) i=at8 (w++r0) i:=fun i hi=>by
     rw[←List.append_assoc]
     have:=iR (w:=w++r0) [] (x::r) hi
     rw[List.append_nil]at this
     exact this
    have hon:at8 (w++(r0++x::r)) (w++r0).length=x.toNat:=by
     rw[←List.append_assoc]
     exact Jy (w++r0) r x
    have hc:(decide (((ax aC (w++r0):Nat):Int)+1<(w++(r0++x::r)).length)&&(at8 (w++(r0++x::r)) (ax aC (w++r0))==46&&aC (at8 (w++(r0++x::r)) (ax aC (w++r0)+1))))=(decide (((ax aC (w++r0):Nat):Int)+1<(w++r0).length)&&(at8 (w++r0) (ax aC (w++r0))==46&&aC (at8 (w++r0) (ax aC (w++r0)+1)))):=by
     generalize ax aC (w++r0)=n at hle
     have hlt:((w++r0).length:Int)<(w++(r0++x::r)).length:=by
      simp only[List.length_append,List.length_cons]
      omega
     by_cases h1:n+1<(w++r0).length
     ·rw[decide_eq_true (by omega:((n:Nat):Int)+1<(w++r0).length),decide_eq_true (by omega:((n:Nat):Int)+1<(w++(r0++x::r)).length),hat n (by omega),hat (n+1) h1]
     ·rw[decide_eq_false (by omega:¬((n:Nat):Int)+1<(w++r0).length),Bool.false_and]
      by_cases h2:n+1=(w++r0).length
      ·rw[h2,hon,x2,Bool.and_false,Bool.and_false]
      ·have h3:n=(w++r0).length:=by omega
       rw[h3,hon,x3,Bool.false_and,Bool.and_false]
    rw[hr,hc]
    cases hcc:(decide (((ax aC (w++r0):Nat):Int)+1<(w++r0).length)&&(at8 (w++r0) (ax aC (w++r0))==46&&aC (at8 (w++r0) (ax aC (w++r0)+1))))
    ·rw[hcc]at h
     exact h
    ·rw[hcc]at h
     simp only[cond_true]at h⊢
     have hn1:ax aC (w++r0)+1≤(w++r0).length:=by
      simp only[Bool.and_eq_true,decide_eq_true_eq]at hcc
      omega
     have hd:(w++(r0++x::r)).drop (ax aC (w++r0)+1)=(w++r0).drop (ax aC (w++r0)+1)++x::r:=by
      rw[←List.append_assoc,List.drop_append_of_le_length hn1]
     rw[hd,nS x2]
     exact h
  ·simp only[cond_true]
   intro h
   have hr:=nS x1 (w++r0) r
   rw[List.append_assoc]at hr
   rw[hr]
   exact h
end Go.Sx.Tryz
