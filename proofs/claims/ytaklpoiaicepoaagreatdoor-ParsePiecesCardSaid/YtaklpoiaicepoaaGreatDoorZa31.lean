/- A part of the proof: see the row's text. -/
import Derived.Test.YtaklpoiaicepoaaGreatDoorZa30
import Derived.Test.YtaklpoiaicepoaaGreatDoorZa29
set_option linter.unusedVariables false
set_option linter.unusedSimpArgs false
noncomputable section
namespace Go.Sx.Tryz
open Go Go.Sx
set_option maxRecDepth 100000
section
variable{T:List UInt8}{K:List Tok}{p:Kt}
theorem yS(w:WS T K){k j:Nat}(hj:j≤5)(hs:∀a,In K a→TP (bD T K (knt T K k) j) a (Qv T K a)){a0:Int}(h0:0≤a0):∀(n:Nat) (a:Int) (x:Tn),In K a→Pc T K a x→PreC T K j a0 a x→TP (bG T K (5-(j:Int)) (ab (aa K a0)) (bD T K (knt T K k) j) n x) a fun y a'=>a≤a'∧In K a'∧Pc T K a' y
 |0,_,_,_,_,_=>TP.bad
 |n+1,a,x,ha,hx,hp=>fun d n0=>by
  have hl:=hp.lt
  show OkQ (bG T K (5-(j:Int)) (ab (aa K a0)) (bD T K (knt T K k) j) (n+1) x a d n0) _
  have go:∀{b2:Int} {z:Tn},a<b2→In K b2→Op T K a0 b2 z→PreC T K j a0 b2 z→TP (bG T K (5-(j:Int)) (ab (aa K a0)) (bD T K (knt T K k) j) n z) b2 fun y a'=>a≤a'∧In K a'∧Pc T K a' y:=fun h1 h2 h3 h4=>(yS w hj hs h0 n _ _ h2 (h3.close h0 (by omega) (h4.rd hj)) h4).mono fun y a' h=>⟨by have:=h.1;omega,h.2⟩
  have key:=jd (T:=T) (K:=K) (5-(j:Int)) (ab (aa K a0)) (bD T K (knt T K k) j) n x a d n0
  have sg:∀{T':List UInt8} {K':List Tok} {s L:Int},Al T K T' K' s a0 L→a<L→(ak (aa K' (a+s))==5&&cU (say T' (aa K' (a+s)))==5-(j:Int))=(ak (aa K a)==5&&cU (say T (aa K a))==5-(j:Int)):=fun hA h1=>by rw[(hA.tok a (by omega) h1).1,(hA.tok a (by omega) h1).2]
  cases c1:ak (aa K a)==5&&cU (say T (aa K a))==5-(j:Int)with
  |true=>
   rw[c1]at key
   have hz:Nz K a:=iz (Bool.and_eq_true _ _▸c1).1 (by decide)
   have i1:=w.succ ha hz
   have hm:∀(T:List UInt8) (K:List Tok) (f:Int) (sub:Tm Tn) (x:Tn) (s:Str) (g:Tn→Tm Tn),(((lft (aJ K)).bind fun _=>sub.bind fun y=>bK K (nod 34 [] s) f [x,y]).bind g)=(lft (aJ K)).bind fun _=>sub.bind fun y=>(bK K (nod 34 [] s) f [x,y]).bind g:=fun T K f sub x s g=>by
    rw[Tm.bind_assoc]
    simp only[Tm.bind_assoc]
   rw[cond_true,←hm T]at key
   have hq:TP ((lft (aJ K)).bind fun _=>(bD T K (knt T K k) j).bind fun y=>bK K (nod 34 [] (say T (aa K a))) (ab (aa K a0)) [x,y]) a fun z a'=>a<a'∧In K a'∧Op T K a0 a' z:=by
    refine TP.bind (PP.lft (cf hz)) fun _ a2 h2=>?_
    obtain⟨rfl,_⟩:=h2
    refine TP.bind (hs _ i1) fun y a3 h3=>?_
    have l3:=h3.1
    refine(kb w h0 (by omega) h3.2.1 (.two (hx.up (by omega)) h3.2.2)).mono fun y a' h=>?_
    obtain⟨rfl,h⟩:=h
    exact⟨by omega,h3.2.1,h⟩
   refine TP.at (TP.bindE hq fun z a' hz he=>?_) key
   obtain⟨d1,n1,d2,n2,he⟩:=he
   have hlt:=hz.1
   refine go (by omega) hz.2.1 hz.2.2 (hp.step (by omega) fun T' K' s L hL hA m f fu x' d' n' hx'=>?_)
   rw[jd,sg hA (by omega),c1,cond_true,←hm T']
   exact Gi (a0:=a0) (L:=L) (k:=0) (.bind (dG hA).lft fun _ _ _=>.bind (n8 hA (gJ hA k m) j (by omega)) fun _ _ e2=>eV (dP (hA.tok a (by omega) (by omega)).2) (.two hx' e2)) (by omega) he hL d' n'
  |false=>
  rw[c1,cond_false]at key
  cases c2:(5-(j:Int))==3 with
  |false=>
   rw[c2,cond_false]at key
   rw[key]
   exact⟨Int.le_refl _,ha,hx⟩
  |true=>
  rw[c2,cond_true]at key
  cases c3:dD T K a [105,115]with
  |false=>
   rw[c3,cond_false]at key
   rw[key]
   exact⟨Int.le_refl _,ha,hx⟩
  |true=>
  rw[c3,cond_true]at key
  have i1:=w.succ ha (AN (jI c3))
  cases c4:dD T K (a+1) [115,111,109,101]with
  |true=>
   rw[c4,cond_true]at key
   have i2:=w.succ i1 (AN (jI c4))
   refine TP.at (TP.bindE (kb w h0 (by omega) i2 (.one (hx.up (by omega)))) fun z a' hz he=>?_) key
   obtain⟨rfl,hz⟩:=hz
   obtain⟨d1,n1,d2,n2,he⟩:=he
   refine go (by omega) i2 hz (hp.step (by omega) fun T' K' s L hL hA m f fu x' d' n' hx'=>?_)
   rw[jd,sg hA (by omega),c1,cond_false,c2,cond_true,hA.is (by omega) (by omega),c3,cond_true,show a+s+1=a+1+s by omega,hA.is (by omega) (by omega),c4,cond_true,show a+1+s+1=a+1+1+s by omega]
   exact Gi (a0:=a0) (L:=L) (k:=0) (eV (dP rfl) (.one hx')) (by omega) he hL d' n'
  |false=>
   rw[c4,cond_false]at key
   have hm:∀(T:List UInt8) (K:List Tok) (f:Int) (x:Tn) (g:Tn→Tm Tn),(((lft (aE T K [110,111,110,101])).bind fun _=>bK K (nod 44 [] []) f [x]).bind g)=(lft (aE T K [110,111,110,101])).bind fun _=>(bK K (nod 44 [] []) f [x]).bind g:=fun T K f x g=>by
    rw[Tm.bind_assoc]
   rw[←hm]at key
   have hq:TP ((lft (aE T K [110,111,110,101])).bind fun _=>bK K (nod 44 [] []) (ab (aa K a0)) [x]) (a+1) fun z a'=>a+1<a'∧In K a'∧Op T K a0 a' z:=by
    refine TP.bind (PP.lft (bm _)) fun _ a2 h2=>?_
    obtain⟨rfl,_,hz⟩:=h2
    have i2:=w.succ i1 hz
    refine(kb w h0 (by omega) i2 (.one (hx.up (by omega)))).mono fun y a' h=>?_
    obtain⟨rfl,h⟩:=h
    exact⟨by omega,i2,h⟩
   refine TP.at (TP.bindE hq fun z a' hz he=>?_) key
   obtain⟨d1,n1,d2,n2,he⟩:=he
   have hlt:=hz.1
   refine go (by omega) hz.2.1 hz.2.2 (hp.step (by omega) fun T' K' s L hL hA m f fu x' d' n' hx'=>?_)
   rw[jd,sg hA (by omega),c1,cond_false,c2,cond_true,hA.is (by omega) (by omega),c3,cond_true,show a+s+1=a+1+s by omega,hA.is (by omega) (by omega),c4,cond_false,←hm]
   exact Gi (a0:=a0) (L:=L) (k:=0) (.bind (eh hA _).lft fun _ _ _=>eV (dP rfl) (.one hx')) (by omega) he hL d' n'
theorem yc(w:WS T K){k:Nat}(h:QK T K (knt T K k)):∀j:Nat,j≤6→∀a,In K a→TP (bD T K (knt T K k) j) a (Qv T K a)
 |0,_,a,ha=>by
  refine TP.bind (PP.lft cy) fun t a1 h1=>?_
  obtain⟨rfl,rfl⟩:=h1
  exact h.un _ ha
 |j+1,hj,a,ha=>by
  refine TP.bind (PP.lft cy) fun t a1 h1=>?_
  obtain⟨rfl,rfl⟩:=h1
  refine TP.bindE (yc w h j (by omega) _ ha) fun x a2 h2 he=>?_
  obtain⟨d1,n1,d2,n2,he⟩:=he
  exact(yS w (by omega) (yc w h j (by omega)) ha.1 _ _ _ h2.2.1 h2.2.2 (.of (by omega) h2.1 he)).mono fun y a' h=>⟨by have:=h2.1;have:=h.1;omega,h.2⟩
theorem KM(w:WS T K){k:Nat}(h:QK T K (knt T K k)){a:Int}(ha:In K a):TP (dd T K (knt T K k)) a (Qv T K a):=by
 refine TP.bind (PP.lft xQ) fun _ a2 h2=>?_
 subst h2
 refine TP.bind (yc w h 6 (by omega) _ ha) fun x a3 h3=>TP.bind (PP.lft CG) fun _ a4 h4=>?_
 subst h4
 exact TP.ret h3
theorem oY{a a1 f:Int}{ks:List Tn}{x:Nd}(hx:aj x<19)(hl:a<a1)(hi:In K a1)(hk:PcL T K a1 ks):TP (bK K x f ks) a1 (Qv T K a):=(Bs hx hk).mono fun y a' h=>by
 obtain⟨rfl,h⟩:=h
 exact⟨hl,hi,h⟩
def Qw(T:List UInt8)(K:List Tok)(a:Int)(x:(Nd×List Tn)×Bool)(a':Int):Prop:=(x.2=true→a<a'∧In K a'∧aj x.1.1<19∧PcL T K a' x.1.2)∧(x.2=false→a'=a)
theorem j7{a a1 k:Int}{ks:List Tn}(hx:k<19)(hl:a<a1)(hi:In K a1)(hk:PcL T K a1 ks):Qw T K a ((nod k [] [],ks),true) a1:=⟨fun _=>⟨hl,hi,hx,hk⟩,fun h=>by cases h⟩
theorem Oy(w:WS T K)(h:QK T K p){a:Int}(ha:In K a)(hz:Nz K a)(s:Str):TP (sK T K p s) a (Qw T K a):=by
 have i1:=w.succ ha hz
 refine TP.bif (fun _=>TP.bind (PP.lft (cf hz)) fun _ a1 h1=>?_) fun _=>TP.bif (fun _=>TP.bind (PP.lft (cf hz)) fun _ a1 h1=>?_) fun _=>TP.bif (fun _=>TP.bind (PP.lft (cf hz)) fun _ a1 h1=>?_) fun _=>TP.bif (fun _=>TP.bind (PP.lft (cf hz)) fun _ a1 h1=>?_) fun _=>TP.bif (fun _=>TP.bind (PP.lft (cf hz)) fun _ a1 h1=>?_) fun _=>TP.bif (fun _=>TP.bind (PP.lft (cf hz)) fun _ a1 h1=>?_) fun _=>TP.bif (fun _=>TP.bind (PP.lft (cf hz)) fun _ a1 h1=>?_) fun _=>TP.ret ⟨fun h=>(by cases h),fun _=>rfl⟩
 ·obtain⟨rfl,_⟩:=h1
  refine TP.bind (gD w h i1) fun x a2 h2=>?_
  have l2:=h2.1
  refine TP.bind (h.blk _ h2.2.1) fun y a3 h3=>?_
  have l3:=h3.1
  refine TP.bind (PP.lft (iG _)) fun b a4 h4=>?_
  obtain⟨i4,l4,_⟩:=iK w h3.2.1 h4
  refine TP.bif (fun _=>TP.bind (h.blk _ i4) fun z a5 h5=>TP.ret ?_) fun _=>TP.ret (j7 (by decide) (by omega) i4 (.two (h2.2.2.up (by omega)) (h3.2.2.up (by omega))))
  have l5:=h5.1
  exact j7 (by decide) (by omega) h5.2.1 (PcL.app (.one (h2.2.2.up (by omega))) (.two (h3.2.2.up (by omega)) h5.2.2))
 ·obtain⟨rfl,_⟩:=h1
  refine TP.bind (gD w h i1) fun x a2 h2=>?_
  have l2:=h2.1
  refine TP.bind (h.blk _ h2.2.1) fun y a3 h3=>?_
  have l3:=h3.1
  exact TP.ret (j7 (by decide) (by omega) h3.2.1 (.two (h2.2.2.up (by omega)) h3.2.2))
 ·obtain⟨rfl,_⟩:=h1
  refine TP.bind (PP.lft (bm _)) fun _ a2 h2=>?_
  obtain⟨rfl,_,hz2⟩:=h2
  exact TP.ret (j7 (by decide) (by omega) (w.succ i1 hz2) .nil)
 ·obtain⟨rfl,_⟩:=h1
  refine TP.bind (PP.lft (bm _)) fun _ a2 h2=>?_
  obtain⟨rfl,_,hz2⟩:=h2
  exact TP.ret (j7 (by decide) (by omega) (w.succ i1 hz2) .nil)
 ·obtain⟨rfl,_⟩:=h1
  refine TP.bind (PP.lft (mn _)) fun b a2 h2=>?_
  obtain⟨rfl,_⟩:=h2
  refine TP.bif (fun _=>TP.bind (PP.lft (bm _)) fun _ a3 h3=>?_) fun _=>TP.bind (h.val _ i1) fun x a3 h3=>TP.bind (PP.lft (bm _)) fun _ a4 h4=>?_
  ·obtain⟨rfl,_,hz3⟩:=h3
   exact TP.ret (j7 (by decide) (by omega) (w.succ i1 hz3) .nil)
  ·have l3:=h3.1
   obtain⟨rfl,_,hz4⟩:=h4
   exact TP.ret (j7 (by decide) (by omega) (w.succ h3.2.1 hz4) (.one (h3.2.2.up (by omega))))
 ·obtain⟨rfl,_⟩:=h1
  refine TP.bind (gD w h i1) fun x a2 h2=>?_
  have l2:=h2.1
  refine TP.bind (PP.lft (bm _)) fun _ a3 h3=>?_
  obtain⟨rfl,_,hz3⟩:=h3
  exact TP.ret (j7 (by decide) (by omega) (w.succ h2.2.1 hz3) (.one (h2.2.2.up (by omega))))
 ·obtain⟨rfl,_⟩:=h1
  refine TP.bind (BO w h i1) fun l a2 h2=>?_
  have l2:=h2.1
  refine TP.bind (PP.lft (bm _)) fun _ a3 h3=>?_
  obtain⟨rfl,_,hz3⟩:=h3
  exact TP.ret (j7 (by decide) (by omega) (w.succ h2.2.1 hz3) (h2.2.2.up (by omega)))
theorem EE(w:WS T K)(h:QK T K p){a f:Int}(ha:In K a):TP (ny T K p f) a (Qv T K a):=by
 refine TP.bind (h.val _ ha) fun x a1 h1=>?_
 have l1:=h1.1
 refine TP.bind (PP.lft cy) fun t a2 h2=>?_
 obtain⟨rfl,rfl⟩:=h2
 refine TP.bind (PP.lft (iG _)) fun b a3 h3=>?_
 obtain⟨i3,l3,_⟩:=iK w h1.2.1 h3
 refine TP.bif (fun _=>TP.bif (fun _=>TP.bind (h.val _ i3) fun y a4 h4=>?_) fun _=>TP.flt) fun _=>TP.bif (fun _=>TP.bind (PP.lft (bm _)) fun _ a4 h4=>?_) fun _=>TP.flt
 ·have l4:=h4.1
  refine TP.bind (PP.lft (bm _)) fun _ a5 h5=>?_
  obtain⟨rfl,_,hz5⟩:=h5
  exact oY (by decide) (by omega) (w.succ h4.2.1 hz5) (.two (h1.2.2.up (by omega)) (h4.2.2.up (by omega)))
 ·obtain⟨rfl,_,hz4⟩:=h4
  exact oY (by decide) (by omega) (w.succ i3 hz4) (.one (h1.2.2.up (by omega)))
theorem O8(w:WS T K)(h:QK T K p){a:Int}(ha:In K a):TP (wH T K p) a (Qv T K a):=by
 refine TP.bind (PP.lft cy) fun t a1 h1=>?_
 obtain⟨rfl,rfl⟩:=h1
 refine TP.bif (fun _=>h.blk _ ha) fun _=>TP.bind (PP.lft yW) fun b a2 h2=>?_
 subst h2
 refine TP.bif (fun _=>TP.bind (PP.lft (oE w _ ha)) fun y a3 h3=>?_) fun _=>TP.bif (fun hk=>?_) fun _=>EE w h ha
 ·have l3:=h3.lt
  refine TP.bind (PP.lft lP) fun s a4 h4=>?_
  obtain⟨rfl,hz4,_⟩:=h4
  have i4:=w.succ h3.inn hz4
  refine TP.bind (PP.lft (iG _)) fun b a5 h5=>?_
  obtain⟨i5,l5,_⟩:=iK w i4 h5
  refine TP.bif (fun _=>TP.bind (h.val _ i5) fun x a6 h6=>TP.bind (PP.lft (bm _)) fun _ a7 h7=>?_) fun _=>TP.bind (PP.lft (bm _)) fun _ a6 h6=>?_
  ·have l6:=h6.1
   obtain⟨rfl,_,hz7⟩:=h7
   exact oY (by show(9:Int)<19;decide) (by omega) (w.succ h6.2.1 hz7) (.one (h6.2.2.up (by omega)))
  ·obtain⟨rfl,_,hz6⟩:=h6
   exact oY (by show(9:Int)<19;decide) (by omega) (w.succ i5 hz6) .nil
 ·refine TP.bind (Oy w h ha (iz hk (by decide)) _) fun x a3 h3=>TP.bif (fun hb=>?_) fun hb=>?_
  ·obtain⟨g1,g2,g3,g4⟩:=h3.1 hb
   exact oY g3 g1 g2 g4
  ·have e:=h3.2 hb
   subst e
   exact EE w h ha
theorem yQ(w:WS T K)(h:QK T K p){f a0:Int}:∀(n:Nat) (a:Int) (ks:List Tn),a0≤a→In K a→PcL T K a ks→TP (ix T K p f n ks) a (Qv T K a0)
 |0,_,_,_,_,_=>TP.bad
 |n+1,a,ks,hl,ha,hc=>by
  refine TP.bind (PP.lft (mn _)) fun b a1 h1=>?_
  obtain⟨rfl,_⟩:=h1
  refine TP.bif (fun _=>TP.bind (PP.lft (bm _)) fun _ a2 h2=>?_) fun _=>TP.bind (O8 w h ha) fun x a2 h2=>yQ w h n a2 _ (by have:=h2.1;omega) h2.2.1 ((hc.up (by have:=h2.1;omega)).app (.one h2.2.2))
  obtain⟨rfl,_,hz2⟩:=h2
  refine TP.bind (PP.lft CG) fun _ a3 h3=>?_
  subst h3
  exact oY (by decide) (by omega) (w.succ ha hz2) (hc.up (by omega))
theorem Mu(w:WS T K)(h:QK T K p){a:Int}(ha:In K a):TP (nw T K p) a (Qv T K a):=by
 refine TP.bind (PP.lft cy) fun t a1 h1=>?_
 obtain⟨rfl,rfl⟩:=h1
 refine TP.bind (PP.lft xQ) fun _ a2 h2=>?_
 subst h2
 refine TP.bind (PP.lft (bm _)) fun _ a3 h3=>?_
 obtain⟨rfl,_,hz⟩:=h3
 exact yQ w h _ _ [] (by omega) (w.succ ha hz) .nil
theorem yI(w:WS T K):∀n,QK T K (knt T K n)
 |0=>⟨fun _ _=>TP.bad,fun _ _=>TP.bad,fun _ _=>TP.bad⟩
 |n+1=>⟨fun _ ha=>KM w (yI w n) ha,fun _ ha=>Mu w (yI w n) ha,fun _ ha=>L9 w (yI w n) ha⟩
theorem vo(w:WS T K):∀(n:Nat) (a:Int) (ks:List Tn),In K a→PcL T K a ks→TP (gH T K n ks) a (Ql T K a)
 |0,_,_,_,_=>TP.bad
 |n+1,a,ks,ha,hc=>by
  refine TP.bind (PP.lft (iG _)) fun b a1 h1=>?_
  obtain⟨i1,l1,t1⟩:=iK w ha h1
  refine TP.bif (fun hb=>TP.ret ⟨t1 hb,i1,hc.up l1⟩) fun hb=>?_
  refine TP.bind (PP.lft (yV _)) fun _ a2 h2=>?_
  have hc2:In K a2∧a1≤a2:=by
   rcases h2 with rfl|⟨rfl,hz⟩
   ·exact⟨i1,Int.le_refl _⟩
   ·exact⟨w.succ i1 hz,by omega⟩
  refine TP.bind (PP.lft xo) fun _ a3 h3=>?_
  subst h3
  refine TP.bind (PP.lft cy) fun t a4 h4=>?_
  obtain⟨rfl,rfl⟩:=h4
  refine TP.bind (PP.lft (oE w _ hc2.1)) fun y a5 h5=>?_
  have l5:=h5.lt
  refine TP.bind (PP.lft lP) fun s a6 h6=>?_
  obtain⟨rfl,hz6,_⟩:=h6
  have i6:=w.succ h5.inn hz6
  refine TP.bind (Bs (T:=T) (a:=a5+1) (by show(7:Int)<19;decide) .nil) fun z a7 h7=>?_
  obtain⟨rfl,h7⟩:=h7
  exact(vo w n _ _ i6 ((hc.up (by omega)).app (.one h7))).mono fun ls a' h=>⟨by have:=h.1;omega,h.2⟩
theorem zF(w:WS T K){a:Int}(ha:In K a):TP (ka T K) a (Ql T K a):=by
 refine TP.bind (PP.lft (bm _)) fun _ a1 h1=>?_
 obtain⟨rfl,_,hz⟩:=h1
 exact(vo w _ _ [] (w.succ ha hz) .nil).mono fun ls a' h=>⟨by have:=h.1;omega,h.2⟩
theorem Jp(w:WS T K)(h:QK T K p){a:Int}(ha:In K a):TP (lO T K p) a (Qv T K a):=by
 refine TP.bind (PP.lft cy) fun t a1 h1=>?_
 obtain⟨rfl,rfl⟩:=h1
 refine TP.bif (fun hk=>?_) fun _=>TP.bind (PP.lft (oE w _ ha)) fun y a3 h3=>?_
 ·rw[Bool.and_eq_true]at hk
  have hz:Nz K a1:=iz hk.1 (by decide)
  refine TP.bind (PP.lft (cf hz)) fun _ a2 h2=>?_
  obtain⟨rfl,_⟩:=h2
  refine TP.bind (zF w (w.succ ha hz)) fun l a3 h3=>?_
  have l3:=h3.1
  refine TP.bind (h.blk _ h3.2.1) fun b a4 h4=>?_
  have l4:=h4.1
  exact oY (by decide) (by omega) h4.2.1 ((h3.2.2.up (by omega)).app (.one h4.2.2))
 ·have l3:=h3.lt
  refine TP.bind (PP.lft lP) fun s a4 h4=>?_
  obtain⟨rfl,hz4,_⟩:=h4
  have i4:=w.succ h3.inn hz4
  refine TP.bind (PP.lft (mn _)) fun b a5 h5=>?_
  obtain⟨rfl,_⟩:=h5
  refine TP.bif (fun _=>TP.bind (zF w i4) fun l a6 h6=>?_) fun _=>TP.bif (fun _=>TP.flt) fun _=>TP.bind (PP.lft (bm _)) fun _ a6 h6=>?_
  ·have l6:=h6.1
   refine TP.bind (h.blk _ h6.2.1) fun b a7 h7=>?_
   have l7:=h7.1
   exact oY (by show(6:Int)<19;decide) (by omega) h7.2.1 ((h6.2.2.up (by omega)).app (.one h7.2.2))
  ·obtain⟨rfl,_,hz6⟩:=h6
   exact oY (by show(4:Int)<19;decide) (by omega) (w.succ i4 hz6) .nil
def Qc(T:List UInt8)(K:List Tok)(a:Int)(y:Tn)(a':Int):Prop:=a<a'∧In K a'∧Pc T K (a'-1) y
theorem sZ(w:WS T K)(h:QK T K p){a0 f:Int}(s:Str):∀(n:Nat) (a:Int) (ks:List Tn),a0≤a→In K a→PcL T K a ks→TP (gv T K p f s n ks) a (Qc T K a0)
 |0,_,_,_,_,_=>TP.bad
 |n+1,a,ks,hl,ha,hc=>by
  refine TP.bind (PP.lft (mn _)) fun b a1 h1=>?_
  obtain⟨rfl,_⟩:=h1
  refine TP.bif (fun _=>TP.bind (PP.lft (bm _)) fun _ a2 h2=>?_) fun _=>TP.bind (PP.lft xo) fun _ a2 h2=>?_
  ·obtain⟨rfl,_,hz2⟩:=h2
   refine TP.self (TP.mono (Q:=fun t a'=>a'=a1+1∧Pc T K a1 t) (fun d m=>?_) fun y a' h=>h) fun y a' _ _ _ _ h _=>?_
   ·unfold bK
    cases decide ((m:Int)≥8192)
    ·refine⟨rfl,?_⟩
     unfold Pc
     exact⟨fun h=>by
      have h:(19:Int)≤2:=h
      omega,hc⟩
    ·trivial
   ·obtain⟨rfl,h⟩:=h
    exact⟨by omega,w.succ ha hz2,h.up (by omega)⟩
  ·subst h2
   exact TP.bind (Jp w h ha) fun x a2 h2=>sZ w h s n a2 _ (by have:=h2.1;omega) h2.2.1 ((hc.up (by have:=h2.1;omega)).app (.one h2.2.2))
theorem K9(w:WS T K)(h:QK T K p){a:Int}(ha:In K a):TP (qc T K p) a (Qc T K a):=by
 refine TP.bind (PP.lft cy) fun t a1 h1=>?_
 obtain⟨rfl,rfl⟩:=h1
 refine TP.bind (PP.lft (bm _)) fun _ a2 h2=>?_
 obtain⟨rfl,_,hz⟩:=h2
 have i1:=w.succ ha hz
 refine TP.bind (PP.lft lP) fun s a3 h3=>?_
 obtain⟨rfl,hz3,_⟩:=h3
 have i3:=w.succ i1 hz3
 refine TP.bind (PP.lft cy) fun u a4 h4=>?_
 obtain⟨rfl,rfl⟩:=h4
 refine TP.bind (PP.lft (iG _)) fun b a5 h5=>?_
 obtain⟨i5,l5,_⟩:=iK w i3 h5
 refine TP.bif (fun hb=>TP.bind (PP.lft lP) fun e a6 h6=>?_) fun hb=>TP.bind (PP.lft (bm _)) fun _ a6 h6=>?_
 ·obtain⟨rfl,hz6,_⟩:=h6
  refine TP.bind (Bs (T:=T) (a:=a5+1) (by show(3:Int)<19;decide) .nil) fun y a7 h7=>?_
  obtain⟨rfl,h7⟩:=h7
  refine TP.bind (PP.lft (bm _)) fun _ a8 h8=>?_
  obtain⟨rfl,_,hz8⟩:=h8
  exact sZ w h _ _ _ _ (by omega) (w.succ (w.succ i5 hz6) hz8) (.one (h7.up (by omega)))
 ·obtain⟨rfl,_,hz6⟩:=h6
  exact sZ w h _ _ _ _ (by omega) (w.succ i5 hz6) .nil
theorem tM(w:WS T K)(h:QK T K p):∀(n:Nat) (a:Int) (ks:List Tn),In K a→PcL T K (a-1) ks→TP (dk T K p n ks) a fun t a'=>In K a'∧Pc T K (a'-1) t
 |0,_,_,_,_=>TP.bad
 |n+1,a,ks,ha,hc=>by
  refine TP.bind (PP.lft cy) fun t a1 h1=>?_
  obtain⟨rfl,rfl⟩:=h1
  refine TP.bif (fun _=>fun d m=>?_) fun _=>TP.bind (PP.lft xo) fun _ a2 h2=>?_
  ·unfold bK
   cases decide ((m:Int)≥8192)
   ·refine⟨ha,?_⟩
    unfold Pc
    exact⟨fun h=>by
     have h:(19:Int)≤1:=h
     omega,hc⟩
   ·trivial
  ·subst h2
   exact TP.bind (K9 w h ha) fun x a2 h2=>tM w h n a2 _ h2.2.1 ((hc.up (by have:=h2.1;omega)).app (.one h2.2.2))
end
theorem JJ{T:List UInt8}(h:de T=0){t:Tn}{a d:Int}{n:Nat}(ht:gR T= .ok t a d n):In (bL T) a∧Pc T (bL T) (a-1) t:=by
 have w:=Ib h
 have h0:In (bL T) 0:=⟨Int.le_refl _,by have:=w.wf.pos;omega⟩
 have:=tM w (yI w ke) ((bL T).length+2) 0 [] h0 .nil 0 0
 have e:dk T (bL T) (knt T (bL T) ke) ((bL T).length+2) [] 0 0 0= .ok t a d n:=ht
 rw[e]at this
 exact this
end Go.Sx.Tryz
namespace Go.Sx.Tryz
open Go Go.Sx
set_option maxRecDepth 100000
theorem rI{p:Int→Bool}:∀(w r0 t:List UInt8),ax p (w++(r0++t))=w.length→ax p (w++r0)=w.length
 |[],[],t,_=>rfl
 |[],c::r0,t,h=>by
  have h:ax p (c::(r0++t))=0:=h
  show ax p (c::r0)=0
  rw[bS]at h⊢
  cases hp:p c.toNat with
  |false=>rfl
  |true=>rw[hp]at h;exact absurd h (by simp)
 |c::w,r0,t,h=>by
  have h:ax p (c::(w++(r0++t)))=w.length+1:=h
  show ax p (c::(w++r0))=w.length+1
  rw[bS]at h⊢
  cases hp:p c.toNat with
  |false=>rw[hp]at h;simp at h
  |true=>
   rw[hp]at h
   simp only[cond_true]at h⊢
   rw[rI w r0 t (by omega)]
theorem xE(s t:List UInt8){i:Nat}(h:i<s.length):at8 (s++t) i=at8 s i:=by
 have:=iR (w:=s) [] t h
 rwa [List.append_nil]at this
theorem C6{w r0 t:List UInt8}{k:Int}(h:ed (w++(r0++t))=(k,0,w.length))(hw:0<w.length):ed (w++r0)=(k,0,w.length):=by
 have h0:at8 (w++(r0++t)) 0=at8 (w++r0) 0:=iR r0 (r0++t) hw
 have hass:w++(r0++t)=(w++r0)++t:=(List.append_assoc _ _ _).symm
 unfold ed at h⊢
 rw[h0]at h
 revert h
 cases hL:isLet (at8 (w++r0) 0)
 ·cases hD:aC (at8 (w++r0) 0)
  ·cases hQ:at8 (w++r0) 0==34
   ·simp only[cond_false]
    intro h
    unfold sI at h⊢
    rw[h0]at h
    by_cases hl:2≤(w++r0).length
    ·have e1:(w++(r0++t)).take 2=(w++r0).take 2:=by rw[hass,List.take_append_of_le_length hl]
     have e2:at8 (w++(r0++t)) 1=at8 (w++r0) 1:=by rw[hass];exact xE _ _ (by omega)
     have e3:decide (((w++(r0++t)).length:Int)>1)=decide (((w++r0).length:Int)>1):=by
      rw[decide_eq_true (by omega:((w++r0).length:Int)>1),decide_eq_true]
      rw[hass,List.length_append]
      omega
     rw[e1,e2,e3]at h
     exact h
    ·have hl1:(w++r0).length=1:=by rw[List.length_append]at hl⊢;omega
     have hw1:w.length=1:=by rw[List.length_append]at hl1;omega
     have e3:decide (((w++r0).length:Int)>1)=false:=by rw[hl1];rfl
     rw[e3,Bool.false_and,cond_false]
     revert h
     cases (decide (((w++(r0++t)).length:Int)>1)&&(Lib.contains fj ((w++(r0++t)).take 2++[32])&&(at8 (w++r0) 0 !=32&&at8 (w++(r0++t)) 1 !=32)))
     ·simp only[cond_false]
      intro h
      exact h
     ·simp only[cond_true]
      intro h
      have:=congrArg (fun z=>z.2.2) h
      simp only at this
      omega
   ·simp only[cond_true,cond_false]
    intro h
    obtain⟨c,u,rfl⟩:∃c u,w=c::u:=by
     cases w with
     |nil=>cases hw
     |cons c u=>exact⟨c,u,rfl⟩
    have hq:(dL (c::u++(r0++t))).2=0∧(dL (c::u++(r0++t))).1=u.length+1:=by
     revert h
     cases he:((dL (c::u++(r0++t))).2==0&&decide (((dL (c::u++(r0++t))).1:Int)>256))
     ·simp only[cond_false]
      intro h
      exact⟨congrArg (fun z=>z.2.1) h,congrArg (fun z=>z.2.2) h⟩
     ·simp only[cond_true]
      intro h
      have:=congrArg (fun z=>z.2.1) h
      simp at this
    have hF:cG (c::u++(r0++t)).length (u++(r0++t))=(u.length,0):=by
     have e1:(cG (c::u++(r0++t)).length (u++(r0++t))).1+1=u.length+1:=hq.2
     have e2:(cG (c::u++(r0++t)).length (u++(r0++t))).2=0:=hq.1
     exact Prod.ext (by simp only;omega) e2
    have hF2:=n7 _ u (r0++t) hF (c::u++r0).length r0 (by simp;omega)
    have hq2:dL (c::u++r0)=dL (c::u++(r0++t)):=by
     have e3:dL (c::u++r0)=(u.length+1,0):=by
      show((cG (c::u++r0).length (u++r0)).1+1,(cG (c::u++r0).length (u++r0)).2)=_
      rw[hF2]
     rw[e3]
     exact Prod.ext hq.2.symm hq.1.symm
    rw[hq2]
    exact h
  ·simp only[cond_true,cond_false]
   intro h
   by_cases hn:ax aC (w++(r0++t))<w.length
   ·have hr:ax aC (w++r0)=ax aC (w++(r0++t)):=px w (r0++t) r0 hn
    rw[hr]
    generalize ax aC (w++(r0++t))=n at hn h⊢
    cases hc:(decide (((n:Nat):Int)+1<(w++(r0++t)).length)&&(at8 (w++(r0++t)) n==46&&aC (at8 (w++(r0++t)) (n+1))))
    ·rw[hc]at h
     simp only[cond_false]at h
     exfalso
     revert h
     cases decide ((n:Int)>20)
     ·simp only[cond_false]
      intro h
      have:=congrArg (fun z=>z.2.2) h
      simp only at this
      omega
     ·simp only[cond_true]
      intro h
      have:=congrArg (fun z=>z.2.1) h
      simp at this
    ·rw[hc]at h
     simp only[cond_true]at h
     have hm:n+1+ax aC ((w++(r0++t)).drop (n+1))=w.length:=by
      revert h
      cases decide (((n+1+ax aC ((w++(r0++t)).drop (n+1)):Nat):Int)>20)
      ·simp only[cond_false]
       intro h
       exact congrArg (fun z=>z.2.2) h
      ·simp only[cond_true]
       intro h
       have:=congrArg (fun z=>z.2.1) h
       simp at this
     have h2:n+1<w.length:=by
      rcases Nat.lt_or_ge (n+1) w.length with h|h
      ·exact h
      ·exfalso
       have e:n+1=w.length:=by omega
       have hd:aC (at8 (w++(r0++t)) (n+1))=true:=by
        simp only[Bool.and_eq_true]at hc
        exact hc.2.2
       have hz:ax aC ((w++(r0++t)).drop (n+1))=0:=by omega
       simp only[Bool.and_eq_true,decide_eq_true_eq]at hc
       have hlen:n+1<(w++(r0++t)).length:=by omega
       have hdr:(w++(r0++t)).drop (n+1)=(w++(r0++t))[n+1]::(w++(r0++t)).drop (n+1+1):=List.drop_eq_getElem_cons hlen
       rw[hdr,bS]at hz
       have hat:at8 (w++(r0++t)) (n+1)=(((w++(r0++t))[n+1]).toNat:Int):=by
        unfold at8
        rw[List.getD_eq_getElem?_getD,List.getElem?_eq_getElem hlen]
        rfl
       rw[←hat,hd]at hz
       simp at hz
     have hlt:((n:Nat):Int)+1<(w++r0).length:=by rw[List.length_append];omega
     have hc':(decide (((n:Nat):Int)+1<(w++r0).length)&&(at8 (w++r0) n==46&&aC (at8 (w++r0) (n+1))))=true:=by
      rw[decide_eq_true hlt,Bool.true_and]
      simp only[Bool.and_eq_true]at hc
      rw[iR r0 (r0++t) (by omega:n<w.length),iR r0 (r0++t) h2]at hc
      simp only[Bool.and_eq_true]
      exact hc.2
     rw[hc']
     simp only[cond_true]
     have hd1:(w++(r0++t)).drop (n+1)=w.drop (n+1)++(r0++t):=List.drop_append_of_le_length (by omega)
     have hd2:(w++r0).drop (n+1)=w.drop (n+1)++r0:=List.drop_append_of_le_length (by omega)
     have hdl:(w.drop (n+1)).length=w.length-(n+1):=List.length_drop
     rw[hd1]at hm h
     rw[hd2,rI _ _ t (by rw[hdl];omega),hdl,show n+1+(w.length-(n+1))=w.length by omega]
     rw[hm]at h
     exact h
   ·have hle:ax aC (w++(r0++t))=w.length∨w.length<ax aC (w++(r0++t)):=by omega
    rcases hle with hle|hle
    ·have hr:=rI _ _ _ hle
     rw[hle]at h
     rw[hr]
     cases hc:(decide (((w.length:Nat):Int)+1<(w++(r0++t)).length)&&(at8 (w++(r0++t)) w.length==46&&aC (at8 (w++(r0++t)) (w.length+1))))
     ·rw[hc]at h
      simp only[cond_false]at h
      have hc':(decide (((w.length:Nat):Int)+1<(w++r0).length)&&(at8 (w++r0) w.length==46&&aC (at8 (w++r0) (w.length+1))))=false:=by
       by_cases hlt:w.length+1<(w++r0).length
       ·rw[decide_eq_true (by omega:((w.length:Nat):Int)+1<(w++r0).length),Bool.true_and]
        have hlt2:((w.length:Nat):Int)+1<(w++(r0++t)).length:=by rw[hass,List.length_append];omega
        rw[decide_eq_true hlt2,Bool.true_and,hass,xE _ _ (by omega),xE _ _ hlt]at hc
        exact hc
       ·rw[decide_eq_false (by omega:¬((w.length:Nat):Int)+1<(w++r0).length),Bool.false_and]
      rw[hc']
      exact h
     ·rw[hc]at h
      simp only[cond_true]at h
      exfalso
      revert h
      cases decide (((w.length+1+ax aC ((w++(r0++t)).drop (w.length+1)):Nat):Int)>20)
      ·simp only[cond_false]
       intro h
       have:=congrArg (fun z=>z.2.2) h
       simp only at this
       omega
      ·simp only[cond_true]
       intro h
       have:=congrArg (fun z=>z.2.1) h
       simp at this
    ·exfalso
     generalize ax aC (w++(r0++t))=n at hle h
     revert h
     cases (decide (((n:Nat):Int)+1<(w++(r0++t)).length)&&(at8 (w++(r0++t)) n==46&&aC (at8 (w++(r0++t)) (n+1))))
     ·simp only[cond_false]
      cases decide ((n:Int)>20)
      ·simp only[cond_false]
       intro h
       have:=congrArg (fun z=>z.2.2) h
       simp only at this
       omega
      ·simp only[cond_true]
       intro h
       have:=congrArg (fun z=>z.2.1) h
       simp at this
     ·simp only[cond_true]
      cases decide (((n+1+ax aC ((w++(r0++t)).drop (n+1)):Nat):Int)>20)
      ·simp only[cond_false]
       intro h
       have:=congrArg (fun z=>z.2.2) h
       simp only at this
       omega
      ·simp only[cond_true]
       intro h
       have:=congrArg (fun z=>z.2.1) h
       simp at this
 ·simp only[cond_true]
  intro h
  have hn:ax fp (w++(r0++t))=w.length:=by
   revert h
   cases decide (((ax fp (w++(r0++t)):Nat):Int)>64)
   ·simp only[cond_false]
    intro h
    exact congrArg (fun z=>z.2.2) h
   ·simp only[cond_true]
    intro h
    have:=congrArg (fun z=>z.2.1) h
    simp at this
  rw[rI _ _ _ hn]
  rw[hn]at h
  exact h
theorem hp2{s:List UInt8}(h:Lib.hasPrefix s [47,47]=true):∃r',s=47::47::r':=by
 match s,h with
 |[],h=>simp[Lib.hasPrefix]at h
 |[c],h=>simp[Lib.hasPrefix,List.isPrefixOf]at h
 |c::d::r,h=>
  simp[Lib.hasPrefix,List.isPrefixOf]at h
  obtain⟨rfl,rfl⟩:=h
  exact⟨r,rfl⟩
theorem Bi(t:List UInt8):∀(n m:Nat) (r:List UInt8),(r++t).length<n→r.length<m→jm n (r++t)<r.length→jm m r=jm n (r++t)
 |0,_,_,h,_,_=>absurd h (by omega)
 |_+1,0,_,_,h,_=>absurd h (by omega)
 |n+1,m+1,r,h1,h2,h3=>by
  rw[cn]at h3⊢
  rw[cn]
  have hb:ax aG (r++t)<r.length:=by
   revert h3
   cases Lib.hasPrefix ((r++t).drop (ax aG (r++t))) [47,47]
   ·exact fun h=>h
   ·simp only[cond_true]
    intro h
    omega
  have hr:ax aG r=ax aG (r++t):=by
   have:=px r t [] hb
   rwa [List.append_nil]at this
  rw[hr]
  generalize ax aG (r++t)=b at hb h3⊢
  have hd:(r++t).drop b=r.drop b++t:=List.drop_append_of_le_length (by omega)
  rw[hd]at h3⊢
  have hne:(r.drop b).length=r.length-b:=List.length_drop
  cases hc:Lib.hasPrefix (r.drop b++t) [47,47]with
  |false=>
   have:Lib.hasPrefix (r.drop b) [47,47]=false:=by
    cases hh:Lib.hasPrefix (r.drop b) [47,47]with
    |false=>rfl
    |true=>
     obtain⟨r',e⟩:=hp2 hh
     rw[e]at hc
     simp[Lib.hasPrefix]at hc
   rw[this]
   rfl
  |true=>
   rw[hc]at h3
   simp only[cond_true]at h3⊢
   have hc1:ax nl (r.drop b++t)<(r.drop b).length:=by omega
   have hrn:ax nl (r.drop b)=ax nl (r.drop b++t):=by
    have:=px (r.drop b) t [] hc1
    rwa [List.append_nil]at this
   obtain⟨r',e⟩:=hp2 hc
   have h4:2≤ax nl (r.drop b++t):=by
    rw[e,bS,bS]
    have e2:nl (((47:UInt8).toNat:Nat):Int)=true:=by decide
    rw[e2]
    simp only[cond_true]
    omega
   have hp:Lib.hasPrefix (r.drop b) [47,47]=true:=by
    cases hrb:r.drop b with
    |nil=>rw[hrb]at hc1;simp at hc1
    |cons x1 r1=>
     cases r1 with
     |nil=>rw[hrb]at hc1;simp at hc1;rw[hrb]at h4;simp at h4;omega
     |cons x2 r2=>
      rw[hrb]at e
      have e:x1::x2::(r2++t)=47::47::r':=e
      injection e with e1 e
      injection e with e2 e
      subst e1 e2
      simp[Lib.hasPrefix]
   rw[hp]
   simp only[cond_true]
   rw[hrn]
   generalize ax nl (r.drop b++t)=c at hc1 h3 h4⊢
   have hd2:(r++t).drop (b+c)=r.drop (b+c)++t:=List.drop_append_of_le_length (by omega)
   rw[hd2]at h3⊢
   have hdl:(r.drop (b+c)).length=r.length-(b+c):=List.length_drop
   rw[Bi t n m (r.drop (b+c)) (by rw[List.length_append]at h1⊢;omega) (by omega) (by omega)]
theorem EX{r t:List UInt8}(h:cz (r++t)<r.length):cz r=cz (r++t):=Bi t _ _ r (by omega) (by omega) h
theorem EL:∀(n:Nat) (s:List UInt8),s.length<n→cz (s.drop (jm n s))=0
 |0,_,h=>absurd h (by omega)
 |n+1,s,h=>by
  rw[cn]
  cases hc:Lib.hasPrefix (s.drop (ax aG s)) [47,47]with
  |false=>
   simp only[cond_false]
   refine E7.2 ⟨?_,hc⟩
   clear hc h
   induction s with
   |nil=>rfl
   |cons c s ih=>
    rw[bS]
    cases hb:aG c.toNat with
    |false=>
     show ax aG (c::s)=0
     rw[bS,hb]
     rfl
    |true=>exact ih
  |true=>
   simp only[cond_true]
   have h1:=GS hc
   have h2:=ou nl (s.drop (ax aG s))
   rw[List.length_drop]at h2
   have:=EL n (s.drop (ax aG s+ax nl (s.drop (ax aG s)))) (by rw[List.length_drop];omega)
   rw[List.drop_drop]at this
   exact this
theorem HE(s:List UInt8):cz (s.drop (cz s))=0:=EL _ s (by omega)
def PL(T:List UInt8):Int→List Tok→Prop
 |_,[]=>True
 |a,t::ts=>t=tkn (gx T a) a (aL T a)∧fM T a=0∧a<aL T a∧aL T a≤T.length∧PL T (cQ T (aL T a)) ts
theorem Dm(T:List UInt8):∀(n:Nat) (a:Int) (k:Nat),0≤a→a≤T.length→(T.length:Int)-a<n→(gp n T a k).1=0→∃L,(gp n T a k).2.2=L++[tkn 0 T.length T.length]∧PL T a L
 |0,a,k,h0,h1,hn,h=>by omega
 |n+1,a,k,h0,h1,hn,h=>by
  unfold gp at h⊢
  cases hlt:decide (a<(T.length:Int))with
  |false=>exact⟨[],rfl,trivial⟩
  |true=>
   rw[hlt]at h
   have hlt:=of_decide_eq_true hlt
   simp only[cond_true]at h⊢
   cases h16:decide ((k:Int)≥16384)with
   |true=>rw[h16]at h;simp at h
   |false=>
    rw[h16]at h
    simp only[cond_false]at h⊢
    cases he:fM T a !=0 with
    |true=>
     rw[he]at h
     simp only[cond_true]at h
     rw[h]at he
     exact absurd he (by decide)
    |false=>
     rw[he]at h
     simp only[cond_false]at h⊢
     have he0:fM T a=0:=by simpa [bne]using he
     obtain⟨o1,o2⟩:=oK h0 hlt
     have o3:=o2 he0
     obtain⟨g1,g2⟩:=dI (T:=T) (a:=aL T a) (by omega) o1
     obtain⟨L,e1,e2⟩:=Dm T n (cQ T (aL T a)) (k+1) (by omega) g2 (by omega) h
     exact⟨tkn (gx T a) a (aL T a)::L,by rw[e1];rfl,rfl,he0,o3,o1,e2⟩
theorem OP{T:List UInt8}(h:de T=0):∃L,bL T=L++[tkn 0 T.length T.length]∧PL T (cQ T 0) L:=by
 obtain⟨hT,_⟩:=k9 h
 rw[oH h]
 rw[lE]at h
 unfold fD at h⊢
 rw[show decide ((T.length:Int)>65536)=false from decide_eq_false (by omega)]at h⊢
 obtain⟨g1,g2⟩:=dI (T:=T) (a:=0) (by omega) (by omega)
 exact Dm T (T.length+1) (cQ T 0) 0 (by omega) g2 (by omega) h
def eQ(T:List UInt8)(a b:Int):List UInt8:=List.drop a.toNat (List.take b.toNat T)
theorem hH(T:List UInt8){a b:Int}(h0:0≤a)(h:a≤b):aA T a=eQ T a b++aA T b:=by
 unfold aA eQ
 conv=>lhs;rw[←List.take_append_drop b.toNat T]
 rw[List.drop_append]
 by_cases hb:b.toNat≤T.length
 ·rw[List.length_take,Nat.min_eq_left hb,show a.toNat-b.toNat=0 by omega]
  rfl
 ·rw[show List.drop b.toNat T=[]from List.drop_eq_nil_of_le (by omega)]
  simp
theorem lI(T:List UInt8){a b:Int}(h0:0≤a)(h:a≤b)(hb:b≤T.length):((eQ T a b).length:Int)=b-a:=by
 unfold eQ
 rw[List.length_drop,List.length_take,Nat.min_eq_left (by omega)]
 omega
theorem Dv(T:List UInt8){a b c:Int}(h0:0≤a)(h:a≤b)(h':b≤c)(hc:c≤T.length):eQ T a c=eQ T a b++eQ T b c:=by
 have h1:=hH T h0 (Int.le_trans h h')
 rw[hH T h0 h,hH T (Int.le_trans h0 h) h',←List.append_assoc]at h1
 exact(List.append_cancel_right h1).symm
theorem H2(T:List UInt8){a b c:Int}(h0:0≤a)(h:a≤b)(h':b≤c)(hc:c≤T.length):(eQ T a c).drop (b-a).toNat=eQ T b c:=by
 rw[Dv T h0 h h' hc]
 have:=lI T h0 h (by omega)
 rw[show(b-a).toNat=(eQ T a b).length by omega,List.drop_left]
theorem zQ(T:List UInt8):∀(ta tb:List Tok) (t:Tok) (a:Int),0≤a→a≤T.length→PL T a (ta++t::tb)→a<tTo t∧tTo t≤T.length∧Lx (eQ T a (tTo t)) (bH T (ta++[t]))
 |[],tb,t,a,h0,h1,h=>by
  obtain⟨rfl,h2,h3,h4,_⟩:=h
  show a<aL T a∧aL T a≤T.length∧Lx (eQ T a (aL T a)) [(gx T a,eQ T a (aL T a))]
  refine⟨h3,h4,?_⟩
  have hl:=lI T h0 (by omega:a≤aL T a) h4
  have hr:=hH T h0 (by omega:a≤aL T a)
  have ho:ed (eQ T a (aL T a)++([]++aA T (aL T a)))=(gx T a,0,(eQ T a (aL T a)).length):=by
   rw[List.nil_append,←hr]
   refine Prod.ext rfl (Prod.ext h2 ?_)
   show(ed (aA T a)).2.2=(eQ T a (aL T a)).length
   unfold aL at hl⊢
   omega
  have:=Lx.cons (C6 ho (by omega)) (by omega) (show Lx (List.drop (cz []) []) []from Lx.nil)
  rwa [List.append_nil]at this
 |u::ta,tb,t,a,h0,h1,h=>by
  obtain⟨rfl,h2,h3,h4,h5⟩:=h
  obtain⟨g1,g2⟩:=dI (T:=T) (a:=aL T a) (by omega) h4
  obtain⟨i1,i2,i3⟩:=zQ T ta tb t (cQ T (aL T a)) (by omega) g2 h5
  refine⟨by omega,i2,?_⟩
  show Lx (eQ T a (tTo t)) ((gx T a,eQ T a (aL T a))::bH T (ta++[t]))
  rw[Dv T h0 (by omega:a≤aL T a) (by omega) i2]
  have hl:=lI T h0 (by omega:a≤aL T a) h4
  have hl2:=lI T (by omega) (by omega:aL T a≤tTo t) i2
  have hr:=hH T h0 (by omega:a≤aL T a)
  have hr2:=hH T (by omega) (by omega:aL T a≤tTo t)
  have ho:ed (eQ T a (aL T a)++(eQ T (aL T a) (tTo t)++aA T (tTo t)))=(gx T a,0,(eQ T a (aL T a)).length):=by
   rw[←hr2,←hr]
   refine Prod.ext rfl (Prod.ext h2 ?_)
   show(ed (aA T a)).2.2=(eQ T a (aL T a)).length
   unfold aL at hl⊢
   omega
  refine Lx.cons (C6 ho (by omega)) (by omega) ?_
  have hg:cz (eQ T (aL T a) (tTo t))=cz (aA T (aL T a)):=by
   rw[hr2]
   refine EX ?_
   rw[←hr2]
   unfold cQ at i1
   omega
  rw[hg,show cz (aA T (aL T a))=(cQ T (aL T a)-aL T a).toNat by unfold cQ;omega,H2 T (by omega) g1 (by omega) i2]
  exact i3
theorem Il{T:List UInt8}:∀(L0 L1:List Tok) (t:Tok) (a:Int),0≤a→a≤T.length→cz (aA T a)=0→PL T a (L0++t::L1)→0≤ab t∧ab t≤T.length∧cz (aA T (ab t))=0∧PL T (ab t) (t::L1)
 |[],L1,t,a,h0,h1,hg,h=>by
  have e:ab t=a:=by rw[h.1];rfl
  rw[e]
  exact⟨h0,h1,hg,h⟩
 |u::L0,L1,t,a,h0,h1,hg,h=>by
  obtain⟨_,h2,h3,h4,h5⟩:=h
  obtain⟨g1,g2⟩:=dI (T:=T) (a:=aL T a) (by omega) h4
  refine Il L0 L1 t _ (by omega) g2 ?_ h5
  have:=HE (aA T (aL T a))
  have e:aA T (cQ T (aL T a))=(aA T (aL T a)).drop (cz (aA T (aL T a))):=by
   conv=>lhs;unfold aA cQ
   conv=>rhs;unfold aA
   rw[List.drop_drop]
   congr 1
   unfold aA
   omega
  rw[e]
  exact this
theorem Ih{T:List UInt8}(h:de T=0){L0 ta tb:List Tok}{t u:Tok}(e:bL T=L0++(ta++t::(tb++[u]))):let a:=ab ((ta++[t]).headD t)
  a<tTo t∧tTo t≤T.length∧cz (eQ T a (tTo t))=0∧Lx (eQ T a (tTo t)) (bH T (ta++[t])):=by
 obtain⟨L,e1,e2⟩:=OP h
 have hT:=(lex_wf h).len
 have eL:L=L0++(ta++t::tb):=by
  rw[e1]at e
  have:L++[tkn 0 T.length T.length]=(L0++(ta++t::tb))++[u]:=by rw[e];simp
  exact(List.append_inj' this rfl).1
 obtain⟨g1,g2⟩:=dI (T:=T) (a:=0) (by omega) (by omega)
 have hg0:cz (aA T (cQ T 0))=0:=by
  have:=HE T
  have e:aA T (cQ T 0)=T.drop (cz T):=by
   unfold aA cQ
   unfold aA
   show List.drop (Int.toNat (0+((cz (List.drop 0 T):Nat):Int))) T=_
   rw[List.drop_zero]
   congr 1
   omega
  rw[e]
  exact this
 rw[eL]at e2
 obtain⟨w,tc,hw⟩:∃w tc,ta++t::tb=w::tc∧(ta++[t]).headD t=w:=by
  cases ta with
  |nil=>exact⟨t,tb,rfl,rfl⟩
  |cons w ta=>exact⟨w,ta++t::tb,rfl,rfl⟩
 rw[hw.1]at e2
 obtain⟨f0,f1,f2,f3⟩:=Il L0 tc w _ (by omega) g2 hg0 e2
 rw[←hw.1]at f3
 intro a
 have ha:a=ab w:=by show ab ((ta++[t]).headD t)=_;rw[hw.2]
 rw[ha]
 obtain⟨p1,p2,p3⟩:=zQ T ta tb t (ab w) f0 f1 f3
 refine⟨p1,p2,?_,p3⟩
 have hr:=hH T f0 (by omega:ab w≤tTo t)
 have hl:=lI T f0 (by omega:ab w≤tTo t) p2
 rw[hr]at f2
 rw[EX (t:=aA T (tTo t)) (by omega),f2]
end Go.Sx.Tryz
namespace Go.Sx.Tryz
open Go Go.Sx Go.Proofs
set_option maxRecDepth 100000
def AQ{α:Type}(m:Tm α)(a:Int)(Q:α→Int→Prop):Prop:=∀d n,dy (m a d n) Q
section
variable{α β:Type}{m m':Tm α}{k:α→Tm β}{a:Int}{Q:α→Int→Prop}{Q':β→Int→Prop}
theorem AQ.bind(h:AQ m a Q)(hk:∀y e,Q y e→AQ (k y) e Q'):AQ (m.bind k) a Q':=fun d n=>(h d n).bind fun y e d n hq=>hk y e hq d n
theorem AQ.ret{y:α}(h:Q y a):AQ (.ret y) a Q:=fun _ _=>h
theorem AQ.yes{c:Bool}(hc:c=true)(h:AQ m a Q):AQ (bif c then m else m') a Q:=by
 rw[hc]
 exact h
theorem AQ.no{c:Bool}(hc:c=false)(h:AQ m' a Q):AQ (bif c then m else m') a Q:=by
 rw[hc]
 exact h
theorem AQ.step{c:Pm α}{y:α}{b:Int}(h:∀d A,c a d A= .ok y b d A)(hk:AQ (k y) b Q'):AQ ((lft c).bind k) a Q':=fun d n=>by
 have e:lft c a d n= .ok y b d n:=by
  unfold lft
  rw[h]
 rw[Tm.bind_eq e]
 exact hk d n
end
section
variable{T:List UInt8}{K:List Tok}{q:Kt}{a:Int}{r:List Tk}{k:Int}{s:List UInt8}
theorem KO{β:Type}{k:Unit→Tm β}{Q':β→Int→Prop}(h:AQ (k ()) a Q'):AQ ((lft (dq K)).bind k) a Q':=fun d n=>by
 cases hd:decide (d+1>60)with
 |true=>
  have e:lft (dq K) a d n= .fault 6 (ab (aa K a)):=by
   unfold lft dq
   rw[hd]
   rfl
  unfold Tm.bind
  rw[e]
  exact .inr rfl
 |false=>
  have e:lft (dq K) a d n= .ok () a (d+1) n:=by
   unfold lft dq
   rw[hd]
   rfl
  rw[Tm.bind_eq e]
  exact h _ _
theorem Qn{β:Type}{k:Unit→Tm β}{Q':β→Int→Prop}(h:AQ (k ()) a Q'):AQ ((lft mV).bind k) a Q':=fun d n=>h (d-1) n
theorem Hr{β:Type}{n:Int}{k:Unit→Tm β}{Q':β→Int→Prop}(h:AQ (k ()) a Q'):AQ ((lft (fF K n)).bind k) a Q':=fun d m=>by
 cases hd:decide (n>64)with
 |true=>
  have e:lft (fF K n) a d m= .fault 2 (ab (aa K a)):=by
   unfold lft fF
   rw[hd]
   rfl
  unfold Tm.bind
  rw[e]
  exact .inl rfl
 |false=>
  have e:lft (fF K n) a d m= .ok () a d m:=by
   unfold lft fF
   rw[hd]
   rfl
  rw[Tm.bind_eq e]
  exact h _ _
theorem pO{x:Nd}{f:Int}{ks:List Tn}{Q:Tn→Int→Prop}(h:∀y,aj y=aj x→Q (.mk y ks) a):AQ (bK K x f ks) a Q:=fun d n=>by
 unfold bK
 cases decide ((n:Int)≥8192)
 ·exact h _ rfl
 ·exact .inl rfl
theorem B7{Q:Tn→Int→Prop}:(∀m,AQ (dd T K (knt T K m)) a Q)→∀m,AQ (knt T K m).val a Q:=fun h m=>match m with
 |0=>fun _ _=>trivial
 |m+1=>h m
theorem Oe{Q:Tn→Int→Prop}:(∀m,AQ (nw T K (knt T K m)) a Q)→∀m,AQ (knt T K m).blk a Q:=fun h m=>match m with
 |0=>fun _ _=>trivial
 |m+1=>h m
theorem zn{b:Int}{P:Tn→Prop}(hb:Stp T K b)(hs:kl T K a=false)(h:∀m,AQ (cm T K (knt T K m)) a fun y e=>e=b∧P y)(m:Nat):AQ (dd T K (knt T K m)) a fun y e=>e=b∧P y:=fun d n=>
 rG hb (fun m d n=>by
  rw[qq hs]
  exact qy hb (h m d n)) m d n
theorem Hp(h:At T K a ((5,s)::r))(hc:clo (5,s)=true):Stp T K a:=⟨h.get.1,by rw[h.get.2.1];exact hc⟩
theorem Ds(a d:Int)(n:Nat):cm T K q a d n=(bif ak (aa K a)==2 then gq T K (dA 19 (kq (say T (aa K a))).1 []) (kq (say T (aa K a))).2
   else bif ak (aa K a)==3 then gq T K (dA 20 (IntKind.wrap .i64 (mg (say T (aa K a))).1) (say T (aa K a))) (mg (say T (aa K a))).2
   else bif ak (aa K a)==4 then gq T K (dA 22 0 (kK (say T (aa K a))).1) (kK (say T (aa K a))).2
   else bif ak (aa K a)==5 then(bif say T (aa K a)==[40]then cF T K q else .flt 80 (ab (aa K a)))
   else bif ak (aa K a)==1 then(bif bW (say T (aa K a))then gq T K (dA 25 0 (say T (aa K a))) 0 else nM T K q (aa K a) (say T (aa K a)))
   else .flt 80 (ab (aa K a)):Tm Tn) a d n:=rfl
theorem K1(h:At T K a ((1,[120])::(5,[61])::r))(m:Nat):AQ (dd T K (knt T K m)) a fun y e=>e=a+1∧aj y.data=25:=
 zn (Hp h.step (by decide)) (by unfold kl;rw[h.get.1];rfl) (fun m d n=>by
  rw[Ds,h.get.1,h.get.2.1]
  show dy (((lft (bc T K)).bind fun t=>(lft (aJ K)).bind fun _=>bK K (dA 25 0 [120]) (ab t.1) []) a d n) _
  have:AQ ((lft (bc T K)).bind fun t=>(lft (aJ K)).bind fun _=>bK K (dA 25 0 [120]) (ab t.1) []) a fun y e=>e=a+1∧aj y.data=25:=by
   refine AQ.step (fun d A=>dK h) (AQ.step (fun d A=>nJ h rfl) (pO fun y hy=>⟨rfl,hy⟩))
  exact this d n) m
theorem IN{b:Int}{v:Tn}(h:At T K a ((5,[40])::r))(hv:∀m,AQ (dd T K (knt T K m)) (a+1) fun y e=>e=b∧Et v y){r1 r2:List Tk}(hb:At T K b ((5,[41])::(5,[59])::r2))(m:Nat):AQ (dd T K (knt T K m)) a fun y e=>e=b+1∧Et v y:=
 zn (Hp hb.step (by decide)) (by unfold kl;rw[h.get.1,h.get.2.1];rfl) (fun m d n=>by
  rw[Ds,h.get.1,h.get.2.1]
  show dy (cF T K (knt T K m) a d n) _
  have:AQ (cF T K (knt T K m)) a fun y e=>e=b+1∧Et v y:=by
   refine AQ.step (fun d A=>gr h rfl) (AQ.bind (B7 hv m) fun y e hy=>?_)
   obtain⟨rfl,hy⟩:=hy
   exact AQ.step (fun d A=>gr hb rfl) (AQ.ret ⟨rfl,hy⟩)
  exact this d n) m
def Sa(v:Tn)(z:Tn):Prop:=∃x y,aj z.data=10∧z.kids=[x,y]∧Et v y
theorem Kx{b:Int}{v:Tn}(h:At T K a ((1,[120])::(5,[61])::(5,[40])::r))(hv:∀m,AQ (dd T K (knt T K m)) (a+1+1+1) fun y e=>e=b∧Et v y){r2:List Tk}(hb:At T K b ((5,[41])::(5,[59])::r2))(m:Nat):AQ (wH T K (knt T K m)) a fun z e=>e=b+1+1∧Sa v z:=by
 have hp:AQ (ny T K (knt T K m) (ab (aa K a))) a fun z e=>e=b+1+1∧Sa v z:=by
  refine AQ.bind (B7 (fun m=>K1 h m) m) fun x e hx=>?_
  obtain⟨rfl,hx⟩:=hx
  refine AQ.step (fun d A=>dK h.step) (AQ.step (fun d A=>Ab h.step rfl) (AQ.yes rfl (AQ.yes (by rw[hx];rfl) ?_)))
  refine AQ.bind (B7 (fun m=>IN (r1:=r) h.step.step hv hb m) m) fun y e hy=>?_
  obtain⟨rfl,hy⟩:=hy
  exact AQ.step (fun d A=>gr hb.step rfl) (pO fun z hz=>⟨rfl,x,y,hz,rfl,hy⟩)
 refine AQ.step (fun d A=>dK h) (AQ.no (by show(ak (aa K a)==5&&_)=false;rw[h.get.1];rfl) (AQ.step (fun d A=>QX h) (AQ.no rfl (AQ.yes (by show(ak (aa K a)==1)=true;rw[h.get.1];rfl) ?_))))
 have hw:AQ (sK T K (knt T K m) [120]) a fun w e=>e=a∧w.2=false:=AQ.no rfl (AQ.no rfl (AQ.no rfl (AQ.no rfl (AQ.no rfl (AQ.no rfl (AQ.no rfl (AQ.ret ⟨rfl,rfl⟩)))))))
 refine AQ.bind hw fun w e he=>?_
 obtain⟨rfl,he⟩:=he
 exact AQ.no he hp
def Sb(v:Tn)(z:Tn):Prop:=∃u,aj z.data=8∧z.kids=[u]∧Sa v u
theorem Hc{b:Int}{v:Tn}(h:At T K a ((5,[123])::(1,[120])::(5,[61])::(5,[40])::r))(hv:∀m,AQ (dd T K (knt T K m)) (a+1+1+1+1) fun y e=>e=b∧Et v y){r2:List Tk}(hb:At T K b ((5,[41])::(5,[59])::(5,[125])::r2))(m:Nat):AQ (nw T K (knt T K m)) a fun z e=>e=b+1+1+1∧Sb v z:=by
 refine AQ.step (fun d A=>dK h) (KO (AQ.step (fun d A=>gr h rfl) ?_))
 show AQ (ix T K (knt T K m) (ab (aa K a)) (K.length+1+1) []) (a+1) _
 refine AQ.step (fun d A=>mC h.step _) (AQ.no rfl (AQ.bind (Kx h.step hv hb m) fun z e hz=>?_))
 obtain⟨rfl,hz⟩:=hz
 show AQ (ix T K (knt T K m) (ab (aa K a)) (K.length+1) [z]) (b+1+1) _
 exact AQ.step (fun d A=>mC hb.step.step _) (AQ.yes rfl (AQ.step (fun d A=>gr hb.step.step rfl) (Qn (pO fun y hy=>⟨rfl,z,hy,rfl,hz⟩))))
def Sm(v:Tn)(z:Tn):Prop:=∃u,aj z.data=6∧z.kids=[u]∧Sb v u
theorem Gs(h:At T K a ((5,[40])::(5,[41])::r)):AQ (ka T K) a fun l e=>e=a+1+1∧l=[]:=by
 refine AQ.step (fun d A=>gr h rfl) ?_
 show AQ (gH T K (K.length+1+1) []) (a+1) _
 exact AQ.step (fun d A=>Ab h.step rfl) (AQ.yes rfl (AQ.ret ⟨rfl,rfl⟩))
theorem F2{b:Int}{v:Tn}(h:At T K a ((1,[105,110,116])::(1,[102])::(5,[40])::(5,[41])::(5,[123])::(1,[120])::(5,[61])::(5,[40])::r))(hv:∀m,AQ (dd T K (knt T K m)) (a+1+1+1+1+1+1+1+1) fun y e=>e=b∧Et v y){r2:List Tk}(hb:At T K b ((5,[41])::(5,[59])::(5,[125])::r2))(m:Nat):AQ (lO T K (knt T K m)) a fun z e=>e=b+1+1+1∧Sm v z:=by
 refine AQ.step (fun d A=>dK h) (AQ.no (by show(ak (aa K a)==1&&_)=false;rw[h.get.1];rfl) ?_)
 refine AQ.step (fun d A=>Fj h rfl rfl (by rw[show a+2=a+1+1 by omega];exact h.step.step) (by simp)) ?_
 refine AQ.step (fun d A=>Dc h.step (by decide)) (AQ.step (fun d A=>mC h.step.step _) (AQ.yes rfl ?_))
 refine AQ.bind (Gs h.step.step) fun l e hl=>?_
 obtain⟨rfl,rfl⟩:=hl
 refine AQ.bind (Oe (fun m=>Hc h.step.step.step.step hv hb m) m) fun z e hz=>?_
 obtain⟨rfl,hz⟩:=hz
 exact pO fun y hy=>⟨rfl,z,hy,rfl,hz⟩
def Sc(v:Tn)(z:Tn):Prop:=∃u,aj z.data=2∧z.kids=[u]∧Sm v u
def Sp1(v:Tn)(z:Tn):Prop:=∃u,aj z.data=1∧z.kids=[u]∧Sc v u
theorem JY{b:Int}{v:Tn}(h:At T K 0 (AU++(5,[40])::r))(hv:∀m,AQ (dd T K (knt T K m)) 11 fun y e=>e=b∧Et v y){r2:List Tk}(hb:At T K b ((5,[41])::(5,[59])::(5,[125])::(5,[125])::r2))(m:Nat):AQ (qc T K (knt T K m)) 0 fun z e=>e=b+1+1+1+1∧Sc v z:=by
 have h:At T K 0 ((1,[99,108,97,115,115])::(1,[65])::(5,[123])::(1,[105,110,116])::(1,[102])::(5,[40])::(5,[41])::(5,[123])::(1,[120])::(5,[61])::(5,[40])::r):=h
 refine AQ.step (fun d A=>dK h) (AQ.step (fun d A=>gr h rfl) (AQ.step (fun d A=>Dc h.step (by decide)) (AQ.step (fun d A=>dK h.step.step) (AQ.step (fun d A=>KY h.step.step rfl) (AQ.no rfl (AQ.step (fun d A=>gr h.step.step rfl) ?_))))))
 show AQ (gv T K (knt T K m) (ab (aa K 0)) [65] (K.length+1+1) []) (0+1+1+1) _
 refine AQ.step (fun d A=>mC h.step.step.step _) (AQ.no rfl (Hr (AQ.bind (F2 h.step.step.step hv hb m) fun z e hz=>?_)))
 obtain⟨rfl,hz⟩:=hz
 show AQ (gv T K (knt T K m) (ab (aa K 0)) [65] (K.length+1) [z]) (b+1+1+1) _
 exact AQ.step (fun d A=>mC hb.step.step.step _) (AQ.yes rfl (AQ.step (fun d A=>gr hb.step.step.step rfl) (pO fun y hy=>⟨rfl,z,hy,rfl,hz⟩)))
theorem Mp{b:Int}{v:Tn}(h:At T K 0 (AU++(5,[40])::r))(hv:∀m,AQ (dd T K (knt T K m)) 11 fun y e=>e=b∧Et v y)(hb:At T K b [(5,[41]),(5,[59]),(5,[125]),(5,[125]),(0,[])])(m:Nat):AQ (ub T K (knt T K m)) 0 fun z _=>Sp1 v z:=by
 have h1:At T K 0 ((1,[99,108,97,115,115])::(1,[65])::(5,[123])::(1,[105,110,116])::(1,[102])::(5,[40])::(5,[41])::(5,[123])::(1,[120])::(5,[61])::(5,[40])::r):=h
 show AQ (dk T K (knt T K m) (K.length+1+1) []) 0 _
 refine AQ.step (fun d A=>dK h1) (AQ.no (by show(ak (aa K 0)==0)=false;rw[h1.get.1];rfl) (Hr (AQ.bind (JY h hv hb m) fun z e hz=>?_)))
 obtain⟨rfl,hz⟩:=hz
 show AQ (dk T K (knt T K m) (K.length+1) [z]) (b+1+1+1+1) _
 exact AQ.step (fun d A=>dK hb.step.step.step.step) (AQ.yes (by show(ak (aa K (b+1+1+1+1))==0)=true;rw[hb.step.step.step.step.get.1];rfl) (pO fun y hy=>⟨z,hy,rfl,hz⟩))
end
end Go.Sx.Tryz
namespace Go.Sx.Tryz
open Go Go.Sx Go.Proofs
set_option maxRecDepth 100000
mutual
theorem pL(L S:List Nd)(X:Tn→Prop)(hX:∀x ks,X (.mk x ks)→∀k∈ks,X k):∀(t:Tn) (P:List Nd) (i:Nat),L=P++t.flat P.length++S→X t→P.length≤i→i<P.length+t.size→∃(v:Tn) (P' S':List Nd),L=P'++v.flat P'.length++S'∧i=P'.length+v.size-1∧X v
 | .mk x ks,P,i,hL,hx,h1,h2=>by
  by_cases he:i=P.length+(Tn.mk x ks).size-1
  ·exact⟨_,P,S,hL,he,hx⟩
  ·rw[Tn.size]at h2 he
   have hL2:L=P++Tn.flats P.length ks++([c8 x (roots P.length ks)]++S):=by
    rw[hL,Tn.flat]
    simp[List.append_assoc]
   exact C4 L _ X hX ks P i hL2 (hX x ks hx) h1 (by omega)
theorem C4(L S:List Nd)(X:Tn→Prop)(hX:∀x ks,X (.mk x ks)→∀k∈ks,X k):∀(ts:List Tn) (P:List Nd) (i:Nat),L=P++Tn.flats P.length ts++S→(∀k∈ts,X k)→P.length≤i→i<P.length+Tn.sizes ts→∃(v:Tn) (P' S':List Nd),L=P'++v.flat P'.length++S'∧i=P'.length+v.size-1∧X v
 |[],P,i,_,_,h1,h2=>by
  rw[Tn.sizes]at h2
  omega
 |t::ts,P,i,hL,hx,h1,h2=>by
  have hL2:L=P++t.flat P.length++(Tn.flats (P.length+t.size) ts++S):=by
   rw[hL,Tn.flats]
   simp[List.append_assoc]
  have hP:(P++t.flat P.length).length=P.length+t.size:=by rw[List.length_append,Tn.flat_len]
  rw[Tn.sizes]at h2
  by_cases hi:i<P.length+t.size
  ·exact pL L _ X hX t P i hL2 (hx t (by simp)) h1 hi
  ·exact C4 L S X hX ts (P++t.flat P.length) i (by rw[hL2,hP];simp[List.append_assoc]) (fun k hk=>hx k (by simp[hk])) (by omega) (by omega)
end
theorem PcL.mem{T:List UInt8}{K:List Tok}{B:Int}:∀{ks:List Tn},PcL T K B ks→∀k∈ks,Pc T K B k
 |t::ts,h,k,hk=>by
  unfold PcL at h
  rcases List.mem_cons.1 hk with rfl|hk
  ·exact h.1
  ·exact PcL.mem h.2 k hk
theorem At.nth{T:List UInt8}{K:List Tok}:∀(j:Nat) {a:Int} {r:List Tk} {x:Tk},At T K a r→r[j]? =some x→ak (aa K (a+j))=x.1∧say T (aa K (a+j))=x.2
 |0,a,r,x,h,hx=>by
  cases r with
  |nil=>cases hx
  |cons y r=>
   cases hx
   have:=h.get
   rw[show a+((0:Nat):Int)=a by omega]
   exact⟨this.1,this.2.1⟩
 |j+1,a,r,x,h,hx=>by
  cases r with
  |nil=>cases hx
  |cons y r=>
   have:=At.nth j h.step (by simpa using hx)
   rwa [show a+1+(j:Int)=a+((j+1:Nat):Int) by omega]at this
theorem At.drop{T:List UInt8}{K:List Tok}:∀(l:List Tk) {a:Int} {r:List Tk},At T K a (l++r)→At T K (a+l.length) r
 |[],a,r,h=>by simpa using h
 |x::l,a,r,h=>by
  have:=At.drop l (show At T K (a+1) (l++r)from h.step)
  rwa [show a+1+(l.length:Int)=a+((x::l).length:Int) by rw[List.length_cons];omega]at this
theorem Lv(r:List UInt8):ed (40::r)=(5,0,1):=by
 cases r with
 |nil=>rfl
 |cons d r=>
  refine J0 ?_
  have:Lib.contains fj [40,d,32]=false:=by
   cases hc:Lib.contains fj [40,d,32]with
   |false=>rfl
   |true=>
    exfalso
    unfold Lib.contains at hc
    have hc:=of_decide_eq_true hc
    rcases Lib.index_spec fj [40,d,32]with⟨h1,_⟩|⟨i,h1,h2,h3,_⟩
    ·rw[h1]at hc
     exact absurd hc (by decide)
    ·unfold Lib.occAt at h3
     have hp:=List.isPrefixOf_iff_prefix.1 h3
     have hm:(40:UInt8)∈fj.drop i:=hp.subset (by simp)
     exact absurd (List.mem_of_mem_drop hm) (by decide)
  unfold sy1
  rw[this]
  rfl
def txP(w:List UInt8):List UInt8:=[99,108,97,115,115,32,65,123,105,110,116,32,102,40,41,123,120,61,40]++w++[10,41,59,125,125]
theorem FN{T:List UInt8}(hT:T.length≤800)(h:de T=0){t:Tn}{a d:Int}{n:Nat}(ht:gR T= .ok t a d n){v:Tn}(hv:Pc T (bL T) (a-1) v)(hk:19≤aj v.data)(hin:In (bL T) a):
  (0≤nAt v.data∧nAt v.data≤nTo v.data∧nTo v.data≤T.length)∧de (txP (eQ T (nAt v.data) (nTo v.data)))=0∧dy (gR (txP (eQ T (nAt v.data) (nTo v.data)))) (fun z _=>Sp1 v z):=by
 obtain⟨x,ks⟩:=v
 have w:=Ib h
 have hpc:=hv
 unfold Pc at hpc
 obtain⟨a0,L,h0,hl,hB,p1,p2,hrd⟩:=hpc.1 hk
 have hin2:=hin.2
 obtain⟨L0,ta,tq,hsp,hl0,hla⟩:∃L0 ta tq:List Tok,bL T=L0++(ta++tq)∧(L0.length:Int)=a0∧(ta.length:Int)=L-a0:=⟨(bL T).take a0.toNat,((bL T).drop a0.toNat).take (L-a0).toNat,((bL T).drop a0.toNat).drop (L-a0).toNat,by
  rw[List.take_append_drop,List.take_append_drop],by rw[List.length_take];omega,by rw[List.length_take,List.length_drop];omega⟩
 have hKl:(bL T).length=L0.length+(ta.length+tq.length):=by rw[hsp];simp
 obtain⟨tb,u,htq⟩:∃tb u,tq=tb++[u]:=by
  rcases List.eq_nil_or_concat tq with e|⟨l,b,e⟩
  ·rw[e]at hKl
   simp at hKl
   omega
  ·exact⟨l,b,by rw[e,List.concat_eq_append]⟩
 obtain⟨tc,tl,hta⟩:∃tc tl,ta=tc++[tl]:=by
  rcases List.eq_nil_or_concat ta with e|⟨l,b,e⟩
  ·rw[e]at hla
   simp at hla
   omega
  ·exact⟨l,b,by rw[e,List.concat_eq_append]⟩
 have tokL:∀(i:Nat) (y:Tok),(bL T)[i]? =some y→aa (bL T) (i:Int)=y:=fun i y hy=>by
  unfold aa
  rw[List.getD_eq_getElem?_getD,Int.toNat_natCast,hy]
  rfl
 have e1:aa (bL T) (L-1)=tl:=by
  have:(bL T)[L0.length+tc.length]? =some tl:=by
   rw[hsp,List.getElem?_append_right (by omega),hta,List.append_assoc,List.getElem?_append_right (by omega),show L0.length+tc.length-L0.length-tc.length=0 by omega]
   rfl
  have h2:=tokL _ _ this
  rw[hta,List.length_append,List.length_singleton]at hla
  rwa [show((L0.length+tc.length:Nat):Int)=L-1 by omega]at h2
 have e0:aa (bL T) a0=(tc++[tl]).headD tl:=by
  have:(bL T)[L0.length]? =some ((tc++[tl]).headD tl):=by
   rw[hsp,List.getElem?_append_right (by omega),Nat.sub_self,hta]
   cases tc<;>rfl
  have h2:=tokL _ _ this
  rwa [hl0]at h2
 have hpo:=Ih h (L0:=L0) (ta:=tc) (tb:=tb) (t:=tl) (u:=u) (by rw[hsp,hta,htq];simp)
 obtain⟨q1,q2,q3,q4⟩:=hpo
 rw[←e0]at q1 q3 q4
 have hsx:=w.wf.span a0 h0 (by omega)
 show(0≤nAt x∧nAt x≤nTo x∧nTo x≤T.length)∧de (txP (eQ T (nAt x) (nTo x)))=0∧dy (gR (txP (eQ T (nAt x) (nTo x)))) (fun z _=>Sp1 (.mk x ks) z)
 rw[p1,p2,e1]
 refine⟨⟨hsx.1,by omega,q2⟩,?_⟩
 have hlen:=lI T hsx.1 (Int.le_of_lt q1) q2
 generalize eQ T (ab (aa (bL T) a0)) (tTo tl)=pw at q3 q4 hlen
 have hB1:Lx ([41,59,125,125].drop (cz [41,59,125,125])) [(5,[41]),(5,[59]),(5,[125]),(5,[125])]:=by
  rw[Bx (by decide)]
  exact Lx.sy (by decide) (by decide) Lx.fin
 have hne:pw≠[]:=by
  intro e
  rw[e]at hlen
  simp at hlen
  omega
 have hLx:Lx (KZ++40::(pw++10::[41,59,125,125])) (AU++((5,[40])::(bH T (tc++[tl])++[(5,[41]),(5,[59]),(5,[125]),(5,[125])]))):=by
  refine Lx.pre (by decide) (by decide) ?_
  refine Lx.one (w:=[40]) (r:=pw++10::[41,59,125,125]) (Lv _) (by decide) ?_ (KE hB1 q4 hne)
  rw[D5,if_pos (by rw[q3];exact List.length_pos_iff.2 hne),q3]
 have hU:txP pw=KZ++40::(pw++10::[41,59,125,125]):=by
  unfold txP KZ
  simp
 have hkl:(bH T (tc++[tl])).length=ta.length:=by
  unfold bH
  rw[List.length_map,hta]
 have htl:ta.length≤800:=by
  obtain⟨LL,g1,_,g3⟩:=QC h
  have:=congrArg List.length g1
  rw[List.length_append,List.length_singleton,hKl]at this
  have:(tq.length)=tb.length+1:=by rw[htq];simp
  omega
 obtain⟨c1,c2⟩:=Qi (T:=txP pw) (ts:=AU++((5,[40])::(bH T (tc++[tl])++[(5,[41]),(5,[59]),(5,[125]),(5,[125])]))) (by
  unfold txP
  simp only[List.length_append,List.length_cons,List.length_nil]
  omega) (by rw[hU];exact Bx (by decide)) (by rw[hU];exact hLx) (by
  rw[List.length_append,List.length_cons,List.length_append,hkl]
  have:AU.length=10:=rfl
  rw[this]
  simp only[List.length_cons,List.length_nil]
  omega)
 refine⟨c1,?_⟩
 have hAt:At (txP pw) (bL (txP pw)) 0 (AU++(5,[40])::(bH T (tc++[tl])++[(5,[41]),(5,[59]),(5,[125]),(5,[125]),(0,[])])):=⟨Int.le_refl _,by
  rw[c2]
  simp⟩
 have hAt1:At (txP pw) (bL (txP pw)) 11 (bH T (tc++[tl])++[(5,[41]),(5,[59]),(5,[125]),(5,[125]),(0,[])]):=At.drop (AU++[(5,[40])]) (by simpa using hAt)
 have hAt2:At (txP pw) (bL (txP pw)) (11+(L-a0)) [(5,[41]),(5,[59]),(5,[125]),(5,[125]),(0,[])]:=by
  have:=At.drop _ hAt1
  rw[hkl,hla]at this
  exact this
 have hAtT:At T (bL T) a0 (bH T (tc++[tl])++bH T tq):=⟨h0,by
  have:bH T (bL T)=bH T L0++(bH T (tc++[tl])++bH T tq):=by
   conv=>lhs;rw[hsp,hta]
   unfold bH
   simp
  rw[this,show a0.toNat=(bH T L0).length by unfold bH;rw[List.length_map];omega,List.drop_left]⟩
 have hA:Al T (bL T) (txP pw) (bL (txP pw)) (11-a0) a0 L:=by
  have hb:=hAt2.get
  refine⟨by omega,?_,fun i hi1 hi2=>M0 w (by omega) (by omega) hin,fun i hi1 hi2=>?_,?_,?_⟩
  ·have:=hb.2.2
   omega
  ·have hj:(i-a0).toNat<(bH T (tc++[tl])).length:=by rw[hkl];omega
   have g1:=At.nth (i-a0).toNat hAtT (by rw[List.getElem?_append_left hj];exact List.getElem?_eq_getElem hj)
   have g2:=At.nth (i-a0).toNat hAt1 (by rw[List.getElem?_append_left hj];exact List.getElem?_eq_getElem hj)
   rw[show a0+((i-a0).toNat:Int)=i by omega]at g1
   rw[show 11+((i-a0).toNat:Int)=i+(11-a0) by omega]at g2
   exact⟨g1.1.trans g2.1.symm,g1.2.trans g2.2.symm⟩
  ·rw[show L+(11-a0)=11+(L-a0) by omega]
   exact hb.1
  ·rw[show L+(11-a0)=11+(L-a0) by omega]
   exact hb.2.1
 have hv2:∀m,AQ (dd (txP pw) (bL (txP pw)) (knt (txP pw) (bL (txP pw)) m)) 11 fun y e=>e=11+(L-a0)∧Et (.mk x ks) y:=fun m d n=>by
  have:=hrd _ _ _ hA m d n
  rw[show a0+(11-a0)=11 by omega,show L+(11-a0)=11+(L-a0) by omega]at this
  exact this
 exact Mp hAt hv2 hAt2 ke 0 0
end Go.Sx.Tryz
