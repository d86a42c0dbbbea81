/- A part of the proof: see the row's text. -/
import Derived.Test.YtehaoepopklboaaGreatDoorZh26
set_option linter.unusedVariables false
set_option linter.unusedSimpArgs false
noncomputable section
namespace Go.Sx.Tryz
open Go Go.Sx Go.Proofs
set_option maxRecDepth 100000
section
variable{σ:Type}{j:σ→WR}{c:Bool}{a b k:WT σ}{r s:Wt}
theorem q_C(h:c=true→a.run2 j=wok s)(h':c=false→b.run2 j=wok r):(WT.C c a b).run2 j=wok (bif c then s else r):=by
 cases c
 ·exact h' rfl
 ·exact h rfl
end
variable{L:List Nd}{b n:Nat}{x:Nd}{l:List Tx}
theorem Js(h:Okx x):(wn (n+2)).literal L (x,())=wok (JI x):=by
 show(Gj (wn (n+1)) L x).run2 ca=_
 have hf:(decide ((10:Int)=10)&&(decide (-9223372036854775808≤nN x)&&decide (nN x≤9223372036854775807)))=true:=by
  simp only[Bool.and_eq_true,decide_eq_true_eq]
  exact⟨trivial,h.lo,h.hi⟩
 have hu:=EH h.txt
 refine q_C (fun _=>q_E (bN _ _) (q_t hf (q_L (aO _ _))) (q_t hf (q_L (aO _ _)))) fun _=>?_
 refine q_C (fun _=>q_t hu (q_E (bN _ _) (q_L (aO _ _)) (q_L (aO _ _)))) fun _=>?_
 refine q_C (fun _=>q_t hu (q_E (bN _ _) (q_L (aO _ _)) (q_L (aO _ _)))) fun _=>?_
 refine q_C (fun _=>q_C (fun _=>q_L (aO _ _)) fun _=>q_C (fun _=>q_L (aO _ _)) fun _=>q_L (bN _ _)) fun _=>?_
 refine q_C (fun _=>q_L (fD h.txt)) fun _=>?_
 exact q_C (fun _=>q_L (aO _ _)) fun _=>q_L (aO _ _)
theorem cnt{a c:Int}(hc:bC (ae x)≤((aa x).length:Int))(hk:(ae x==a)=true)(ha:bC a=c)(hA:Al L b (aa x) l):c≤(l.length:Int):=by
 have:ae x=a:=by simpa using hk
 rw[this,ha]at hc
 rw[←hA.len]
 exact hc
theorem DF(h:1≤(aa x).length):inB 1 ((aa x).length:Int) (aa x).length=true∧List.drop (Int.toNat 1) (List.take (Int.toNat ((aa x).length:Int)) (aa x))=(aa x).drop 1:=by
 refine⟨iR (by omega) (by omega) (by omega),?_⟩
 rw[Int.toNat_natCast,List.take_length]
 rfl
theorem KH(h:Okx x)(hc:bC (ae x)≤((aa x).length:Int))(hA:Al L b (aa x) l)(hK:(aa x).length≤20000)(hn:b≤n)(h0:0<l.length):(wn (n+2)).asked L (x,())=wok (Jh x l):=by
 show(Gk (wn (n+1)) L x).run2 ca=_
 have hl:=hA.len
 refine q_t (cB hA h0) (q_B (lP hA h0 (by omega) 8) ?_)
 refine q_C (fun e=>?_) fun _=>?_
 ·have h1:1<l.length:=by have:=cnt hc e (c:=2) rfl hA;omega
  exact q_B (aO _ _) (q_t (cB hA h1) (q_B (lP hA h1 (by omega) 0) (q_B (aO _ _) rfl)))
 refine q_C (fun _=>q_L (aO _ _)) fun _=>?_
 refine q_C (fun _=>q_L (aO _ _)) fun _=>?_
 refine q_C (fun _=>q_L (aO _ _)) fun _=>?_
 obtain⟨c1,c2⟩:=DF (x:=x) (by omega)
 cases e:ae x==29 with
 |true=>
  refine q_B (aO _ _) (q_B (fD h.txt) (q_t rfl (q_t c1 (q_B ?_ rfl))))
  exact(congrArg (fun K=>(wn (n+1)).args L (K,())) c2).trans (tP (by rw[List.length_drop];omega) (hA.drop 1) hn)
 |false=>exact q_B (aO _ _) (q_B (fD h.txt) (q_f rfl rfl))
theorem Du(h:Okx x)(hA:Al L b (aa x) l)(hK:(aa x).length≤20000)(hn:b≤n)(hm:inI (ak x) (ah x).length=true)(h0:(ae x==30)=false→0<l.length):(wn (n+2)).made L (x,())=wok (FL x l):=by
 show(Fx (wn (n+1)) L x).run2 ca=_
 have tail:∀{g1 g2:Nat},(WT.C (ae x==30) (WT.B ((wn (n+1)).args L (aa x,())) (WT.O g1)) (WT.B ((wn (n+1)).ws [91]) (WT.C (inI 0 (aa x).length) (WT.B ((wn (n+1)).value L (aU (aa x) (Int.toNat 0),0,())) (WT.B ((wn (n+1)).ws [93]) (WT.O g2))) (WT.V 903))):WT Unit).run2 ca=wok (bif ae x==30 then ry l else wc [wS [91],vl l 0 0,wS [93]]):=by
  intro g1 g2
  refine q_C (fun _=>q_L (tP hK hA hn)) fun e=>?_
  exact q_B (aO _ _) (q_t (cB hA (h0 e)) (q_B (lP hA (h0 e) (by omega) 0) (q_B (aO _ _) rfl)))
 have h1:=kT (L:=L) (n:=n) h
 have y2:∀{g1 g2:Nat},(WT.B ((wn (n+1)).kind L ((ax x,aA x,ak x,ah x,()),())) (WT.C (ae x==30) (WT.B ((wn (n+1)).args L (aa x,())) (WT.O g1)) (WT.B ((wn (n+1)).ws [91]) (WT.C (inI 0 (aa x).length) (WT.B ((wn (n+1)).value L (aU (aa x) (Int.toNat 0),0,())) (WT.B ((wn (n+1)).ws [93]) (WT.O g2))) (WT.V 903)))):WT Unit).run2 ca=wok (wc [kdT x,bif ae x==30 then ry l else wc [wS [91],vl l 0 0,wS [93]]]):=by
  intro g1 g2
  refine(q_B h1 tail).trans ?_
  show _=wok (wj _ (wj _ ([],0)))
  rw[eh]
 refine q_B (aO _ _) (q_t hm ?_)
 have hs:=vS h
 unfold LO
 cases e1:ax x==6
 case true=>exact q_t rfl (q_B (bN _ _) y2)
 refine q_f rfl ?_
 cases e2:((List.getD (ah x) (ak x).toNat 0).toNat:Int)==111
 case true=>exact q_t rfl (q_B (bN _ _) y2)
 refine q_f rfl ?_
 generalize e3:(ae x==30)=c3 at y2⊢
 cases c3
 case false=>exact q_f rfl (y2.trans rfl)
 refine q_t rfl ?_
 cases e4:ax x !=5
 case true=>exact q_t rfl ((q_B (bN _ _) y2).trans rfl)
 refine q_f rfl ?_
 cases e5:decide (ak x>0)
 case true=>exact q_t rfl ((q_B (bN _ _) y2).trans rfl)
 refine q_f rfl (q_t hs ?_)
 cases e6: !CI (ah x)
 case true=>exact q_t rfl ((q_B (bN _ _) y2).trans rfl)
 exact q_f rfl (y2.trans rfl)
end Go.Sx.Tryz
namespace Go.Sx.Tryz
open Go Go.Sx Go.Proofs
set_option maxRecDepth 100000
variable{L:List Nd}{b n:Nat}{x:Nd}{l:List Tx}
theorem zG(s:List UInt8):0≤dN s∧dN s≤6:=by
 unfold dN eY
 generalize (s==([124,124]:List UInt8))=a1,(s==([38,38]:List UInt8))=a2,(s==([61,61]:List UInt8))=a3,(s==([33,61]:List UInt8))=a4,(s==([60]:List UInt8))=a5,(s==([60,61]:List UInt8))=a6,(s==([62]:List UInt8))=a7,
  (s==([62,61]:List UInt8))=a8,(s==([43]:List UInt8))=a9,(s==([45]:List UInt8))=c1,(s==([42]:List UInt8))=c2,(s==([47]:List UInt8))=c3,(s==([37]:List UInt8))=c4
 cases a1
 case true=>simp only[cond_true,cond_false];decide
 cases a2
 case true=>simp only[cond_true,cond_false];decide
 cases a3||a4
 case true=>simp only[cond_true,cond_false];decide
 cases a5||(a6||(a7||a8))
 case true=>simp only[cond_true,cond_false];decide
 cases a9||c1
 case true=>simp only[cond_true,cond_false];decide
 cases c2||(c3||c4)<;>(simp only[cond_true,cond_false];decide)
theorem IM(h:Okx x)(hc:bC (ae x)≤((aa x).length:Int))(hA:Al L b (aa x) l)(hK:(aa x).length≤20000)(hn:b≤n)(hm:ae x=30∨ae x=31→inI (ak x) (ah x).length=true):(wn (n+3)).bare L (x,())=wok (dy x l):=by
 show(w80 (wn (n+2)) L x).run2 ca=_
 have hl:=hA.len
 have hv:∀i least,i<l.length→(wn (n+2)).value L (aU (aa x) i,least,())=wok (vl l i least):=fun i least hi=>lP hA hi (by omega) least
 by_cases hk:ae x=34
 ·have h1:1<l.length:=by rw[hk]at hc;have:(bC 34:Int)=2:=rfl;omega
  have i0:=cB hA (i:=0) (by omega)
  have i1:=cB hA h1
  have hb:dy x l=wc [wIf (dN (aw x)==0) 5,vl l 0 (dN (aw x)),wS ([32]++aw x++[32]),vl l 1 (dN (aw x)+1)]:=by unfold dy;rw[hk];rfl
  rw[hb]
  have ht:=h.txt
  have r1:decide (List.length ([32]:List UInt8)+(aw x).length<2^62)=true:=decide_eq_true (by simp only[List.length_singleton];omega)
  have r2:decide (List.length (([32]:List UInt8)++aw x)+List.length ([32]:List UInt8)<2^62)=true:=decide_eq_true (by simp only[List.length_append,List.length_singleton];omega)
  have hw:IntKind.wrap .i64 (dN (aw x)+1)=dN (aw x)+1:=by
   have:=zG (aw x)
   exact wrap64 (by omega) (by omega)
  have rest:∀g,(WT.C (inI 0 (aa x).length) (WT.B ((wn (n+2)).value L (aU (aa x) (Int.toNat 0),dN (aw x),())) (WT.C (decide (List.length ([32]:List UInt8)+(aw x).length<2^62)) (WT.C (decide (List.length (([32]:List UInt8)++aw x)+List.length ([32]:List UInt8)<2^62))
    (WT.B ((wn (n+2)).ws ([32]++aw x++[32])) (WT.C (inI 1 (aa x).length) (WT.B ((wn (n+2)).value L (aU (aa x) (Int.toNat 1),IntKind.wrap .i64 (dN (aw x)+1),())) (WT.O g)) (WT.V 903))) (WT.V 806)) (WT.V 805))) (WT.V 703):WT Unit).run2 ca=wok (wc [vl l 0 (dN (aw x)),wS ([32]++aw x++[32]),vl l 1 (dN (aw x)+1)]):=fun g=>by
   rw[hw]
   exact q_t i0 (q_B (hv 0 _ (by omega)) (q_t r1 (q_t r2 (q_B (aO _ _) (q_t i1 (q_B (hv 1 _ h1) rfl))))))
  exact q_t (by rw[hk];rfl) (q_E (bN _ _) (rest 4) (rest 3))
 by_cases hk2:ae x=43
 ·have hk:=hk2
  have h0:0<l.length:=by rw[hk]at hc;have:(bC 43:Int)=1:=rfl;omega
  have i0:=cB hA h0
  have hb:dy x l=wc [vl l 0 4,wS [32,105,115,32,115,111,109,101]]:=by unfold dy;rw[hk];rfl
  rw[hb]
  repeat (first|refine q_t (by rw[hk];rfl) ?_|refine q_f (by rw[hk];rfl) ?_|refine q_t i0 ?_)
  refine q_B (hv 0 4 h0) (q_t (by rw[hk];rfl) (q_B (aO _ _) rfl))
 by_cases hk3:ae x=44
 ·have hk:=hk3
  have h0:0<l.length:=by rw[hk]at hc;have:(bC 44:Int)=1:=rfl;omega
  have i0:=cB hA h0
  have hb:dy x l=wc [vl l 0 4,wS [32,105,115,32,110,111,110,101]]:=by unfold dy;rw[hk];rfl
  rw[hb]
  repeat (first|refine q_t (by rw[hk];rfl) ?_|refine q_f (by rw[hk];rfl) ?_|refine q_t i0 ?_)
  refine q_B (hv 0 4 h0) (q_f (by rw[hk];rfl) (q_B (aO _ _) rfl))
 by_cases hk4:ae x=32
 ·have hk:=hk4
  have h0:0<l.length:=by rw[hk]at hc;have:(bC 32:Int)=1:=rfl;omega
  have i0:=cB hA h0
  have hb:dy x l=wc [wS [45],vl l 0 7]:=by unfold dy;rw[hk];rfl
  rw[hb]
  repeat (first|refine q_t (by rw[hk];rfl) ?_|refine q_f (by rw[hk];rfl) ?_|refine q_t i0 ?_)
  exact q_B (aO _ _) (q_t i0 (q_B (hv 0 7 h0) rfl))
 by_cases hk5:ae x=33
 ·have hk:=hk5
  have h0:0<l.length:=by rw[hk]at hc;have:(bC 33:Int)=1:=rfl;omega
  have i0:=cB hA h0
  have hb:dy x l=wc [wS [33],vl l 0 7]:=by unfold dy;rw[hk];rfl
  rw[hb]
  repeat (first|refine q_t (by rw[hk];rfl) ?_|refine q_f (by rw[hk];rfl) ?_|refine q_t i0 ?_)
  exact q_B (aO _ _) (q_t i0 (q_B (hv 0 7 h0) rfl))
 by_cases hk6:ae x=35
 ·have hk:=hk6
  have h0:0<l.length:=by rw[hk]at hc;have:(bC 35:Int)=1:=rfl;omega
  have i0:=cB hA h0
  have hb:dy x l=wc [wS [99,97,115,116,60],wIf (ax x==6) 132,kdT x,wS [62,40],vl l 0 0,wS [41]]:=by unfold dy;rw[hk];rfl
  rw[hb]
  repeat (first|refine q_t (by rw[hk];rfl) ?_|refine q_f (by rw[hk];rfl) ?_|refine q_t i0 ?_)
  refine q_B (aO _ _) (q_E (bN _ _) ?_ ?_)<;>
   exact q_B (kT h) (q_B (aO _ _) (q_t i0 (q_B (hv 0 0 h0) (q_B (aO _ _) rfl))))
 by_cases hk7:ae x=30
 ·have hk:=hk7
  have hb:dy x l=FL x l:=by unfold dy;rw[hk];rfl
  rw[hb]
  repeat (first|refine q_t (by rw[hk];rfl) ?_|refine q_f (by rw[hk];rfl) ?_)
  exact q_L (Du h hA hK hn (hm (.inl hk)) fun e=>by rw[hk]at e;cases e)
 by_cases hk8:ae x=31
 ·have hk:=hk8
  have h0:0<l.length:=by rw[hk]at hc;have:(bC 31:Int)=1:=rfl;omega
  have hb:dy x l=FL x l:=by unfold dy;rw[hk];rfl
  rw[hb]
  repeat (first|refine q_t (by rw[hk];rfl) ?_|refine q_f (by rw[hk];rfl) ?_)
  exact q_L (Du h hA hK hn (hm (.inr hk)) fun _=>h0)
 have made:∀a:Int,ae x=a→a=36∨a=37∨a=39∨a=41→(w80 (wn (n+2)) L x).run2 ca=wok (dy x l):=fun a hk ha=>by
  have h0:0<l.length:=by
   rw[hk]at hc
   rcases ha with rfl|rfl|rfl|rfl
   ·have:(bC 36:Int)=1:=rfl;omega
   ·have:(bC 37:Int)=1:=rfl;omega
   ·have:(bC 39:Int)=1:=rfl;omega
   ·have:(bC 41:Int)=1:=rfl;omega
  have i0:=cB hA h0
  have hb:dy x l=wc [wS (cE (ae x)++[40]),vl l 0 0,wS [41]]:=by unfold dy;rw[hk];rcases ha with rfl|rfl|rfl|rfl<;>rfl
  rw[hb]
  rcases ha with rfl|rfl|rfl|rfl
  all_goals
   repeat (first|refine q_t (by rw[hk];rfl) ?_|refine q_f (by rw[hk];rfl) ?_)
   exact q_B (aO _ _) (q_t i0 (q_B (hv 0 0 h0) (q_B (aO _ _) rfl)))
 by_cases k1:ae x=36
 ·exact made _ k1 (.inl rfl)
 by_cases k2:ae x=37
 ·exact made _ k2 (.inr (.inl rfl))
 by_cases k3:ae x=39
 ·exact made _ k3 (.inr (.inr (.inl rfl)))
 by_cases k4:ae x=41
 ·exact made _ k4 (.inr (.inr (.inr rfl)))
 have askd:∀a:Int,ae x=a→a=26∨a=27∨a=28∨a=29∨a=40∨a=45→(w80 (wn (n+2)) L x).run2 ca=wok (dy x l):=fun a hk ha=>by
  have h0:0<l.length:=by
   have hc:=hc
   rw[hk]at hc
   rcases ha with rfl|rfl|rfl|rfl|rfl|rfl
   ·have:(bC 26:Int)=1:=rfl;omega
   ·have:(bC 27:Int)=2:=rfl;omega
   ·have:(bC 28:Int)=1:=rfl;omega
   ·have:(bC 29:Int)=1:=rfl;omega
   ·have:(bC 40:Int)=1:=rfl;omega
   ·have:(bC 45:Int)=1:=rfl;omega
  have hb:dy x l=Jh x l:=by unfold dy;rw[hk];rcases ha with rfl|rfl|rfl|rfl|rfl|rfl<;>rfl
  rw[hb]
  have ha2:=KH h hc hA hK hn h0
  rcases ha with rfl|rfl|rfl|rfl|rfl|rfl
  all_goals
   repeat (first|refine q_t (by rw[hk];rfl) ?_|refine q_f (by rw[hk];rfl) ?_)
   exact q_L ha2
 by_cases k5:ae x=26
 ·exact askd _ k5 (.inl rfl)
 by_cases k6:ae x=27
 ·exact askd _ k6 (.inr (.inl rfl))
 by_cases k7:ae x=28
 ·exact askd _ k7 (.inr (.inr (.inl rfl)))
 by_cases k8:ae x=29
 ·exact askd _ k8 (.inr (.inr (.inr (.inl rfl))))
 by_cases k9:ae x=40
 ·exact askd _ k9 (.inr (.inr (.inr (.inr (.inl rfl)))))
 by_cases k10:ae x=45
 ·exact askd _ k10 (.inr (.inr (.inr (.inr (.inr rfl)))))
 have f:∀a:Int,¬ae x=a→(ae x==a)=false:=fun a h=>by simpa using h
 have hb:dy x l=JI x:=by
  unfold dy
  rw[f _ hk,f _ hk2,f _ hk3,f _ hk4,f _ hk5,f _ hk6,f _ hk7,f _ hk8,f _ k1,f _ k2,f _ k3,f _ k4,f _ k5,f _ k6,f _ k7,f _ k8,f _ k9,f _ k10]
  rfl
 rw[hb]
 refine q_f (f _ hk) (q_f (f _ hk2) (q_f (f _ hk3) (q_f (f _ hk4) (q_f (f _ hk5) (q_f (f _ hk6) (q_f (f _ hk7) (q_f (f _ hk8) (q_f (f _ k1) (q_f (f _ k2) (q_f (f _ k3) (q_f (f _ k4) (q_f (f _ k5) (q_f (f _ k6) (q_f (f _ k7) (q_f (f _ k8) (q_f (f _ k9) (q_f (f _ k10) ?_)))))))))))))))))
 exact q_L (Js h)
theorem DC{i:Int}(hi:inI i L.length=true)(h:Okx (aj L i.toNat))(hb:(wn n).bare L (aj L i.toNat,())=wok (dy (aj L i.toNat) l))(least:Int):(wn (n+1)).value L (i,least,())=wok (fN (aj L i.toNat) (dy (aj L i.toNat) l) least):=by
 show(w46 (wn n) L i least).run2 ca=_
 refine q_t hi ?_
 refine q_C (fun _=>q_L (bN _ _)) fun _=>?_
 exact q_C (fun _=>q_B (aO _ _) (q_B hb (q_B (aO _ _) rfl))) fun _=>q_L hb
end Go.Sx.Tryz
namespace Go.Sx.Tryz
open Go Go.Sx Go.Proofs
set_option maxRecDepth 100000
variable{L:List Nd}{b n:Nat}{x:Nd}{l:List Tx}
theorem BF(hA:Al L b (aa x) l)(h0:0<l.length):ae (aj L (Int.toNat (aU (aa x) (Int.toNat 0))))=k0T l:=by
 obtain⟨K,hK⟩:=(hA.get h0).dat
 show ae (aj L (Int.toNat (aU (aa x) 0)))=_
 rw[hK]
 rfl
theorem sJ(hA:Al L b (aa x) l)(h0:0<l.length):inI (aU (aa x) (Int.toNat 0)) L.length=true:=(hA.get h0).inr
theorem Kx(h:Okx x)(hc:bC (ae x)≤((aa x).length:Int))(hA:Al L b (aa x) l)(hK:(aa x).length≤20000)(hn:b≤n):(wn (n+3)).line L (x,())=wok (NM x l):=by
 show(w82 (wn (n+2)) L x).run2 ca=_
 have hl:=hA.len
 have hv:∀i least,i<l.length→(wn (n+2)).value L (aU (aa x) i,least,())=wok (vl l i least):=fun i least hi=>lP hA hi (by omega) least
 have opt:∀(s:List UInt8) (g1 g2 v:Nat),(WT.C (decide (((aa x).length:Int)>0)) (WT.B ((wn (n+2)).ws s) (WT.C (inI 0 (aa x).length) (WT.B ((wn (n+2)).value L (aU (aa x) (Int.toNat 0),0,())) (WT.O g1)) (WT.V v))) (WT.O g2):WT Unit).run2 ca=wok (bif l.isEmpty then([],0)else wc [wS s,vl l 0 0]):=fun s g1 g2 v=>by
  cases hl0:l with
  |nil=>
   subst hl0
   exact q_f (decide_eq_false (by rw[hl];simp)) rfl
  |cons t r=>
   rw[←hl0]
   have h0:0<l.length:=by rw[hl0];simp
   rw[show l.isEmpty=false by rw[hl0];rfl]
   exact q_t (decide_eq_true (by omega)) (q_B (aO _ _) (q_t (cB hA h0) (q_B (hv 0 0 h0) rfl)))
 refine q_C (fun _=>q_B (oz h) (opt _ _ _ _)) fun _=>?_
 refine q_C (fun e=>?_) fun _=>?_
 ·have h1:1<l.length:=by have:=cnt hc e (c:=2) rfl hA;omega
  have h0:0<l.length:=by omega
  have y2:∀g,(WT.C (inI 0 (aa x).length) (WT.B ((wn (n+2)).value L (aU (aa x) (Int.toNat 0),0,())) (WT.B ((wn (n+2)).ws [32,61,32]) (WT.C (inI 1 (aa x).length) (WT.B ((wn (n+2)).value L (aU (aa x) (Int.toNat 1),0,())) (WT.O g)) (WT.V 1403)))) (WT.V 1203):WT Unit).run2 ca=wok (wc [vl l 0 0,wS [32,61,32],vl l 1 0]):=fun g=>
   q_t (cB hA h0) (q_B (hv 0 0 h0) (q_B (aO _ _) (q_t (cB hA h1) (q_B (hv 1 0 h1) rfl))))
  have hk:=BF hA h0
  refine q_t (cB hA h0) (q_t (sJ hA h0) ?_)
  show _=wok (wj (wIf (k0T l !=25&&(k0T l !=26&&k0T l !=27)) 132) (wc [vl l 0 0,wS [32,61,32],vl l 1 0]))
  cases e1:k0T l !=25
  case false=>exact q_f (by rw[hk];exact e1) (y2 3)
  refine q_t (by rw[hk];exact e1) ?_
  cases e2:k0T l !=26
  case false=>exact q_f (by rw[hk];exact e2) (y2 3)
  refine q_t (by rw[hk];exact e2) ?_
  cases e3:k0T l !=27
  case false=>exact q_f (by rw[hk];exact e3) (y2 3)
  exact q_t (by rw[hk];exact e3) (q_B (bN _ _) (y2 4))
 refine q_C (fun _=>q_L (aO _ _)) fun _=>?_
 refine q_C (fun _=>q_L (aO _ _)) fun _=>?_
 refine q_C (fun _=>q_B (aO _ _) (opt _ _ _ _)) fun _=>?_
 refine q_C (fun e=>?_) fun _=>?_
 ·have h0:0<l.length:=by have:=cnt hc e (c:=1) rfl hA;omega
  exact q_B (aO _ _) (q_t (cB hA h0) (q_B (hv 0 0 h0) (q_B (aO _ _) rfl)))
 refine q_C (fun _=>q_B (aO _ _) (q_B (tP hK hA (by omega)) rfl)) fun _=>?_
 refine q_C (fun e=>?_) fun _=>q_L (bN _ _)
 have h0:0<l.length:=by have:=cnt hc e (c:=1) rfl hA;omega
 have y3:∀g,(WT.C (inI 0 (aa x).length) (WT.B ((wn (n+2)).value L (aU (aa x) (Int.toNat 0),0,())) (WT.O g)) (WT.V 3503):WT Unit).run2 ca=wok (wc [vl l 0 0]):=fun g=>q_t (cB hA h0) (q_B (hv 0 0 h0) rfl)
 have hk:=BF hA h0
 refine q_t (cB hA h0) (q_t (sJ hA h0) ?_)
 show _=wok (wj (wIf (k0T l !=29&&k0T l !=30) 132) (wc [vl l 0 0]))
 cases e1:k0T l !=29
 case false=>exact q_f (by rw[hk];exact e1) (y3 1)
 refine q_t (by rw[hk];exact e1) ?_
 cases e2:k0T l !=30
 case false=>exact q_f (by rw[hk];exact e2) (y3 1)
 exact q_t (by rw[hk];exact e2) (q_B (bN _ _) (y3 2))
theorem ui{K:List Int}(hK:K.length≤20000)(hn:b≤n){d:Nat}(hd:d+1+b≤500000)(hn1:1≤n):∀(r:List Tx) (R P:List Int) (f:Nat),K=P++R→Al L b R r→R.length<f→
  lpW (v47 (wn n) L) f (K,(K.length:Int),(P.length:Int),(d:Int))=wok (wj (wc (r.map fun t=>wc [dJ (d+1),t.s (d+1),wS [10]])) (wc [dJ d,wS [125]]))
 |[],[],P,f+1,hp,hA,hf=>by
  rw[List.append_nil]at hp
  subst hp
  show(v47 (wn n) L (K,(K.length:Int),(K.length:Int),(d:Int))).run2 _=_
  have h1:decide ((K.length:Int)<(K.length:Int))=false:=decide_eq_false (by omega)
  obtain⟨n,rfl⟩:∃m,n=m+1:=⟨n-1,by omega⟩
  refine q_f h1 ?_
  show _=wok (wj ([],0) _)
  rw[nj]
  exact q_B (sr (by omega)) (q_B (aO _ _) rfl)
 |t::r,k::R,P,f+1,hp,hA,hf=>by
  have hl:P.length+1+R.length=K.length:=by rw[hp];simp;omega
  have h1:decide ((P.length:Int)<(K.length:Int))=true:=decide_eq_true (by omega)
  have h2:inI (P.length:Int) K.length=true:=by rw[hp];exact gi _ _ _
  have h3:aU K (P.length:Int).toNat=k:=by rw[Int.toNat_natCast,hp];exact fS _ _ _
  have ih:=ui hK hn hd hn1 r R (P++[k]) f (by rw[hp];simp) hA.2 (by simp only[List.length_cons]at hf;omega)
  rw[List.length_append]at ih
  have h4:IntKind.wrap .i64 ((P.length:Int)+1)=((P.length+[k].length:Nat):Int):=kZ (by omega)
  have h5:IntKind.wrap .i64 ((d:Int)+1)=((d+1:Nat):Int):=by rw[wrap64 (by omega) (by omega)];rfl
  have hv:=hA.1.s n (d+1) hn (by omega)
  obtain⟨n,rfl⟩:∃m,n=m+1:=⟨n-1,by omega⟩
  have hv0:(wn (n+1)).lead L (IntKind.wrap .i64 ((d:Int)+1),())=wok (dJ (d+1)):=by rw[h5];exact sr (by omega)
  have hv1:(wn (n+1)).stat L (aU K (P.length:Int).toNat,IntKind.wrap .i64 ((d:Int)+1),())=wok (t.s (d+1)):=by rw[h5,h3];exact hv
  have hr:(WT.J (K,(K.length:Int),IntKind.wrap .i64 ((P.length:Int)+1),(d:Int))).run2 (lpW (v47 (wn (n+1)) L) f)=wok (wj (wc (r.map fun t=>wc [dJ (d+1),t.s (d+1),wS [10]])) (wc [dJ d,wS [125]])):=by
   rw[h4];exact ih
  show(v47 (wn (n+1)) L (K,(K.length:Int),(P.length:Int),(d:Int))).run2 _=_
  refine(q_t h1 (q_t h2 (q_B hv0 (q_B hv1 (q_B (aO _ _) hr))))).trans ?_
  show _=wok (wj (wj (wj (dJ (d+1)) (wj (t.s (d+1)) (wj (wS [10]) ([],0)))) (wc (r.map fun t=>wc [dJ (d+1),t.s (d+1),wS [10]]))) (wc [dJ d,wS [125]]))
  rw[eh]
  simp only[c7]
 |[],_::_,_,_,_,hA,_=>hA.elim
 |_::_,[],_,_,_,hA,_=>hA.elim
 |_,_,_,0,_,_,hf=>absurd hf (Nat.not_lt_zero _)
theorem B7{i:Int}(hi:inI i L.length=true)(hA:Al L b (aa (aj L i.toNat)) l)(hK:(aa (aj L i.toNat)).length≤20000)(hn:b≤n){d:Nat}(hd:d+1+b≤500000)(hn1:1≤n):
  (wn (n+1)).block L (i,(d:Int),())=wok (IT (aj L i.toNat) l d):=by
 show(w47 (wn n) L i d).run2 (lpW (v47 (wn n) L) ((aa (aj L i.toNat)).length+1))=_
 have hl:=hA.len
 refine q_t hi ?_
 refine q_C (fun _=>q_L (bN _ _)) fun _=>?_
 have hp:=ui hK hn hd hn1 l (aa (aj L i.toNat)) [] ((aa (aj L i.toNat)).length+1) rfl hA (Nat.lt_succ_self _)
 cases hl0:l with
 |nil=>
  rw[hl0]at hl
  exact q_t (by rw[hl];rfl) (q_L (aO _ _))
 |cons t r=>
  rw[hl0]at hl hp
  refine q_f (by rw[hl];exact beq_eq_false_iff_ne.2 (by simp only[List.length_cons];omega)) ?_
  exact q_B (aO _ _) hp
theorem J2{i:Int}(hi:inI i L.length=true)(h:Okx (aj L i.toNat))(hc:bC (ae (aj L i.toNat))≤((aa (aj L i.toNat)).length:Int))(hA:Al L b (aa (aj L i.toNat)) l)(hK:(aa (aj L i.toNat)).length≤20000)(hn:b≤n){d:Nat}(hd:d+1+b≤500000):
  (wn (n+4)).stat L (i,(d:Int),())=wok (M9 (aj L i.toNat) l d):=by
 show(w49 (wn (n+3)) L i d).run2 ca=_
 have hl:=hA.len
 have hv:∀i least,i<l.length→(wn (n+3)).value L (aU (aa (aj L _)) i,least,())=wok (vl l i least):=fun i least hi=>lP hA hi (by omega) least
 have hbk:∀j,j<l.length→(wn (n+3)).block L (aU (aa (aj L i.toNat)) j,(d:Int),())=wok (bk l j d):=fun j hj=>(hA.get hj).bl (n+3) d (by omega) (by omega)
 refine q_t hi ?_
 refine q_C (fun _=>q_L (B7 hi hA hK (by omega) hd (by omega))) fun _=>?_
 refine q_C (fun e=>?_) fun _=>?_
 ·have h1:1<l.length:=by have:=cnt hc e (c:=2) rfl hA;omega
  refine q_B (aO _ _) (q_t (cB hA (i:=0) (by omega)) (q_B (hv 0 0 (by omega)) (q_B (aO _ _) (q_t (cB hA h1) (q_B (hbk 1 h1) ?_)))))
  have h5:wj (bif decide ((l.length:Int)>2)then wc [wS [32,101,108,115,101,32],bk l 2 d]else([],0)) ([],0)=(bif decide ((l.length:Int)>2)then wc [wS [32,101,108,115,101,32],bk l 2 d]else([],0)):=eh _
  show _=wok (wj (bif decide ((l.length:Int)>2)then wc [wS [32,101,108,115,101,32],bk l 2 d]else([],0)) ([],0))
  rw[h5,hl]
  refine q_C (fun e2=>?_) fun _=>rfl
  have h2:2<l.length:=by have:=of_decide_eq_true e2;omega
  exact q_B (aO _ _) (q_t (by rw[←hl];exact cB hA h2) (q_B (hbk 2 h2) rfl))
 refine q_C (fun e=>?_) fun _=>?_
 ·have h1:1<l.length:=by have:=cnt hc e (c:=2) rfl hA;omega
  exact q_B (aO _ _) (q_t (cB hA (i:=0) (by omega)) (q_B (hv 0 0 (by omega)) (q_B (aO _ _) (q_t (cB hA h1) (q_B (hbk 1 h1) rfl)))))
 exact q_B (Kx h hc hA hK hn) (q_B (aO _ _) rfl)
end Go.Sx.Tryz
namespace Go.Sx.Tryz
open Go Go.Sx Go.Proofs
set_option maxRecDepth 100000
variable{L:List Nd}{b n:Nat}{x:Nd}{l:List Tx}
def itP(t:Tx):Wt:=bif ae t.x !=7 then wE 132 else t.m 0
theorem ve{K:List Int}(hK:K.length≤20000)(hn:b≤n)(hb:b≤500000):∀(r:List Tx) (R P:List Int) (f:Nat),K=P++R→Al L b R r→R.length<f→
  lpW (v85 (wn n) L) f (K,(K.length:Int),(P.length:Int))=wok (wj (bif P.isEmpty then nZ [44,32] (r.map itP)else j7 [44,32] (r.map itP)) (wS [41]))
 |[],[],P,f+1,hp,hA,hf=>by
  rw[List.append_nil]at hp
  subst hp
  show(v85 (wn n) L (K,(K.length:Int),(K.length:Int))).run2 _=_
  have h1:decide ((K.length:Int)<(K.length:Int))=false:=decide_eq_false (by omega)
  refine q_f h1 ?_
  rw[show(bif K.isEmpty then nZ [44,32] (([]:List Tx).map itP)else j7 [44,32] (([]:List Tx).map itP))=([],0) by cases K.isEmpty<;>rfl,nj]
  exact q_L (aO n _)
 |t::r,k::R,P,f+1,hp,hA,hf=>by
  have hl:P.length+1+R.length=K.length:=by rw[hp];simp;omega
  have h1:decide ((P.length:Int)<(K.length:Int))=true:=decide_eq_true (by omega)
  have h2:inI (P.length:Int) K.length=true:=by rw[hp];exact gi _ _ _
  have h3:aU K (P.length:Int).toNat=k:=by rw[Int.toNat_natCast,hp];exact fS _ _ _
  have ih:=ve hK hn hb r R (P++[k]) f (by rw[hp];simp) hA.2 (by simp only[List.length_cons]at hf;omega)
  rw[show(P++[k]).isEmpty=false by cases P<;>rfl,List.length_append]at ih
  have h4:IntKind.wrap .i64 ((P.length:Int)+1)=((P.length+[k].length:Nat):Int):=kZ (by omega)
  have hv:(wn n).member L (k,0,())=wok (t.m 0):=hA.1.m n 0 hn (by omega)
  obtain⟨K',hK'⟩:=hA.1.dat
  have hkk:ae (aj L k.toNat)=ae t.x:=by rw[hK'];rfl
  show(v85 (wn n) L (K,(K.length:Int),(P.length:Int))).run2 _=_
  refine q_t h1 (q_t h2 ?_)
  have y1:(WT.J (K,(K.length:Int),IntKind.wrap .i64 ((P.length:Int)+1))).run2 (lpW (v85 (wn n) L) f)=wok (wj (j7 [44,32] (r.map itP)) (wS [41])):=by rw[h4];exact ih
  have hrest:(WT.C (inI (aU K (P.length:Int).toNat) L.length) (WT.C (ae (aj L (aU K (P.length:Int).toNat).toNat) !=7) (WT.B ((wn n).fail 132) (WT.J (K,(K.length:Int),IntKind.wrap .i64 ((P.length:Int)+1))))
    (WT.B ((wn n).member L (aU K (P.length:Int).toNat,0,())) (WT.J (K,(K.length:Int),IntKind.wrap .i64 ((P.length:Int)+1))))) (WT.V 606)).run2 (lpW (v85 (wn n) L) f)=
    wok (wj (itP t) (wj (j7 [44,32] (r.map itP)) (wS [41]))):=by
   rw[h3,hkk]
   refine q_t hA.1.inr ?_
   unfold itP
   cases ae t.x !=7 with
   |true=>exact q_t rfl (q_B (bN _ _) y1)
   |false=>exact q_f rfl (q_B hv y1)
  cases hP:P with
  |nil=>
   subst hP
   refine q_f rfl ?_
   refine hrest.trans ?_
   rw[←c7]
   rfl
  |cons p0 P0=>
   rw[←hP]
   have h5:decide ((P.length:Int)>0)=true:=decide_eq_true (by rw[hP];simp only[List.length_cons];omega)
   refine q_t h5 ?_
   rw[show P.isEmpty=false by rw[hP];rfl]
   refine(q_B (aO n _) hrest).trans ?_
   show _=wok (wj (wj (wS [44,32]) (wj (itP t) (wj (j7 [44,32] (r.map itP)) ([],0)))) (wS [41]))
   rw[eh,c7,c7]
 |[],_::_,_,_,_,hA,_=>hA.elim
 |_::_,[],_,_,_,hA,_=>hA.elim
 |_,_,_,0,_,_,hf=>absurd hf (Nat.not_lt_zero _)
theorem I6{K:List Int}(hK:K.length≤20000)(hA:Al L b K l)(hn:b≤n)(hb:b≤500000):(wn (n+1)).params L (K,())=wok (AP l):=by
 show(w85 (wn n) L K).run2 (lpW (v85 (wn n) L) (K.length+1))=_
 have h:=ve hK hn hb l K [] (K.length+1) rfl hA (Nat.lt_succ_self _)
 have h2:(w85 (wn n) L K).run2 (lpW (v85 (wn n) L) (K.length+1))=wok (wj (wS [40]) (wj (nZ [44,32] (l.map itP)) (wS [41]))):=q_B (aO n _) h
 rw[h2]
 show _=wok (wj _ (wj _ (wj _ ([],0))))
 rw[eh]
 rfl
theorem Kt{i:Int}(hi:inI i L.length=true)(h:Okx (aj L i.toNat))(hc:bC (ae (aj L i.toNat))≤((aa (aj L i.toNat)).length:Int))(hA:Al L b (aa (aj L i.toNat)) l)(hK:(aa (aj L i.toNat)).length≤20000)(hn:b≤n){d:Nat}(hd:d+1+b≤500000):
  (wn (n+4)).member L (i,(d:Int),())=wok (mU (aj L i.toNat) l d):=by
 show(w50 (wn (n+3)) L i d).run2 ca=_
 generalize hx:aj L i.toNat=x at*
 have hl:=hA.len
 have tail:∀g v1 v2,0<l.length→(WT.C (inB 0 (IntKind.wrap .i64 (((aa x).length:Int)-1)) (aa x).length) (WT.B ((wn (n+3)).params L (List.drop (Int.toNat 0) (List.take (Int.toNat (IntKind.wrap .i64 (((aa x).length:Int)-1))) (aa x)),()))
   (WT.B ((wn (n+3)).ws [32]) (WT.C (inI (IntKind.wrap .i64 (((aa x).length:Int)-1)) (aa x).length) (WT.B ((wn (n+3)).block L (aU (aa x) (Int.toNat (IntKind.wrap .i64 (((aa x).length:Int)-1))),(d:Int),())) (WT.B ((wn (n+3)).ws [10]) (WT.O g))) (WT.V v1)))) (WT.V v2):WT Unit).run2 ca=
   wok (wc [AP (l.take (l.length-1)),wS [32],bk l (l.length-1) d,wS [10]]):=fun g v1 v2 h0=>by
  have hw:IntKind.wrap .i64 (((aa x).length:Int)-1)=((l.length-1:Nat):Int):=by rw[wrap64 (by omega) (by omega)];omega
  rw[hw,Int.toNat_natCast]
  refine q_t (iR (by omega) (by omega) (by omega)) (q_B ?_ (q_B (aO _ _) (q_t (cB hA (by omega)) (q_B ((hA.get (i:=l.length-1) (by omega)).bl (n+3) d (by omega) (by omega)) (q_B (aO _ _) rfl)))))
  show(wn (n+3)).params L (List.drop 0 (List.take (l.length-1) (aa x)),())=_
  exact I6 (Nat.le_trans (List.length_take_le' _ _) hK) (hA.take _) (by omega) (by omega)
 refine q_t hi ?_
 rw[hx]
 have hlead:(wn (n+3)).lead L ((d:Int),())=wok (dJ d):=sr (by omega)
 by_cases k1:ae x=4
 ·have hk:=k1
  have hb:mU x l d=wc [dJ d,tyT x,wS [59,10]]:=by unfold mU;rw[hk];rfl
  rw[hb]
  refine q_t (by rw[hk];rfl) (q_B hlead (q_B (oz h) (q_B (aO _ _) rfl)))
 by_cases k2:ae x=7
 ·have hk:=k2
  have hb:mU x l d=tyT x:=by unfold mU;rw[hk];rfl
  rw[hb]
  exact q_f (by rw[hk];rfl) (q_t (by rw[hk];rfl) (q_L (oz h)))
 by_cases k3:ae x=5
 ·have hk:=k3
  have h0:0<l.length:=by rw[hk]at hc;have:(bC 5:Int)=1:=rfl;omega
  have hb:mU x l d=wc [dJ d,wS [105,110,105,116],AP (l.take (l.length-1)),wS [32],bk l (l.length-1) d,wS [10]]:=by unfold mU;rw[hk];rfl
  rw[hb]
  refine q_f (by rw[hk];rfl) (q_f (by rw[hk];rfl) (q_t (by rw[hk];rfl) (q_t (by rw[hk];rfl) ?_)))
  exact q_B hlead (q_t (by rw[hk];rfl) (q_B (aO _ _) (tail _ _ _ h0)))
 by_cases k4:ae x=6
 ·have hk:=k4
  have h0:0<l.length:=by rw[hk]at hc;have:(bC 6:Int)=1:=rfl;omega
  have hb:mU x l d=wc [dJ d,kdT x,wS [32],nmT (aw x),AP (l.take (l.length-1)),wS [32],bk l (l.length-1) d,wS [10]]:=by unfold mU;rw[hk];rfl
  rw[hb]
  refine q_f (by rw[hk];rfl) (q_f (by rw[hk];rfl) (q_f (by rw[hk];rfl) (q_t (by rw[hk];rfl) ?_)))
  refine q_B hlead (q_f (by rw[hk];rfl) ?_)
  exact q_B (kT h) (q_B (aO _ _) (q_B (fD h.txt) (tail _ _ _ h0)))
 have f:∀a:Int,¬ae x=a→(ae x==a)=false:=fun a h=>by simpa using h
 have hb:mU x l d=wE 132:=by unfold mU;rw[f _ k1,f _ k2,f _ k3,f _ k4];rfl
 rw[hb]
 exact q_f (f _ k1) (q_f (f _ k2) (q_f (f _ k3) (q_f (f _ k4) (q_L (bN _ _)))))
def itM(t:Tx):Wt:=wc [wIf (ae t.x==7) 132,t.m 1]
theorem od{K:List Int}(hK:K.length≤20000)(hn:b≤n)(hb:1+b≤500000):∀(r:List Tx) (R P:List Int) (f:Nat),K=P++R→Al L b R r→R.length<f→
  lpW (v29 (wn n) L) f (K,(K.length:Int),(P.length:Int))=wok (wj (wc (r.map itM)) (wc [wS [125,10]]))
 |[],[],P,f+1,hp,hA,hf=>by
  rw[List.append_nil]at hp
  subst hp
  show(v29 (wn n) L (K,(K.length:Int),(K.length:Int))).run2 _=_
  have h1:decide ((K.length:Int)<(K.length:Int))=false:=decide_eq_false (by omega)
  refine q_f h1 ?_
  show _=wok (wj ([],0) _)
  rw[nj]
  exact q_B (aO n _) rfl
 |t::r,k::R,P,f+1,hp,hA,hf=>by
  have hl:P.length+1+R.length=K.length:=by rw[hp];simp;omega
  have h1:decide ((P.length:Int)<(K.length:Int))=true:=decide_eq_true (by omega)
  have h2:inI (P.length:Int) K.length=true:=by rw[hp];exact gi _ _ _
  have h3:aU K (P.length:Int).toNat=k:=by rw[Int.toNat_natCast,hp];exact fS _ _ _
  have ih:=od hK hn hb r R (P++[k]) f (by rw[hp];simp) hA.2 (by simp only[List.length_cons]at hf;omega)
  rw[List.length_append]at ih
  have h4:IntKind.wrap .i64 ((P.length:Int)+1)=((P.length+[k].length:Nat):Int):=kZ (by omega)
  have hv:(wn n).member L (k,1,())=wok (t.m 1):=hA.1.m n 1 hn hb
  obtain⟨K',hK'⟩:=hA.1.dat
  have hkk:ae (aj L k.toNat)=ae t.x:=by rw[hK'];rfl
  have y1:(WT.B ((wn n).member L (aU K (P.length:Int).toNat,1,())) (WT.J (K,(K.length:Int),IntKind.wrap .i64 ((P.length:Int)+1)))).run2 (lpW (v29 (wn n) L) f)=wok (wj (t.m 1) (wj (wc (r.map itM)) (wc [wS [125,10]]))):=by
   rw[h3,h4];exact q_B hv ih
  show(v29 (wn n) L (K,(K.length:Int),(P.length:Int))).run2 _=_
  refine(q_t h1 (q_t h2 (q_t (by rw[h3];exact hA.1.inr) (q_E (bN _ _) y1 y1)))).trans ?_
  rw[h3,hkk]
  show _=wok (wj (wj (wj (wIf (ae t.x==7) 132) (wj (t.m 1) ([],0))) (wc (r.map itM))) _)
  rw[eh,c7,c7]
 |[],_::_,_,_,_,hA,_=>hA.elim
 |_::_,[],_,_,_,hA,_=>hA.elim
 |_,_,_,0,_,_,hf=>absurd hf (Nat.not_lt_zero _)
theorem Jm{i:Int}(hi:inI i L.length=true)(h:Okx (aj L i.toNat))(hA:Al L b (aa (aj L i.toNat)) l)(hK:(aa (aj L i.toNat)).length≤20000)(hn:b≤n)(hb:1+b≤500000):
  (wn (n+2)).klass L (i,())=wok (Lq (aj L i.toNat) l):=by
 show(w29 (wn (n+1)) L i).run2 (lpW (v29 (wn (n+1)) L) ((aa (aj L i.toNat)).length+1))=_
 generalize hx:aj L i.toNat=x at*
 have hl:=hA.len
 refine q_t hi ?_
 rw[hx]
 refine q_C (fun _=>q_L (bN _ _)) fun _=>?_
 refine q_B (aO _ _) (q_B (fD h.txt) ?_)
 have y1:(WT.B ((wn (n+1)).ws [32,123,10]) (WT.J (aa x,((aa x).length:Int),0))).run2 (lpW (v29 (wn (n+1)) L) ((aa x).length+1))=wok (wc [wS [32,123,10],wc (l.map itM),wS [125,10]]):=
  q_B (aO _ _) (od (n:=n+1) hK (by omega) hb l (aa x) [] _ rfl hA (Nat.lt_succ_self _))
 cases hl0:l with
 |nil=>
  subst hl0
  exact q_f (decide_eq_false (by rw[hl];simp)) y1
 |cons t r=>
  rw[←hl0]
  have h0:0<l.length:=by rw[hl0];simp
  have he:l.isEmpty=false:=by rw[hl0];rfl
  have hk:=BF hA h0
  refine q_t (decide_eq_true (by omega)) (q_t (cB hA h0) (q_t (sJ hA h0) ?_))
  cases e:k0T l==3 with
  |false=>
   have h1:BO l=([],0):=by unfold BO;rw[he,e];rfl
   have h2:uE l=l:=by unfold uE;rw[he,e];rfl
   rw[h1,h2]
   exact q_f (by rw[hk];exact e) y1
  |true=>
   have h1:BO l=wc [wS [32,101,120,116,101,110,100,115,32],nmT (aw (l.getD 0 x0T).x)]:=by unfold BO;rw[he,e];rfl
   have h2:uE l=l.drop 1:=by unfold uE;rw[he,e];rfl
   rw[h1,h2]
   obtain⟨c1,c2⟩:=DF (x:=x) (by omega)
   have hs:=hA.get h0
   obtain⟨K',hK'⟩:=hs.dat
   have ht:aw (aj L (aU (aa x) 0).toNat)=aw (l.getD 0 x0T).x:=by rw[hK'];rfl
   have hnm:(wn (n+1)).name L (aw (aj L (Int.toNat (aU (aa x) (Int.toNat 0)))),())=wok (nmT (aw (l.getD 0 x0T).x)):=by
    show(wn (n+1)).name L (aw (aj L (aU (aa x) 0).toNat),())=_
    have hok:=hs.ok.txt
    rw[ht]at hok⊢
    exact fD hok
   have hlp:=od (n:=n+1) (K:=(aa x).drop 1) (by rw[List.length_drop];omega) (by omega) hb (l.drop 1) ((aa x).drop 1) [] ((aa x).length+1) rfl (hA.drop 1) (by rw[List.length_drop];omega)
   have y2:(WT.B ((wn (n+1)).ws [32,123,10]) (WT.J (List.drop (Int.toNat 1) (List.take (Int.toNat ((aa x).length:Int)) (aa x)),((List.drop (Int.toNat 1) (List.take (Int.toNat ((aa x).length:Int)) (aa x))).length:Int),0))).run2 (lpW (v29 (wn (n+1)) L) ((aa x).length+1))=wok (wc [wS [32,123,10],wc ((l.drop 1).map itM),wS [125,10]]):=by
    have c2:List.drop (Int.toNat 1) (List.take (Int.toNat ((aa x).length:Int)) (aa x):List Int)=List.drop 1 (aa x):=c2
    exact(congrArg (fun Z:List Int=>(WT.B ((wn (n+1)).ws [32,123,10]) (WT.J (Z,(Z.length:Int),(0:Int)))).run2 (lpW (v29 (wn (n+1)) L) ((aa x).length+1))) c2).trans (q_B (aO _ _) hlp)
   refine(q_t (by rw[hk];exact e) (q_B (aO _ _) (q_t (cB hA h0) (q_t (sJ hA h0) (q_B hnm (q_t c1 y2)))))).trans ?_
   show _=wok (wj (wj (wS [32,101,120,116,101,110,100,115,32]) (wj (nmT (aw (l.getD 0 x0T).x)) ([],0))) _)
   rw[eh,c7]
   rfl
end Go.Sx.Tryz
namespace Go.Sx.Tryz
open Go Go.Sx Go.Proofs
set_option maxRecDepth 100000
variable{L:List Nd}{b n:Nat}{x:Nd}{l:List Tx}
theorem Okx.least{x:Nd}(h:Okx x):bC (ae x)≤((aa x).length:Int):=by
 have h1:=h.node
 unfold gh at h1
 cases e1:cE (ae x)==([]:List UInt8)
 case true=>rw[e1]at h1;cases h1
 rw[e1]at h1
 simp only[cond_false]at h1
 cases e2:decide (((aa x).length:Int)<bC (ae x))
 case true=>rw[e2]at h1;cases h1
 have:=of_decide_eq_false e2
 omega
theorem Okx.right{x:Nd}(h:Okx x)(ht:xu (ae x)=true):bV (ax x) (aA x) (ak x) (ah x)=true:=by
 have h1:=h.node
 unfold gh at h1
 have hb:Ez x= !bV (ax x) (aA x) (ak x) (ah x):=by unfold Ez;rw[ht];rfl
 rw[hb]at h1
 cases e:bV (ax x) (aA x) (ak x) (ah x)
 case true=>rfl
 rw[e]at h1
 exfalso
 revert h1
 cases cE (ae x)==([]:List UInt8)<;>cases decide (((aa x).length:Int)<bC (ae x))<;>cases decide (oV (ae x)≥0)&&decide (((aa x).length:Int)>oV (ae x))<;>cases !AK (ae x)&& !(aw x==[])<;>intro h1<;>cases h1
theorem Okx.dims{x:Nd}(h:Okx x)(hk:ae x=30∨ae x=31):inI (ak x) (ah x).length=true:=by
 have hr:=h.right (by rcases hk with hk|hk<;>rw[hk]<;>rfl)
 unfold bV at hr
 simp only[Bool.and_eq_true,Bool.not_eq_true',decide_eq_false_iff_not,beq_iff_eq]at hr
 obtain⟨h1,h2,h3,_⟩:=hr
 exact cq (by omega) (by omega)
theorem Sp.mono{b b':Nat}{k:Int}{t:Tx}(h:Sp L b k t)(hb:b≤b'):Sp L b' k t where
 inr:=h.inr
 dat:=h.dat
 ok:=h.ok
 v:=fun m hm=>h.v m (by omega)
 bl:=fun m d hm hd=>h.bl m d (by omega) (by omega)
 s:=fun m d hm hd=>h.s m d (by omega) (by omega)
 m:=fun m d hm hd=>h.m m d (by omega) (by omega)
theorem Al.mono{b b':Nat}(hb:b≤b'):∀{K:List Int} {l:List Tx},Al L b K l→Al L b' K l
 |[],[],h=>h
 |_::_,_::_,h=>⟨h.1.mono hb,Al.mono hb h.2⟩
 |[],_::_,h=>h.elim
 |_::_,[],h=>h.elim
theorem Ga{i:Int}{K:List Int}(hi:inI i L.length=true)(hd:aj L i.toNat=Cx x K)(h:Okx (aj L i.toNat))(hA:Al L b K l)(hK:K.length≤20000):Sp L (b+8) i (LX x l):=by
 have hkids:aa (aj L i.toNat)=K:=by rw[hd];rfl
 have hA':Al L b (aa (aj L i.toNat)) l:=by rw[hkids];exact hA
 have hK':(aa (aj L i.toNat)).length≤20000:=by rw[hkids];exact hK
 have hbar:∀m,b+3≤m→(wn m).bare L (aj L i.toNat,())=wok (dy (aj L i.toNat) l):=fun m hm=>by
  obtain⟨n,rfl⟩:∃n,m=n+3:=⟨m-3,by omega⟩
  exact IM h h.least hA' hK' (by omega) h.dims
 refine⟨hi,⟨K,hd⟩,h,fun m hm least=>?_,fun m d hm hd2=>?_,fun m d hm hd2=>?_,fun m d hm hd2=>?_⟩
 ·obtain⟨n,rfl⟩:∃n,m=n+1:=⟨m-1,by omega⟩
  have:=DC hi h (hbar n (by omega)) least
  rw[hd]at this
  exact this
 ·obtain⟨n,rfl⟩:∃n,m=n+1:=⟨m-1,by omega⟩
  have:=B7 (n:=n) hi hA' hK' (by omega) (d:=d) (by omega) (by omega)
  rw[hd]at this
  exact this
 ·obtain⟨n,rfl⟩:∃n,m=n+4:=⟨m-4,by omega⟩
  have:=J2 (n:=n) hi h h.least hA' hK' (by omega) (d:=d) (by omega)
  rw[hd]at this
  exact this
 ·obtain⟨n,rfl⟩:∃n,m=n+4:=⟨m-4,by omega⟩
  have:=Kt (n:=n) hi h h.least hA' hK' (by omega) (d:=d) (by omega)
  rw[hd]at this
  exact this
mutual
def Tn.At(L:List Nd):Tn→Int→Prop
 | .mk x ks,i=>inI i L.length=true∧∃K,aj L i.toNat=Cx x K∧Okx (aj L i.toNat)∧K.length≤20000∧Tn.Ats L ks K
def Tn.Ats(L:List Nd):List Tn→List Int→Prop
 |[],K=>K=[]
 |t::ts,K=>∃k K',K=k::K'∧t.At L k∧Tn.Ats L ts K'
end
mutual
theorem F1:∀(t:Tn) (i:Int),t.At L i→Sp L (8*t.size) i t.tx
 | .mk x ks,i,h=>by
  unfold Tn.At at h
  obtain⟨h1,K,h2,h3,h4,h5⟩:=h
  have:=Ga h1 h2 h3 (pq ks K h5) h4
  unfold Tn.size Tn.tx
  rw[Nat.mul_add]
  exact this
theorem pq:∀(ts:List Tn) (K:List Int),Tn.Ats L ts K→Al L (8*Tn.sizes ts) K (Tn.txs ts)
 |[],K,h=>by
  unfold Tn.Ats at h
  subst h
  unfold Tn.txs
  trivial
 |t::ts,K,h=>by
  unfold Tn.Ats at h
  obtain⟨k,K',rfl,h1,h2⟩:=h
  unfold Tn.sizes Tn.txs
  exact⟨(F1 t k h1).mono (by omega),(pq ts K' h2).mono (by omega)⟩
end
theorem CV{t:Tn}{k:Int}(h:t.At L k)(hn:8*t.size+8≤n)(hs:8*t.size+8≤500000):(wn n).klass L (k,())=wok t.cls:=by
 obtain⟨x,ks⟩:=t
 unfold Tn.At at h
 obtain⟨h1,K,h2,h3,h4,h5⟩:=h
 unfold Tn.size at hn hs
 have hkids:aa (aj L k.toNat)=K:=by rw[h2];rfl
 obtain⟨m,rfl⟩:∃m,n=m+2:=⟨n-2,by omega⟩
 have:=Jm (n:=m) h1 h3 (by rw[hkids];exact pq ks K h5) (by rw[hkids];exact h4) (by omega) (by omega)
 rw[h2]at this
 exact this
theorem q8{K:List Int}(hK:K.length≤20000){N:Nat}(hn:N≤n)(hN:N≤500000):∀(r:List Tn) (R P:List Int) (f:Nat),K=P++R→Tn.Ats L r R→8*Tn.sizes r+8≤N→R.length<f→
  Df (wn n) L f (K,(K.length:Int),(P.length:Int))=wok (bif P.isEmpty then nZ [10] (r.map Tn.cls)else j7 [10] (r.map Tn.cls))
 |[],R,P,f+1,hp,hA,_,hf=>by
  unfold Tn.Ats at hA
  subst hA
  rw[List.append_nil]at hp
  subst hp
  show(v10 (wn n) L (K,(K.length:Int),(K.length:Int))).run2 _=_
  have h1:decide ((K.length:Int)<(K.length:Int))=false:=decide_eq_false (by omega)
  refine q_f h1 ?_
  rw[show(bif K.isEmpty then nZ [10] (([]:List Tn).map Tn.cls)else j7 [10] (([]:List Tn).map Tn.cls))=([],0) by cases K.isEmpty<;>rfl]
  rfl
 |t::r,R,P,f+1,hp,hA,hs,hf=>by
  unfold Tn.Ats at hA
  obtain⟨k,R,rfl,hA1,hA2⟩:=hA
  unfold Tn.sizes at hs
  have hl:P.length+1+R.length=K.length:=by rw[hp];simp;omega
  have h1:decide ((P.length:Int)<(K.length:Int))=true:=decide_eq_true (by omega)
  have h2:inI (P.length:Int) K.length=true:=by rw[hp];exact gi _ _ _
  have h3:aU K (P.length:Int).toNat=k:=by rw[Int.toNat_natCast,hp];exact fS _ _ _
  have ih:=q8 hK hn hN r R (P++[k]) f (by rw[hp];simp) hA2 (by omega) (by simp only[List.length_cons]at hf;omega)
  rw[show(P++[k]).isEmpty=false by cases P<;>rfl,List.length_append]at ih
  have h4:IntKind.wrap .i64 ((P.length:Int)+1)=((P.length+[k].length:Nat):Int):=kZ (by omega)
  have hv:=CV (n:=n) hA1 (by omega) (by omega)
  show(v10 (wn n) L (K,(K.length:Int),(P.length:Int))).run2 _=_
  refine q_t h1 (q_t h2 ?_)
  have y1:(WT.B ((wn n).klass L (aU K (P.length:Int).toNat,())) (WT.J (some (K,(K.length:Int),IntKind.wrap .i64 ((P.length:Int)+1))))).run2 (fun z=>match z with
    |some z=>Df (wn n) L f z
    |none=>.ok [] 0)=wok (wj t.cls (j7 [10] (r.map Tn.cls))):=by
   rw[h3,h4]
   exact q_B hv ih
  cases hP:P with
  |nil=>
   subst hP
   exact q_f rfl y1
  |cons p0 P0=>
   rw[←hP]
   have h5:decide ((P.length:Int)>0)=true:=decide_eq_true (by rw[hP];simp only[List.length_cons];omega)
   refine q_t h5 ?_
   rw[show P.isEmpty=false by rw[hP];rfl]
   refine(q_B (aO n _) y1).trans ?_
   show _=wok (wj (wS [10]) (wj t.cls (wj (j7 [10] (r.map Tn.cls)) ([],0))))
   rw[eh]
 |_,_,_,0,_,_,_,hf=>absurd hf (Nat.not_lt_zero _)
theorem Fw{t:Tn}{r:Int}(h:t.At L r)(hn:8*t.size+8≤n)(hs:8*t.size+8≤500000):n7 (wn n) L r=wok t.prog:=by
 obtain⟨x,ks⟩:=t
 unfold Tn.At at h
 obtain⟨h1,K,h2,h3,h4,h5⟩:=h
 unfold Tn.size at hn hs
 have hkids:aa (aj L r.toNat)=K:=by rw[h2];rfl
 unfold n7
 rw[hkids]
 exact q8 h4 hn hs ks K [] _ rfl h5 (by omega) (Nat.lt_succ_self _)
end Go.Sx.Tryz
namespace Go.Sx.Tryz
open Go Go.Sx Go.Proofs
set_option maxRecDepth 100000
variable{G:Nat→Obj→Prop}
theorem BY:aT Tryz.prog G Hs:=iX
theorem nM{f:Nat}{a:List AV}{L:List Nd}{r:Int}{g:Nat}(h:zc f a=tX L r g)(hg:g=2∨g=3∨g=4∨g=5):SA Tryz.prog G f a [] (.ret (cr bS ((L,r,()),())),[]):=by
 obtain⟨o,h1,h2⟩:=lp (G:=G) (aS []) (BY (G:=G)).ok Gd 60 _ _ _ _ _ _ h
 cases h1
 rcases hg with rfl|rfl|rfl|rfl<;>exact SA.data (rs:=bS) h2 (y:=((L,r,()),())) (m:=[0]) rfl
theorem H4(x:ai bB):SAD Tryz.prog G 11 bB bS x (vC x):=by
 obtain⟨s,⟨⟩⟩:=x
 exact nM (FR s) (.inl rfl)
theorem I0(x:ai bP):SAD Tryz.prog G 12 bP bS x (uo x):=by
 obtain⟨n,⟨⟩⟩:=x
 exact nM (FO n) (.inr (.inr (.inr rfl)))
theorem FX(x:ai bP):SAD Tryz.prog G 33 bP bB x (cE x.1,()):=by
 obtain⟨(k:Int),⟨⟩⟩:=x
 refine bb (aS []) (aE .nil) Le ((DK k).trans ?_)
 show _=(Rs.ok (.ret (.str (cE k)),[]):Rs R0)
 unfold KN cE
 cases e1:decide (k<1)
 case true=>rfl
 cases e2:decide (k≥46)
 case true=>rfl
 have h1:=of_decide_eq_false e1
 have h2:=of_decide_eq_false e2
 rw[show inI k 46=true from cq (by omega) (by omega)]
 rfl
theorem Dv:aT Tryz.prog G Hh:=.cons (aD fun x _=>FX x) (.cons (fun R args bs k r hr=>by cases hr) iX)
theorem qX{k:Int}(h:(cE k==[])=true):ka (k,())=(([mkN k 0 0 [] [] 0 [] 0 [] 0 0 0 [],clA 0,prA 1],2,()),()):=by
 unfold ka Jc J7 Lg rZ
 rw[h]
 rfl
theorem qE{k:Int}(h:(cE k==[])=false):0≤k∧k<46:=by
 unfold cE at h
 cases e1:decide (k<1)
 ·have h1:=of_decide_eq_false e1
  rw[e1]at h
  cases e2:decide (k≥46)
  ·have h2:=of_decide_eq_false e2
   omega
  ·rw[e2]at h;cases h
 ·rw[e1]at h;cases h
theorem Ey:(List.range 46).all (fun k:Nat=>Nat.ble (rZ (k:Int)) 2)=true:=by kernel_rfl
theorem I4(x:ai bP):SAD Tryz.prog G 13 bP bS x (ka x):=by
 obtain⟨(k:Int),⟨⟩⟩:=x
 cases h:cE k==[]with
 |true=>
  have h2:=bb (aS []) (lp (G:=G) (aS []) (Dv (G:=G)).ok Gd 60) MH ((BP k).trans (by rw[h];rfl))
  show SA _ _ _ _ _ (.ret (cr bS (ka (k,()))),[])
  rw[qX h]
  exact SA.data (rs:=bS) h2 (y:=(([mkN k 0 0 [] [] 0 [] 0 [] 0 0 0 [],clA 0,prA 1],2,()),())) (m:=[0]) rfl
 |false=>
  obtain⟨h0,h1⟩:=qE h
  obtain⟨n,rfl⟩:∃n:Nat,k=(n:Int):=⟨k.toNat,by omega⟩
  have hn:n<46:=by omega
  have e:=congrArg (·[n]?) D6
  simp only[List.getElem?_map,List.getElem?_range hn,Option.map_some,Option.some.injEq]at e
  have hl:=List.all_eq_true.1 Ey n (List.mem_range.2 hn)
  have hl:rZ (n:Int)≤2:=Nat.le_of_ble_eq_true hl
  exact nM e (by omega)
abbrev eW(x:ai bS):Int:=(oc 60 x).2.1
theorem Fc:(List.range 46).all (fun k:Nat=>dY 60 (ka ((k:Int),()))&&(eW (ka ((k:Int),())) !=0||((k:Int)==4||((k:Int)==5||((k:Int)==6||(k:Int)==3)))))=true:=by kernel_rfl
theorem Ft(k:Int):dY 60 (ka (k,()))=true∧(eW (ka (k,())) !=0||(k==4||(k==5||(k==6||k==3))))=true:=by
 cases h:cE k==[]with
 |true=>
  have hc:cx [mkN k 0 0 [] [] 0 [] 0 [] 0 0 0 [],clA 0,prA 1] 2=3:=by
   have hn:gh (mkN k 0 0 [] [] 0 [] 0 [] 0 0 0 [])=3:=by
    unfold gh
    rw[show cE (ae (mkN k 0 0 [] [] 0 [] 0 [] 0 0 0 []))=cE k from rfl,h]
    rfl
   have h1:cx [mkN k 0 0 [] [] 0 [] 0 [] 0 0 0 [],clA 0,prA 1] 2=(match gX 0 [mkN k 0 0 [] [] 0 [] 0 [] 0 0 0 [],clA 0,prA 1] (List.replicate 3 0)with
    | .inl c=>c
    | .inr u=>rB (u.take 2)):=rfl
   rw[h1]
   unfold gX
   rw[hn]
   rfl
  rw[qX h]
  refine⟨?_,?_⟩
  ·show(sv _&&(cx _ 2 !=0||_))=true
   rw[hc]
   have hm:sv [mkN k 0 0 [] [] 0 [] 0 [] 0 0 0 [],clA 0,prA 1]=true:=rfl
   rw[hm]
   rfl
  ·show((bif cx _ 2 !=0 then(([]:List UInt8),cx _ 2,())else _:ai fg).2.1 !=0||_)=true
   rw[hc]
   rfl
 |false=>
  obtain⟨h0,h1⟩:=qE h
  obtain⟨n,rfl⟩:∃n:Nat,k=(n:Int):=⟨k.toNat,by omega⟩
  have:=List.all_eq_true.1 Fc n (List.mem_range.2 (by omega))
  rw[Bool.and_eq_true]at this
  exact this
end Go.Sx.Tryz
namespace Go.Sx.Tryz
open Go Go.Sx Go.Proofs
set_option maxRecDepth 100000
theorem jW{x:Nd}(h:(oy x&&(Hm x&&gh x==0))=true):Okx x:=by
 simp only[Bool.and_eq_true,oy,Hm,decide_eq_true_eq,beq_iff_eq]at h
 exact⟨h.1.2.1,h.1.2.2.1,h.1.2.2.2,h.2.1.1,h.2.1.2,h.2.2⟩
theorem Aq(x:Nd):Cx x (aa x)=x:=rfl
theorem kX{L:List Nd}{i:Int}{ks:List Tn}(h1:inI i L.length=true)(h2:Okx (aj L i.toNat))(h3:(aa (aj L i.toNat)).length≤20000)(h4:Tn.Ats L ks (aa (aj L i.toNat))):(Tn.mk (aj L i.toNat) ks).At L i:=by
 unfold Tn.At
 exact⟨h1,_,(Aq _).symm,h2,h3,h4⟩
theorem gQ{L:List Nd}{t:Tn}{k:Int}(h:t.At L k):Tn.Ats L [t] [k]:=by
 unfold Tn.Ats
 exact⟨k,[],rfl,h,by unfold Tn.Ats;rfl⟩
theorem zq{L:List Nd}:Tn.Ats L [] []:=by unfold Tn.Ats;rfl
def Ak(s:List UInt8):Nd:=mkN 4 0 0 [] s 1 [] 0 [32] 0 0 0 []
def Mc(s:List UInt8):Tn:=.mk (prA 1) [.mk (clA 0) [.mk (Ak s) []]]
theorem Kq{s:List UInt8}(hs:s.length≤100):(Mc s).At (nO s) 2:=by
 have h0:(Tn.mk (Ak s) []).At (nO s) 0:=kX (L:=nO s) (i:=0) rfl ⟨by show s.length≤_;omega,Nat.le_of_ble_eq_true rfl,Nat.le_of_ble_eq_true rfl,of_decide_eq_true rfl,of_decide_eq_true rfl,rfl⟩ (Nat.le_of_ble_eq_true rfl) zq
 have h1:(Tn.mk (clA 0) [.mk (Ak s) []]).At (nO s) 1:=kX (L:=nO s) (i:=1) rfl (jW rfl) (Nat.le_of_ble_eq_true rfl) (gQ h0)
 exact kX (L:=nO s) (i:=2) rfl (jW rfl) (Nat.le_of_ble_eq_true rfl) (gQ h1)
def F4(b:Bool)(s:List UInt8):Wt:=wj (wc [wS [99,108,97,115,115,32],wS [65],([],0),wS [32,123,10],wc [wc [([],0),wc [wS [32,32],wc [([],0),wS [105,110,116],wS [32],wj (wIf (!b) 5) (wS s)],wS [59,10]]]],wS [125,10]]) ([],0)
theorem vx(s:List UInt8):(Mc s).prog=F4 (bT s) s:=by kernel_rfl
theorem Gh(b:Bool)(s:List UInt8):(F4 b s).2=bif b then 0 else 5:=by cases b<;>rfl
theorem Fp(b:Bool)(s:List UInt8):(F4 b s).1.length≤s.length+100:=by
 have h:(wIf (!b) 5).1=[]:=by cases b<;>rfl
 simp only[F4,wc,wj,wS,h,List.length_append,List.length_cons,List.length_nil]
 omega
theorem Fg(s:List UInt8):cx (nO s) 2=0:=by kernel_rfl
theorem ux{L:List Nd}{r:Int}{t:Tn}(x:ai bS)(hx:x=((L,r,()),()))(hc:cx L r=0)(hs:sv L=true)(hr:inI r L.length=true)(h:t.At L r)(hn:8*t.size+8≤60)(hl:t.prog.1.length<ar):dY 60 x=true∧eW x=t.prog.2:=by
 subst hx
 have hq:=Fw (n:=60) h hn (by omega)
 constructor
 ·show(sv L&&(cx L r !=0||(inI r L.length&&match n7 (wn 60) L r with
   | .ok t _=>decide (t.length<ar)
   | .bad=>false)))=true
  rw[hs,hr,hq]
  show(true&&(_||(true&&decide (t.prog.1.length<ar))))=true
  rw[decide_eq_true hl]
  simp
 ·show(bif cx L r !=0 then(([]:List UInt8),cx L r,())else(match n7 (wn 60) L r with
   | .ok t e=>bif e !=0 then([],e,())else(t,0,())
   | .bad=>([],0,())):ai fg).2.1=_
  rw[hc,hq]
  show(bif t.prog.2 !=0 then(([],t.prog.2,()):ai fg)else(t.prog.1,0,())).2.1=_
  cases e:t.prog.2 !=0 with
  |true=>rfl
  |false=>
   have:t.prog.2=0:=by simpa using e
   rw[this];rfl
theorem EV{s:List UInt8}(hs:s.length≤100):dY 60 (vC (s,()))=true∧eW (vC (s,()))=bif bT s then 0 else 5:=by
 have hmr:ar=68719476736:=rfl
 have hm:sv (nO s)=true:=by
  have h1:decide ((aw (Ak s)).length≤70000)=true:=decide_eq_true (by show s.length≤_;omega)
  show(decide ((nO s).length≤9000)&&((decide ((aa (Ak s)).length≤20000)&&(decide ((aw (Ak s)).length≤70000)&&_))&&_))=true
  rw[h1]
  rfl
 have h:=ux (vC (s,())) rfl (Fg s) hm rfl (Kq hs) (Nat.le_of_ble_eq_true rfl) (by rw[vx];have:=Fp (bT s) s;omega)
 refine⟨h.1,h.2.trans ?_⟩
 rw[vx]
 exact Gh _ _
def MS(n:Int):Nd:=mkN 19 0 0 [] [] 0 [] 0 [] n 0 0 []
def J4(n:Int):Tn:=.mk (prA 4) [.mk (clA 3) [.mk (mkN 5 0 0 [2] [] 0 [] 0 [] 0 0 0 []) [.mk (mkN 8 0 0 [1] [] 0 [] 0 [] 0 0 0 []) [.mk (mkN 16 0 0 [0] [] 0 [] 0 [] 0 0 0 []) [.mk (MS n) []]]]]]
theorem IV{n:Int}(h0: -9223372036854775808≤n)(h1:n≤9223372036854775807):(J4 n).At (mW n) 5:=by
 have a0:(Tn.mk (MS n) []).At (mW n) 0:=kX (L:=mW n) (i:=0) rfl ⟨Nat.le_of_ble_eq_true rfl,Nat.le_of_ble_eq_true rfl,Nat.le_of_ble_eq_true rfl,h0,h1,rfl⟩ (Nat.le_of_ble_eq_true rfl) zq
 have a1:=kX (L:=mW n) (i:=1) rfl (jW rfl) (Nat.le_of_ble_eq_true rfl) (gQ a0)
 have a2:=kX (L:=mW n) (i:=2) rfl (jW rfl) (Nat.le_of_ble_eq_true rfl) (gQ a1)
 have a3:=kX (L:=mW n) (i:=3) rfl (jW rfl) (Nat.le_of_ble_eq_true rfl) (gQ a2)
 have a4:=kX (L:=mW n) (i:=4) rfl (jW rfl) (Nat.le_of_ble_eq_true rfl) (gQ a3)
 exact kX (L:=mW n) (i:=5) rfl (jW rfl) (Nat.le_of_ble_eq_true rfl) (gQ a4)
def E9(b:Bool)(s:List UInt8):Wt:=wj (wc [wS [99,108,97,115,115,32],wS [65],([],0),wS [32,123,10],wc [wc [([],0),wc [wS [32,32],wS [105,110,105,116],wS [40,41],wS [32],wc [wS [123,10],wc [wc [wS [32,32,32,32],wc [wc [wS [112,114,105,110,116,40],wj (wIf b 1) (wS s),wS [41]],wS [59]],wS [10]]],wS [32,32],wS [125]],wS [10]]]],wS [125,10]]) ([],0)
theorem uX(n:Int):(J4 n).prog=E9 (decide (n<0)) (Lib.itoa n):=by kernel_rfl
theorem ET(b:Bool)(s:List UInt8):(E9 b s).2=bif b then 1 else 0:=by cases b<;>rfl
theorem E1(b:Bool)(s:List UInt8):(E9 b s).1.length≤s.length+100:=by
 have h:(wIf b 1).1=[]:=by cases b<;>rfl
 simp only[E9,wc,wj,wS,h,List.length_append,List.length_cons,List.length_nil]
 omega
theorem FK(n:Int):cx (mW n) 5=0:=by kernel_rfl
theorem FT(n:Int):sv (mW n)=true:=by kernel_rfl
theorem Ed(n:Int):8*(J4 n).size+8≤60:=Nat.le_of_ble_eq_true rfl
theorem Gl{n:Int}(h0: -9223372036854775808≤n)(h1:n≤9223372036854775807):dY 60 (uo (n,()))=true∧eW (uo (n,()))=bif decide (n<0)then 1 else 0:=by
 have hmr:ar=68719476736:=rfl
 have h:=ux (uo (n,())) rfl (FK n) (FT n) rfl (IV h0 h1) (Ed n) (by rw[uX];have:=E1 (decide (n<0)) (Lib.itoa n);have:=Lib.itoa_length_le n h0 h1;omega)
 have h2:=h.2
 rw[uX,ET]at h2
 exact⟨h.1,h2⟩
def CQ:List (Nat×aQ):=[(9,KA 9 (fun a=>match a with|[]=>true|_=>false) (.ret (.bool true),[])),(11,bg 11 bB bS (fun _=>true) vC),(12,bg 12 bP bS (fun _=>true) uo),(13,bg 13 bP bS (fun _=>true) ka),(10,bg 10 bS fg (dY 60) (oc 60)),(14,bg 14 bB cd cW xY)]
abbrev oB(b:Bool):Rs R0:=.ok (.ret (.bool b),[])
def FB(g k:Int):Rs R0:=bif g !=0 then oB true else bif k==4 then oB true else bif k==5 then oB true else bif k==6 then oB true else oB (k==3)
def EJ(f g n k:Int):Rs R0:=bif !(f==0)==decide (n≥0)then oB false else bif f !=0 then bif f !=1 then oB false else FB g k else FB g k
theorem I5(s:List UInt8)(n k:Int):body (R:=R0) E (an CQ) fi3 [.str s,.int .i64 n,.int .i64 k] [] .ok=bif decide ((s.length:Int)>100)then oB true else bif dY 60 (vC (s,()))then bif dY 60 (uo (n,()))then bif dY 60 (ka (k,()))then bif cW (s,())then bif !bT s then bif eW (vC (s,())) !=5 then oB false else EJ (eW (uo (n,()))) (eW (ka (k,()))) n k else bif eW (vC (s,())) !=0 then oB false else EJ (eW (uo (n,()))) (eW (ka (k,()))) n k else .err 3000014 else .err 3000010 else .err 3000010 else .err 3000010:=by kernel_rfl
theorem Cr{w0:World}(t:TabsW w0):aT Tryz.prog (GW w0) CQ:=.cons (Fq fun args h=>by
  split at h
  ·exact zB t
  ·cases h) (.cons (aD fun x _=>H4 x) (.cons (aD fun x _=>I0 x) (.cons (aD fun x _=>I4 x) (.cons (aD fun x h=>yc t 60 x h) (.cons (aD fun x h=>sH t.tabs x h) .nil)))))
theorem Cl(s:List UInt8){n:Int}(k:Int)(h0: -9223372036854775808≤n)(h1:n≤9223372036854775807):body (R:=R0) E (an CQ) fi3 [.str s,.int .i64 n,.int .i64 k] [] .ok=oB true:=by
 rw[I5]
 cases hl:decide ((s.length:Int)>100)
 case true=>rfl
 have hl2:=of_decide_eq_false hl
 have hs:s.length≤100:=by omega
 obtain⟨f1,f2⟩:=EV hs
 obtain⟨n1,n2⟩:=Gl h0 h1
 obtain⟨m1,m2⟩:=Ft k
 rw[f1,n1,m1,xg (s:=s) (by omega),f2,n2]
 have he:FB (eW (ka (k,()))) k=oB true:=by
  unfold FB
  revert m2
  generalize (eW (ka (k,())) !=0)=c0,(k==4)=c1,(k==5)=c2,(k==6)=c3,(k==3)=c4
  cases c0<;>cases c1<;>cases c2<;>cases c3<;>cases c4<;>intro m2<;>first|rfl|cases m2
 have hm:EJ (bif decide (n<0)then 1 else 0) (eW (ka (k,()))) n k=oB true:=by
  unfold EJ
  rw[he]
  by_cases hn:n<0
  ·rw[decide_eq_true hn,decide_eq_false (show ¬n≥0 by omega)]
   rfl
  ·rw[decide_eq_false hn,decide_eq_true (show n≥0 by omega)]
   rfl
 rw[hm]
 cases bT s<;>rfl
theorem Fl{w0:World}(t:TabsW w0)(s:List UInt8){n:Int}(k:Int)(h0: -9223372036854775808≤n)(h1:n≤9223372036854775807):SA Tryz.prog (GW w0) 3 [.str s,.int .i64 n,.int .i64 k] [] (.ret (.bool true),[]):=
 bb (aS []) (aE (Cr t)) fc3 (Cl s k h0 h1)
end Go.Sx.Tryz
