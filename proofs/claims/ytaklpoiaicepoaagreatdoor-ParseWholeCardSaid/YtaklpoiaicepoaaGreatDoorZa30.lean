/- A part of the proof: see the row's text. -/
import Derived.Test.YtaklpoiaicepoaaGreatDoorZa29
import Derived.Test.YtaklpoiaicepoaaGreatDoorZa27
import Derived.Test.YtaklpoiaicepoaaGreatDoorZa17
import Derived.Test.YtaklpoiaicepoaaGreatDoorZa00
import Derived.Test.YtaklpoiaicepoaaGreatDoorZa28
set_option linter.unusedVariables false
set_option linter.unusedSimpArgs false
noncomputable section
namespace Go.Sx.Tryz
open Go Go.Sx
set_option maxRecDepth 100000
theorem AP{s:List UInt8}{v:Int}(h:Lib.parseIntB 64 s= .ok v): -9223372036854775808≤v∧v≤9223372036854775807:=by
 have e:(2:Nat)^(64-1)=9223372036854775808:=by decide
 cases s with
 |nil=>cases h
 |cons c r=>
  simp only[Lib.parseIntB,e]at h
  generalize Lib.parseUintB 64 (if c.toNat=43∨c.toNat=45 then r else c::r)=q at h
  rcases q with u|_|_
  ·simp only at h
   by_cases hn:c.toNat=45
   ·simp only[hn,not_true,false_and,if_false,true_and,if_true]at h
    split at h
    ·cases h
    ·rename_i h2
     simp only[Lib.NumEnd.ok.injEq]at h
     omega
   ·simp only[hn,not_false_eq_true,true_and,false_and,if_false]at h
    split at h
    ·cases h
    ·rename_i h2
     simp only[Lib.NumEnd.ok.injEq]at h
     omega
  ·cases h
  ·cases h
theorem mz:(-9223372036854775808:Int)≤0∧(0:Int)≤9223372036854775807:=⟨by decide,by decide⟩
theorem AI(s:List UInt8): -9223372036854775808≤(lx s).1∧(lx s).1≤9223372036854775807:=by
 unfold lx
 cases !dQ s
 ·cases (decide ((s.length:Int)>1)&&at8 s 0==48)
  ·cases h:(dM s).2
   ·exact mz
   ·show-9223372036854775808≤(dM s).1∧(dM s).1≤9223372036854775807
    unfold dM at h⊢
    cases hp:Lib.parseIntB 64 s with
    |ok v=>exact AP hp
    |_=>rw[hp]at h;cases h
  ·exact mz
 ·exact mz
theorem A9(n:Int): -9223372036854775808≤IntKind.wrap .i64 n∧IntKind.wrap .i64 n≤9223372036854775807:=by
 unfold IntKind.wrap
 have hb:IntKind.bits .i64=64:=rfl
 have hs:IntKind.signed .i64=true:=rfl
 simp only[hb,hs,Bool.true_and]
 split
 ·rename_i h;simp only[decide_eq_true_eq]at h;omega
 ·rename_i h;simp only[decide_eq_true_eq]at h;omega
theorem Bu{x:Nd}(h: -9223372036854775808≤nN x∧nN x≤9223372036854775807):dR x=true:=by
 unfold dR
 rw[decide_eq_true h.1,decide_eq_true h.2]
 rfl
theorem rS:∀(n:Nat) (r:List UInt8),r.length≤n→(ma r).length≤r.length
 |_,[],_=>Nat.zero_le _
 |_,[_],_=>Nat.zero_le _
 |0,c::d::r,h=>by simp at h
 |n+1,c::d::r,h=>by
  have h1:=rS n (d::r) (by simpa using h)
  have h2:=rS n r (by simp at h;omega)
  unfold ma
  cases (c.toNat:Int)==92
  ·simp only[cond_false,List.length_cons]at h1⊢
   omega
  ·simp only[cond_true,List.length_cons]
   omega
theorem FD(s:List UInt8):(lT s).1.length≤s.length:=by
 unfold lT
 cases s==[]
 ·cases at8 s 0 !=34
  ·cases pY s 0 !=0
   ·cases jT s 0 !=s.length
    ·have:=rS _ (s.drop 1) (Nat.le_refl _)
     rw[List.length_drop]at this
     show(ma (s.drop 1)).length≤_
     omega
    ·exact Nat.zero_le _
   ·exact Nat.zero_le _
  ·exact Nat.zero_le _
 ·exact Nat.zero_le _
theorem pU{s:List UInt8}(h:bV s=true):s.length≤64∧s≠[]:=by
 unfold bV at h
 simp only[Bool.and_eq_true,decide_eq_true_eq,Bool.not_eq_true']at h
 refine⟨by omega,fun e=>?_⟩
 rw[e]at h
 exact absurd h.2.1 (by decide)
theorem my{b d:Int}:∀(m:List UInt8) (i:Int),(∀(j:Nat) (c:UInt8),m[j]? =some c→c=32∨(c=63∧(i+j=0→b=5))∨(c=111∧(i+j=0→b=5)∧d≤i+j))→fN b d i m=true
 |[],_,_=>rfl
 |c::m,i,h=>by
  unfold fN
  rw[Bool.and_eq_true]
  refine⟨?_,my m (i+1) fun j c' hc=>?_⟩
  ·have h0:=h 0 c rfl
   have hb:∀h1:(i+((0:Nat):Int)=0→b=5),(bif i==0 then b==5 else true)=true:=fun h1=>by
    cases e:i==0
    ·rfl
    ·have e:i=0:=by simpa using e
     rw[h1 (by omega)]
     rfl
   unfold okM
   rcases h0 with rfl|⟨rfl,h1⟩|⟨rfl,h1,h2⟩
   ·rfl
   ·show(bif i==0 then b==5 else true)=true
    exact hb h1
   ·show((bif i==0 then b==5 else true)&& !decide (i<d))=true
    rw[hb h1,decide_eq_false (by omega)]
    rfl
  ·have:=h (j+1) c' (by simpa using hc)
   rw[show i+1+(j:Int)=i+((j+1:Nat):Int) by omega]
   exact this
structure TyI(x:Nd):Prop where
 b:1≤al x∧al x≤5
 nb:(al x==5)=(au x !=[])
 d:0≤ah x∧ah x≤4
 ml:((af x).length:Int)=ah x+1
 mo:∀(j:Nat) (c:UInt8),(af x)[j]? =some c→c=32∨(c=63∧((j:Int)=0→al x=5))
 nm:(au x).length≤64
 tx:aH x=[]
 n:nN x=0
theorem yf{b d:Int}{n m:List UInt8}(hb:1≤b∧b≤6)(hn:(b==5)=(n !=[]))(hd:0≤d∧d≤4)(hm:(m.length:Int)=d+1)(h6:b=6→d=0)(hk:fN b d 0 m=true):bq b n d m=true:=by
 unfold bq
 rw[decide_eq_false (by omega:¬d<0),decide_eq_false (by omega:¬d>4),decide_eq_false (by omega:¬b<1),decide_eq_false (by omega:¬b>6),hn,hk,show((m.length:Int)==d+1)=true by rw[hm];simp]
 have:(b==6&&decide (d>0))=false:=by
  cases e:b==6
  ·rfl
  ·have e:b=6:=by simpa using e
   rw[decide_eq_false (by have:=h6 e;omega)]
   rfl
 rw[this]
 simp
theorem TyI.r{x:Nd}(h:TyI x):TyR x:=⟨yf ⟨h.b.1,by have:=h.b.2;omega⟩ h.nb h.d h.ml (fun h6=>by have:=h.b.2;omega) (my _ 0 fun j c hc=>by
 rcases h.mo j c hc with h1|⟨h1,h2⟩
 ·exact .inl h1
 ·exact .inr (.inl ⟨h1,fun h0=>h2 (by omega)⟩)),h.nm,h.tx,h.n⟩
variable{T:List UInt8}{K:List Tok}
theorem Bi:Ens (bM T K) fun t=>t.2.length≤T.length:=fun a d A=>by
 show(say T (aa K a)).length≤T.length
 unfold say
 rw[List.length_drop,List.length_take]
 omega
theorem kO:Ens (cW T K) fun s=>bV s=true:=.then fun t=>.bif (fun h=>.then fun _=>.ret (by rw[Bool.and_eq_true]at h;exact h.2)) fun _=>.flt
theorem j7{b w1 w2 e:Int}{nm:Str}(hb:1≤b∧b≤5)(hn:(b==5)=(nm !=[]))(hl:nm.length≤64):TyI (oJ b nm w1 w2 e):=by
 refine⟨hb,hn,⟨Int.le_refl _,show(0:Int)≤4 by decide⟩,rfl,fun j c hc=>?_,hl,rfl,rfl⟩
 have hc:([32]:List UInt8)[j]? =some c:=hc
 match j,hc with
 |0,hc=>cases hc;exact .inl rfl
 |j+1,hc=>simp at hc
theorem I5:Ens (nh T K) TyI:=.then fun t=>.bif (fun _=>.bif (fun _=>.then fun _=>.ret (j7 ⟨by decide,by decide⟩ rfl (Nat.zero_le _))) fun _=>.bif (fun _=>.then fun _=>.ret (j7 ⟨by decide,by decide⟩ rfl (Nat.zero_le _))) fun _=>
 .bif (fun _=>.then fun _=>.ret (j7 ⟨by decide,by decide⟩ rfl (Nat.zero_le _))) fun _=>.bif (fun _=>.then fun _=>.ret (j7 ⟨by decide,by decide⟩ rfl (Nat.zero_le _))) fun _=>.bif (fun h=>.then fun _=>.ret (by
  obtain⟨h1,h2⟩:=pU h
  exact j7 ⟨by decide,by decide⟩ (by simp[bne,h2]) h1)) fun _=>.flt) fun _=>.flt
theorem yA{x:Nd}(h:((af x).length:Int)=ah x+1)(hd:0≤ah x){m:UInt8}{j:Nat}{c:UInt8}(hc:((af x).take (ah x).toNat++[m])[j]? =some c):(af x)[j]? =some c∨(c=m∧(j:Int)=ah x):=by
 by_cases hj:j<(ah x).toNat
 ·rw[List.getElem?_append_left (by rw[List.length_take];omega),List.getElem?_take_of_lt hj]at hc
  exact .inl hc
 ·rw[List.getElem?_append_right (by rw[List.length_take];omega),List.length_take]at hc
  have:j-min (ah x).toNat (af x).length=0:=by
   cases hz:j-min (ah x).toNat (af x).length with
   |zero=>rfl
   |succ z=>rw[hz]at hc;simp at hc
  rw[this]at hc
  cases hc
  exact .inr ⟨rfl,by omega⟩
theorem oB:∀(n:Nat) (x:Nd),TyI x→Ens (dE T K n x) TyI
 |0,_,_=>.bad
 |n+1,x,h=>.then fun _=>.then fun _=>.bif (fun _=>.bif (fun _=>.flt) fun hc=>.then fun _=>oB n _ (by
   rw[Bool.or_eq_false_iff,Bool.and_eq_false_iff]at hc
   refine⟨h.b,h.nb,h.d,?_,fun j c hj=>?_,h.nm,h.tx,h.n⟩
   ·show(((af x).take (ah x).toNat++[63]).length:Int)=ah x+1
    have:=h.ml
    have:=h.d
    rw[List.length_append,List.length_take,List.length_singleton]
    omega
   ·rcases yA h.ml h.d.1 hj with h1|⟨rfl,h2⟩
    ·exact h.mo j c h1
    ·refine .inr ⟨rfl,fun h0=>?_⟩
     rcases hc.1 with h3|h3
     ·show al x=5
      simpa [bne]using h3
     ·have:¬ah x=0:=by simpa using h3
      omega)) fun _=>.then fun _=>.then fun _=>.bif (fun _=>.bif (fun _=>.flt) fun hc=>.then fun _=>.then fun _=>oB n _ (by
   have h4:¬ah x=4:=by simpa using hc
   have hd:=h.d
   refine⟨h.b,h.nb,⟨by show 0≤ah x+1;omega,by show ah x+1≤4;omega⟩,?_,fun j c hj=>?_,h.nm,h.tx,h.n⟩
   ·show((af x++[32]).length:Int)=ah x+1+1
    have:=h.ml
    rw[List.length_append,List.length_singleton]
    omega
   ·have hj:(af x++[32])[j]? =some c:=hj
    by_cases hl:j<(af x).length
    ·rw[List.getElem?_append_left hl]at hj
     exact h.mo j c hj
    ·rw[List.getElem?_append_right (by omega)]at hj
     cases hz:j-(af x).length with
     |zero=>rw[hz]at hj;cases hj;exact .inl rfl
     |succ z=>rw[hz]at hj;simp at hj)) fun _=>.ret h
theorem oh:Ens (dW T K) TyI:=.bind I5 fun x h=>oB _ x h
theorem ll(v:Bool):Ens (cF T K v) TyR:=.then fun _=>.bif (fun _=>.then fun _=>.then fun _=>.bind oh fun x h=>.then fun e=>.bif (fun _=>.flt) fun hc=>.ret (by
  rw[Bool.or_eq_false_iff,Bool.and_eq_false_iff]at hc
  have hd:=h.d
  refine⟨yf ⟨h.b.1,by have:=h.b.2;show al x≤6;omega⟩ h.nb h.d ?_ (fun h6=>by have:=h.b.2;have h6:al x=6:=h6;omega) (my _ 0 fun j c hj=>?_),h.nm,h.tx,h.n⟩
  ·show(((af x).take (ah x).toNat++[111]).length:Int)=ah x+1
   have:=h.ml
   rw[List.length_append,List.length_take,List.length_singleton]
   omega
  ·rcases yA h.ml h.d.1 hj with h1|⟨rfl,h2⟩
   ·rcases h.mo j c h1 with h3|⟨h3,h4⟩
    ·exact .inl h3
    ·exact .inr (.inl ⟨h3,fun h0=>h4 (by omega)⟩)
   ·refine .inr (.inr ⟨rfl,fun h0=>?_,by show ah x≤0+(j:Int);omega⟩)
    rcases hc.1 with h3|h3
    ·show al x=5
     simpa [bne]using h3
    ·have:¬ah x=0:=by simpa using h3
     omega)) fun _=>.bif (fun _=>.then fun _=>.ret ⟨rfl,Nat.zero_le _,rfl,rfl⟩) fun _=>fun a d A=>by
  have:=oh (T:=T) (K:=K) a d A
  cases e:dW T K a d A with
  |ok y a' d' A'=>rw[e]at this;exact TyI.r this
  |fault c p=>trivial
  |bad=>trivial
end Go.Sx.Tryz
namespace Go.Sx.Tryz
open Go Go.Sx
set_option maxRecDepth 100000
variable{T:List UInt8}{K:List Tok}{p:Kt}
theorem ff{α:Type}{m:Pm α}{Q:α→Prop}(h:Ens m Q):ca (lft m) Q:=fun a d n=>by
 have:=h a d []
 unfold lft
 cases e:m a d []with
 |ok y a' d' A'=>rw[e]at this;exact this
 |fault c p=>trivial
 |bad=>trivial
structure GK(p:Kt):Prop where
 val:ca p.val Gk
 blk:ca p.blk Gk
 un:ca p.un Gk
theorem fW(h:GK p):ca (du T K p) Gk:=.then fun _=>.bind h.val fun x hx=>.then fun _=>.ret hx
theorem By(h:GK p):∀(n:Nat) (L:List Tn),GkL L→ca (lR T K p n L) GkL
 |0,_,_=>.bad
 |n+1,L,hL=>.then fun _=>.bif (fun _=>.ret hL) fun _=>.then fun _=>.then fun _=>.bind h.val fun x hx=>By h n _ (hL.app (GkL.one hx))
theorem Ah(h:GK p):ca (pA T K p) GkL:=.then fun _=>By h _ _ trivial
theorem zu{x:Nd}{e:Int}(hx:NG x 0):ca (lY T K x e) Gk:=.then fun _=>.bif (fun _=>.flt) fun _=>.then fun _=>b5 (ks:=[]) hx trivial
def GM(x:Nd×List Tn):Prop:=NG x.1 x.2.length∧GkL x.2
theorem lM{s:Str}(h:bV s=true):s.length≤70000:=by have:=(pU h).1;omega
theorem Ou(h:GK p):ca (tE T K p) GM:=.bind (ff oh) fun x hx=>.then fun _=>.bif (fun _=>.bif (fun _=>.flt) fun _=>.bind (Ah h) fun l hl=>.ret ⟨by
  rw[hx.tx]
  exact o8 hx.r rfl rfl (Int.natCast_nonneg _) (.inl rfl) (.inr rfl) (Nat.zero_le _),hl⟩) fun _=>.then fun _=>.bind h.val fun y hy=>.then fun _=>.ret ⟨by
  rw[hx.tx]
  exact o8 hx.r rfl rfl (Int.le_refl 1) (.inr (Int.le_refl 1)) (.inr rfl) (Nat.zero_le _),GkL.one hy⟩
theorem yt(s:Str):pR s=39∨pR s=36∨pR s=37∨pR s=41:=by
 unfold pR
 cases s==[97,115,107]
 ·cases s==[116,111,105,110,116]
  ·cases s==[116,111,100,111,117,98,108,101]
   ·exact .inr (.inr (.inr rfl))
   ·exact .inr (.inr (.inl rfl))
  ·exact .inr (.inl rfl)
 ·exact .inl rfl
theorem O5(h:GK p)(t:Tok)(s:Str):ca (vk T K p t s) Gk:=by
 have v:∀k n:Int,dF (c8 (eu k n []) [])=0→dR (eu k n [])=true→ca (lY T K (eu k n []) 0) Gk:=fun k n h1 h2=>zu (nS h1 (Nat.zero_le _) h2)
 refine .bif (fun _=>v 21 1 rfl rfl) fun _=>.bif (fun _=>v 21 0 rfl rfl) fun _=>.bif (fun _=>v 23 0 rfl rfl) fun _=>.bif (fun _=>v 42 0 rfl rfl) fun _=>.bif (fun _=>v 24 0 rfl rfl) fun _=>?_
 refine .bif (fun _=>.then fun _=>.then fun _=>.then fun _=>b5 (ks:=[]) (cp rfl (Nat.zero_le _)) trivial) fun _=>?_
 refine .bif (fun _=>.then fun _=>.bind (fW h) fun x hx=>b5 (ks:=[x]) ?_ (GkL.one hx)) fun _=>?_
 ·rcases yt s with e|e|e|e<;>rw[e]<;>exact cp rfl (Nat.zero_le _)
 refine .bif (fun _=>.then fun _=>.then fun _=>.bind (ff (ll _)) fun y hy=>.then fun _=>.bind (fW h) fun x hx=>b5 (ks:=[x]) ?_ (GkL.one hx)) fun _=>?_
 ·rw[hy.tx]
  exact o8 hy rfl rfl (Int.le_refl 1) (.inr (Int.le_refl 1)) (.inr rfl) (Nat.zero_le _)
 exact .bif (fun _=>.then fun _=>.bind (Ou h) fun x hx=>b5 hx.1 hx.2) fun _=>.flt
theorem DM(hT:T.length≤65536)(h:GK p):ca (iv T K p) Gk:=by
 refine .bind (ff Bi) fun t ht=>?_
 refine .bif (fun _=>zu (nS rfl (Nat.zero_le _) (Bu (AI _)))) fun _=>.bif (fun _=>zu (nS rfl (by omega) (Bu (A9 _)))) fun _=>?_
 refine .bif (fun _=>zu (nS rfl (by have:=FD t.2;omega) rfl)) fun _=>.bif (fun _=>.bif (fun _=>fW h) fun _=>.flt) fun _=>?_
 exact .bif (fun _=>.bif (fun _=>zu (nS rfl (by omega) rfl)) fun _=>O5 h _ _) fun _=>.flt
theorem OK(h:GK p){x:Tn}(hx:Gk x)(f:Int):ca (tu T K p x f) Gk:=.then fun _=>.bif (fun _=>b5 (ks:=[x]) (cp rfl (Nat.zero_le _)) (GkL.one hx)) fun _=>.then fun _=>.bif (fun _=>b5 (ks:=[x]) (cp rfl (Nat.zero_le _)) (GkL.one hx)) fun _=>
 .bind (ff kO) fun s hs=>.then fun _=>.bif (fun _=>.bind (Ah h) fun l hl=>b5 (ks:=x::l) (CM (.inr rfl) (by simp) (lM hs)) (GkL.app (GkL.one hx) hl)) fun _=>b5 (ks:=[x]) (cp rfl (lM hs)) (GkL.one hx)
theorem lh(h:GK p)(f:Int):∀(n:Nat) (x:Tn),Gk x→ca (eS T K p f n x) Gk
 |0,_,_=>.bad
 |n+1,x,hx=>.then fun _=>.bif (fun _=>.bind (b5 (ks:=[x]) (cp rfl (Nat.zero_le _)) (GkL.one hx)) fun y hy=>lh h f n y hy) fun _=>
  .then fun _=>.bif (fun _=>.bind h.val fun y hy=>.then fun _=>.bind (b5 (ks:=[x,y]) (cp rfl (Nat.zero_le _)) (GkL.two hx hy)) fun z hz=>lh h f n z hz) fun _=>
  .then fun _=>.bif (fun _=>.bind (OK h hx f) fun y hy=>lh h f n y hy) fun _=>.ret hx
theorem HD(hT:T.length≤65536)(h:GK p):ca (kH T K p) Gk:=.then fun _=>.bind (DM hT h) fun x hx=>lh h _ _ x hx
theorem J9(hT:T.length≤65536)(h:GK p):ca (om T K p) Gk:=.then fun t=>.bif (fun _=>.then fun _=>.then fun _=>.bind h.un fun x hx=>.then fun _=>b5 (ks:=[x]) (by
  cases t.2==[45]
  ·exact cp rfl (Nat.zero_le _)
  ·exact cp rfl (Nat.zero_le _)) (GkL.one hx)) fun _=>HD hT h
theorem mM(hT:T.length≤65536){sub:Tm Tn}(hs:ca sub Gk)(least f:Int):∀(n:Nat) (x:Tn),Gk x→ca (fO T K least f sub n x) Gk
 |0,_,_=>.bad
 |n+1,x,hx=>.bind (ff Bi) fun t ht=>.bif (fun _=>.then fun _=>.bind hs fun y hy=>.bind (b5 (ks:=[x,y]) (cp rfl (by omega)) (GkL.two hx hy)) fun z hz=>mM hT hs least f n z hz) fun _=>
  .bif (fun _=>.then fun _=>.bif (fun _=>.then fun _=>.bif (fun _=>.bind (b5 (ks:=[x]) (cp rfl (Nat.zero_le _)) (GkL.one hx)) fun z hz=>mM hT hs least f n z hz) fun _=>.then fun _=>.bind (b5 (ks:=[x]) (cp rfl (Nat.zero_le _)) (GkL.one hx)) fun z hz=>mM hT hs least f n z hz) fun _=>.ret hx) fun _=>.ret hx
theorem wM(hT:T.length≤65536)(h:GK p):∀j:Nat,ca (kf T K p j) Gk
 |0=>.then fun _=>h.un
 |j+1=>.then fun _=>.bind (wM hT h j) fun x hx=>mM hT (wM hT h j) _ _ _ x hx
theorem Kp(hT:T.length≤65536)(h:GK p):ca (oR T K p) Gk:=.then fun _=>.bind (wM hT h 6) fun x hx=>.then fun _=>.ret hx
def GW2(w:(Nd×List Tn)×Bool):Prop:=w.2=true→GM w.1
theorem P7(h:GK p)(s:Str):ca (rN T K p s) GW2:=by
 refine .bif (fun _=>.then fun _=>.bind (fW h) fun x hx=>.bind h.blk fun y hy=>.then fun _=>.bif (fun _=>.bind h.blk fun z hz=>.ret fun _=>⟨cp rfl (Nat.zero_le _),GkL.three hx hy hz⟩) fun _=>.ret fun _=>⟨cp rfl (Nat.zero_le _),GkL.two hx hy⟩) fun _=>?_
 refine .bif (fun _=>.then fun _=>.bind (fW h) fun x hx=>.bind h.blk fun y hy=>.ret fun _=>⟨cp rfl (Nat.zero_le _),GkL.two hx hy⟩) fun _=>?_
 refine .bif (fun _=>.then fun _=>.then fun _=>.ret fun _=>⟨cp rfl (Nat.zero_le _),trivial⟩) fun _=>?_
 refine .bif (fun _=>.then fun _=>.then fun _=>.ret fun _=>⟨cp rfl (Nat.zero_le _),trivial⟩) fun _=>?_
 refine .bif (fun _=>.then fun _=>.then fun _=>.bif (fun _=>.then fun _=>.ret fun _=>⟨cp rfl (Nat.zero_le _),trivial⟩) fun _=>.bind h.val fun x hx=>.then fun _=>.ret fun _=>⟨cp rfl (Nat.zero_le _),GkL.one hx⟩) fun _=>?_
 refine .bif (fun _=>.then fun _=>.bind (fW h) fun x hx=>.then fun _=>.ret fun _=>⟨cp rfl (Nat.zero_le _),GkL.one hx⟩) fun _=>?_
 refine .bif (fun _=>.then fun _=>.bind (Ah h) fun l hl=>.then fun _=>.ret fun _=>⟨qu (.inl ⟨rfl,rfl⟩) (Nat.zero_le _),hl⟩) fun _=>?_
 exact .ret fun h=>by cases h
theorem Ck(h:GK p)(f:Int):ca (l7 T K p f) Gk:=.bind h.val fun x hx=>.then fun _=>.then fun _=>.bif (fun _=>.bif (fun _=>.bind h.val fun y hy=>.then fun _=>b5 (ks:=[x,y]) (cp rfl (Nat.zero_le _)) (GkL.two hx hy)) fun _=>.flt) fun _=>
 .bif (fun _=>.then fun _=>b5 (ks:=[x]) (cp rfl (Nat.zero_le _)) (GkL.one hx)) fun _=>.flt
theorem Ri(h:GK p):ca (vi T K p) Gk:=.then fun _=>.bif (fun _=>h.blk) fun _=>.then fun _=>.bif (fun _=>.bind (ff (ll _)) fun y hy=>.bind (ff kO) fun s hs=>.then fun _=>
  .bif (fun _=>.bind h.val fun x hx=>.then fun _=>b5 (ks:=[x]) (o8 hy rfl rfl (show(0:Int)≤1 by decide) (.inr (Int.le_refl 1)) (.inl rfl) (lM hs)) (GkL.one hx)) fun _=>.then fun _=>b5 (ks:=[]) (o8 hy rfl rfl (Int.le_refl 0) (.inr (show(0:Int)≤1 by decide)) (.inl rfl) (lM hs)) trivial) fun _=>
 .bif (fun _=>.bind (P7 h _) fun w hw=>.bif (fun hb=>b5 (hw hb).1 (hw hb).2) fun _=>Ck h _) fun _=>Ck h _
theorem zn(h:GK p)(f:Int):∀(n:Nat) (L:List Tn),GkL L→ca (jg T K p f n L) Gk
 |0,_,_=>.bad
 |n+1,L,hL=>.then fun _=>.bif (fun _=>.then fun _=>.then fun _=>b5 (qu (.inl ⟨rfl,rfl⟩) (Nat.zero_le _)) hL) fun _=>.bind (Ri h) fun x hx=>zn h f n _ (hL.app (GkL.one hx))
theorem J3(h:GK p):ca (oX T K p) Gk:=.then fun _=>.then fun _=>.then fun _=>zn h _ _ _ trivial
theorem wq(hT:T.length≤65536):∀n,GK (knt T K n)
 |0=>⟨.bad,.bad,.bad⟩
 |n+1=>⟨Kp hT (wq hT n),J3 (wq hT n),J9 hT (wq hT n)⟩
theorem uM:∀(n:Nat) (L:List Tn),GkL L→ca (gf T K n L) GkL
 |0,_,_=>.bad
 |n+1,L,hL=>.then fun _=>.bif (fun _=>.ret hL) fun _=>.then fun _=>.then fun _=>.then fun _=>.bind (ff (ll _)) fun y hy=>.bind (ff kO) fun s hs=>
  .bind (b5 (ks:=[]) (o8 hy rfl rfl (Int.le_refl 0) (.inr (Int.le_refl 0)) (.inl rfl) (lM hs)) trivial) fun z hz=>uM n _ (hL.app (GkL.one hz))
theorem yO:ca (jk T K) GkL:=.then fun _=>uM _ _ trivial
theorem HU(h:GK p):ca (kV T K p) Gk:=.then fun _=>.bif (fun _=>.then fun _=>.bind yO fun l hl=>.bind h.blk fun b hb=>b5 (CM (.inl ⟨rfl,rfl⟩) (by simp) (Nat.zero_le _)) (hl.app (GkL.one hb))) fun _=>
 .bind (ff (ll _)) fun y hy=>.bind (ff kO) fun s hs=>.then fun _=>.bif (fun _=>.bind yO fun l hl=>.bind h.blk fun b hb=>b5 (o8 hy rfl rfl (by
   show(1:Int)≤((l++[b]).length:Int)
   rw[List.length_append,List.length_singleton]
   omega) (.inl rfl) (.inl rfl) (lM hs)) (hl.app (GkL.one hb))) fun _=>.bif (fun _=>.flt) fun _=>.then fun _=>b5 (ks:=[]) (o8 hy rfl rfl (Int.le_refl 0) (.inr (Int.le_refl 0)) (.inl rfl) (lM hs)) trivial
theorem qN(h:GK p)(f:Int){s:Str}(hs:s.length≤70000):∀(n:Nat) (L:List Tn),GkL L→ca (gP T K p f s n L) Gk
 |0,_,_=>.bad
 |n+1,L,hL=>.then fun _=>.bif (fun _=>.then fun _=>b5 (qu (.inr rfl) hs) hL) fun _=>.then fun _=>.bind (HU h) fun x hx=>qN h f hs n _ (hL.app (GkL.one hx))
theorem Lu(h:GK p):ca (fD T K p) Gk:=.then fun _=>.then fun _=>.bind (ff kO) fun s hs=>.then fun _=>.then fun _=>.bif (fun _=>.bind (ff kO) fun e he=>.bind (b5 (ks:=[]) (cp rfl (lM he)) trivial) fun y hy=>.then fun _=>qN h _ (lM hs) _ _ (GkL.one hy)) fun _=>.then fun _=>qN h _ (lM hs) _ _ trivial
theorem sF(h:GK p):∀(n:Nat) (L:List Tn),GkL L→ca (bb T K p n L) fun t=>Gk t∧ak t.data=1
 |0,_,_=>.bad
 |n+1,L,hL=>.then fun _=>.bif (fun _=>fun a d m=>by
   have:=b5 (K:=K) (x:=nod 1 [] []) (f:=0) (ks:=L) (qu (.inl ⟨rfl,rfl⟩) (Nat.zero_le _)) hL a d m
   unfold cx at this⊢
   revert this
   cases decide ((m:Int)≥8192)
   ·exact fun h=>⟨h,rfl⟩
   ·exact fun _=>trivial) fun _=>.then fun _=>.bind (Lu h) fun x hx=>sF h n _ (hL.app (GkL.one hx))
theorem F2{T:List UInt8}(h:cL T=0){t:Tn}{a d:Int}{n:Nat}(ht:eJ T= .ok t a d n):Gk t∧ak t.data=1:=by
 have hT:=(lex_wf h).len
 have:=sF (T:=T) (K:=bJ T) (wq (K:=bJ T) hT iC) ((bJ T).length+2) [] trivial 0 0 0
 have e:bb T (bJ T) (knt T (bJ T) iC) ((bJ T).length+2) [] 0 0 0= .ok t a d n:=ht
 rw[e]at this
 exact this
end Go.Sx.Tryz
namespace Go.Sx.Tryz
open Go Go.Sx Go.Proofs
set_option maxRecDepth 100000
end Go.Sx.Tryz
namespace Go.Sx.Tryz
theorem bt{α:Type}{b:Bool}{x y:α}(h:b=true):(bif b then x else y)=x:=by rw[h];rfl
theorem bn{α:Type}{b:Bool}{x y:α}(h:b=false):(bif b then x else y)=y:=by rw[h];rfl
end Go.Sx.Tryz
namespace Go.Sx.Tryz
open Go Go.Sx Go.Proofs
set_option maxRecDepth 100000
theorem w5(P S:List Nd)(d:Nd)(l:List Tn):ag (P++(Tn.mk d l).flat P.length++S) (eT P.length (.mk d l)).toNat=c8 d (roots P.length l):=by
 have e2:(eT P.length (.mk d l)).toNat=(P++Tn.flats P.length l).length:=by
  rw[eT,List.length_append,Tn.flats_len,Tn.size]
  omega
 rw[e2,Tn.flat,←List.append_assoc,List.append_assoc]
 unfold ag
 rw[List.getD_eq_getElem?_getD,List.getElem?_append_right (Nat.le_refl _),Nat.sub_self]
 rfl
section
variable{T:List UInt8}{L:List Nd}{r l i:Int}{x:Nd}
end
theorem DF{T:List UInt8}{y:Unit}{a d:Int}{A:List Nd}(hl:cL T=0)(h:lZ T= .ok y a d A):Inv (bJ T) a d A:=by
 have hE:=kZ hl
 rw[h]at hE
 exact hE.2.inv
theorem FO{n:Int}(h:¬n=0):(n !=0)=true:=by simpa [bne]using h
end Go.Sx.Tryz
namespace Go.Sx.Tryz
open Go Go.Sx
set_option maxRecDepth 100000
theorem jV(i:Int)(x:Nd)(r:List Nd)(u:List Int):cn i (x::r) u=bif dF x !=0 then .inl (dF x)else match ef i (aj x) u with
  | .inl c=>.inl c
  | .inr u'=>cn (i+1) r u':=rfl
theorem l6:∀(A B:List Nd) (i:Int) (u:List Int),cn i (A++B) u=match cn i A u with
  | .inl c=>.inl c
  | .inr u'=>cn (i+A.length) B u'
 |[],B,i,u=>by
  show cn i B u=cn (i+((0:Nat):Int)) B u
  rw[show i+((0:Nat):Int)=i by omega]
 |x::A,B,i,u=>by
  show cn i (x::(A++B)) u=_
  rw[jV,jV i x A u]
  cases dF x !=0
  ·simp only[cond_false]
   cases ef i (aj x) u with
   |inl c=>rfl
   |inr u'=>
    simp only
    rw[l6 A B (i+1) u',show i+1+(A.length:Int)=i+((x::A).length:Int) by simp;omega]
  ·rfl
theorem uJ(u:List Int)(k:Nat)(v:Int)(j:Nat)(hk:k<u.length):b9 (ns u k v) j=if j=k then v else b9 u j:=by
 unfold b9 ns
 rw[List.getD_eq_getElem?_getD,List.getD_eq_getElem?_getD,List.getElem?_set]
 by_cases h:k=j
 ·subst h
  simp[hk]
 ·simp only[h,if_false]
  rw[if_neg (fun e=>h e.symm)]
theorem u7{i:Int}:∀(l:List Int) (u:List Int),(∀k∈l,0≤k∧k<i∧k.toNat<u.length∧b9 u k.toNat=0)→l.Nodup→∃u',ef i l u= .inr u'∧u'.length=u.length∧∀j:Nat,b9 u' j=if(j:Int)∈l then 1 else b9 u j
 |[],u,_,_=>⟨u,rfl,rfl,fun j=>by simp⟩
 |k::l,u,h,hn=>by
  obtain⟨h1,h2,h3,h4⟩:=h k (by simp)
  rw[List.nodup_cons]at hn
  obtain⟨u',e1,e2,e3⟩:=u7 (i:=i) l (ns u k.toNat 1) (fun q hq=>by
   obtain⟨q1,q2,q3,q4⟩:=h q (by simp[hq])
   refine⟨q1,q2,by simpa [ns]using q3,?_⟩
   rw[uJ _ _ _ _ h3,if_neg,q4]
   intro e
   have:q=k:=by omega
   subst this
   exact hn.1 hq) hn.2
  refine⟨u',?_,by rw[e2];simp[ns],fun j=>?_⟩
  ·unfold ef
   rw[decide_eq_false (by omega:¬k<0),decide_eq_false (by omega:¬k≥i),decide_eq_false (by omega:¬b9 u k.toNat>0)]
   exact e1
  ·rw[e3,uJ _ _ _ _ h3]
   by_cases hj:(j:Int)=k
   ·have hj2:j=k.toNat:=by omega
    rw[if_pos (show(j:Int)∈k::l by rw[hj];simp),if_pos hj2]
    split<;>rfl
   ·have hj2:¬j=k.toNat:=by omega
    rw[if_neg hj2]
    by_cases hm:(j:Int)∈l
    ·rw[if_pos hm,if_pos (by simp[hm])]
    ·rw[if_neg hm,if_neg (by simp[hm,hj])]
theorem size_pos(t:Tn):1≤t.size:=by
 obtain⟨x,ks⟩:=t
 rw[Tn.size]
 omega
theorem iR:∀(ts:List Tn) (o:Nat) (k:Int),k∈roots o ts→(o:Int)≤k∧k<((o+Tn.sizes ts:Nat):Int)
 |[],_,_,h=>by cases h
 |t::ts,o,k,h=>by
  have hp:=size_pos t
  rw[roots,List.mem_cons]at h
  rw[Tn.sizes]
  rcases h with rfl|h
  ·omega
  ·have:=iR ts (o+t.size) k h
   omega
theorem pQ:∀(ts:List Tn) (o:Nat),(roots o ts).Nodup
 |[],_=>List.nodup_nil
 |t::ts,o=>by
  rw[roots,List.nodup_cons]
  refine⟨fun h=>?_,pQ ts _⟩
  have:=iR ts (o+t.size) _ h
  omega
structure Mk(o n:Nat)(l:List Int)(u u':List Int):Prop where
 len:u'.length=u.length
 out:∀j:Nat,j<o∨o+n≤j→b9 u' j=b9 u j
 inn:∀j:Nat,o≤j→j<o+n→b9 u' j=if(j:Int)∈l then 0 else 1
mutual
theorem Eo:∀(t:Tn) (o:Nat) (u:List Int),Gk t→o+t.size≤u.length→(∀j:Nat,o≤j→j<o+t.size→b9 u j=0)→∃u',cn (o:Int) (t.flat o) u= .inr u'∧Mk o t.size [eT o t] u u'
 | .mk x ks,o,u,hg,hu,hz=>by
  unfold Gk at hg
  rw[Tn.size]at hu hz
  obtain⟨u1,e1,m1⟩:=B6 ks o u hg.2 (by omega) (fun j h1 h2=>hz j h1 (by omega))
  have hk:∀k∈roots o ks,0≤k∧k<((o+Tn.sizes ks:Nat):Int)∧k.toNat<u1.length∧b9 u1 k.toNat=0:=fun k hk=>by
   have hr:=iR ks o k hk
   refine⟨by omega,hr.2,by rw[m1.len];omega,?_⟩
   rw[m1.inn k.toNat (by omega) (by omega),if_pos]
   rwa [show((k.toNat:Nat):Int)=k by omega]
  obtain⟨u2,e2,l2,g2⟩:=u7 (i:=((o+Tn.sizes ks:Nat):Int)) (roots o ks) u1 hk (pQ ks o)
  refine⟨u2,?_,?_⟩
  ·rw[Tn.flat,l6,e1]
   simp only
   rw[show(o:Int)+((Tn.flats o ks).length:Int)=((o+Tn.sizes ks:Nat):Int) by rw[Tn.flats_len];omega]
   rw[jV]
   have he:dF (c8 x (roots o ks))=0:=by
    rw[CR,b8]
    exact hg.1.e
   rw[he]
   show(match ef ((o+Tn.sizes ks:Nat):Int) (roots o ks) u1 with
    | .inl c=>Sum.inl c
    | .inr u'=>cn _ [] u')=_
   rw[e2]
   rfl
  ·have hp:Tn.sizes ks+1=(Tn.mk x ks).size:=by rw[Tn.size]
   refine⟨by rw[l2,m1.len],fun j hj=>?_,fun j h1 h2=>?_⟩
   ·rw[←hp]at hj
    rw[g2,if_neg,m1.out j (by omega)]
    intro hm
    have:=iR ks o _ hm
    omega
   ·rw[←hp]at h2
    rw[g2]
    have hroot:((j:Int)∈[eT o (.mk x ks)])↔j=o+Tn.sizes ks:=by
     rw[List.mem_singleton,eT,Tn.size]
     omega
    by_cases hj:j=o+Tn.sizes ks
    ·rw[if_pos (hroot.2 hj),if_neg,m1.out j (by omega),hz j h1 (by omega)]
     intro hm
     have:=iR ks o _ hm
     omega
    ·rw[if_neg (fun h=>hj (hroot.1 h))]
     by_cases hm:(j:Int)∈roots o ks
     ·rw[if_pos hm]
     ·rw[if_neg hm,m1.inn j h1 (by omega),if_neg hm]
theorem B6:∀(ts:List Tn) (o:Nat) (u:List Int),GkL ts→o+Tn.sizes ts≤u.length→(∀j:Nat,o≤j→j<o+Tn.sizes ts→b9 u j=0)→∃u',cn (o:Int) (Tn.flats o ts) u= .inr u'∧Mk o (Tn.sizes ts) (roots o ts) u u'
 |[],o,u,_,_,_=>⟨u,rfl,rfl,fun _ _=>rfl,fun j h1 h2=>by
  have h2:j<o+0:=h2
  omega⟩
 |t::ts,o,u,hg,hu,hz=>by
  unfold GkL at hg
  rw[Tn.sizes]at hu hz
  obtain⟨u1,e1,m1⟩:=Eo t o u hg.1 (by omega) (fun j h1 h2=>hz j h1 (by omega))
  obtain⟨u2,e2,m2⟩:=B6 ts (o+t.size) u1 hg.2 (by rw[m1.len];omega) (fun j h1 h2=>by
   rw[m1.out j (by omega)]
   exact hz j (by omega) (by omega))
  refine⟨u2,?_,?_⟩
  ·rw[Tn.flats,l6,e1]
   simp only
   rw[show(o:Int)+((t.flat o).length:Int)=((o+t.size:Nat):Int) by rw[Tn.flat_len];omega]
   exact e2
  ·refine⟨by rw[m2.len,m1.len],fun j hj=>?_,fun j h1 h2=>?_⟩
   ·rw[Tn.sizes]at hj
    rw[m2.out j (by omega),m1.out j (by omega)]
   ·rw[Tn.sizes]at h2
    simp only[roots,List.mem_cons]
    by_cases hj:j<o+t.size
    ·rw[m2.out j (by omega),m1.inn j h1 hj]
     have hn:¬(j:Int)∈roots (o+t.size) ts:=fun hm=>by
      have:=iR ts _ _ hm
      omega
     simp only[List.mem_singleton,hn,or_false]
     rfl
    ·rw[m2.inn j (by omega) (by omega)]
     have hn:¬(j:Int)=((o+t.size:Nat):Int)-1:=by omega
     simp only[hn,false_or]
end
theorem AJ{t:Tn}(hg:Gk t)(hk:ak t.data=1)(hs:t.size≤8192):dH (t.flat 0) ((t.size:Int)-1)=0:=by
 have hp:=size_pos t
 have hl:=Tn.flat_len 0 t
 obtain⟨u,e,m⟩:=Eo t 0 (List.replicate (t.flat 0).length 0) hg (by simp[hl]) (fun j _ h2=>by
  unfold b9
  rw[List.getD_eq_getElem?_getD,List.getElem?_replicate]
  split<;>rfl)
 have e:cn 0 (t.flat 0) (List.replicate (t.flat 0).length 0)= .inr u:=e
 unfold dH
 rw[e,hl,decide_eq_false (by omega:¬((t.size:Int)>16384)),show((t.size:Int)==0)=false from beq_eq_false_iff_ne.2 (by omega),show((t.size:Int)-1 !=(t.size:Int)-1)=false by simp]
 have hroot:ak (ag (t.flat 0) ((t.size:Int)-1).toNat)=1:=by
  obtain⟨d,l⟩:=t
  have:=w5 [] [] d l
  simp only[List.length_nil,List.nil_append,List.append_nil]at this
  rw[show((((Tn.mk d l).size:Int)-1))=eT 0 (.mk d l) by rw[eT];omega,this]
  exact hk
 rw[hroot]
 show nc (u.take (t.size-1))=0
 unfold nc
 have:(u.take (t.size-1)).any (· ==0)=false:=by
  rw[List.any_eq_false]
  intro v hv
  obtain⟨j,hj,rfl⟩:=List.mem_iff_getElem.1 hv
  rw[List.length_take]at hj
  have h1:=m.inn j (by omega) (by omega)
  have hne:¬((j:Int)∈[eT 0 t]):=by
   rw[List.mem_singleton,eT]
   omega
  rw[if_neg hne]at h1
  unfold b9 at h1
  rw[List.getD_eq_getElem?_getD]at h1
  have hju:j<u.length:=by omega
  rw[List.getElem?_eq_getElem hju]at h1
  rw[List.getElem_take]
  simp only[Option.getD_some]at h1
  rw[h1]
  decide
 rw[this]
 rfl
mutual
theorem wR(Q:Nd→Prop)(hQ:∀x l,NG x l.length→Q (c8 x l)):∀(t:Tn) (o:Nat),Gk t→∀y∈t.flat o,Q y
 | .mk x ks,o,hg,y,hy=>by
  unfold Gk at hg
  rw[Tn.flat]at hy
  rcases List.mem_append.1 hy with hy|hy
  ·exact yY Q hQ ks o hg.2 y hy
  ·rw[List.mem_singleton]at hy
   subst hy
   exact hQ x _ (by rw[b8];exact hg.1)
theorem yY(Q:Nd→Prop)(hQ:∀x l,NG x l.length→Q (c8 x l)):∀(ts:List Tn) (o:Nat),GkL ts→∀y∈Tn.flats o ts,Q y
 |[],_,_,_,hy=>by cases hy
 |t::ts,o,hg,y,hy=>by
  unfold GkL at hg
  rw[Tn.flats]at hy
  rcases List.mem_append.1 hy with hy|hy
  ·exact wR Q hQ t o hg.1 y hy
  ·exact yY Q hQ ts _ hg.2 y hy
end
theorem D0{t:Tn}(hg:Gk t)(o:Nat):(t.flat o).all dR=true:=List.all_eq_true.2 (wR (fun y=>dR y=true) (fun _ _ h=>h.n) t o hg)
theorem Hl{t:Tn}(hg:Gk t)(hs:t.size≤8192)(hk:∀x∈t.flat 0,(aj x).length≤20000):jJ (t.flat 0)=true:=by
 unfold jJ
 rw[Tn.flat_len,decide_eq_true (by omega),Bool.true_and,List.all_eq_true]
 intro y hy
 have h2:=wR (fun y=>(aH y).length≤70000∧(au y).length≤200∧(af y).length≤50) (fun _ _ h=>⟨h.t,h.nm,h.mr⟩) t 0 hg y hy
 unfold fB
 rw[decide_eq_true (hk y hy),decide_eq_true h2.1,decide_eq_true h2.2.1,decide_eq_true h2.2.2]
 rfl
end Go.Sx.Tryz
namespace Go.Sx.Tryz
open Go Go.Sx
set_option maxRecDepth 100000
mutual
def nF:Tn→List UInt8
 | .mk x ks=>hdS x++ku ks++[41]
def ku:List Tn→List UInt8
 |[]=>[]
 |t::ts=>[32]++nF t++ku ts
end
theorem AB(L:List Nd)(f i:Nat):mL L (f+1) i=hdS (ag L i)++(aj (ag L i)).flatMap (fun k=>[32]++mL L f k.toNat)++[41]:=rfl
mutual
theorem EY(L S:List Nd):∀(t:Tn) (P:List Nd) (f:Nat),L=P++t.flat P.length++S→P.length+t.size≤f→mL L f (P.length+t.size-1)=nF t
 | .mk x ks,P,0,_,hf=>by
  rw[Tn.size]at hf
  omega
 | .mk x ks,P,f+1,hL,hf=>by
  have hr:ag L (P.length+(Tn.mk x ks).size-1)=c8 x (roots P.length ks):=by
   have:=w5 P S x ks
   rw[←hL]at this
   rw[show P.length+(Tn.mk x ks).size-1=(eT P.length (.mk x ks)).toNat by rw[eT];omega]
   exact this
  have hL2:L=P++Tn.flats P.length ks++([c8 x (roots P.length ks)]++S):=by
   rw[hL,Tn.flat]
   simp[List.append_assoc]
  rw[Tn.size]at hf
  rw[AB,hr,nF]
  show hdS x++(roots P.length ks).flatMap (fun k=>[32]++mL L f k.toNat)++[41]=_
  rw[Cd L _ ks P f hL2 (by omega)]
theorem Cd(L S:List Nd):∀(ts:List Tn) (P:List Nd) (f:Nat),L=P++Tn.flats P.length ts++S→P.length+Tn.sizes ts≤f→(roots P.length ts).flatMap (fun k=>[32]++mL L f k.toNat)=ku ts
 |[],_,_,_,_=>rfl
 |t::ts,P,f,hL,hf=>by
  rw[Tn.sizes]at hf
  have hp:=size_pos t
  have hL2:L=P++t.flat P.length++(Tn.flats (P.length+t.size) ts++S):=by
   rw[hL,Tn.flats]
   simp[List.append_assoc]
  have hP:(P++t.flat P.length).length=P.length+t.size:=by rw[List.length_append,Tn.flat_len]
  have h1:=EY L _ t P f hL2 (by omega)
  have h2:=Cd L S ts (P++t.flat P.length) f (by rw[hL2,hP];simp[List.append_assoc]) (by rw[hP];omega)
  rw[hP]at h2
  rw[roots,List.flatMap_cons,h2,ku]
  rw[show(((P.length+t.size:Nat):Int)-1).toNat=P.length+t.size-1 by omega,h1]
end
structure Rn(x y:Nd):Prop where
 k:ak x=ak y
 t:aH x=aH y
 b:al x=al y
 nm:au x=au y
 d:ah x=ah y
 m:af x=af y
 n:nN x=nN y
mutual
def Et:Tn→Tn→Prop
 | .mk x ks,u=>Rn x u.data∧EtL ks u.kids
def EtL:List Tn→List Tn→Prop
 |[],us=>us=[]
 |t::ts,us=>∃u us',us=u::us'∧Et t u∧EtL ts us'
end
theorem P0{x y:Nd}(h:Rn x y):hdS x=hdS y:=by
 unfold hdS tyS
 rw[h.k,h.t,h.b,h.nm,h.d,h.m,h.n]
mutual
theorem wj:∀(t u:Tn),Et t u→nF t=nF u
 | .mk x ks,.mk y ls,h=>by
  unfold Et at h
  rw[nF,nF,P0 h.1,yL ks ls h.2]
  rfl
theorem yL:∀(ts us:List Tn),EtL ts us→ku ts=ku us
 |[],us,h=>by
  have h:us=[]:=h
  subst h
  rfl
 |t::ts,us,h=>by
  unfold EtL at h
  obtain⟨u,us',rfl,h1,h2⟩:=h
  rw[ku,ku,wj t u h1,yL ts us' h2]
end
theorem EtL.snoc:∀{ts us:List Tn} {t u:Tn},EtL ts us→Et t u→EtL (ts++[t]) (us++[u])
 |[],us,t,u,h,h'=>by
  have h:us=[]:=h
  subst h
  show EtL [t] [u]
  unfold EtL
  exact⟨u,[],rfl,h',rfl⟩
 |a::ts,us,t,u,h,h'=>by
  unfold EtL at h
  obtain⟨b,us',rfl,h1,h2⟩:=h
  show EtL (a::(ts++[t])) _
  unfold EtL
  exact⟨b,us'++[u],rfl,h1,EtL.snoc h2 h'⟩
theorem EtL.nil:EtL [] []:=rfl
theorem EtL.cons{t u:Tn}{ts us:List Tn}(h:Et t u)(h':EtL ts us):EtL (t::ts) (u::us):=by
 unfold EtL
 exact⟨u,us,rfl,h,h'⟩
theorem EtL.one{t u:Tn}(h:Et t u):EtL [t] [u]:=.cons h .nil
theorem EtL.len:∀{ts us:List Tn},EtL ts us→ts.length=us.length
 |[],us,h=>by
  have h:us=[]:=h
  rw[h]
 |t::ts,us,h=>by
  unfold EtL at h
  obtain⟨u,us',rfl,h1,h2⟩:=h
  simp[EtL.len h2]
end Go.Sx.Tryz
namespace Go.Sx.Tryz
open Go Go.Sx
set_option maxRecDepth 100000
def SR{α β:Type}(R:α→β→Prop)(r:TR α)(r':TR β):Prop:=match r,r' with
 | .ok y a d n,.ok y' a' d' n'=>R y y'∧a=a'∧d=d'∧n=n'
 | .fault c _,.fault c' _=>c=c'
 | .bad,.bad=>True
 |_,_=>False
def Rq(t u:Tok×Str):Prop:=ai t.1=ai u.1∧t.2=u.2
section
variable{T T':List UInt8}{K K':List Tok}
theorem kL{b w1 w2 e w1' w2' e':Int}{n n':Str}(hn:n=n'):Rn (oJ b n w1 w2 e) (oJ b n' w1' w2' e'):=⟨rfl,rfl,rfl,hn,rfl,rfl,rfl⟩
theorem BJ{x y:Nd}(h:Rn x y)(c:UInt8){w1 w2 w1' w2':Int}:Rn (fo x c w1 w2) (fo y c w1' w2'):=⟨h.k,h.t,h.b,h.nm,h.d,by
 show(af x).take (ah x).toNat++[c]=(af y).take (ah y).toNat++[c]
 rw[h.m,h.d],h.n⟩
theorem Nu{x y:Nd}(h:Rn x y){e e':Int}:Rn (sH x e) (sH y e'):=⟨h.k,h.t,h.b,h.nm,by
 show ah x+1=ah y+1
 rw[h.d],by
 show af x++[32]=af y++[32]
 rw[h.m],h.n⟩
theorem mark_eq{x y:Nd}(h:Rn x y):fe x (ah x)=fe y (ah y):=by
 unfold fe
 rw[h.m,h.d]
end
end Go.Sx.Tryz
namespace Go.Sx.Tryz
open Go Go.Sx
set_option maxRecDepth 100000
end Go.Sx.Tryz
namespace Go.Sx.Tryz
open Go Go.Sx
set_option maxRecDepth 100000
theorem K6(T:List UInt8):say T (tkn 0 T.length T.length)=[]:=by
 show List.drop (Int.toNat (T.length:Int)) (List.take (Int.toNat (T.length:Int)) T)=[]
 simp
theorem JU{U:List UInt8}{ts:List Tk}(hT:U.length≤65536)(hl:Lx (U.drop (df U)) ts)(hk:ts.length<16384):cL U=0∧cB U (bJ U)=ts++[(0,[])]:=by
 have hg:=kR (U.length+1) U
 have h:=Kx (T:=U) hl (U.length+1) 0 (U.take (df U)) (List.take_append_drop _ _).symm (by rw[List.length_drop];omega) (by omega)
 have hp:((U.take (df U)).length:Int)=fh U 0:=by
  rw[List.length_take]
  unfold fh aK
  show((min (df U) U.length:Nat):Int)=0+((df (List.drop 0 U):Nat):Int)
  rw[List.drop_zero]
  have:df U≤U.length:=hg
  omega
 rw[hp]at h
 have hS:fG U=jM (U.length+1) U (fh U 0) 0:=by
  unfold fG
  rw[show decide ((U.length:Int)>65536)=false from decide_eq_false (by omega)]
  rfl
 have hC:cL U=0:=by rw[qj,hS];exact h.1
 exact⟨hC,by rw[vR hC,hS];exact h.2⟩
end Go.Sx.Tryz
namespace Go.Sx.Tryz
open Go Go.Sx
set_option maxRecDepth 100000
theorem mZ{p:Int→Bool}{x:UInt8}(hx:p x.toNat=false):∀(s r:List UInt8),aF p (s++x::r)=aF p s
 |[],r=>by
  show aF p (x::r)=0
  rw[cR,hx]
  rfl
 |c::s,r=>by
  show aF p (c::(s++x::r))=_
  rw[cR,cR,mZ hx s r]
theorem qh(p:Int→Bool):∀s:List UInt8,aF p s≤s.length
 |[]=>Nat.le_refl _
 |c::s=>by
  rw[cR]
  cases p c.toNat
  ·exact Nat.zero_le _
  ·exact Nat.succ_le_succ (qh p s)
theorem J2{w r0:List UInt8}{k:Int}(h:gH (w++r0)=(k,0,w.length))(hw:0<w.length){x:UInt8}(hx:DJ x=true)(r:List UInt8):gH (w++(r0++x::r))=(k,0,w.length):=by
 cases hr0:r0 with
 |nil=>exact OP h hw hx r
 |cons c0 r1=>
  have hl2:2≤(w++r0).length:=by rw[List.length_append,hr0,List.length_cons];omega
  rw[←hr0]
  clear hr0
  obtain⟨x1,x2,x3,x4⟩:=yK hx
  have h0:=ov r0 (r0++x::r) hw
  unfold gH at h⊢
  rw[h0]
  revert h
  cases hL:isLet (at8 (w++r0) 0)
  ·cases hD:aI (at8 (w++r0) 0)
   ·cases hQ:at8 (w++r0) 0==34
    ·simp only[cond_false]
     intro h
     have e1:(w++(r0++x::r)).take 2=(w++r0).take 2:=by
      rw[←List.append_assoc,List.take_append_of_le_length hl2]
     have e2:at8 (w++(r0++x::r)) 1=at8 (w++r0) 1:=by
      rw[←List.append_assoc]
      have:=ov (w:=w++r0) [] (x::r) (i:=1) (by omega)
      rw[List.append_nil]at this
      exact this
     have hlen:decide (((w++(r0++x::r)).length:Int)>1)=decide (((w++r0).length:Int)>1):=by
      rw[decide_eq_true (by omega:((w++r0).length:Int)>1),decide_eq_true]
      rw[←List.append_assoc,List.length_append]
      omega
     unfold wO at h⊢
     rw[e1,e2,h0,hlen]
     exact h
    ·simp only[cond_true,cond_false]
     intro h
     obtain⟨c,u,rfl⟩:∃c u,w=c::u:=by
      cases w with
      |nil=>cases hw
      |cons c u=>exact⟨c,u,rfl⟩
     have hq:(eV (c::u++r0)).2=0∧(eV (c::u++r0)).1=u.length+1:=by
      revert h
      cases he:((eV (c::u++r0)).2==0&&decide (((eV (c::u++r0)).1:Int)>256))
      ·simp only[cond_false]
       intro h
       exact⟨congrArg (fun z=>z.2.1) h,congrArg (fun z=>z.2.2) h⟩
      ·simp only[cond_true]
       intro h
       have:=congrArg (fun z=>z.2.1) h
       simp at this
     have hF:cD (c::u++r0).length (u++r0)=(u.length,0):=by
      have e1:(cD (c::u++r0).length (u++r0)).1+1=u.length+1:=hq.2
      have e2:(cD (c::u++r0).length (u++r0)).2=0:=hq.1
      exact Prod.ext (by simp only;omega) e2
     have hF2:=qo _ u r0 hF (c::u++(r0++x::r)).length (r0++x::r) (by simp;omega)
     have hq2:eV (c::u++(r0++x::r))=eV (c::u++r0):=by
      have e3:eV (c::u++(r0++x::r))=(u.length+1,0):=by
       show((cD (c::u++(r0++x::r)).length (u++(r0++x::r))).1+1,(cD (c::u++(r0++x::r)).length (u++(r0++x::r))).2)=_
       rw[hF2]
      rw[e3]
      exact Prod.ext hq.2.symm hq.1.symm
     rw[hq2]
     exact h
   ·simp only[cond_true,cond_false]
    intro h
    have hr:=mZ x2 (w++r0) r
    rw[List.append_assoc]at hr
    have hle:=qh aI (w++r0)
    have hat:∀i,i<(w++r0).length→at8 (w++(r0++x::r)) i=at8 (w++r0) i:=fun i hi=>by
     rw[←List.append_assoc]
     have:=ov (w:=w++r0) [] (x::r) hi
     rw[List.append_nil]at this
     exact this
    have hon:at8 (w++(r0++x::r)) (w++r0).length=x.toNat:=by
     rw[←List.append_assoc]
     exact Hi (w++r0) r x
    have hc:(decide (((aF aI (w++r0):Nat):Int)+1<(w++(r0++x::r)).length)&&(at8 (w++(r0++x::r)) (aF aI (w++r0))==46&&aI (at8 (w++(r0++x::r)) (aF aI (w++r0)+1))))=(decide (((aF aI (w++r0):Nat):Int)+1<(w++r0).length)&&(at8 (w++r0) (aF aI (w++r0))==46&&aI (at8 (w++r0) (aF aI (w++r0)+1)))):=by
     generalize aF aI (w++r0)=n at hle
     have hlt:((w++r0).length:Int)<(w++(r0++x::r)).length:=by
      simp only[List.length_append,List.length_cons]
      omega
     by_cases h1:n+1<(w++r0).length
     ·rw[decide_eq_true (by omega:((n:Nat):Int)+1<(w++r0).length),decide_eq_true (by omega:((n:Nat):Int)+1<(w++(r0++x::r)).length),hat n (by omega),hat (n+1) h1]
     ·rw[decide_eq_false (by omega:¬((n:Nat):Int)+1<(w++r0).length),Bool.false_and]
      by_cases h2:n+1=(w++r0).length
      ·rw[h2,hon,x2,Bool.and_false,Bool.and_false]
      ·have h3:n=(w++r0).length:=by omega
       rw[h3,hon,x3,Bool.false_and,Bool.and_false]
    rw[hr,hc]
    cases hcc:(decide (((aF aI (w++r0):Nat):Int)+1<(w++r0).length)&&(at8 (w++r0) (aF aI (w++r0))==46&&aI (at8 (w++r0) (aF aI (w++r0)+1))))
    ·rw[hcc]at h
     exact h
    ·rw[hcc]at h
     simp only[cond_true]at h⊢
     have hn1:aF aI (w++r0)+1≤(w++r0).length:=by
      simp only[Bool.and_eq_true,decide_eq_true_eq]at hcc
      omega
     have hd:(w++(r0++x::r)).drop (aF aI (w++r0)+1)=(w++r0).drop (aF aI (w++r0)+1)++x::r:=by
      rw[←List.append_assoc,List.drop_append_of_le_length hn1]
     rw[hd,mZ x2]
     exact h
  ·simp only[cond_true]
   intro h
   have hr:=mZ x1 (w++r0) r
   rw[List.append_assoc]at hr
   rw[hr]
   exact h
end Go.Sx.Tryz
namespace Go.Sx.Tryz
open Go Go.Sx
set_option maxRecDepth 100000
theorem Bz{p:Int→Bool}:∀(s y:List UInt8),aF p s=s.length→aF p (s++y)=s.length+aF p y
 |[],y,_=>by simp
 |c::s,y,h=>by
  show aF p (c::(s++y))=_
  rw[cR]at h⊢
  cases hp:p c.toNat with
  |false=>rw[hp]at h;simp at h
  |true=>
   rw[hp]at h
   simp only[cond_true,List.length_cons]at h⊢
   rw[Bz s y (by omega)]
   omega
theorem Mz{s:List UInt8}(h:Lib.hasPrefix s [47,47]=true):1≤aF nl s:=by
 obtain⟨r',e⟩:=vF h
 rw[e,cR]
 have e2:nl (((47:UInt8).toNat:Nat):Int)=true:=by decide
 rw[e2]
 simp
theorem OA{s:List UInt8}(h:Lib.hasPrefix s [47,47]=true):s≠[]:=by
 obtain⟨r',e⟩:=vF h
 rw[e]
 simp
theorem u0:∀(n m:Nat) (s:List UInt8),s.length<n→s.length<m→ln n s=ln m s
 |0,_,_,h,_=>absurd h (by omega)
 |_+1,0,_,_,h=>absurd h (by omega)
 |n+1,m+1,s,h1,h2=>by
  rw[dC,dC]
  cases hc:Lib.hasPrefix (s.drop (aF aU s)) [47,47]with
  |false=>rfl
  |true=>
   simp only[cond_true]
   have:=Mz hc
   have h3:1≤s.length:=by
    cases s with
    |nil=>exact absurd (List.drop_nil) (OA hc)
    |cons _ _=>simp
   rw[u0 n m _ (by rw[List.length_drop];omega) (by rw[List.length_drop];omega)]
theorem QP(s r:List UInt8)(h:s≠[]):Lib.hasPrefix (s++10::r) [47,47]=Lib.hasPrefix s [47,47]:=by
 match s,h with
 |[c],_=>simp[Lib.hasPrefix,List.isPrefixOf]
 |c::d::s,_=>simp[Lib.hasPrefix,List.isPrefixOf]
theorem x9(r:List UInt8):∀(n m:Nat) (s:List UInt8),s.length<n→s.length+r.length+1<m→ln m (s++10::r)=if ln n s<s.length then ln n s else s.length+1+df r
 |0,_,_,h,_=>absurd h (by omega)
 |_+1,0,_,_,h=>absurd h (by omega)
 |n+1,m+1,s,h1,h2=>by
  have hb:=qh aU s
  have e10:aU (((10:UInt8).toNat:Nat):Int)=true:=by decide
  have n10:nl (((10:UInt8).toNat:Nat):Int)=false:=by decide
  by_cases hl:aF aU s<s.length
  ·have hr:aF aU (s++10::r)=aF aU s:=by
    have:=zB s [] (10::r) (p:=aU) (by rw[List.append_nil];exact hl)
    rw[List.append_nil]at this
    exact this
   have hd:(s++10::r).drop (aF aU s)=s.drop (aF aU s)++10::r:=List.drop_append_of_le_length hb
   have hne:s.drop (aF aU s)≠[]:=by
    intro h
    have:=congrArg List.length h
    rw[List.length_drop]at this
    simp at this
    omega
   rw[dC,dC,hr,hd,QP _ _ hne]
   cases hc:Lib.hasPrefix (s.drop (aF aU s)) [47,47]with
   |false=>
    simp only[cond_false]
    rw[if_pos hl]
   |true=>
    simp only[cond_true]
    have h3:=Mz hc
    have h4:=qh nl (s.drop (aF aU s))
    rw[List.length_drop]at h4
    rw[mZ n10]
    generalize aF nl (s.drop (aF aU s))=c at h3 h4
    rw[List.drop_append_of_le_length (by omega),x9 r n m (s.drop (aF aU s+c)) (by rw[List.length_drop];omega) (by rw[List.length_drop];omega)]
    have hdl:(s.drop (aF aU s+c)).length=s.length-(aF aU s+c):=List.length_drop
    rw[hdl]
    by_cases h5:ln n (s.drop (aF aU s+c))<s.length-(aF aU s+c)
    ·rw[if_pos h5,if_pos (by omega)]
    ·rw[if_neg h5,if_neg (by omega)]
     omega
  ·have hbe:aF aU s=s.length:=by omega
   have hr:aF aU (s++10::r)=s.length+(aF aU r+1):=by
    rw[Bz s _ hbe,cR,e10]
    rfl
   have hS:ln (n+1) s=s.length:=by
    rw[dC,hbe,List.drop_length]
    rfl
   have hd:∀i,(s++10::r).drop (s.length+(i+1))=r.drop i:=fun i=>by
    rw[←List.drop_drop,List.drop_left]
    rfl
   have hg:df r=ln (m+1) r:=u0 _ _ _ (by omega) (by omega)
   rw[hS,if_neg (by omega),hg,dC,dC,hr,hd]
   cases hc:Lib.hasPrefix (r.drop (aF aU r)) [47,47]with
   |false=>
    simp only[cond_false]
    omega
   |true=>
    simp only[cond_true]
    rw[show s.length+(aF aU r+1)+aF nl (r.drop (aF aU r))=s.length+(aF aU r+aF nl (r.drop (aF aU r))+1) by omega,hd]
    omega
theorem CJ(s r:List UInt8):df (s++10::r)=if df s<s.length then df s else s.length+1+df r:=
 x9 r (s.length+1) ((s++10::r).length+1) s (by omega) (by rw[List.length_append,List.length_cons];omega)
theorem JP{B:List UInt8}{tb:List Tk}(hB:Lx (B.drop (df B)) tb){s:List UInt8}{ta:List Tk}(h:Lx s ta):s≠[]→Lx (s++10::B) (ta++tb):=by
 induction h with
 |nil=>intro h;exact absurd rfl h
 | @cons w r k ts h hw ht ih=>
  intro _
  rw[List.append_assoc]
  refine Lx.cons (J2 h hw (by decide) B) hw ?_
  rw[CJ]
  by_cases hg:df r<r.length
  ·rw[if_pos hg,List.drop_append_of_le_length (by omega)]
   refine ih ?_
   intro he
   have:=congrArg List.length he
   rw[List.length_drop]at this
   simp at this
   omega
  ·rw[if_neg hg]
   have hle:df r≤r.length:=kR _ _
   have he:r.drop (df r)=[]:=List.drop_eq_nil_of_le (by omega)
   have hd:(r++10::B).drop (r.length+1+df B)=B.drop (df B):=by
    rw[Nat.add_assoc,←List.drop_drop,List.drop_left,Nat.add_comm]
    rfl
   rw[hd]
   have hts:ts=[]:=by
    rw[he]at ht
    generalize hz:([]:List UInt8)=z at ht
    cases ht with
    |nil=>rfl
    |cons h1 h2 h3=>
     exfalso
     have:=congrArg List.length hz
     rw[List.length_append]at this
     simp at this
     omega
   rw[hts]
   exact hB
theorem O9{A B:List UInt8}{ta tb:List Tk}(hA:Lx (A.drop (df A)) ta)(hB:Lx (B.drop (df B)) tb):Lx ((A++10::B).drop (df (A++10::B))) (ta++tb):=by
 rw[CJ]
 by_cases hg:df A<A.length
 ·rw[if_pos hg,List.drop_append_of_le_length (by omega)]
  refine JP hB hA ?_
  intro he
  have:=congrArg List.length he
  rw[List.length_drop]at this
  simp at this
  omega
 ·rw[if_neg hg]
  have hle:df A≤A.length:=kR _ _
  have he:A.drop (df A)=[]:=List.drop_eq_nil_of_le (by omega)
  have hd:(A++10::B).drop (A.length+1+df B)=B.drop (df B):=by
   rw[Nat.add_assoc,←List.drop_drop,List.drop_left,Nat.add_comm]
   rfl
  rw[hd]
  have hts:ta=[]:=by
   rw[he]at hA
   generalize hz:([]:List UInt8)=z at hA
   cases hA with
   |nil=>rfl
   |cons h1 h2 h3=>
    exfalso
    have:=congrArg List.length hz
    rw[List.length_append]at this
    simp at this
    omega
  rw[hts]
  exact hB
end Go.Sx.Tryz
namespace Go.Sx.Tryz
open Go Go.Sx
set_option maxRecDepth 100000
def RM(x y:Nd×List Tn):Prop:=Rn x.1 y.1∧EtL x.2 y.2
def RW(x y:(Nd×List Tn)×Bool):Prop:=RM x.1 y.1∧x.2=y.2
theorem b6{k:Int}{w w':Str}(e:w=w'):Rn (nod k [] w) (nod k [] w'):=⟨rfl,e,rfl,rfl,rfl,rfl,rfl⟩
theorem fP{k n n':Int}{w w':Str}(e:n=n')(e':w=w'):Rn (eu k n w) (eu k n' w'):=⟨rfl,e',rfl,rfl,rfl,rfl,e⟩
theorem hH{x y:Nd}(h:Rn x y)(k:Int){w w':Str}(e:w=w'):Rn (bL x k [] w) (bL y k [] w'):=⟨rfl,e,h.b,h.nm,h.d,h.m,h.n⟩
theorem T7{x y:Nd}{ks ls:List Tn}(h:Rn x y)(h':EtL ks ls):Et (.mk x ks) (.mk y ls):=by
 unfold Et
 exact⟨h,h'⟩
theorem EtL.two{a b c d:Tn}(h:Et a c)(h':Et b d):EtL [a,b] [c,d]:=.cons h (.one h')
theorem EtL.three{a b c d e f:Tn}(h:Et a d)(h':Et b e)(h2:Et c f):EtL [a,b,c] [d,e,f]:=.cons h (.two h' h2)
section
variable{T T':List UInt8}{K K':List Tok}{p p':Kt}
theorem Et.kind{x y:Tn}(h:Et x y):ak x.data=ak y.data:=by
 obtain⟨a,b⟩:=x
 unfold Et at h
 exact h.1.k
end
end Go.Sx.Tryz
namespace Go.Sx.Tryz
open Go Go.Sx
set_option maxRecDepth 100000
structure Kw(T:List UInt8)(K:List Tok)(T':List UInt8)(K':List Tok)(s L:Int):Prop where
 s0:0≤s
 len:L≤(K.length:Int)
 len':L+s≤(K'.length:Int)
 le:K.length≤K'.length
 fin:∀a:Int,L≤a→ai (aa K a)=0
 tok:∀a:Int,0≤a→a<L→ai (aa K a)=ai (aa K' (a+s))∧say T (aa K a)=say T' (aa K' (a+s))
class Rf {α:Type} (R:α→α→Prop):Prop where
 rf:∀y,R y y
theorem Rn.rfl'(x:Nd):Rn x x:=⟨rfl,rfl,rfl,rfl,rfl,rfl,rfl⟩
mutual
theorem Et.rfl':∀t:Tn,Et t t
 | .mk x ks=>by
  unfold Et
  exact⟨Rn.rfl' x,EtL.rfl' ks⟩
theorem EtL.rfl':∀l:List Tn,EtL l l
 |[]=>.nil
 |t::ts=>.cons (Et.rfl' t) (EtL.rfl' ts)
end
def Re{α:Type}:α→α→Prop:=fun x y=>x=y
def Ru{α:Type}:α→α→Prop:=fun _ _=>True
instance rf1{α:Type}:Rf (Re (α:=α)):=⟨fun _=>rfl⟩
instance rf2{α:Type}:Rf (Ru (α:=α)):=⟨fun _=>trivial⟩
instance rf3:Rf Rn:=⟨Rn.rfl'⟩
instance rf4:Rf Et:=⟨Et.rfl'⟩
instance rf5:Rf EtL:=⟨EtL.rfl'⟩
instance rf6:Rf Rq:=⟨fun _=>⟨rfl,rfl⟩⟩
instance rf7:Rf RM:=⟨fun _=>⟨Rn.rfl' _,EtL.rfl' _⟩⟩
instance rf8:Rf RW:=⟨fun _=>⟨⟨Rn.rfl' _,EtL.rfl' _⟩,rfl⟩⟩
section
variable{s L:Int}{N:Nat}
def Wp(s L:Int)(k sl:Int){α:Type}(R:α→α→Prop)(m m':Pm α):Prop:=∀a d A y a1 d1 A1,0≤a→m a d A= .ok y a1 d1 A1→A1=A∧(a+k≤a1∧(a≤L→a1≤L))∧(a1+sl≤L→∃y',m' (a+s) d A= .ok y' (a1+s) d1 A∧R y y')
def Wl(s L:Int)(N:Nat)(k sl:Int){α:Type}(R:α→α→Prop)(m m':Tm α):Prop:=∀a d n y a1 d1 n1,0≤a→m a d n= .ok y a1 d1 n1→n≤n1∧(a+k≤a1∧(a≤L→a1≤L))∧(a1+sl≤L→(∃y',m' (a+s) d (n+N)= .ok y' (a1+s) d1 (n1+N)∧R y y')∨((∃p,m' (a+s) d (n+N)= .fault 2 p)∧8192<n1+N))
theorem Wp.bind{α γ:Type}{R:α→α→Prop} [r:Rf R]{R':γ→γ→Prop}{k1 sl1 k sl:Int}{m m':Pm α}{f f':α→Pm γ}(h:Wp s L k1 sl1 R m m')(hk:∀y y',R y y'→Wp s L k sl R' (f y) (f' y'))(e:0≤k1:=by decide)(e':sl1≤sl+k:=by decide):Wp s L k sl R' (m.bind f) (m'.bind f'):=fun a d A z a2 d2 A2 ha e2=>by
 unfold Pm.bind at e2⊢
 cases e1:m a d A with
 |ok y a1 d1 A1=>
  rw[e1]at e2
  obtain⟨rfl,h2,h3⟩:=h a d A y a1 d1 A1 ha e1
  replace e2:f y a1 d1 A1= .ok z a2 d2 A2:=e2
  obtain⟨rfl,h4,_⟩:=hk y y (r.rf y) a1 d1 A1 z a2 d2 A2 (by omega) e2
  refine⟨rfl,by omega,fun hl=>?_⟩
  obtain⟨y',e3,hy⟩:=h3 (by omega)
  obtain⟨_,_,h6⟩:=hk y y' hy a1 d1 A2 z a2 d2 A2 (by omega) e2
  obtain⟨z',e4,hz⟩:=h6 hl
  rw[e3]
  exact⟨z',e4,hz⟩
 |fault c p=>rw[e1]at e2;cases e2
 |bad=>rw[e1]at e2;cases e2
theorem Wl.bind{α γ:Type}{R:α→α→Prop} [r:Rf R]{R':γ→γ→Prop}{k1 sl1 k sl:Int}{m m':Tm α}{f f':α→Tm γ}(h:Wl s L N k1 sl1 R m m')(hk:∀y y',R y y'→Wl s L N k sl R' (f y) (f' y'))(e:0≤k1:=by decide)(e':sl1≤sl+k:=by decide):Wl s L N k sl R' (m.bind f) (m'.bind f'):=fun a d n z a2 d2 n2 ha e2=>by
 unfold Tm.bind at e2⊢
 cases e1:m a d n with
 |ok y a1 d1 n1=>
  rw[e1]at e2
  obtain⟨h1,h2,h3⟩:=h a d n y a1 d1 n1 ha e1
  replace e2:f y a1 d1 n1= .ok z a2 d2 n2:=e2
  obtain⟨h4,h5,_⟩:=hk y y (r.rf y) a1 d1 n1 z a2 d2 n2 (by omega) e2
  refine⟨by omega,by omega,fun hl=>?_⟩
  rcases h3 (by omega)with⟨y',e3,hy⟩|⟨⟨p,e3⟩,h6⟩
  ·obtain⟨_,_,h6⟩:=hk y y' hy a1 d1 n1 z a2 d2 n2 (by omega) e2
   rw[e3]
   exact h6 hl
  ·refine .inr ⟨⟨p,?_⟩,by omega⟩
   rw[e3]
   rfl
 |fault c p=>rw[e1]at e2;cases e2
 |bad=>rw[e1]at e2;cases e2
theorem Wl.bindL{α γ:Type}{R:α→α→Prop} [r:Rf R]{R':γ→γ→Prop}{k1 sl1 k sl:Int}{m m':Tm α}{f f':α→Tm γ}(h:Wl s L N k1 sl1 R m m')(hk:∀y y',R y y'→Wl s L N 0 sl R' (f y) (f' y'))(e:k≤k1:=by decide)(e':sl1≤sl:=by decide)(e0:0≤k1:=by decide):Wl s L N k sl R' (m.bind f) (m'.bind f'):=fun a d n z a2 d2 n2 ha e2=>by
 obtain⟨h1,h2,h3⟩:=Wl.bind h hk e0 (by omega) a d n z a2 d2 n2 ha e2
 refine⟨h1,?_,h3⟩
 unfold Tm.bind at e2
 cases e1:m a d n with
 |ok y a1 d1 n1=>
  rw[e1]at e2
  obtain⟨_,h5,_⟩:=h a d n y a1 d1 n1 ha e1
  obtain⟨_,h7,_⟩:=hk y y (r.rf y) a1 d1 n1 z a2 d2 n2 (by omega) e2
  omega
 |fault c p=>rw[e1]at e2;cases e2
 |bad=>rw[e1]at e2;cases e2
theorem Wl.wk{α:Type}{R:α→α→Prop}{k1 sl1 k sl:Int}{m m':Tm α}(h:Wl s L N k1 sl1 R m m')(e:k≤k1:=by decide)(e':sl1≤sl:=by decide):Wl s L N k sl R m m':=fun a d n z a2 d2 n2 ha e2=>by
 obtain⟨h1,h2,h3⟩:=h a d n z a2 d2 n2 ha e2
 exact⟨h1,by omega,fun hl=>h3 (by omega)⟩
theorem Wp.ret{α:Type}{R:α→α→Prop}{sl:Int}{y y':α}(h:R y y'):Wp s L 0 sl R (.ret y) (.ret y'):=fun a d A z a2 d2 A2 ha e2=>by
 cases e2
 exact⟨rfl,by omega,fun _=>⟨y',rfl,h⟩⟩
theorem Wl.ret{α:Type}{R:α→α→Prop}{sl:Int}{y y':α}(h:R y y'):Wl s L N 0 sl R (.ret y) (.ret y'):=fun a d A z a2 d2 A2 ha e2=>by
 cases e2
 exact⟨Nat.le_refl _,by omega,fun _=>.inl ⟨y',rfl,h⟩⟩
theorem Wp.flt{α:Type}{R:α→α→Prop}{k sl c p:Int}{m':Pm α}:Wp s L k sl R (.flt c p) m':=fun a d A z a2 d2 A2 ha e2=>by cases e2
theorem Wl.flt{α:Type}{R:α→α→Prop}{k sl c p:Int}{m':Tm α}:Wl s L N k sl R (.flt c p) m':=fun a d A z a2 d2 A2 ha e2=>by cases e2
theorem Wp.bad{α:Type}{R:α→α→Prop}{k sl:Int}{m':Pm α}:Wp s L k sl R .bad m':=fun a d A z a2 d2 A2 ha e2=>by cases e2
theorem Wl.bad{α:Type}{R:α→α→Prop}{k sl:Int}{m':Tm α}:Wl s L N k sl R .bad m':=fun a d A z a2 d2 A2 ha e2=>by cases e2
theorem Wp.bif{α:Type}{R:α→α→Prop}{k sl:Int}{c c':Bool}{m n m' n':Pm α}(e:c=c')(h:Wp s L k sl R m m')(h':Wp s L k sl R n n'):Wp s L k sl R (bif c then m else n) (bif c' then m' else n'):=by
 subst e
 cases c
 ·exact h'
 ·exact h
theorem Wl.bif{α:Type}{R:α→α→Prop}{k sl:Int}{c c':Bool}{m n m' n':Tm α}(e:c=c')(h:Wl s L N k sl R m m')(h':Wl s L N k sl R n n'):Wl s L N k sl R (bif c then m else n) (bif c' then m' else n'):=by
 subst e
 cases c
 ·exact h'
 ·exact h
theorem Wp.lft{α:Type}{R:α→α→Prop}{k sl:Int}{m m':Pm α}(h:Wp s L k sl R m m'):Wl s L N k sl R (lft m) (lft m'):=fun a d n y a1 d1 n1 ha e=>by
 unfold Tryz.lft at e⊢
 cases e1:m a d []with
 |ok y1 a2 d2 A2=>
  rw[e1]at e
  cases e
  obtain⟨h1,h2,h3⟩:=h a d [] y a1 d1 A2 ha e1
  refine⟨Nat.le_refl _,h2,fun hl=>.inl ?_⟩
  obtain⟨y',e2,hy⟩:=h3 hl
  rw[e2]
  exact⟨y',rfl,hy⟩
 |fault c p=>rw[e1]at e;cases e
 |bad=>rw[e1]at e;cases e
variable{T T':List UInt8}{K K':List Tok}
theorem di(h:Kw T K T' K' s L):Wp s L 0 1 Rq (bM T K) (bM T' K'):=fun a d A y a1 d1 A1 ha e=>by
 cases e
 exact⟨rfl,by omega,fun hl=>⟨_,rfl,h.tok a ha (by omega)⟩⟩
theorem ql(h:Kw T K T' K' s L)(n:Int)(hn:0≤n):Wp s L 0 (n+1) Re (eP T K n) (eP T' K' n):=fun a d A y a1 d1 A1 ha e=>by
 unfold eP at e
 have key:A1=A∧a1=a∧d1=d∧(a+n<(K.length:Int)→y=(ai (aa K (a+n)),say T (aa K (a+n)))):=by
  by_cases hc:a+n≥(K.length:Int)
  ·rw[decide_eq_true hc]at e
   cases e
   exact⟨rfl,rfl,rfl,fun h=>by omega⟩
  ·rw[decide_eq_false hc]at e
   cases e
   exact⟨rfl,rfl,rfl,fun _=>rfl⟩
 obtain⟨rfl,rfl,rfl,hy⟩:=key
 refine⟨rfl,by omega,fun hl=>?_⟩
 have h1:=h.len
 have h2:=h.len'
 have:=h.tok (a1+n) (by omega) (by omega)
 refine⟨_,?_,hy (by omega)⟩
 unfold eP
 rw[decide_eq_false (by omega),show a1+s+n=a1+n+s by omega,←this.1,←this.2]
 rfl
theorem Kw.lt(h:Kw T K T' K' s L){a:Int}(hk:(ai (aa K a) !=0)=true):a<L:=by
 by_cases hl:L≤a
 ·rw[h.fin a hl]at hk
  cases hk
 ·omega
theorem cg(h:Kw T K T' K' s L):Wp s L 0 1 Ru (aW K) (aW K'):=fun a d A y a1 d1 A1 ha e=>by
 unfold aW at e⊢
 cases hc:ai (aa K a) !=0 with
 |true=>
  rw[hc]at e
  have hlt:=h.lt hc
  cases e
  refine⟨rfl,by omega,fun hl=>⟨tTo (aa K' (a+s)),?_,trivial⟩⟩
  rw[←(h.tok a ha (by omega)).1,hc,show a+1+s=a+s+1 by omega]
  rfl
 |false=>
  rw[hc]at e
  cases e
  refine⟨rfl,by omega,fun hl=>⟨tTo (aa K' (a+s)),?_,trivial⟩⟩
  rw[←(h.tok a ha (by omega)).1,hc]
  rfl
theorem vV(h:Kw T K T' K' s L)(t:Str):Wp s L 0 1 Re (cIs T K t) (cIs T' K' t):=.bind (di h) fun u v e=>.ret (by rw[e.1,e.2];rfl)
theorem dI(h:Kw T K T' K' s L)(t:Str):Wp s L 1 0 Ru (aM T K t) (aM T' K' t):=fun a d A y a1 d1 A1 ha e=>by
 have e0:∀(T:List UInt8) (K:List Tok) (a:Int),aM T K t a d A=bif ((ai (aa K a)==1||ai (aa K a)==5)&&say T (aa K a)==t)then aW K a d A else .fault 80 (ab (aa K a)):=fun T K a=>by
  show((bif ((ai (aa K a)==1||ai (aa K a)==5)&&say T (aa K a)==t)then aW K else(bM T K).bind fun t=>.flt 80 (ab t.1)):Pm Int) a d A=_
  cases ((ai (aa K a)==1||ai (aa K a)==5)&&say T (aa K a)==t)<;>rfl
 rw[e0]at e
 cases hc:((ai (aa K a)==1||ai (aa K a)==5)&&say T (aa K a)==t)with
 |false=>rw[hc]at e;cases e
 |true=>
  rw[hc]at e
  have hk:(ai (aa K a) !=0)=true:=by
   rw[Bool.and_eq_true,Bool.or_eq_true]at hc
   rcases hc.1 with h|h<;>rw[beq_iff_eq]at h<;>rw[h]<;>rfl
  have e':aW K a d A= .ok y a1 d1 A1:=e
  have hlt:=h.lt hk
  unfold aW at e'
  rw[hk]at e'
  cases e'
  refine⟨rfl,by omega,fun hl=>⟨tTo (aa K' (a+s)),?_,trivial⟩⟩
  have ht:=h.tok a ha (by omega)
  rw[e0,←ht.1,←ht.2,hc]
  show aW K' (a+s) d A=_
  unfold aW
  rw[←ht.1,hk,show a+1+s=a+s+1 by omega]
  rfl
theorem oE(h:Kw T K T' K' s L):Wp s L 1 0 Re (cW T K) (cW T' K'):=fun a d A y a1 d1 A1 ha e=>by
 have e0:∀(T:List UInt8) (K:List Tok) (a:Int),cW T K a d A=bif ai (aa K a)==1&&bV (say T (aa K a))then((aW K).bind fun _=>.ret (say T (aa K a)):Pm Str) a d A else .fault 80 (ab (aa K a)):=fun T K a=>by
  show((bif ai (aa K a)==1&&bV (say T (aa K a))then(aW K).bind fun _=>.ret (say T (aa K a))else .flt 80 (ab (aa K a))):Pm Str) a d A=_
  cases ai (aa K a)==1&&bV (say T (aa K a))<;>rfl
 have e2:∀(K:List Tok) (a:Int) (r:Str),(ai (aa K a)==1)=true→((aW K).bind fun _=>.ret r:Pm Str) a d A= .ok r (a+1) d A:=fun K a r hk=>by
  have hk:(ai (aa K a) !=0)=true:=by
   rw[beq_iff_eq]at hk
   rw[hk]
   rfl
  unfold Pm.bind aW
  rw[hk]
  rfl
 rw[e0]at e
 cases hc:ai (aa K a)==1&&bV (say T (aa K a))with
 |false=>rw[hc]at e;cases e
 |true=>
  rw[hc]at e
  have hk:(ai (aa K a)==1)=true:=by
   rw[Bool.and_eq_true]at hc
   exact hc.1
  replace e:((aW K).bind fun _=>.ret (say T (aa K a)):Pm Str) a d A= .ok y a1 d1 A1:=e
  rw[e2 K a _ hk]at e
  have hlt:=h.lt (a:=a) (by rw[beq_iff_eq]at hk;rw[hk];rfl)
  cases e
  refine⟨rfl,by omega,fun hl=>⟨say T' (aa K' (a+s)),?_,(h.tok a ha (by omega)).2⟩⟩
  have ht:=h.tok a ha (by omega)
  rw[e0,←ht.1,←ht.2,hc]
  show((aW K').bind fun _=>.ret (say T (aa K a)):Pm Str) (a+s) d A=_
  rw[e2 K' (a+s) _ (by rw[←ht.1];exact hk),show a+1+s=a+s+1 by omega]
theorem eZ(h:Kw T K T' K' s L)(t:Str):Wp s L 0 1 Re (bU T K t) (bU T' K' t):=.bind (vV h t) fun _ _ e=>.bif e (.bind (cg h) fun _ _ _=>.ret rfl) (.ret rfl)
theorem Cy(h:Kw T K T' K' s L){l l':Nat}(e:l=l'):Wp s L 0 0 Ru (comma T K l) (comma T' K' l'):=.bif (by rw[e]) (.bind (dI h _) fun _ _ _=>.ret trivial) (.ret trivial)
theorem JD{n n':Int}(e:n=n'):Wp s L 0 0 Ru (gG K n) (gG K' n'):=fun a d A y a1 d1 A1 ha e1=>by
 subst e
 unfold gG at e1⊢
 cases hc:decide (n>64)with
 |true=>rw[hc]at e1;cases e1
 |false=>
  rw[hc]at e1
  cases e1
  exact⟨rfl,by omega,fun _=>⟨(),rfl,trivial⟩⟩
theorem zI:Wp s L 0 0 Ru (fJ K) (fJ K'):=fun a d A y a1 d1 A1 ha e1=>by
 unfold fJ at e1⊢
 cases hc:decide (d+1>60)with
 |true=>rw[hc]at e1;cases e1
 |false=>
  rw[hc]at e1
  cases e1
  exact⟨rfl,by omega,fun _=>⟨(),rfl,trivial⟩⟩
theorem F7:Wp s L 0 0 Ru rO rO:=fun a d A y a1 d1 A1 ha e1=>by
 cases e1
 exact⟨rfl,by omega,fun _=>⟨(),rfl,trivial⟩⟩
theorem Al(h:Kw T K T' K' s L):Wp s L 0 3 Re (dc T K) (dc T' K'):=.bind (ql h 0 (by decide)) fun x y e=>by
 cases e
 exact .bif rfl (.ret rfl) (.bif rfl (.bind (ql h 1 (by decide)) fun y y' e=>.bind (ql h 2 (by decide)) fun z z' e'=>.ret (by cases e;cases e';rfl)) (.ret rfl))
theorem OE(h:Kw T K T' K' s L):Wp s L 0 1 Rn (nh T K) (nh T' K'):=.bind (di h) fun t u e=>.bif (by rw[e.1]) (.bif (by rw[e.2]) (.bind (cg h) fun _ _ _=>.ret (kL rfl)) (.bif (by rw[e.2]) (.bind (cg h) fun _ _ _=>.ret (kL rfl)) (.bif (by rw[e.2]) (.bind (cg h) fun _ _ _=>.ret (kL rfl)) (.bif (by rw[e.2]) (.bind (cg h) fun _ _ _=>.ret (kL rfl)) (.bif (by rw[e.2]) (.bind (cg h) fun _ _ _=>.ret (kL e.2)) .flt))))) .flt
theorem r9(h:Kw T K T' K' s L):∀(n n':Nat) (x y:Nd),n≤n'→Rn x y→Wp s L 0 2 Rn (dE T K n x) (dE T' K' n' y)
 |0,_,_,_,_,_=>.bad
 |n+1,0,_,_,hn,_=>absurd hn (by omega)
 |n+1,n'+1,x,y,hn,e=>.bind (di h) fun _ _ _=>.bind (vV h _) fun _ _ e1=>.bif e1 (.bif (by rw[mark_eq e,e.b,e.d]) .flt (.bind (cg h) fun _ _ _=>r9 h n n' _ _ (by omega) (BJ e _)))
  (.bind (ql h 1 (by decide)) fun _ _ e2=>.bind (vV h _) fun _ _ e3=>.bif (by cases e2;cases e3;rfl) (.bif (by rw[e.d]) .flt (.bind (cg h) fun _ _ _=>.bind (cg h) fun _ _ _=>r9 h n n' _ _ (by omega) (Nu e))) (.ret e))
theorem w8(h:Kw T K T' K' s L):Wp s L 0 2 Rn (dW T K) (dW T' K'):=.bind (OE h) fun x y e=>r9 h _ _ x y (by have:=h.le;omega) e
theorem qp(h:Kw T K T' K' s L)(v:Bool):Wp s L 0 2 Rn (cF T K v) (cF T' K' v):=.bind (di h) fun t u e=>.bif (by rw[e.1,e.2]) (.bind (cg h) fun _ _ _=>.bind (dI h _) fun _ _ _=>.bind (w8 h) fun x y e1=>.bind (dI h _) fun _ _ _=>.bif (by rw[mark_eq e1,e1.b,e1.d]) .flt (.ret (BJ e1 _)))
 (.bif (by rw[e.1,e.2]) (.bind (cg h) fun _ _ _=>.ret (kL rfl)) (w8 h))
end
end Go.Sx.Tryz
