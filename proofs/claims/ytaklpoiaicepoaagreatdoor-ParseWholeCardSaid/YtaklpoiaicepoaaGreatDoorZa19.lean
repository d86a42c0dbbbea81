/- A part of the proof: see the row's text. -/
import Derived.Test.YtaklpoiaicepoaaGreatDoorZa18
import Derived.Test.YtaklpoiaicepoaaGreatDoorZa17
set_option linter.unusedVariables false
set_option linter.unusedSimpArgs false
noncomputable section
namespace Go.Sx.Tryz
open Go Go.Sx Go.Proofs
open Go.RowKit
set_option maxRecDepth 100000
variable{G:Nat→Obj→Prop}
theorem d168(hft:ry G):aR Tryz.prog G 168 (lz 168 Ko):=ju fun args h=>by
 unfold Ko at h⊢
 split at h
 ·exact RL hft h
 ·cases h
theorem d160(hft:ry G):aR Tryz.prog G 160 (lz 160 Ot):=ju fun args h=>by
 unfold Ot at h⊢
 split at h
 ·rename_i s n
  simp only[Bool.and_eq_true]at h
  have hn:n=64:=by simpa using h.2
  subst hn
  have hb:=KH s 64
  rw[h.1]at hb
  exact b7 (bo []) (aV (.cons (d168 hft) .nil)) U5 hb
 ·cases h
theorem d151(hft:ry G):aR Tryz.prog G 151 (lz 151 Ds):=ju fun args h=>by
 unfold Ds at h⊢
 split at h
 ·rename_i s n
  have hb:=JX s n
  have h:(okF s&&n==64)=true:=h
  rw[h]at hb
  have hne:((s.length:Int) !=(s.length:Int))=false:=by simp
  rw[hne]at hb
  exact b7 (bo []) (aV (.cons (d160 hft) .nil)) UH hb
 ·cases h
theorem d145(hft:ry G):aR Tryz.prog G 145 (lz 145 Ds):=ju fun args h=>by
 unfold Ds at h⊢
 split at h
 ·rename_i s n
  have hb:=Ll s n
  have h:(okF s&&n==64)=true:=h
  rw[h]at hb
  exact b7 (bo []) (aV (.cons (d151 hft) .nil)) VF hb
 ·cases h
theorem d147:aR Tryz.prog G 147 (lz 147 Pw):=ju fun args h=>by
 unfold Pw at h⊢
 split at h
 ·rename_i b
  intro D vals hG hm hs hv
  have hv:=ft (us:=[.float .f64 b]) rfl hv
  subst hv
  exact .inr (.inl ⟨_,_,c147 b D.w,⟨_,D,rfl,rfl,hm,hs,Ext.refl D,rfl,rfl,rfl⟩⟩)
 ·cases h
theorem d146:aR Tryz.prog G 146 (lz 146 Oi):=ju fun args h=>by
 unfold Oi at h⊢
 split at h
 ·rename_i b
  have hb:0≤b:=of_decide_eq_true h
  obtain⟨n,rfl⟩:=Int.eq_ofNat_of_zero_le hb
  exact sD MB (us:=[.int .u64 n]) rfl (fun _=>rfl) rfl fun D _ _=>Calls.mono (w146 n D.w) fun e w' h=>⟨h.1,iE h.2 rfl⟩
 ·cases h
theorem DN(hft:ry G):bu Tryz.prog G og:=.cons (aZ fun x h=>BB x h) (.cons (d145 hft) (.cons d147 (.cons d146 .nil)))
theorem z8:lQ 0=0:=by decide
theorem HL{s:List UInt8}(h:okF s=true):lQ (kj s)=ou (flA s) (flB s):=by
 have hf:=wI h
 have h1:=hf.la
 have h2:=hf.lab
 obtain⟨r,hr⟩:=yC (bz (flA s++flB s)) (flB s).length (by omega)
 unfold kj ou
 rw[hr]
 cases bz (flA s++flB s)==0
 ·rfl
 ·exact z8
theorem BO(s:List UInt8):nA s=bif (flA s).length==s.length then(0,5)else bif !dQ (flA s)|| !dQ (flB s)then(0,5)else bif decide ((flA s).length>1)&&at8 (flA s) 0==48 then(0,5)else bif decide ((flA s).length+(flB s).length>15)then(0,2)else((ou (flA s) (flB s):Int),0):=rfl
abbrev Bw(n:Nat):Jump R0:=pieces (R:=R0) E (ao og) pV sf 0 .ok n
theorem KZ{s:List UInt8}(h:∀c∈s,c≠46):flA s=s:=by
 unfold flA
 induction s with
 |nil=>rfl
 |cons c r ih=>
  have hc:(c !=46)=true:=by simpa using h c (List.mem_cons_self ..)
  rw[List.takeWhile_cons,hc,if_pos rfl,ih fun d hd=>h d (List.mem_cons_of_mem _ hd)]
theorem Lz{pre q:List UInt8}(h:∀c∈pre,c≠46):flA (pre++46::q)=pre:=by
 unfold flA
 induction pre with
 |nil=>rfl
 |cons c r ih=>
  have hc:(c !=46)=true:=by simpa using h c (List.mem_cons_self ..)
  rw[List.cons_append,List.takeWhile_cons,hc,if_pos rfl,ih fun d hd=>h d (List.mem_cons_of_mem _ hd)]
theorem yG{s:List UInt8}(hs:(s.length:Int)≤1048576):∀(r pre:List UInt8) (fuel:Nat),s=pre++r→(∀c∈pre,c≠46)→r.length<fuel→Bw fuel 0 (B0 s pre.length)= .ok (.ret (.tup [.int .u64 (nA s).1,.int .i64 (nA s).2]),[])
 |r,pre,0,_,_,hf=>absurd hf (Nat.not_lt_zero _)
 |[],pre,fuel+1,hp,hn,hf=>by
  have hstep:=(bp (n:=fuel) (st:=B0 s pre.length) (cs:=sf) (E:=E) (K:=ao og) (fi:=pV) (np:=0) (k:=Rs.ok) (j:=0) rfl).trans (Cf (Bw fuel) s pre.length)
  rw[List.append_nil]at hp
  have e1:decide ((pre.length:Int)<s.length)=false:=decide_eq_false (by rw[hp];omega)
  rw[e1]at hstep
  have hA:flA s=s:=KZ (by rw[hp];exact hn)
  have hS:nA s=(0,5):=by
   rw[BO,hA,show(s.length==s.length)=true from beq_self_eq_true _]
   rfl
  rw[hS]
  exact hstep
 |c::r,pre,fuel+1,hp,hn,hf=>by
  have hstep:=(bp (n:=fuel) (st:=B0 s pre.length) (cs:=sf) (E:=E) (K:=ao og) (fi:=pV) (np:=0) (k:=Rs.ok) (j:=0) rfl).trans (Cf (Bw fuel) s pre.length)
  have hlen:s.length=pre.length+(r.length+1):=by rw[hp];simp
  have hc:s.getD (Int.toNat (pre.length:Int)) 0=c:=getD_at (q:=r) hp
  have e1:decide ((pre.length:Int)<s.length)=true:=decide_eq_true (by omega)
  have e2:inI (pre.length:Int) s.length=true:=by
   simp only[inI,Bool.and_eq_true,decide_eq_true_eq]
   omega
  have wi:IntKind.wrap .i64 ((pre.length:Int)+1)=(pre.length:Int)+1:=wrap64 (by omega) (by omega)
  rw[hc,e1,e2,wi]at hstep
  simp only[cond_true]at hstep
  by_cases h46:c=46
  ·subst h46
   have hA:flA s=pre:=by rw[hp];exact Lz hn
   have hB:flB s=r:=by unfold flB;rw[hA,hp];simp
   have d1:List.drop (Int.toNat 0) (List.take (Int.toNat (pre.length:Int)) s)=pre:=by rw[hp];simp
   have d2:List.drop (Int.toNat ((pre.length:Int)+1)) (List.take (Int.toNat (s.length:Int)) s)=r:=by
    rw[show Int.toNat ((pre.length:Int)+1)=pre.length+1 by omega,Int.toNat_natCast,List.take_length,hp]
    simp
   have b1:inB 0 (pre.length:Int) s.length=true:=by
    simp only[inB,Bool.and_eq_true,decide_eq_true_eq]
    omega
   have b2:inB ((pre.length:Int)+1) (s.length:Int) s.length=true:=by
    simp only[inB,Bool.and_eq_true,decide_eq_true_eq]
    omega
   have p1:dZ (pre,())=true:=jx.2 (by show(pre.length:Int)≤_;omega)
   have p2:dZ (r,())=true:=jx.2 (by show(r.length:Int)≤_;omega)
   rw[show(((46:UInt8).toNat:Int) !=46)=false from rfl,b1,b2,d1,d2,p1,p2]at hstep
   simp only[cond_true,cond_false]at hstep
   have hw:IntKind.wrap .i64 ((pre.length:Int)+r.length)=(pre.length:Int)+r.length:=wrap64 (by omega) (by omega)
   rw[hw]at hstep
   have hne:(pre.length==s.length)=false:=by
    have:¬pre.length=s.length:=by omega
    simpa using this
   have hgt:decide ((pre.length:Int)>1)=decide (pre.length>1):=by
    by_cases h:pre.length>1
    ·rw[decide_eq_true h,decide_eq_true (by omega)]
    ·rw[decide_eq_false h,decide_eq_false (by omega)]
   have h15:decide ((pre.length:Int)+r.length>15)=decide (pre.length+r.length>15):=by
    by_cases h:pre.length+r.length>15
    ·rw[decide_eq_true h,decide_eq_true (by omega)]
    ·rw[decide_eq_false h,decide_eq_false (by omega)]
   rw[hgt,h15]at hstep
   have hS:=BO s
   rw[hA,hB,hne]at hS
   simp only[cond_false]at hS
   refine hstep.trans ?_
   rw[hS]
   cases g1:dQ pre with
   |false=>rfl
   |true=>
    cases g2:dQ r with
    |false=>rfl
    |true=>
     have fin:∀(h48:(decide (pre.length>1)&&at8 pre 0==48)=false),(bif decide (pre.length+r.length>15)then Rs.ok (Out.ret (AV.tup [AV.int IntKind.u64 0,AV.int IntKind.i64 2]),([]:List Blk))else bif okF s&&64==(64:Int)then Rs.ok (Out.ret (AV.tup [AV.int IntKind.u64 (lQ (Int.toNat (kj s:Int)):Int),AV.int IntKind.i64 0]),[])else Rs.err 145)=
       Rs.ok (Out.ret (AV.tup [AV.int IntKind.u64 (bif decide (pre.length+r.length>15)then((0:Int),(2:Int))else((ou pre r:Int),0)).1,AV.int IntKind.i64 (bif decide (pre.length+r.length>15)then((0:Int),(2:Int))else((ou pre r:Int),0)).2]),[]):=fun h48=>by
      cases g15:decide (pre.length+r.length>15)with
      |true=>rfl
      |false=>
       have hok:okF s=true:=by
        unfold okF
        rw[hA,hB,g1,g2,show(decide (1<pre.length)&&at8 pre 0==48)=false from h48]
        have l1:Nat.blt pre.length s.length=true:=by rw[Nat.blt_eq];omega
        have l2:Nat.ble (pre.length+r.length) 15=true:=Nat.ble_eq_true_of_le (by have:=of_decide_eq_false g15;omega)
        rw[l1,l2]
        rfl
       have hv:=HL hok
       rw[hA,hB]at hv
       rw[hok,Int.toNat_natCast,hv]
       rfl
     cases g3:decide (pre.length>1)with
     |false=>
      simp only[g3,Bool.false_and]at fin⊢
      exact fin trivial
     |true=>
      have hI:inI 0 pre.length=true:=by
       have:=of_decide_eq_true g3
       simp only[inI,Bool.and_eq_true,decide_eq_true_eq]
       omega
      rw[hI]
      have h8:((pre.getD (Int.toNat 0) 0).toNat:Int)=at8 pre 0:=rfl
      rw[h8]
      cases g4:at8 pre 0==48 with
      |true=>rfl
      |false=>
       simp only[g3,g4,Bool.true_and]at fin⊢
       exact fin trivial
  ·have hne:(((c.toNat:Int)) !=46)=true:=by
    have:¬((c.toNat:Int)=46):=fun e=>h46 (by
     have:c.toNat=46:=by omega
     exact UInt8.toNat_inj.1 this)
    simpa using this
   rw[hne]at hstep
   have ih:=yG hs r (pre++[c]) fuel (by rw[hp];simp) (fun d hd=>by
    rw[List.mem_append,List.mem_singleton]at hd
    rcases hd with hd|rfl
    ·exact hn d hd
    ·exact h46) (by simp only[List.length_cons]at hf;omega)
   have hpl:(((pre++[c]).length:Nat):Int)=(pre.length:Int)+1:=by simp
   rw[hpl]at ih
   exact hstep.trans ih
theorem Qs(hft:ry G):nZ G:=fun x hx=>by
 obtain⟨s,⟨⟩⟩:=x
 have hs:(s.length:Int)≤1048576:=Bk.1 hx
 have h:=yG hs s [] (s.length+1) rfl (fun c h=>by cases h) (Nat.lt_succ_self _)
 exact bA (bo []) (aV (DN hft)) MH (.inl cH) ((JA (Bw (s.length+1)) s).trans h)
end Go.Sx.Tryz
namespace Go.Sx.Tryz
open Go Go.Sx
set_option maxRecDepth 100000
abbrev Str:Type:=List UInt8
abbrev Pm(α:Type):Type:=Int→Int→List Nd→PR α
def Pm.bind{α β:Type}(m:Pm α)(k:α→Pm β):Pm β:=fun a d A=>(m a d A).bind fun y a d A=>k y a d A
def Pm.ret{α:Type}(y:α):Pm α:=fun a d A=>.ok y a d A
def Pm.flt{α:Type}(c p:Int):Pm α:=fun _ _ _=>.fault c p
def Pm.bad{α:Type}:Pm α:=fun _ _ _=>.bad
def nod(kind:Int)(kids:List Int)(text:Str):Nd:=mkN kind 0 0 kids text 0 [] 0 [] 0 0 0 []
def eu(kind n:Int)(text:Str):Nd:=mkN kind 0 0 [] text 0 [] 0 [] n 0 0 []
def bL(x:Nd)(kind:Int)(kids:List Int)(text:Str):Nd:=mkN kind (nAt x) (nTo x) kids text (al x) (au x) (ah x) (af x) (nN x) (nW1 x) (nW2 x) (aG x)
def oJ(base:Int)(name:Str)(w1 w2 e:Int):Nd:=mkN 0 0 0 [] [] base name 0 [32] 0 w1 w2 [e]
def cJ(x:Nd)(f t:Int):Nd:=mkN (ak x) f t (aj x) (aH x) (al x) (au x) (ah x) (af x) (nN x) (nW1 x) (nW2 x) (aG x)
def fe(x:Nd)(i:Int):Int:=((af x).getD i.toNat 0).toNat
def fo(x:Nd)(c:UInt8)(w1 w2:Int):Nd:=mkN (ak x) (nAt x) (nTo x) (aj x) (aH x) (al x) (au x) (ah x) ((af x).take (ah x).toNat++[c]) (nN x) w1 w2 (aG x)
def sH(x:Nd)(to_:Int):Nd:=mkN (ak x) (nAt x) (nTo x) (aj x) (aH x) (al x) (au x) (ah x+1) (af x++[32]) (nN x) (nW1 x) to_ (aG x++[to_])
section
variable(T:List UInt8)(K:List Tok)
def say(t:Tok):Str:=List.drop (Int.toNat (ab t)) (List.take (Int.toNat (tTo t)) T)
def bM:Pm (Tok×Str):=fun a d A=>.ok (aa K a,say T (aa K a)) a d A
def eP(n:Int):Pm (Int×Str):=fun a d A=>bif decide (a+n≥(K.length:Int))then .ok (0,[]) a d A else .ok (ai (aa K (a+n)),say T (aa K (a+n))) a d A
def aW:Pm Int:=fun a d A=>bif ai (aa K a) !=0 then .ok (tTo (aa K a)) (a+1) d A else .ok (tTo (aa K a)) a d A
def cIs(s:Str):Pm Bool:=(bM T K).bind fun t=>.ret ((ai t.1==1||ai t.1==5)&&t.2==s)
def bU(s:Str):Pm Bool:=(cIs T K s).bind fun b=>bif b then(aW K).bind fun _=>.ret true else .ret false
def aM(s:Str):Pm Int:=(cIs T K s).bind fun b=>bif b then aW K else(bM T K).bind fun t=>.flt 80 (ab t.1)
def cW:Pm Str:=(bM T K).bind fun t=>bif ai t.1==1&&bV t.2 then(aW K).bind fun _=>.ret t.2 else .flt 80 (ab t.1)
def fj(a f:Int):Int:=bif decide (a>0)then(bif decide (f<tTo (aa K (a-1)))then tTo (aa K (a-1))else f)else f
def bS(x:Nd)(f:Int):Pm Int:=fun a d A=>bif decide ((A.length:Int)≥8192)then .fault 2 f else .ok (A.length:Int) a d (A++[cJ x f (fj K a f)])
def fJ:Pm Unit:=fun a d A=>bif decide (d+1>60)then .fault 6 (ab (aa K a))else .ok () a (d+1) A
def rO:Pm Unit:=fun a d A=>.ok () a (d-1) A
def gG(n:Int):Pm Unit:=fun a d A=>bif decide (n>64)then .fault 2 (ab (aa K a))else .ok () a d A
def nh:Pm Nd:=(bM T K).bind fun t=>bif ai t.1==1 then
  (bif t.2==[105,110,116]then(aW K).bind fun e=>.ret (oJ 1 [] (ab t.1) (tTo t.1) e)
  else bif t.2==[98,111,111,108]then(aW K).bind fun e=>.ret (oJ 2 [] (ab t.1) (tTo t.1) e)
  else bif t.2==[100,111,117,98,108,101]then(aW K).bind fun e=>.ret (oJ 3 [] (ab t.1) (tTo t.1) e)
  else bif t.2==[115,116,114]then(aW K).bind fun e=>.ret (oJ 4 [] (ab t.1) (tTo t.1) e)
  else bif bV t.2 then(aW K).bind fun e=>.ret (oJ 5 t.2 (ab t.1) (tTo t.1) e)else .flt 80 (ab t.1))
 else .flt 80 (ab t.1)
def dE:Nat→Nd→Pm Nd
 |0,_=>.bad
 |n+1,x=>(bM T K).bind fun t=>(cIs T K [63]).bind fun b=>bif b then
   (bif (al x !=5&&ah x==0)||fe x (ah x) !=32 then .flt 81 (ab t.1)else(aW K).bind fun e=>dE n (fo x 63 (nW1 x) e))
  else(eP T K 1).bind fun z=>(cIs T K [91]).bind fun b=>bif b&&z.2==[93]then
    (bif ah x==4 then .flt 2 (ab t.1)else(aW K).bind fun _=>(aW K).bind fun e=>dE n (sH x e))
   else .ret x
def dW:Pm Nd:=(nh T K).bind fun x=>dE T K (K.length+2) x
def cF(v:Bool):Pm Nd:=(bM T K).bind fun t=>bif t.2==[79,112,116,105,111,110]&&ai t.1==1 then
  ((aW K).bind fun _=>(aM T K [60]).bind fun _=>(dW T K).bind fun x=>(aM T K [62]).bind fun e=>
   bif (al x !=5&&ah x==0)||fe x (ah x) !=32 then .flt 5 (ab t.1)else .ret (fo x 111 (ab t.1) e))
 else bif v&&(ai t.1==1&&t.2==[118,111,105,100])then(aW K).bind fun e=>.ret (oJ 6 [] (ab t.1) (tTo t.1) e)
 else dW T K
def dc:Pm Bool:=(eP T K 0).bind fun x=>bif x.1 !=1 then .ret false
 else bif bV x.2 then((eP T K 1).bind fun y=>(eP T K 2).bind fun z=>
   .ret ((y.1==1&&bV y.2)||(y.1==5&&(y.2==[63]||(y.2==[91]&&z.2==[93])))))
  else .ret (Lib.contains [32,105,110,116,32,98,111,111,108,32,100,111,117,98,108,101,32,115,116,114,32,79,112,116,105,111,110,32] ([32]++x.2++[32]))
structure Kn where
 val:Pm Int
 blk:Pm Int
 un:Pm Int
variable(q:Kn)
def dO:Pm Int:=(aM T K [40]).bind fun _=>q.val.bind fun x=>(aM T K [41]).bind fun _=>.ret x
def oH:Nat→List Int→Pm (List Int)
 |0,_=>.bad
 |n+1,L=>(bU T K [41]).bind fun b=>bif b then .ret L
  else(bif decide ((L.length:Int)>0)then(aM T K [44]).bind fun _=>.ret ()else .ret ()).bind fun _=>(gG K ((L.length:Int)+1)).bind fun _=>q.val.bind fun x=>oH n (L++[x])
def uC:Pm (List Int):=(aM T K [40]).bind fun _=>oH T K q (K.length+2) []
def oP(x:Nd)(e:Int):Pm Int:=(bM T K).bind fun t=>bif e !=0 then .flt e (ab t.1)else(aW K).bind fun _=>bS K x (ab t.1)
def CF:Pm Nd:=(dW T K).bind fun x=>(cIs T K [40]).bind fun b=>bif b then
  (bif al x !=5||(decide (ah x>0)|| !Lib.trimB (af x) 32==[])then .flt 5 (nW1 x)else(uC T K q).bind fun l=>.ret (bL x 30 l (aH x)))
 else(aM T K [91]).bind fun _=>q.val.bind fun y=>(aM T K [93]).bind fun _=>.ret (bL x 31 [y] (aH x))
def pR(s:Str):Int:=bif s==[97,115,107]then 39 else bif s==[116,111,105,110,116]then 36 else bif s==[116,111,100,111,117,98,108,101]then 37 else 41
def isWrap(s:Str):Bool:=s==[115,111,109,101]||(s==[97,115,107]||(s==[116,111,105,110,116]||s==[116,111,100,111,117,98,108,101]))
def B8(t:Tok)(s:Str):Pm Int:=
 bif s==[116,114,117,101]then oP T K (eu 21 1 []) 0
 else bif s==[102,97,108,115,101]then oP T K (eu 21 0 []) 0
 else bif s==[110,117,108,108]then oP T K (eu 23 0 []) 0
 else bif s==[110,111,110,101]then oP T K (eu 42 0 []) 0
 else bif s==[116,104,105,115]then oP T K (eu 24 0 []) 0
 else bif s==[105,110,112,117,116]then(aW K).bind fun _=>(aM T K [40]).bind fun _=>(aM T K [41]).bind fun _=>bS K (nod 38 [] []) (ab t)
 else bif isWrap s then(aW K).bind fun _=>(dO T K q).bind fun x=>bS K (nod (pR s) [x] []) (ab t)
 else bif s==[99,97,115,116]then(aW K).bind fun _=>(aM T K [60]).bind fun _=>(cF T K false).bind fun x=>(aM T K [62]).bind fun _=>(dO T K q).bind fun y=>bS K (bL x 35 [y] (aH x)) (ab t)
 else bif s==[110,101,119]then(aW K).bind fun _=>(CF T K q).bind fun x=>bS K x (ab t)
 else .flt 80 (ab t)
def nC:Pm Int:=(bM T K).bind fun t=>
 bif ai t.1==2 then oP T K (eu 19 (lx t.2).1 []) (lx t.2).2
 else bif ai t.1==3 then oP T K (eu 20 (IntKind.wrap .i64 (nA t.2).1) t.2) (nA t.2).2
 else bif ai t.1==4 then oP T K (eu 22 0 (lT t.2).1) (lT t.2).2
 else bif ai t.1==5 then(bif t.2==[40]then dO T K q else .flt 80 (ab t.1))
 else bif ai t.1==1 then(bif bV t.2 then oP T K (eu 25 0 t.2) 0 else B8 T K q t.1 t.2)
 else .flt 80 (ab t.1)
def BL(x f:Int):Pm Int:=(bU T K [108,101,110,103,116,104]).bind fun b=>bif b then bS K (nod 28 [x] []) f
 else(bU T K [118,97,108]).bind fun b=>bif b then bS K (nod 45 [x] []) f
 else(cW T K).bind fun s=>(cIs T K [40]).bind fun b=>bif b then(uC T K q).bind fun l=>bS K (nod 29 ([x]++l) s) f else bS K (nod 26 [x] s) f
def fw(f:Int):Nat→Int→Pm Int
 |0,_=>.bad
 |n+1,x=>(bU T K [33]).bind fun b=>bif b then(bS K (nod 40 [x] []) f).bind fun y=>fw f n y
  else(bU T K [91]).bind fun b=>bif b then q.val.bind fun y=>(aM T K [93]).bind fun _=>(bS K (nod 27 [x,y] []) f).bind fun y=>fw f n y
  else(bU T K [46]).bind fun b=>bif b then(BL T K q x f).bind fun y=>fw f n y
  else .ret x
def nV:Pm Int:=(bM T K).bind fun t=>(nC T K q).bind fun x=>fw T K q (ab t.1) (K.length+2) x
def vz:Pm Int:=(bM T K).bind fun t=>bif ai t.1==5&&(t.2==[33]||t.2==[45])then
  ((fJ K).bind fun _=>(aW K).bind fun _=>q.un.bind fun x=>rO.bind fun _=>bS K (nod (bif t.2==[45]then 32 else 33) [x] []) (ab t.1))
 else nV T K q
def fm(least f:Int)(sub:Pm Int):Nat→Int→Pm Int
 |0,_=>.bad
 |n+1,x=>(bM T K).bind fun t=>bif ai t.1==5&&ie t.2==least then
   ((aW K).bind fun _=>sub.bind fun y=>(bS K (nod 34 [x,y] t.2) f).bind fun z=>fm least f sub n z)
  else bif least==3 then((bU T K [105,115]).bind fun b=>bif b then
    ((bU T K [115,111,109,101]).bind fun b=>bif b then(bS K (nod 43 [x] []) f).bind fun z=>fm least f sub n z
     else(aM T K [110,111,110,101]).bind fun _=>(bS K (nod 44 [x] []) f).bind fun z=>fm least f sub n z)
    else .ret x)
  else .ret x
def kF:Nat→Pm Int
 |0=>(bM T K).bind fun _=>q.un
 |j+1=>(bM T K).bind fun t=>(kF j).bind fun x=>fm T K (5-(j:Int)) (ab t.1) (kF j) (K.length+2) x
def vL:Pm Int:=(fJ K).bind fun _=>(kF T K q 6).bind fun x=>rO.bind fun _=>.ret x
def pE(s:Str):Pm (Nd×Bool):=
 bif s==[105,102]then(aW K).bind fun _=>(dO T K q).bind fun x=>q.blk.bind fun y=>(bU T K [101,108,115,101]).bind fun b=>bif b then q.blk.bind fun z=>.ret (nod 11 ([x,y]++[z]) [],true)else .ret (nod 11 [x,y] [],true)
 else bif s==[119,104,105,108,101]then(aW K).bind fun _=>(dO T K q).bind fun x=>q.blk.bind fun y=>.ret (nod 12 [x,y] [],true)
 else bif s==[98,114,101,97,107]then(aW K).bind fun _=>(aM T K [59]).bind fun _=>.ret (nod 13 [] [],true)
 else bif s==[99,111,110,116,105,110,117,101]then(aW K).bind fun _=>(aM T K [59]).bind fun _=>.ret (nod 14 [] [],true)
 else bif s==[114,101,116,117,114,110]then(aW K).bind fun _=>(cIs T K [59]).bind fun b=>bif b then(aM T K [59]).bind fun _=>.ret (nod 15 [] [],true)else q.val.bind fun x=>(aM T K [59]).bind fun _=>.ret (nod 15 [x] [],true)
 else bif s==[112,114,105,110,116]then(aW K).bind fun _=>(dO T K q).bind fun x=>(aM T K [59]).bind fun _=>.ret (nod 16 [x] [],true)
 else bif s==[115,117,112,101,114]then(aW K).bind fun _=>(uC T K q).bind fun l=>(aM T K [59]).bind fun _=>.ret (nod 17 l [],true)
 else .ret (nod 0 [] [],false)
def CG(x:Int):Pm Int:=fun a d A=>.ok (ak (ag A x.toNat)) a d A
def fc(f:Int):Pm Int:=q.val.bind fun x=>(bM T K).bind fun t=>(CG x).bind fun k=>(bU T K [61]).bind fun b=>bif b then
  (bif k==25||(k==26||k==27)then q.val.bind fun y=>(aM T K [59]).bind fun _=>bS K (nod 10 [x,y] []) f else .flt 132 (ab t.1))
 else bif k==29||k==30 then(aM T K [59]).bind fun _=>bS K (nod 18 [x] []) f else .flt 132 f
def BX:Pm Int:=(bM T K).bind fun t=>bif ai t.1==5&&t.2==[123]then q.blk
 else(dc T K).bind fun b=>bif b then
  ((cF T K false).bind fun x=>(cW T K).bind fun s=>(bU T K [61]).bind fun b=>bif b then q.val.bind fun y=>(aM T K [59]).bind fun _=>bS K (bL x 9 [y] s) (ab t.1)
   else(aM T K [59]).bind fun _=>bS K (bL x 9 (aj x) s) (ab t.1))
 else bif ai t.1==1 then(pE T K q t.2).bind fun w=>bif w.2 then bS K w.1 (ab t.1)else fc T K q (ab t.1)
 else fc T K q (ab t.1)
def nn(f:Int):Nat→List Int→Pm Int
 |0,_=>.bad
 |n+1,L=>(cIs T K [125]).bind fun b=>bif b then(aM T K [125]).bind fun _=>rO.bind fun _=>bS K (nod 8 L []) f
  else(BX T K q).bind fun x=>nn f n (L++[x])
def xb:Pm Int:=(bM T K).bind fun t=>(fJ K).bind fun _=>(aM T K [123]).bind fun _=>nn T K q (ab t.1) (K.length+2) []
end
def kns(T:List UInt8)(K:List Tok):Nat→Kn
 |0=>⟨.bad,.bad,.bad⟩
 |n+1=>⟨vL T K (kns T K n),xb T K (kns T K n),vz T K (kns T K n)⟩
section
variable(T:List UInt8)(K:List Tok)(q:Kn)
def iw:Nat→List Int→Pm (List Int)
 |0,_=>.bad
 |n+1,L=>(bU T K [41]).bind fun b=>bif b then .ret L
  else(bif decide ((L.length:Int)>0)then(aM T K [44]).bind fun _=>.ret ()else .ret ()).bind fun _=>(gG K ((L.length:Int)+1)).bind fun _=>(bM T K).bind fun t=>(cF T K false).bind fun x=>(cW T K).bind fun s=>(bS K (bL x 7 (aj x) s) (ab t.1)).bind fun y=>iw n (L++[y])
def kY:Pm (List Int):=(aM T K [40]).bind fun _=>iw T K (K.length+2) []
def qf:Pm Int:=(bM T K).bind fun t=>bif ai t.1==1&&t.2==[105,110,105,116]then
  ((aW K).bind fun _=>(kY T K).bind fun l=>q.blk.bind fun b=>bS K (nod 5 (l++[b]) []) (ab t.1))
 else(cF T K true).bind fun x=>(cW T K).bind fun s=>(cIs T K [40]).bind fun b=>bif b then
   ((kY T K).bind fun l=>q.blk.bind fun b=>bS K (bL x 6 (l++[b]) s) (ab t.1))
  else bif al x==6 then .flt 80 (ab t.1)else(aM T K [59]).bind fun _=>bS K (bL x 4 (aj x) s) (ab t.1)
def lj(f:Int)(s:Str):Nat→List Int→Pm Int
 |0,_=>.bad
 |n+1,L=>(cIs T K [125]).bind fun b=>bif b then(aM T K [125]).bind fun _=>bS K (nod 2 L s) f
  else(gG K ((L.length:Int)+1)).bind fun _=>(qf T K q).bind fun x=>lj f s n (L++[x])
def vq:Pm Int:=(bM T K).bind fun t=>(aM T K [99,108,97,115,115]).bind fun _=>(cW T K).bind fun s=>(bM T K).bind fun u=>(bU T K [101,120,116,101,110,100,115]).bind fun b=>bif b then
  ((cW T K).bind fun e=>(bS K (nod 3 [] e) (ab u.1)).bind fun y=>(aM T K [123]).bind fun _=>lj T K q (ab t.1) s (K.length+2) [y])
 else(aM T K [123]).bind fun _=>lj T K q (ab t.1) s (K.length+2) []
def iD:Nat→List Int→Pm Unit
 |0,_=>.bad
 |n+1,L=>(bM T K).bind fun t=>bif ai t.1==0 then(bS K (nod 1 L []) 0).bind fun _=>.ret ()
  else(gG K ((L.length:Int)+1)).bind fun _=>(vq T K q).bind fun x=>iD n (L++[x])
def mJ:Pm Unit:=iD T K q (K.length+2) []
end
end Go.Sx.Tryz
namespace Go.Sx.Tryz
open Go Go.Sx
set_option maxRecDepth 100000
def EqH{α β:Type}(inj:β→α)(Q:β→Int→Int→List Nd→Prop)(r:PR α)(r':PR β):Prop:=match r' with
 | .ok y a d A=>r= .ok (inj y) a d A∧Q y a d A
 | .fault c p=>r= .fault c p
 | .bad=>False
section
variable{α β γ δ:Type}{inj:β→α}{Q:β→Int→Int→List Nd→Prop}
theorem EqH.flt{c p:Int}:EqH inj Q (.fault c p) (.fault c p):=rfl
theorem EqH.bind{inj1:δ→γ}{Q1:δ→Int→Int→List Nd→Prop}{r:PR γ}{r':PR δ}{k:γ→Int→Int→List Nd→PR α}{k':δ→Int→Int→List Nd→PR β}
  (h1:EqH inj1 Q1 r r') (h2:∀y a d A,Q1 y a d A→EqH inj Q (k (inj1 y) a d A) (k' y a d A)):EqH inj Q (r.bind k) (r'.bind k'):=by
 cases r' with
 |ok y a d A=>
  obtain⟨e,q⟩:=h1
  rw[e]
  exact h2 y a d A q
 |fault c p=>
  have e:r= .fault c p:=h1
  rw[e]
  exact rfl
 |bad=>exact h1.elim
theorem EqH.tail{inj1:δ→γ}{Q1:δ→Int→Int→List Nd→Prop}{injd:δ→α}{Qd:δ→Int→Int→List Nd→Prop}{r:PR γ}{r':PR δ}{k:γ→Int→Int→List Nd→PR α}
  (h1:EqH inj1 Q1 r r') (h2:∀y a d A,Q1 y a d A→k (inj1 y) a d A= .ok (injd y) a d A∧Qd y a d A):EqH injd Qd (r.bind k) r':=by
 cases r' with
 |ok y a d A=>
  obtain⟨e,q⟩:=h1
  rw[e]
  exact h2 y a d A q
 |fault c p=>
  have e:r= .fault c p:=h1
  rw[e]
  exact rfl
 |bad=>exact h1.elim
theorem EqH.bif{c:Bool}{r s:PR α}{r' s':PR β}(h:c=true→EqH inj Q r r')(h':c=false→EqH inj Q s s'):EqH inj Q (bif c then r else s) (bif c then r' else s'):=by
 cases c
 ·exact h' rfl
 ·exact h rfl
theorem EqH.of_eq{r r1:PR α}{r':PR β}(e:r=r1)(h:EqH inj Q r1 r'):EqH inj Q r r':=e▸h
theorem EqH.mono{Q':β→Int→Int→List Nd→Prop}{r:PR α}{r':PR β}(h:EqH inj Q r r')(hq:∀y a d A,Q y a d A→Q' y a d A):EqH inj Q' r r':=by
 cases r' with
 |ok y a d A=>exact⟨h.1,hq _ _ _ _ h.2⟩
 |fault c p=>exact h
 |bad=>exact h
end
structure WF(T:List UInt8)(K:List Tok):Prop where
 len:T.length≤65536
 pos:0<K.length
 most:K.length≤16385
 span:∀a:Int,0≤a→a<K.length→0≤ab (aa K a)∧ab (aa K a)≤tTo (aa K a)∧tTo (aa K a)≤T.length
 last:∀a:Int,0≤a→a<K.length→(ai (aa K a)=0↔a=K.length-1)
 fin:∀a:Int,0≤a→a<K.length→ai (aa K a)=0→say T (aa K a)=[]
structure Inv(K:List Tok)(a d:Int)(A:List Nd):Prop where
 a0:0≤a
 a1:a<K.length
 d0:0≤d
 d1:d≤60
 len:A.length≤8192
 nd:∀x∈A,(aj x).length≤20000∧(aG x).length≤20000
structure Post(K:List Tok)(a d:Int)(A:List Nd)(c:Int)(a' d':Int)(A':List Nd):Prop where
 inv:Inv K a' d' A'
 le:a+c≤a'
 eq:d'=d
 pre:∃B,A'=A++B
theorem Post.refl{K:List Tok}{a d:Int}{A:List Nd}(h:Inv K a d A):Post K a d A 0 a d A:=⟨h,by omega,rfl,[],by simp⟩
theorem Post.trans{K:List Tok}{a d a1 d1 a2 d2 c1 c2 c:Int}{A A1 A2:List Nd}(h:Post K a d A c1 a1 d1 A1)(k:Post K a1 d1 A1 c2 a2 d2 A2)(hc:c≤c1+c2):Post K a d A c a2 d2 A2:=by
 obtain⟨B1,e1⟩:=h.pre
 obtain⟨B2,e2⟩:=k.pre
 exact⟨k.inv,by have:=h.le;have:=k.le;omega,k.eq.trans h.eq,B1++B2,by rw[e2,e1,List.append_assoc]⟩
abbrev iI:Int→aA [tI]:=fun y=>(y,())
abbrev iS:Str→aA [tS]:=fun y=>(y,())
abbrev iB:Bool→aA [tB]:=fun y=>(y,())
abbrev iN:Nd→aA [tN]:=fun y=>(y,())
abbrev iL:List Int→aA [tL]:=fun y=>(y,())
abbrev iU:Unit→aA []:=fun _=>()
abbrev iTS:Tok×Str→aA [tT,tS]:=fun y=>(y.1,y.2,())
abbrev iIS:Int×Str→aA [tI,tS]:=fun y=>(y.1,y.2,())
abbrev iNB:Nd×Bool→aA [tN,tB]:=fun y=>(y.1,y.2,())
theorem nw{K:List Tok}{a:Int}(h0:0≤a)(h1:a<K.length):inI a K.length=true:=by
 simp only[inI,Bool.and_eq_true,decide_eq_true_eq]
 omega
theorem bg{n k:Nat}(h:k+1≤n):∃m,n=m+1∧k≤m:=⟨n-1,by omega,by omega⟩
theorem k9{T:List UInt8}{t:Tok}:(say T t).length≤T.length:=by
 unfold say
 rw[List.length_drop,List.length_take]
 omega
section
variable{T:List UInt8}{K:List Tok}{n:Nat}{a d:Int}{A:List Nd}
theorem wf_wrap(wf:WF T K){x:Int}(h0: -100000≤x)(h1:x≤100000):IntKind.wrap .i64 x=x:=wrap64 (by omega) (by omega)
theorem cw(wf:WF T K)(hn:1≤n)(h0:0≤a)(h1:a<K.length):EqH iTS (fun y a' d' A'=>y=(aa K a,say T (aa K a))∧a=a'∧d=d'∧A=A') ((fns n).next T K a d A ()) (bM T K a d A):=by
 obtain⟨m,rfl,_⟩:=bg (k:=0) hn
 obtain⟨s0,s1,s2⟩:=wf.span a h0 h1
 show EqH iTS _ (D7 (fns m) T K a d A) _
 unfold D7
 rw[nw h0 h1,od s0 s1 s2]
 exact⟨rfl,rfl,rfl,rfl,rfl⟩
theorem qg(wf:WF T K)(hn:1≤n)(h0:0≤a)(h1:a<K.length){j:Int}(j0:0≤j)(j1:j≤2):EqH iIS (fun y a' d' A'=>(y.2.length≤T.length∧(y.2≠[]→a+j<K.length∧y.2=say T (aa K (a+j))))∧a=a'∧d=d'∧A=A') ((fns n).ahead T K a d A (j,())) (eP T K j a d A):=by
 obtain⟨m,rfl,_⟩:=bg (k:=0) hn
 have hm:=wf.most
 show EqH iIS _ (tF (fns m) T K a d A j) _
 unfold tF eP
 rw[wf_wrap wf (by omega) (by omega)]
 refine EqH.bif (fun h=>⟨rfl,⟨Nat.zero_le _,fun e=>absurd rfl e⟩,rfl,rfl,rfl⟩) fun h=>?_
 have hlt:a+j<K.length:=by
  have:=of_decide_eq_false h
  omega
 obtain⟨s0,s1,s2⟩:=wf.span (a+j) (by omega) hlt
 rw[nw (by omega) hlt,od s0 s1 s2]
 exact⟨rfl,⟨k9,fun _=>⟨hlt,rfl⟩⟩,rfl,rfl,rfl⟩
theorem dh(wf:WF T K)(hn:1≤n)(h0:0≤a)(h1:a<K.length)(hk:ai (aa K a)≠0):EqH iI (fun y a' d' A'=>y=tTo (aa K a)∧a'=a+1∧d=d'∧A=A') ((fns n).skip T K a d A ()) (aW K a d A):=by
 obtain⟨m,rfl,_⟩:=bg (k:=0) hn
 have hm:=wf.most
 show EqH iI _ (C6 (fns m) T K a d A) _
 unfold C6 aW
 rw[nw h0 h1,wf_wrap wf (x:=a+1) (by omega) (by omega)]
 have:(ai (aa K a) !=0)=true:=by simpa using hk
 rw[this]
 exact⟨rfl,rfl,rfl,rfl,rfl⟩
theorem O3{a d:Int}{A:List Nd}(x y z:Bool):(bif x then PR.ok (z,()) a d A else bif y then PR.ok (z,()) a d A else PR.ok (false,()) a d A:PR (aA [tB]))= .ok ((x||y)&&z,()) a d A:=by
 cases x<;>cases y<;>cases z<;>rfl
theorem sX(wf:WF T K)(hn:2≤n)(h0:0≤a)(h1:a<K.length){s:Str}:EqH iB (fun y a' d' A'=>y=((ai (aa K a)==1||ai (aa K a)==5)&&say T (aa K a)==s)∧a=a'∧d=d'∧A=A') ((fns n).isS T K a d A (s,())) (cIs T K s a d A):=by
 obtain⟨m,rfl,hm⟩:=bg (k:=1) hn
 show EqH iB _ (Ei (fns m) T K a d A s) _
 unfold Ei cIs Pm.bind
 refine EqH.bind (cw wf hm h0 h1) ?_
 rintro _ _ _ _ ⟨rfl,rfl,rfl,rfl⟩
 exact⟨O3 _ _ _,rfl,rfl,rfl,rfl⟩
theorem cY(wf:WF T K)(h0:0≤a)(h1:a<K.length)(hk:ai (aa K a)≠0):a+1<K.length:=by
 have h:=wf.last a h0 h1
 have h2:a≠K.length-1:=fun e=>hk (h.2 e)
 omega
theorem kW{s:Str}(h:((ai (aa K a)==1||ai (aa K a)==5)&&say T (aa K a)==s)=true):ai (aa K a)≠0:=fun e=>by
 rw[e]at h
 exact absurd h (by simp)
theorem fa(wf:WF T K)(hn:3≤n)(h0:0≤a)(h1:a<K.length){s:Str}:EqH iB (fun y a' d' A'=>((y=true∧a'=a+1∧a+1<K.length)∨(y=false∧a=a'))∧d=d'∧A=A') ((fns n).take T K a d A (s,())) (bU T K s a d A):=by
 obtain⟨m,rfl,hm⟩:=bg (k:=2) hn
 show EqH iB _ (CQ (fns m) T K a d A s) _
 unfold CQ bU Pm.bind
 refine EqH.bind (sX wf hm h0 h1) ?_
 rintro _ _ _ _ ⟨rfl,rfl,rfl,rfl⟩
 cases hb:((ai (aa K a)==1||ai (aa K a)==5)&&say T (aa K a)==s)with
 |true=>
  refine EqH.bind (dh wf (by omega) h0 h1 (kW hb)) ?_
  rintro _ _ _ _ ⟨rfl,rfl,rfl,rfl⟩
  exact⟨rfl,.inl ⟨rfl,rfl,cY wf h0 h1 (kW hb)⟩,rfl,rfl⟩
 |false=>exact⟨rfl,.inr ⟨rfl,rfl⟩,rfl,rfl⟩
theorem bK(wf:WF T K)(hn:3≤n)(h0:0≤a)(h1:a<K.length){s:Str}:EqH iI (fun y a' d' A'=>y=tTo (aa K a)∧a'=a+1∧a+1<K.length∧d=d'∧A=A') ((fns n).want T K a d A (s,())) (aM T K s a d A):=by
 obtain⟨m,rfl,hm⟩:=bg (k:=2) hn
 show EqH iI _ (DC (fns m) T K a d A s) _
 unfold DC aM Pm.bind
 refine EqH.bind (sX wf hm h0 h1) ?_
 rintro _ _ _ _ ⟨rfl,rfl,rfl,rfl⟩
 cases hb:((ai (aa K a)==1||ai (aa K a)==5)&&say T (aa K a)==s)with
 |true=>
  refine EqH.tail (dh wf (by omega) h0 h1 (kW hb)) ?_
  rintro _ _ _ _ ⟨rfl,rfl,rfl,rfl⟩
  exact⟨rfl,rfl,rfl,cY wf h0 h1 (kW hb),rfl,rfl⟩
 |false=>
  have e:(fns m).next T K a d A ()= .ok (aa K a,say T (aa K a),()) a d A:=(cw wf (n:=m) (by omega) h0 h1).1
  show EqH iI _ (PR.bind ((fns m).next T K a d A ()) _) _
  rw[e]
  exact EqH.flt
theorem jX(wf:WF T K){s:Str}(h:s.length≤T.length):dZ (s,())=true:=by
 have:=wf.len
 show decide ((s.length:Int)≤1099511627776)=true
 exact decide_eq_true (by omega)
theorem HE(wf:WF T K){s:Str}(h:s.length≤T.length):lp (s,())=true:=by
 have:=wf.len
 show decide ((s.length:Int)≤1048576)=true
 exact decide_eq_true (by omega)
theorem oY(wf:WF T K)(hn:2≤n)(h0:0≤a)(h1:a<K.length):EqH iS (fun y a' d' A'=>y.length≤T.length∧a'=a+1∧a+1<K.length∧d=d'∧A=A') ((fns n).name T K a d A ()) (cW T K a d A):=by
 obtain⟨m,rfl,hm⟩:=bg (k:=1) hn
 show EqH iS _ (Da (fns m) T K a d A) _
 unfold Da cW Pm.bind
 refine EqH.bind (cw wf hm h0 h1) ?_
 rintro _ _ _ _ ⟨rfl,rfl,rfl,rfl⟩
 show EqH iS _ (bif ai (aa K a) !=1 then _ else bif dZ (say T (aa K a),())then bif !bV (say T (aa K a))then _ else _ else _) _
 rw[jX wf k9]
 show EqH iS _ _ ((bif ai (aa K a)==1&&bV (say T (aa K a))then _ else _:Pm Str) a d A)
 cases hk:ai (aa K a)==1 with
 |false=>
  rw[show(ai (aa K a) !=1)=true by simp[bne,hk]]
  exact EqH.flt
 |true=>
  rw[show(ai (aa K a) !=1)=false by simp[bne,hk]]
  have hk0:ai (aa K a)≠0:=fun e=>by rw[e]at hk;exact absurd hk (by decide)
  cases hs:bV (say T (aa K a))with
  |false=>exact EqH.flt
  |true=>
   refine EqH.bind (dh wf (by omega) h0 h1 hk0) ?_
   rintro _ _ _ _ ⟨rfl,rfl,rfl,rfl⟩
   exact⟨rfl,k9,rfl,cY wf h0 h1 hk0,rfl,rfl⟩
theorem Bb(wf:WF T K)(hn:2≤n)(h0:0≤a)(h1:a<K.length)(d0:0≤d)(d1:d≤60):EqH iU (fun _ a' d' A'=>a=a'∧d'=d+1∧d+1≤60∧A=A') ((fns n).goIn T K a d A ()) (fJ K a d A):=by
 obtain⟨m,rfl,hm⟩:=bg (k:=1) hn
 show EqH iU _ (ux (fns m) T K a d A) _
 unfold ux fJ
 rw[wf_wrap wf (x:=d+1) (by omega) (by omega)]
 cases h:decide (d+1>60)with
 |true=>
  have e:(fns m).next T K a (d+1) A ()= .ok (aa K a,say T (aa K a),()) a (d+1) A:=(cw wf hm h0 h1).1
  rw[e]
  exact EqH.flt
 |false=>exact⟨rfl,rfl,rfl,by have:=of_decide_eq_false h;omega,rfl⟩
theorem CH(wf:WF T K)(hn:2≤n)(h0:0≤a)(h1:a<K.length){x:Int}:EqH iU (fun _ a' d' A'=>a=a'∧d=d'∧A=A'∧x≤64) ((fns n).few T K a d A (x,())) (gG K x a d A):=by
 obtain⟨m,rfl,hm⟩:=bg (k:=1) hn
 show EqH iU _ (Dy (fns m) T K a d A x) _
 unfold Dy gG
 cases h:decide (x>64)with
 |true=>
  have e:(fns m).next T K a d A ()= .ok (aa K a,say T (aa K a),()) a d A:=(cw wf hm h0 h1).1
  rw[e]
  exact EqH.flt
 |false=>exact⟨rfl,rfl,rfl,rfl,by have:=of_decide_eq_false h;omega⟩
def Small(x:Nd):Prop:=(aj x).length≤20000∧(aG x).length≤20000
theorem M5(wf:WF T K)(hn:1≤n)(hi:Inv K a d A){x:Nd}(hx:Small x){f:Int}:EqH iI (fun y a' d' A'=>(y=A.length∧A'=A++[cJ x f (fj K a f)])∧(0≤y∧y<A'.length)∧Post K a d A 0 a' d' A'∧a=a'∧d=d') ((fns n).add T K a d A (x,f,())) (bS K x f a d A):=by
 obtain⟨m,rfl,hm⟩:=bg (k:=0) hn
 have h0:=hi.a0
 have h1:=hi.a1
 have hmost:=wf.most
 have hl:=hi.len
 have key:∀t:Int,(bif decide ((A.length:Int)≥16384)then PR.fault 2 f
   else bif Nat.ble (aj x).length 17592186044416 then bif Nat.ble (aG x).length 17592186044416 then
    bif decide (A.length+[cJ x f t].length<aq)then
     bif decide (IntKind.wrap .i64 (((A++[cJ x f t]).length:Int)-1)≥8192)then PR.fault 2 f
     else PR.ok (IntKind.wrap .i64 (((A++[cJ x f t]).length:Int)-1),()) a d (A++[cJ x f t])
    else .bad else .bad else .bad:PR (aA [tI]))=bif decide ((A.length:Int)≥8192)then .fault 2 f else .ok ((A.length:Int),()) a d (A++[cJ x f t]):=fun t=>by
  have e1:decide ((A.length:Int)≥16384)=false:=decide_eq_false (by omega)
  have e2:Nat.ble (aj x).length 17592186044416=true:=Nat.ble_eq_true_of_le (by have:=hx.1;omega)
  have e3:Nat.ble (aG x).length 17592186044416=true:=Nat.ble_eq_true_of_le (by have:=hx.2;omega)
  have e4:decide (A.length+[cJ x f t].length<aq)=true:=decide_eq_true (by unfold aq;simp only[List.length_singleton];omega)
  have e5:IntKind.wrap .i64 (((A++[cJ x f t]).length:Int)-1)=A.length:=by
   rw[List.length_append,List.length_singleton]
   rw[wf_wrap wf (by omega) (by omega)]
   omega
  rw[e1,e2,e3,e4,e5]
  rfl
 have fin:EqH iI (fun y a' d' A'=>(y=A.length∧A'=A++[cJ x f (fj K a f)])∧(0≤y∧y<A'.length)∧Post K a d A 0 a' d' A'∧a=a'∧d=d') (bif decide ((A.length:Int)≥8192)then .fault 2 f else .ok ((A.length:Int),()) a d (A++[cJ x f (fj K a f)])) (bS K x f a d A):=by
  unfold bS
  refine EqH.bif (fun _=>EqH.flt) fun h=>?_
  have h:=of_decide_eq_false h
  refine⟨rfl,⟨rfl,rfl⟩,⟨by omega,by rw[List.length_append,List.length_singleton];omega⟩,⟨⟨h0,h1,hi.d0,hi.d1,by rw[List.length_append,List.length_singleton];omega,fun y hy=>?_⟩,by omega,rfl,_,rfl⟩,rfl,rfl⟩
  rcases List.mem_append.1 hy with hy|hy
  ·exact hi.nd y hy
  ·rw[List.mem_singleton.1 hy]
   exact hx
 show EqH iI _ (Dt (fns m) T K a d A x f) _
 unfold Dt
 cases ha:decide (a>0)with
 |true=>
  have ha':=of_decide_eq_true ha
  have hw:IntKind.wrap .i64 (a-1)=a-1:=wf_wrap wf (by omega) (by omega)
  have hlt:fj K a f=bif decide (f<tTo (aa K (a-1)))then tTo (aa K (a-1))else f:=by
   unfold fj
   rw[ha]
   rfl
  rw[hw,nw (a:=a-1) (K:=K) (by omega) (by omega)]
  exact EqH.of_eq ((key _).trans (by rw[hlt])) fin
 |false=>
  have hlt:fj K a f=f:=by
   unfold fj
   rw[ha]
   rfl
  exact EqH.of_eq ((key _).trans (by rw[hlt])) fin
end
end Go.Sx.Tryz
namespace Go.Sx.Tryz
open Go Go.Sx
set_option maxRecDepth 100000
structure TyN(x:Nd):Prop where
 d0:0≤ah x
 d1:ah x≤4
 mks:((af x).length:Int)=ah x+1
 en:((aG x).length:Int)=ah x+1
 kids:aj x=[]
theorem TyN.small{x:Nd}(h:TyN x):Small x:=by
 have h1:=h.d1
 have h2:=h.en
 exact⟨by rw[h.kids];simp,by omega⟩
section
variable{T:List UInt8}{K:List Tok}{n:Nat}{a d:Int}{A:List Nd}
theorem NQ(wf:WF T K)(hn:1≤n)(h0:0≤a)(h1:a<K.length):(fns n).next T K a d A ()= .ok (aa K a,say T (aa K a),()) a d A:=(cw wf hn h0 h1).1
theorem Ol(wf:WF T K)(hn:3≤n)(h0:0≤a)(h1:a<K.length):EqH iN (fun y a' d' A'=>(TyN y∧ah y=0)∧a'=a+1∧a+1<K.length∧d=d'∧A=A') ((fns n).base T K a d A ()) (nh T K a d A):=by
 obtain⟨m,rfl,hm⟩:=bg (k:=2) hn
 show EqH iN _ (uy (fns m) T K a d A) _
 unfold uy nh Pm.bind
 refine EqH.bind (cw wf (by omega) h0 h1) ?_
 rintro _ _ _ _ ⟨rfl,rfl,rfl,rfl⟩
 show EqH iN _ (bif ai (aa K a) !=1 then _ else _) ((bif ai (aa K a)==1 then _ else _:Pm Nd) a d A)
 cases hk:ai (aa K a)==1 with
 |false=>
  rw[show(ai (aa K a) !=1)=true by simp[bne,hk]]
  exact EqH.flt
 |true=>
  rw[show(ai (aa K a) !=1)=false by simp[bne,hk]]
  have hk0:ai (aa K a)≠0:=fun e=>by rw[e]at hk;exact absurd hk (by decide)
  have fin:∀(b:Int) (nm:Str),EqH iN (fun y a' d' A'=>(TyN y∧ah y=0)∧a'=a+1∧a+1<K.length∧d=d'∧A=A')
    (((fns m).skip T K a d A ()).bind fun y10 a10 d10 A10=>.ok (oJ b nm (ab (aa K a)) (tTo (aa K a)) y10.1,()) a10 d10 A10)
    ((aW K).bind (fun e=>.ret (oJ b nm (ab (aa K a)) (tTo (aa K a)) e)) a d A):=fun b nm=>by
   refine EqH.bind (dh wf (by omega) h0 h1 hk0) ?_
   rintro _ _ _ _ ⟨rfl,rfl,rfl,rfl⟩
   exact⟨rfl,⟨⟨Int.le_refl 0,show(0:Int)≤4 by decide,rfl,rfl,rfl⟩,rfl⟩,rfl,cY wf h0 h1 hk0,rfl,rfl⟩
  show EqH iN _ (bif say T (aa K a)==[105,110,116]then _ else _) ((bif say T (aa K a)==[105,110,116]then _ else _:Pm Nd) a d A)
  cases say T (aa K a)==[105,110,116]with
  |true=>exact fin 1 []
  |false=>
  show EqH iN _ (bif say T (aa K a)==[98,111,111,108]then _ else _) ((bif say T (aa K a)==[98,111,111,108]then _ else _:Pm Nd) a d A)
  cases say T (aa K a)==[98,111,111,108]with
  |true=>exact fin 2 []
  |false=>
  show EqH iN _ (bif say T (aa K a)==[100,111,117,98,108,101]then _ else _) ((bif say T (aa K a)==[100,111,117,98,108,101]then _ else _:Pm Nd) a d A)
  cases say T (aa K a)==[100,111,117,98,108,101]with
  |true=>exact fin 3 []
  |false=>
  show EqH iN _ (bif say T (aa K a)==[115,116,114]then _ else _) ((bif say T (aa K a)==[115,116,114]then _ else _:Pm Nd) a d A)
  cases say T (aa K a)==[115,116,114]with
  |true=>exact fin 4 []
  |false=>
  show EqH iN _ (bif dZ (say T (aa K a),())then bif !bV (say T (aa K a))then _ else _ else _) ((bif bV (say T (aa K a))then _ else _:Pm Nd) a d A)
  rw[jX wf k9]
  cases bV (say T (aa K a))with
  |true=>exact fin 5 _
  |false=>exact EqH.flt
theorem CK{x:Nd}(h:TyN x):inI (ah x) (af x).length=true∧inB 0 (ah x) (af x).length=true:=by
 have h1:=h.d0
 have h2:=h.mks
 exact⟨by simp only[inI,Bool.and_eq_true,decide_eq_true_eq];omega,od (by omega) (by omega) (by omega)⟩
theorem rJ{x:Nd}(h:TyN x)(c:UInt8)(w1 w2:Int):TyN (fo x c w1 w2):=by
 have h1:=h.d0
 have h2:=h.mks
 refine⟨h.d0,h.d1,?_,h.en,h.kids⟩
 show(((af x).take (ah x).toNat++[c]).length:Int)=ah x+1
 rw[List.length_append,List.length_take,List.length_singleton]
 omega
theorem DL{x:Nd}(h:TyN x)(h4:ah x≠4)(e:Int):TyN (sH x e):=by
 have h1:=h.d0
 have h2:=h.mks
 have h3:=h.en
 have h5:=h.d1
 refine⟨?_,?_,?_,?_,h.kids⟩
 ·show 0≤ah x+1
  omega
 ·show ah x+1≤4
  omega
 ·show((af x++[32]).length:Int)=ah x+1+1
  rw[List.length_append,List.length_singleton]
  omega
 ·show((aG x++[e]).length:Int)=ah x+1+1
  rw[List.length_append,List.length_singleton]
  omega
theorem qG(wf:WF T K){m:Nat}(hm:3≤m):∀(N:Nat) (a d:Int) (A:List Nd) (x:Nd),0≤a→a<K.length→(K.length:Int)-a+1≤N→TyN x→
  EqH iN (fun y a' d' A'=>TyN y∧(a≤a'∧a'<K.length)∧d=d'∧A=A') (pS (fns m) T K N a d A (ak x) (nAt x) (nTo x) (aH x) (al x) (au x) (ah x) (af x) (nN x) (nW1 x) (nW2 x) (aG x)) (dE T K N x a d A)
 |0,a,d,A,x,h0,h1,hN,hx=>by omega
 |N+1,a,d,A,x,h0,h1,hN,hx=>by
  obtain⟨i1,i2⟩:=CK hx
  have hmost:=wf.most
  have hxe:x=mkN (ak x) (nAt x) (nTo x) [] (aH x) (al x) (au x) (ah x) (af x) (nN x) (nW1 x) (nW2 x) (aG x):=by
   have:=hx.kids
   obtain⟨k,f,t,ks,r⟩:=x
   have e:ks=[]:=this
   subst e
   rfl
  have hmk:=hx.mks
  have hen:=hx.en
  have hd1:=hx.d1
  show EqH iN _ (xQ (fns m) T K (pS (fns m) T K N) a d A (ak x) (nAt x) (nTo x) (aH x) (al x) (au x) (ah x) (af x) (nN x) (nW1 x) (nW2 x) (aG x)) _
  unfold xQ dE Pm.bind
  refine EqH.bind (cw wf (by omega) h0 h1) ?_
  rintro _ _ _ _ ⟨rfl,rfl,rfl,rfl⟩
  refine EqH.bind (sX wf (by omega) h0 h1) ?_
  rintro _ _ _ _ ⟨rfl,rfl,rfl,rfl⟩
  cases hb:((ai (aa K a)==1||ai (aa K a)==5)&&say T (aa K a)==[63])with
  |true=>
   have hk0:=kW hb
   have hlt:=cY wf h0 h1 hk0
   have ih:=qG wf hm N (a+1) d A (fo x 63 (nW1 x) (tTo (aa K a))) (by omega) hlt (by omega) (rJ hx _ _ _)
   have e62:decide ((List.drop (Int.toNat 0) (List.take (Int.toNat (ah x)) (af x))).length+[(63:UInt8)].length<2^62)=true:=decide_eq_true (by
    show((List.take (Int.toNat (ah x)) (af x))).length+1<2^62
    rw[List.length_take]
    omega)
   have go:EqH iN (fun y a' d' A'=>TyN y∧(a≤a'∧a'<K.length)∧d=d'∧A=A')
     (bif inI (ah x) (af x).length then bif fe x (ah x) !=32 then PR.fault 81 (ab (aa K a))else bif inB 0 (ah x) (af x).length then
      bif decide ((List.drop (Int.toNat 0) (List.take (Int.toNat (ah x)) (af x))).length+[(63:UInt8)].length<2^62)then
       ((fns m).skip T K a d A ()).bind fun y27 a27 d27 A27=>pS (fns m) T K N a27 d27 A27 (ak x) (nAt x) (nTo x) (aH x) (al x) (au x) (ah x) (List.drop (Int.toNat 0) (List.take (Int.toNat (ah x)) (af x))++[63]) (nN x) (nW1 x) y27.1 (aG x)
      else .bad else .bad else .bad)
     ((bif fe x (ah x) !=32 then .flt 81 (ab (aa K a))else(aW K).bind fun e=>dE T K N (fo x 63 (nW1 x) e)) a d A):=by
    rw[i1,i2,e62]
    cases hmk:fe x (ah x) !=32 with
    |true=>exact EqH.flt
    |false=>
     refine EqH.bind (dh wf (by omega) h0 h1 hk0) ?_
     rintro _ _ _ _ ⟨rfl,rfl,rfl,rfl⟩
     exact EqH.mono ih fun y a' d' A' h=>⟨h.1,⟨by have:=h.2.1.1;omega,h.2.1.2⟩,h.2.2⟩
   show EqH iN _ (bif al x !=5 then bif ah x==0 then _ else _ else _) ((bif (al x !=5&&ah x==0)||fe x (ah x) !=32 then .flt 81 (ab (aa K a))else(aW K).bind fun e=>dE T K N (fo x 63 (nW1 x) e)) a d A)
   cases h5:al x !=5 with
   |true=>
    cases hz:ah x==0 with
    |true=>exact EqH.flt
    |false=>exact go
   |false=>exact go
  |false=>
   show EqH iN _ (PR.bind ((fns m).next T K a d A ()) _) _
   rw[NQ wf (by omega) h0 h1]
   show EqH iN _ (PR.bind ((fns m).ahead T K a d A (1,())) _) _
   refine EqH.bind (qg wf (n:=m) (j:=1) (by omega) h0 h1 (by decide) (by decide)) ?_
   rintro z _ _ _ ⟨⟨_,hz⟩,rfl,rfl,rfl⟩
   refine EqH.bind (sX wf (by omega) h0 h1) ?_
   rintro _ _ _ _ ⟨rfl,rfl,rfl,rfl⟩
   have done:EqH iN (fun y a' d' A'=>TyN y∧(a≤a'∧a'<K.length)∧d=d'∧A=A') (.ok (mkN (ak x) (nAt x) (nTo x) [] (aH x) (al x) (au x) (ah x) (af x) (nN x) (nW1 x) (nW2 x) (aG x),()) a d A) ((Pm.ret x:Pm Nd) a d A):=by
    rw[←hxe]
    exact⟨rfl,hx,⟨Int.le_refl _,h1⟩,rfl,rfl⟩
   cases hb2:((ai (aa K a)==1||ai (aa K a)==5)&&say T (aa K a)==[91])with
   |false=>exact done
   |true=>
    have hk0:=kW hb2
    have hlt:=cY wf h0 h1 hk0
    show EqH iN _ (bif !z.2==[93]then _ else _) ((bif z.2==[93]then _ else _:Pm Nd) a d A)
    cases hz2:z.2==[93]with
    |false=>exact done
    |true=>
     show EqH iN _ (bif ah x==4 then _ else _) ((bif ah x==4 then _ else _:Pm Nd) a d A)
     cases h4:ah x==4 with
     |true=>exact EqH.flt
     |false=>
      have h4:ah x≠4:=fun e=>by rw[e]at h4;exact absurd h4 (by decide)
      refine EqH.bind (dh wf (n:=m) (by omega) h0 h1 hk0) ?_
      rintro _ _ _ _ ⟨rfl,rfl,rfl,rfl⟩
      have hz2:z.2=[93]:=by simpa using hz2
      obtain⟨z1,z2⟩:=hz (by rw[hz2];simp)
      have hk1:ai (aa K (a+1))≠0:=fun e=>by
       have:=wf.fin (a+1) (by omega) hlt e
       rw[←z2,hz2]at this
       cases this
      refine EqH.bind (dh wf (n:=m) (by omega) (by omega) hlt hk1) ?_
      rintro _ _ _ _ ⟨rfl,rfl,rfl,rfl⟩
      have hlt2:=cY wf (by omega) hlt hk1
      have ih:=qG wf hm N (a+1+1) d A (sH x (tTo (aa K (a+1)))) (by omega) hlt2 (by omega) (DL hx h4 _)
      have e62:decide ((af x).length+[(32:UInt8)].length<2^62)=true:=decide_eq_true (by
       show(af x).length+1<2^62
       omega)
      have emr:decide ((aG x).length+[tTo (aa K (a+1))].length<aq)=true:=decide_eq_true (by
       show(aG x).length+1<aq
       unfold aq
       omega)
      have ew:IntKind.wrap .i64 (ah x+1)=ah x+1:=wf_wrap wf (by have:=hx.d0;omega) (by omega)
      show EqH iN _ (bif decide ((af x).length+[(32:UInt8)].length<2^62)then bif decide ((aG x).length+[tTo (aa K (a+1))].length<aq)then pS (fns m) T K N (a+1+1) d A (ak x) (nAt x) (nTo x) (aH x) (al x) (au x) (IntKind.wrap .i64 (ah x+1)) (af x++[32]) (nN x) (nW1 x) (tTo (aa K (a+1))) (aG x++[tTo (aa K (a+1))])else .bad else .bad) _
      rw[e62,emr,ew]
      exact EqH.mono ih fun y a' d' A' h=>⟨h.1,⟨by have:=h.2.1.1;omega,h.2.1.2⟩,h.2.2⟩
theorem wa(wf:WF T K)(hn:4≤n)(h0:0≤a)(h1:a<K.length):EqH iN (fun y a' d' A'=>TyN y∧(a+1≤a'∧a'<K.length)∧d=d'∧A=A') ((fns n).inner T K a d A ()) (dW T K a d A):=by
 obtain⟨m,rfl,hm⟩:=bg (k:=3) hn
 show EqH iN _ (yE (fns m) T K (pS (fns m) T K (K.length+2)) a d A) _
 unfold yE dW Pm.bind
 refine EqH.bind (Ol wf (by omega) h0 h1) ?_
 rintro x _ _ _ ⟨⟨hx,_⟩,rfl,hlt,rfl,rfl⟩
 exact EqH.mono (qG wf hm (K.length+2) (a+1) d A x (by omega) hlt (by omega) hx) fun y a' d' A' h=>⟨h.1,h.2.1,h.2.2⟩
end
end Go.Sx.Tryz
namespace Go.Sx.Tryz
open Go Go.Sx
set_option maxRecDepth 100000
section
variable{T:List UInt8}{K:List Tok}{n:Nat}{a d:Int}{A:List Nd}
def QT(K:List Tok)(a d:Int)(A:List Nd)(y:Nd)(a' d':Int)(A':List Nd):Prop:=TyN y∧(a+1≤a'∧a'<K.length)∧d=d'∧A=A'
theorem qq(wf:WF T K)(hn:5≤n)(h0:0≤a)(h1:a<K.length)(v:Bool):EqH iN (QT K a d A) ((fns n).typed T K a d A (v,())) (cF T K v a d A):=by
 obtain⟨m,rfl,hm⟩:=bg (k:=4) hn
 have hmost:=wf.most
 show EqH iN _ (D9 (fns m) T K a d A v) _
 unfold D9 cF Pm.bind
 refine EqH.bind (cw wf (by omega) h0 h1) ?_
 rintro _ _ _ _ ⟨rfl,rfl,rfl,rfl⟩
 have hI:EqH iN (QT K a d A) (((fns m).inner T K a d A ()).bind fun y a d A=>.ok (mkN (ak y.1) (nAt y.1) (nTo y.1) (aj y.1) (aH y.1) (al y.1) (au y.1) (ah y.1) (af y.1) (nN y.1) (nW1 y.1) (nW2 y.1) (aG y.1),()) a d A) (dW T K a d A):=
  EqH.tail (wa wf (by omega) h0 h1) fun y a' d' A' h=>⟨rfl,h⟩
 have hY:EqH iN (QT K a d A) (bif v then bif ai (aa K a)==1 then bif say T (aa K a)==[118,111,105,100]then
    ((fns m).skip T K a d A ()).bind fun y11 a11 d11 A11=>.ok (oJ 6 [] (ab (aa K a)) (tTo (aa K a)) y11.1,()) a11 d11 A11
   else((fns m).inner T K a d A ()).bind fun y a d A=>.ok (mkN (ak y.1) (nAt y.1) (nTo y.1) (aj y.1) (aH y.1) (al y.1) (au y.1) (ah y.1) (af y.1) (nN y.1) (nW1 y.1) (nW2 y.1) (aG y.1),()) a d A
   else((fns m).inner T K a d A ()).bind fun y a d A=>.ok (mkN (ak y.1) (nAt y.1) (nTo y.1) (aj y.1) (aH y.1) (al y.1) (au y.1) (ah y.1) (af y.1) (nN y.1) (nW1 y.1) (nW2 y.1) (aG y.1),()) a d A
   else((fns m).inner T K a d A ()).bind fun y a d A=>.ok (mkN (ak y.1) (nAt y.1) (nTo y.1) (aj y.1) (aH y.1) (al y.1) (au y.1) (ah y.1) (af y.1) (nN y.1) (nW1 y.1) (nW2 y.1) (aG y.1),()) a d A)
   ((bif v&&(ai (aa K a)==1&&say T (aa K a)==[118,111,105,100])then(aW K).bind fun e=>.ret (oJ 6 [] (ab (aa K a)) (tTo (aa K a)) e)else dW T K) a d A):=by
  cases v with
  |false=>exact hI
  |true=>
   cases hk:ai (aa K a)==1 with
   |false=>exact hI
   |true=>
    cases say T (aa K a)==[118,111,105,100]with
    |false=>exact hI
    |true=>
     have hk0:ai (aa K a)≠0:=fun e=>by rw[e]at hk;exact absurd hk (by decide)
     refine EqH.bind (dh wf (n:=m) (by omega) h0 h1 hk0) ?_
     rintro _ _ _ _ ⟨rfl,rfl,rfl,rfl⟩
     exact⟨rfl,⟨Int.le_refl 0,show(0:Int)≤4 by decide,rfl,rfl,rfl⟩,⟨Int.le_refl _,cY wf h0 h1 hk0⟩,rfl,rfl⟩
 show EqH iN _ (bif say T (aa K a)==[79,112,116,105,111,110]then bif ai (aa K a)==1 then _ else _ else _) ((bif say T (aa K a)==[79,112,116,105,111,110]&&ai (aa K a)==1 then _ else _:Pm Nd) a d A)
 cases say T (aa K a)==[79,112,116,105,111,110]with
 |false=>exact hY
 |true=>
  cases hk:ai (aa K a)==1 with
  |false=>
   rw[hk]at hY
   exact hY
  |true=>
   have hk0:ai (aa K a)≠0:=fun e=>by rw[e]at hk;exact absurd hk (by decide)
   have hlt:=cY wf h0 h1 hk0
   refine EqH.bind (dh wf (n:=m) (by omega) h0 h1 hk0) ?_
   rintro _ _ _ _ ⟨rfl,rfl,rfl,rfl⟩
   refine EqH.bind (bK wf (n:=m) (by omega) (by omega) hlt) ?_
   rintro _ _ _ _ ⟨rfl,rfl,hlt2,rfl,rfl⟩
   refine EqH.bind (wa wf (n:=m) (by omega) (by omega) hlt2) ?_
   rintro x a3 _ _ ⟨hx,⟨g1,g2⟩,rfl,rfl⟩
   refine EqH.bind (bK wf (n:=m) (by omega) (by omega) g2) ?_
   rintro _ _ _ _ ⟨rfl,rfl,hlt3,rfl,rfl⟩
   obtain⟨i1,i2⟩:=CK hx
   have hmk:=hx.mks
   have hd1:=hx.d1
   have e62:decide ((List.drop (Int.toNat 0) (List.take (Int.toNat (ah x)) (af x))).length+[(111:UInt8)].length<2^62)=true:=decide_eq_true (by
    show((List.take (Int.toNat (ah x)) (af x))).length+1<2^62
    rw[List.length_take]
    omega)
   have ew:IntKind.wrap .i64 (a3+1-1)=a3:=by rw[wf_wrap wf (by omega) (by omega)];omega
   have go:EqH iN (QT K a d A)
     (bif inI (ah x) (af x).length then bif fe x (ah x) !=32 then PR.fault 5 (ab (aa K a))else bif inB 0 (ah x) (af x).length then
      bif decide ((List.drop (Int.toNat 0) (List.take (Int.toNat (ah x)) (af x))).length+[(111:UInt8)].length<2^62)then
       bif inI (IntKind.wrap .i64 (a3+1-1)) K.length then .ok (mkN (ak x) (nAt x) (nTo x) (aj x) (aH x) (al x) (au x) (ah x) (List.drop (Int.toNat 0) (List.take (Int.toNat (ah x)) (af x))++[111]) (nN x) (ab (aa K a)) (tTo (aa K (IntKind.wrap .i64 (a3+1-1)))) (aG x),()) (a3+1) d A
       else .bad
      else .bad else .bad else .bad)
     ((bif fe x (ah x) !=32 then .flt 5 (ab (aa K a))else .ret (fo x 111 (ab (aa K a)) (tTo (aa K a3))):Pm Nd) (a3+1) d A):=by
    rw[i1,i2,e62,ew,nw (by omega) g2]
    cases hmk:fe x (ah x) !=32 with
    |true=>exact EqH.flt
    |false=>exact⟨rfl,rJ hx _ _ _,⟨by omega,hlt3⟩,rfl,rfl⟩
   show EqH iN _ (bif al x !=5 then bif ah x==0 then _ else _ else _) ((bif (al x !=5&&ah x==0)||fe x (ah x) !=32 then .flt 5 (ab (aa K a))else .ret (fo x 111 (ab (aa K a)) (tTo (aa K a3))):Pm Nd) (a3+1) d A)
   cases h5:al x !=5 with
   |true=>
    cases hz:ah x==0 with
    |true=>exact EqH.flt
    |false=>exact go
   |false=>exact go
theorem zy(wf:WF T K)(hn:2≤n)(h0:0≤a)(h1:a<K.length):EqH iB (fun _ a' d' A'=>a=a'∧d=d'∧A=A') ((fns n).declares T K a d A ()) (dc T K a d A):=by
 obtain⟨m,rfl,hm⟩:=bg (k:=1) hn
 have hT:=wf.len
 show EqH iB _ (uK (fns m) T K a d A) _
 unfold uK dc Pm.bind
 refine EqH.bind (qg wf (n:=m) (j:=0) (by omega) h0 h1 (by decide) (by decide)) ?_
 rintro x _ _ _ ⟨⟨xl,_⟩,rfl,rfl,rfl⟩
 show EqH iB _ (bif x.1 !=1 then _ else bif dZ (x.2,())then bif !bV x.2 then _ else _ else _) ((bif x.1 !=1 then _ else bif bV x.2 then _ else _:Pm Bool) a d A)
 rw[jX wf xl]
 cases x.1 !=1 with
 |true=>exact⟨rfl,rfl,rfl,rfl⟩
 |false=>
  cases bV x.2 with
  |false=>
   have e1:decide ([(32:UInt8)].length+x.2.length<2^62)=true:=decide_eq_true (by
    show 1+x.2.length<2^62
    omega)
   have e2:decide (([(32:UInt8)]++x.2).length+[(32:UInt8)].length<2^62)=true:=decide_eq_true (by
    rw[List.length_append]
    show 1+x.2.length+1<2^62
    omega)
   show EqH iB _ (bif decide ([(32:UInt8)].length+x.2.length<2^62)then bif decide (([(32:UInt8)]++x.2).length+[(32:UInt8)].length<2^62)then _ else _ else _) _
   rw[e1,e2]
   exact⟨rfl,rfl,rfl,rfl⟩
  |true=>
   refine EqH.bind (qg wf (n:=m) (j:=1) (by omega) h0 h1 (by decide) (by decide)) ?_
   rintro y _ _ _ ⟨⟨yl,_⟩,rfl,rfl,rfl⟩
   refine EqH.bind (qg wf (n:=m) (j:=2) (by omega) h0 h1 (by decide) (by decide)) ?_
   rintro z _ _ _ ⟨⟨zl,_⟩,rfl,rfl,rfl⟩
   show EqH iB _ (bif y.1==1 then bif dZ (y.2,())then bif bV y.2 then .ok (true,()) a d A else bif y.1==5 then bif y.2==[63]then .ok (true,()) a d A else bif y.2==[91]then .ok (z.2==[93],()) a d A else .ok (false,()) a d A else .ok (false,()) a d A else .bad
    else bif y.1==5 then bif y.2==[63]then .ok (true,()) a d A else bif y.2==[91]then .ok (z.2==[93],()) a d A else .ok (false,()) a d A else .ok (false,()) a d A)
    (.ok ((y.1==1&&bV y.2)||(y.1==5&&(y.2==[63]||(y.2==[91]&&z.2==[93])))) a d A)
   rw[jX wf yl]
   cases y.1==1<;>cases bV y.2<;>cases y.1==5<;>cases y.2==[63]<;>cases y.2==[91]<;>cases z.2==[93]<;>exact⟨rfl,rfl,rfl,rfl⟩
end
end Go.Sx.Tryz
namespace Go.Sx.Tryz
open Go Go.Sx
set_option maxRecDepth 100000
theorem Inv.step{K:List Tok}{a d:Int}{A:List Nd}(h:Inv K a d A)(h1:a+1<K.length):Inv K (a+1) d A:=⟨by have:=h.a0;omega,h1,h.d0,h.d1,h.len,h.nd⟩
theorem Inv.at{K:List Tok}{a b d:Int}{A:List Nd}(h:Inv K a d A)(h0:0≤b)(h1:b<K.length):Inv K b d A:=⟨h0,h1,h.d0,h.d1,h.len,h.nd⟩
theorem Post.up{K:List Tok}{a a1 d a2 d2 c c1:Int}{A A2:List Nd}(h:Post K a1 d A c1 a2 d2 A2)(hle:a+c≤a1+c1):Post K a d A c a2 d2 A2:=⟨h.inv,by have:=h.le;omega,h.eq,h.pre⟩
theorem Post.step{K:List Tok}{a d a2 d2 c:Int}{A A2:List Nd}(h:Post K a d A c a2 d2 A2)(h1:a2+1<K.length):Post K a d A (c+1) (a2+1) d2 A2:=⟨h.inv.step h1,by have:=h.le;omega,h.eq,h.pre⟩
def QI(K:List Tok)(a d:Int)(A:List Nd)(c:Int)(y:Int)(a' d':Int)(A':List Nd):Prop:=(0≤y∧y<A'.length)∧Post K a d A c a' d' A'
def QL(K:List Tok)(a d:Int)(A:List Nd)(c:Int)(y:List Int)(a' d':Int)(A':List Nd):Prop:=y.length≤64∧Post K a d A c a' d' A'
def QN(K:List Tok)(a d:Int)(A:List Nd)(c:Int)(y:Nd)(a' d':Int)(A':List Nd):Prop:=Small y∧Post K a d A c a' d' A'
structure KEq(T:List UInt8)(K:List Tok)(m:Nat):Prop where
 val:∀(n:Nat) (a d:Int) (A:List Nd),40*m+4≤n→2*((K.length:Int)-a)+2≤m→Inv K a d A→EqH iI (QI K a d A 1) ((fns n).value T K a d A ()) ((kns T K m).val a d A)
 blk:∀(n:Nat) (a d:Int) (A:List Nd),40*m+4≤n→2*((K.length:Int)-a)+1≤m→Inv K a d A→EqH iI (QI K a d A 1) ((fns n).block T K a d A ()) ((kns T K m).blk a d A)
 un:∀(n:Nat) (a d:Int) (A:List Nd),40*m+4≤n→2*((K.length:Int)-a)+1≤m→Inv K a d A→EqH iI (QI K a d A 1) ((fns n).unary T K a d A ()) ((kns T K m).un a d A)
section
variable{T:List UInt8}{K:List Tok}{n m:Nat}{a d:Int}{A:List Nd}
theorem j6(wf:WF T K)(hn:1≤n){a0 d0 c:Int}{A0:List Nd}(hp:Post K a0 d0 A0 c a d A){x:Nd}(hx:Small x){f:Int}:EqH iI (QI K a0 d0 A0 c) ((fns n).add T K a d A (x,f,())) (bS K x f a d A):=
 EqH.mono (M5 wf hn hp.inv hx) fun _ _ _ _ h=>⟨h.2.1,(hp.trans h.2.2.1 (by omega))⟩
theorem cu(wf:WF T K)(hn:1≤n){a0 d0 c:Int}{A0:List Nd}(hp:Post K a0 d0 A0 c a d A){x:Nd}(hx:Small x){f:Int}:EqH iI (QI K a0 d0 A0 c) (((fns n).add T K a d A (x,f,())).bind fun y a d A=>.ok (y.1,()) a d A) (bS K x f a d A):=
 EqH.tail (j6 wf hn hp hx) fun _ _ _ _ h=>⟨rfl,h⟩
theorem EqH.same{Q:Int→Int→Int→List Nd→Prop}{r:PR (aA [tI])}{r':PR Int}(h:EqH iI Q r r'):EqH iI Q (r.bind fun y a d A=>.ok (y.1,()) a d A) r':=EqH.tail h fun _ _ _ _ h=>⟨rfl,h⟩
theorem aS{k:Int}{l:List Int}{s:Str}(h:l.length≤20000):Small (nod k l s):=⟨h,Nat.zero_le _⟩
theorem gk{k v:Int}{s:Str}:Small (eu k v s):=⟨Nat.zero_le _,Nat.zero_le _⟩
theorem dt{x:Nd}(hx:Small x){k:Int}{l:List Int}{s:Str}(h:l.length≤20000):Small (bL x k l s):=⟨h,hx.2⟩
theorem fX(wf:WF T K)(hK:KEq T K m)(hn:40*m+5≤n)(hm:2*((K.length:Int)-a)≤m)(hi:Inv K a d A):EqH iI (QI K a d A 2) ((fns n).bracket T K a d A ()) (dO T K (kns T K m) a d A):=by
 obtain⟨n,rfl,hn'⟩:=bg (k:=40*m+4) hn
 show EqH iI _ (uk (fns n) T K a d A) _
 unfold uk dO Pm.bind
 refine EqH.bind (bK wf (n:=n) (by omega) hi.a0 hi.a1) ?_
 rintro _ _ _ _ ⟨rfl,rfl,hlt,rfl,rfl⟩
 refine EqH.bind (hK.val n _ _ _ (by omega) (by omega) (hi.step hlt)) ?_
 rintro x a1 d1 A1 ⟨hx,hp⟩
 refine EqH.bind (bK wf (n:=n) (by omega) hp.inv.a0 hp.inv.a1) ?_
 rintro _ _ _ _ ⟨rfl,rfl,hlt2,rfl,rfl⟩
 exact⟨rfl,hx,(hp.up (a:=a) (c:=1) (by omega)).step hlt2⟩
theorem gz{l:List Int}(h:l.length≤20000)(x:Int):decide (l.length+[x].length<aq)=true:=decide_eq_true (by
 unfold aq
 show l.length+1<2^36
 omega)
theorem Cb(wf:WF T K)(hK:KEq T K m)(hn:40*m+5≤n+1):∀(N:Nat) (a d:Int) (A:List Nd) (L:List Int),(K.length:Int)-a+1≤N→2*((K.length:Int)-a)+2≤m→Inv K a d A→L.length≤64→
  EqH iL (QL K a d A 1) (rL (fns n) T K N a d A L) (oH T K (kns T K m) N L a d A)
 |0,a,d,A,L,hN,hm,hi,hL=>by have:=hi.a1;omega
 |N+1,a,d,A,L,hN,hm,hi,hL=>by
  show EqH iL _ (yR (fns n) T K (rL (fns n) T K N) a d A L) _
  unfold yR oH Pm.bind
  refine EqH.bind (fa wf (n:=n) (by omega) hi.a0 hi.a1) ?_
  rintro b _ _ _ ⟨hb,rfl,rfl⟩
  rcases hb with⟨rfl,rfl,hlt⟩|⟨rfl,rfl⟩
  ·exact⟨rfl,hL,⟨hi.step hlt,by omega,rfl,[],by simp⟩⟩
  ·have hl1:IntKind.wrap .i64 ((L.length:Int)+1)=(L.length:Int)+1:=wf_wrap wf (by omega) (by omega)
   have go:∀(a1:Int),a≤a1→a1<K.length→EqH iL (QL K a d A 1) (((fns n).few T K a1 d A (IntKind.wrap .i64 ((L.length:Int)+1),())).bind fun _ a16 d16 A16=>((fns n).value T K a16 d16 A16 ()).bind fun y20 a20 d20 A20=>bif decide (L.length+[y20.1].length<aq)then rL (fns n) T K N a20 d20 A20 (L++([y20.1]:List Int))else .bad)
     ((gG K ((L.length:Int)+1)).bind (fun _=>(kns T K m).val.bind fun x=>oH T K (kns T K m) N (L++[x])) a1 d A):=fun a1 g0 g1=>by
    have hi1:Inv K a1 d A:=hi.at (by have:=hi.a0;omega) g1
    rw[hl1]
    unfold Pm.bind
    refine EqH.bind (CH wf (n:=n) (by omega) hi1.a0 hi1.a1) ?_
    rintro _ _ _ _ ⟨rfl,rfl,rfl,h64⟩
    refine EqH.bind (hK.val n _ _ _ (by omega) (by omega) hi1) ?_
    rintro x a2 d2 A2 ⟨hx,hp⟩
    have hle:=hp.le
    show EqH iL _ (bif decide (L.length+[x].length<aq)then _ else _) _
    rw[gz (by omega)]
    have ih:=Cb wf hK hn N a2 d2 A2 (L++[x]) (by omega) (by omega) hp.inv (by rw[List.length_append,List.length_singleton];omega)
    exact EqH.mono ih fun y a' d' A' h=>⟨h.1,(hp.up (a:=a) (c:=0) (by omega)).trans h.2 (by omega)⟩
   show EqH iL _ (bif decide ((L.length:Int)>0)then _ else _) (PR.bind ((bif decide ((L.length:Int)>0)then(aM T K [44]).bind fun _=>.ret ()else .ret ():Pm Unit) a d A) _)
   cases decide ((L.length:Int)>0)with
   |false=>exact go a (Int.le_refl _) hi.a1
   |true=>
    show EqH iL _ (PR.bind ((fns n).want T K a d A ([44],())) _) (PR.bind (PR.bind (aM T K [44] a d A) _) _)
    have hw:=bK wf (n:=n) (a:=a) (d:=d) (A:=A) (s:=[44]) (by omega) hi.a0 hi.a1
    cases e:aM T K [44] a d A with
    |bad=>rw[e]at hw;exact hw.elim
    |fault c p=>
     rw[e]at hw
     have hw:(fns n).want T K a d A ([44],())= .fault c p:=hw
     rw[hw]
     exact EqH.flt
    |ok y a1 d1 A1=>
     rw[e]at hw
     obtain⟨e1,rfl,rfl,hlt,rfl,rfl⟩:=hw
     rw[e1]
     exact go (a+1) (by omega) hlt
theorem zL(wf:WF T K)(hK:KEq T K m)(hn:40*m+6≤n)(hm:2*((K.length:Int)-a)≤m)(hi:Inv K a d A):EqH iL (QL K a d A 2) ((fns n).args T K a d A ()) (uC T K (kns T K m) a d A):=by
 obtain⟨n,rfl,hn'⟩:=bg (k:=40*m+5) hn
 show EqH iL _ (xm (fns n) T K (rL (fns n) T K (K.length+2)) a d A) _
 unfold xm uC Pm.bind
 refine EqH.bind (bK wf (n:=n) (by omega) hi.a0 hi.a1) ?_
 rintro _ _ _ _ ⟨rfl,rfl,hlt,rfl,rfl⟩
 have:=hi.a0
 exact EqH.mono (Cb wf hK (by omega) (K.length+2) (a+1) d A [] (by omega) (by omega) (hi.step hlt) (by simp)) fun y a' d' A' h=>⟨h.1,h.2.up (by omega)⟩
theorem zb(wf:WF T K)(hn:2≤n)(hi:Inv K a d A)(hk:ai (aa K a)≠0){x:Nd}(hx:Small x){e:Int}:EqH iI (QI K a d A 1) ((fns n).literal T K a d A (x,e,())) (oP T K x e a d A):=by
 obtain⟨n,rfl,hn'⟩:=bg (k:=1) hn
 show EqH iI _ (va (fns n) T K a d A x e) _
 unfold va oP Pm.bind
 refine EqH.bind (cw wf (n:=n) (by omega) hi.a0 hi.a1) ?_
 rintro _ _ _ _ ⟨rfl,rfl,rfl,rfl⟩
 show EqH iI _ (bif e !=0 then _ else _) ((bif e !=0 then _ else _:Pm Int) a d A)
 cases e !=0 with
 |true=>exact EqH.flt
 |false=>
  refine EqH.bind (dh wf (n:=n) (by omega) hi.a0 hi.a1 hk) ?_
  rintro _ _ _ _ ⟨rfl,rfl,rfl,rfl⟩
  exact cu wf hn' ((Post.refl hi).step (cY wf hi.a0 hi.a1 hk)) hx
end
end Go.Sx.Tryz
