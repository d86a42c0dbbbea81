/- A part of the proof: see the row's text. -/
import Derived.Test.YtaklpoiaicepoaaGreatDoorZa19
import Derived.Test.YtaklpoiaicepoaaGreatDoorZa18
set_option linter.unusedVariables false
set_option linter.unusedSimpArgs false
noncomputable section
namespace Go.Sx.Tryz
open Go Go.Sx
set_option maxRecDepth 100000
section
variable{T:List UInt8}{K:List Tok}{n m:Nat}{a d:Int}{A:List Nd}
theorem PE(wf:WF T K)(hK:KEq T K m)(hn:40*m+7≤n)(hm:2*((K.length:Int)-a)≤m)(hi:Inv K a d A):EqH iN (QN K a d A 1) ((fns n).made T K a d A ()) (BT T K (kns T K m) a d A):=by
 obtain⟨n,rfl,hn'⟩:=bb (k:=40*m+6) hn
 show EqH iN _ (tG (fns n) T K a d A) _
 unfold tG BT Pm.bind
 refine EqH.bind (wU wf (n:=n) (by omega) hi.a0 hi.a1) ?_
 rintro x a1 _ _ ⟨hx,⟨g1,g2⟩,rfl,rfl⟩
 have hi1:Inv K a1 d A:=hi.at (by have:=hi.a0;omega) g2
 have hp1:Post K a d A 1 a1 d A:=⟨hi1,g1,rfl,[],by simp⟩
 refine EqH.bind (sN wf (n:=n) (by omega) hi1.a0 hi1.a1) ?_
 rintro b _ _ _ ⟨_,rfl,rfl,rfl⟩
 show EqH iN _ (bif b then _ else _) ((bif b then _ else _:Pm Nd) a1 d A)
 cases b with
 |true=>
  have hmk:=hx.mks
  have hd1:=hx.d1
  have e1:(decide (UInt8.toNat 32<128)&&Nat.ble (List.length (af x)) 9223372036854775807)=true:=by
   rw[show decide (UInt8.toNat 32<128)=true from rfl,Bool.true_and]
   exact Nat.ble_eq_true_of_le (by omega)
  show EqH iN _ (bif ak x !=5 then _ else bif decide (ah x>0)then _ else bif (decide (UInt8.toNat 32<128)&&Nat.ble (List.length (af x)) 9223372036854775807)then bif !Lib.trimB (af x) 32==[]then _ else _ else _)
   ((bif ak x !=5||(decide (ah x>0)|| !Lib.trimB (af x) 32==[])then _ else _:Pm Nd) a1 d A)
  rw[e1]
  cases ak x !=5 with
  |true=>exact EqH.flt
  |false=>
   cases decide (ah x>0)with
   |true=>exact EqH.flt
   |false=>
    cases !Lib.trimB (af x) 32==[]with
    |true=>exact EqH.flt
    |false=>
     refine EqH.bind (AL wf hK (n:=n) (by omega) (by omega) hi1) ?_
     rintro l a2 d2 A2 ⟨hl,hp⟩
     exact⟨rfl,dw hx.small (by omega),hp1.trans hp (by omega)⟩
 |false=>
  refine EqH.bind (bH wf (n:=n) (by omega) hi1.a0 hi1.a1) ?_
  rintro _ _ _ _ ⟨rfl,rfl,hlt,rfl,rfl⟩
  refine EqH.bind (hK.val n _ _ _ (by omega) (by omega) (hi1.step hlt)) ?_
  rintro y a2 d2 A2 ⟨hy,hp⟩
  refine EqH.bind (bH wf (n:=n) (by omega) hp.inv.a0 hp.inv.a1) ?_
  rintro _ _ _ _ ⟨rfl,rfl,hlt2,rfl,rfl⟩
  exact⟨rfl,dw hx.small (by simp),((hp1.step hlt).trans (hp.step hlt2) (by omega))⟩
theorem Qv(wf:WF T K)(hK:KEq T K m)(hn:40*m+8≤n)(hm:2*((K.length:Int)-a)≤m)(hi:Inv K a d A)(hk:an (ab K a)≠0)(t:Tok)(s:Str):EqH iI (QI K a d A 1) ((fns n).kept T K a d A (t,s,())) (B4 T K (kns T K m) t s a d A):=by
 obtain⟨n,rfl,hn'⟩:=bb (k:=40*m+7) hn
 have hlt:=c8 wf hi.a0 hi.a1 hk
 have hi1:=hi.step hlt
 have hp1:Post K a d A 1 (a+1) d A:=(Post.refl hi).step hlt
 have hlit:∀(k v:Int),EqH iI (QI K a d A 1) (((fns n).literal T K a d A (eA k v [],0,())).bind fun y a d A=>.ok (y.1,()) a d A) (n8 T K (eA k v []) 0 a d A):=fun k v=>(yS wf (n:=n) (by omega) hi hk gf).same
 have hW:∀b1 b2 b3:Bool,EqH iI (QI K a d A 1) (((fns n).skip T K a d A ()).bind fun _ a8 d8 A8=>((fns n).bracket T K a8 d8 A8 ()).bind fun y12 a12 d12 A12=>
   bif b1 then((fns n).add T K a12 d12 A12 (nod 39 [y12.1] [],aa t,())).bind fun y a d A=>.ok (y.1,()) a d A
   else bif b2 then((fns n).add T K a12 d12 A12 (nod 36 [y12.1] [],aa t,())).bind fun y a d A=>.ok (y.1,()) a d A
   else bif b3 then((fns n).add T K a12 d12 A12 (nod 37 [y12.1] [],aa t,())).bind fun y a d A=>.ok (y.1,()) a d A
   else((fns n).add T K a12 d12 A12 (nod 41 [y12.1] [],aa t,())).bind fun y a d A=>.ok (y.1,()) a d A)
   ((aW K).bind (fun _=>(dM T K (kns T K m)).bind fun x=>bP K (nod (bif b1 then 39 else bif b2 then 36 else bif b3 then 37 else 41) [x] []) (aa t)) a d A):=fun b1 b2 b3=>by
  unfold Pm.bind
  refine EqH.bind (df wf (n:=n) (by omega) hi.a0 hi.a1 hk) ?_
  rintro _ _ _ _ ⟨rfl,rfl,rfl,rfl⟩
  refine EqH.bind (fO wf hK (n:=n) (by omega) (by omega) hi1) ?_
  rintro x a2 d2 A2 ⟨hx,hp⟩
  have hp2:=hp1.trans (c:=1) hp (by omega)
  cases b1 with
  |true=>exact cv wf (by omega) hp2 (aR (by simp))
  |false=>
   cases b2 with
   |true=>exact cv wf (by omega) hp2 (aR (by simp))
   |false=>
    cases b3 with
    |true=>exact cv wf (by omega) hp2 (aR (by simp))
    |false=>exact cv wf (by omega) hp2 (aR (by simp))
 show EqH iI _ (uO (fns n) T K a d A t s) _
 unfold uO B4
 cases s==[116,114,117,101]with
 |true=>exact hlit 21 1
 |false=>
 cases s==[102,97,108,115,101]with
 |true=>exact hlit 21 0
 |false=>
 cases s==[110,117,108,108]with
 |true=>exact hlit 23 0
 |false=>
 cases s==[110,111,110,101]with
 |true=>exact hlit 42 0
 |false=>
 cases s==[116,104,105,115]with
 |true=>exact hlit 24 0
 |false=>
 cases s==[105,110,112,117,116]with
 |true=>
  show EqH iI _ _ (Pm.bind (aW K) _ a d A)
  unfold Pm.bind
  refine EqH.bind (df wf (n:=n) (by omega) hi.a0 hi.a1 hk) ?_
  rintro _ _ _ _ ⟨rfl,rfl,rfl,rfl⟩
  refine EqH.bind (bH wf (n:=n) (by omega) hi1.a0 hi1.a1) ?_
  rintro _ _ _ _ ⟨rfl,rfl,hlt2,rfl,rfl⟩
  refine EqH.bind (bH wf (n:=n) (by omega) (by have:=hi1.a0;omega) hlt2) ?_
  rintro _ _ _ _ ⟨rfl,rfl,hlt3,rfl,rfl⟩
  exact cv wf (by omega) (((hp1.step hlt2).step hlt3).up (by omega)) (aR (by simp))
 |false=>
 unfold isWrap oT
 cases s==[115,111,109,101]with
 |true=>exact hW _ _ _
 |false=>
 cases s==[97,115,107]with
 |true=>exact hW true _ _
 |false=>
 cases s==[116,111,105,110,116]with
 |true=>exact hW false true _
 |false=>
 cases s==[116,111,100,111,117,98,108,101]with
 |true=>exact hW false false true
 |false=>
 cases s==[99,97,115,116]with
 |true=>
  show EqH iI _ _ (Pm.bind (aW K) _ a d A)
  unfold Pm.bind
  refine EqH.bind (df wf (n:=n) (by omega) hi.a0 hi.a1 hk) ?_
  rintro _ _ _ _ ⟨rfl,rfl,rfl,rfl⟩
  refine EqH.bind (bH wf (n:=n) (by omega) hi1.a0 hi1.a1) ?_
  rintro _ _ _ _ ⟨rfl,rfl,hlt2,rfl,rfl⟩
  refine EqH.bind (ql wf (n:=n) (by omega) (by have:=hi1.a0;omega) hlt2 false) ?_
  rintro x a3 _ _ ⟨hx,⟨g1,g2⟩,rfl,rfl⟩
  have h0:=hi.a0
  refine EqH.bind (bH wf (n:=n) (by omega) (by omega) g2) ?_
  rintro _ _ _ _ ⟨rfl,rfl,hlt4,rfl,rfl⟩
  refine EqH.bind (fO wf hK (n:=n) (by omega) (by omega) (hi.at (by omega) hlt4)) ?_
  rintro y a5 d5 A5 ⟨hy,hp⟩
  exact cv wf (by omega) (hp.up (by omega)) (dw hx.small (by simp))
 |false=>
 cases s==[110,101,119]with
 |true=>
  show EqH iI _ _ (Pm.bind (aW K) _ a d A)
  unfold Pm.bind
  refine EqH.bind (df wf (n:=n) (by omega) hi.a0 hi.a1 hk) ?_
  rintro _ _ _ _ ⟨rfl,rfl,rfl,rfl⟩
  refine EqH.bind (PE wf hK (n:=n) (by omega) (by omega) hi1) ?_
  rintro x a3 d3 A3 ⟨hx,hp⟩
  exact cv wf (by omega) (hp.up (by omega)) hx
 |false=>exact EqH.flt
theorem DV(wf:WF T K)(hK:KEq T K m)(hn:40*m+9≤n)(hm:2*((K.length:Int)-a)≤m)(hi:Inv K a d A):EqH iI (QI K a d A 1) ((fns n).primary T K a d A ()) (mH T K (kns T K m) a d A):=by
 obtain⟨n,rfl,hn'⟩:=bb (k:=40*m+8) hn
 show EqH iI _ (tV (fns n) T K a d A) _
 unfold tV mH Pm.bind
 refine EqH.bind (cx wf (n:=n) (by omega) hi.a0 hi.a1) ?_
 rintro _ _ _ _ ⟨rfl,rfl,rfl,rfl⟩
 have kne:∀k:Int,k≠0→(an (ab K a)==k)=true→an (ab K a)≠0:=fun k h e e2=>by
  rw[e2]at e
  have e3:(0:Int)=k:=by simpa using e
  exact h e3.symm
 show EqH iI _ (bif an (ab K a)==2 then bif lv (say T (ab K a),())then _ else _ else bif an (ab K a)==3 then bif lv (say T (ab K a),())then _ else _ else bif an (ab K a)==4 then bif lv (say T (ab K a),())then _ else _ else
  bif an (ab K a)==5 then bif say T (ab K a)==[40]then _ else _ else bif an (ab K a)==1 then bif dT (say T (ab K a),())then bif ca (say T (ab K a))then _ else _ else _ else _)
  ((bif an (ab K a)==2 then _ else bif an (ab K a)==3 then _ else bif an (ab K a)==4 then _ else bif an (ab K a)==5 then(bif say T (ab K a)==[40]then _ else _)else bif an (ab K a)==1 then(bif ca (say T (ab K a))then _ else _)else _:Pm Int) a d A)
 rw[j3 wf kC,Jc wf kC]
 cases h2:an (ab K a)==2 with
 |true=>exact(yS wf (n:=n) (by omega) hi (kne 2 (by decide) h2) gf).same
 |false=>
 cases h3:an (ab K a)==3 with
 |true=>exact(yS wf (n:=n) (by omega) hi (kne 3 (by decide) h3) gf).same
 |false=>
 cases h4:an (ab K a)==4 with
 |true=>exact(yS wf (n:=n) (by omega) hi (kne 4 (by decide) h4) gf).same
 |false=>
 cases h5:an (ab K a)==5 with
 |true=>
  cases say T (ab K a)==[40]with
  |true=>exact(EqH.mono (fO wf hK (n:=n) (by omega) hm hi) fun _ _ _ _ h=>⟨h.1,h.2.up (by omega)⟩).same
  |false=>exact EqH.flt
 |false=>
 cases h1:an (ab K a)==1 with
 |true=>
  have hk:=kne 1 (by decide) h1
  cases ca (say T (ab K a))with
  |true=>exact(yS wf (n:=n) (by omega) hi hk gf).same
  |false=>exact(Qv wf hK (n:=n) (by omega) hm hi hk _ _).same
 |false=>exact EqH.flt
end
end Go.Sx.Tryz
namespace Go.Sx.Tryz
open Go Go.Sx
set_option maxRecDepth 100000
section
variable{T:List UInt8}{K:List Tok}{n m:Nat}{a d:Int}{A:List Nd}
theorem Oz(wf:WF T K)(hK:KEq T K m)(hn:40*m+7≤n)(hm:2*((K.length:Int)-a)≤m)(hi:Inv K a d A)(x f:Int):EqH iI (QI K a d A 0) ((fns n).part T K a d A (x,f,())) (Bx T K (kns T K m) x f a d A):=by
 obtain⟨n,rfl,hn'⟩:=bb (k:=40*m+6) hn
 show EqH iI _ (uh (fns n) T K a d A x f) _
 unfold uh Bx Pm.bind
 refine EqH.bind (fa wf (n:=n) (by omega) hi.a0 hi.a1) ?_
 rintro b _ _ _ ⟨hb,rfl,rfl⟩
 rcases hb with⟨rfl,rfl,hlt⟩|⟨rfl,rfl⟩
 ·exact cv wf (by omega) (((Post.refl hi).step hlt).up (by omega)) (aR (by simp))
 refine EqH.bind (fa wf (n:=n) (by omega) hi.a0 hi.a1) ?_
 rintro b _ _ _ ⟨hb,rfl,rfl⟩
 rcases hb with⟨rfl,rfl,hlt⟩|⟨rfl,rfl⟩
 ·exact cv wf (by omega) (((Post.refl hi).step hlt).up (by omega)) (aR (by simp))
 refine EqH.bind (oO wf (n:=n) (by omega) hi.a0 hi.a1) ?_
 rintro s _ _ _ ⟨hs,rfl,hlt,rfl,rfl⟩
 have hi1:=hi.step hlt
 have hp1:Post K a d A 1 (a+1) d A:=(Post.refl hi).step hlt
 refine EqH.bind (sN wf (n:=n) (by omega) hi1.a0 hi1.a1) ?_
 rintro b _ _ _ ⟨_,rfl,rfl,rfl⟩
 cases b with
 |true=>
  refine EqH.bind (AL wf hK (n:=n) (by omega) (by omega) hi1) ?_
  rintro l a2 d2 A2 ⟨hl,hp⟩
  have e:decide ([x].length+l.length<al)=true:=decide_eq_true (by
   unfold al
   show 1+l.length<2^36
   omega)
  show EqH iI _ (bif decide ([x].length+l.length<al)then _ else _) _
  rw[e]
  exact cv wf (by omega) ((hp1.trans hp (c:=0) (by omega))) (aR (by simp;omega))
 |false=>exact cv wf (by omega) (hp1.up (by omega)) (aR (by simp))
theorem va(wf:WF T K)(hK:KEq T K m)(hn:40*m+7≤n)(k f t:Int):∀(N:Nat) (a d:Int) (A:List Nd) (x:Int),(K.length:Int)-a+1≤N→2*((K.length:Int)-a)≤m→Inv K a d A→(0≤x∧x<A.length)→
  EqH iI (QI K a d A 0) (su (fns n) T K N a d A k f t x) (fp T K (kns T K m) f N x a d A)
 |0,a,d,A,x,hN,hm,hi,hx=>by have:=hi.a1;omega
 |N+1,a,d,A,x,hN,hm,hi,hx=>by
  show EqH iI _ (xf (fns n) T K (su (fns n) T K N) a d A k f t x) _
  unfold xf fp Pm.bind
  have again:∀{a2 d2:Int} {A2:List Nd} {y:Int},QI K a d A 1 y a2 d2 A2→EqH iI (QI K a d A 0) (su (fns n) T K N a2 d2 A2 k f t y) (fp T K (kns T K m) f N y a2 d2 A2):=fun{a2 d2 A2 y} h=>by
   have hle:=h.2.le
   exact EqH.mono (va wf hK hn k f t N a2 d2 A2 y (by omega) (by omega) h.2.inv h.1) fun _ _ _ _ g=>⟨g.1,h.2.trans g.2 (by omega)⟩
  refine EqH.bind (fa wf (n:=n) (by omega) hi.a0 hi.a1) ?_
  rintro b _ _ _ ⟨hb,rfl,rfl⟩
  rcases hb with⟨rfl,rfl,hlt⟩|⟨rfl,rfl⟩
  ·refine EqH.bind (jW wf (n:=n) (by omega) ((Post.refl hi).step hlt) (aR (by simp))) ?_
   rintro y a2 d2 A2 h
   exact again h
  refine EqH.bind (fa wf (n:=n) (by omega) hi.a0 hi.a1) ?_
  rintro b _ _ _ ⟨hb,rfl,rfl⟩
  rcases hb with⟨rfl,rfl,hlt⟩|⟨rfl,rfl⟩
  ·refine EqH.bind (hK.val n _ _ _ (by omega) (by omega) (hi.step hlt)) ?_
   rintro y a2 d2 A2 ⟨hy,hp⟩
   refine EqH.bind (bH wf (n:=n) (by omega) hp.inv.a0 hp.inv.a1) ?_
   rintro _ _ _ _ ⟨rfl,rfl,hlt2,rfl,rfl⟩
   refine EqH.bind (jW wf (n:=n) (by omega) (((hp.step hlt2).up (a:=a) (c:=1) (by omega))) (aR (by simp))) ?_
   rintro y a2 d2 A2 h
   exact again h
  refine EqH.bind (fa wf (n:=n) (by omega) hi.a0 hi.a1) ?_
  rintro b _ _ _ ⟨hb,rfl,rfl⟩
  rcases hb with⟨rfl,rfl,hlt⟩|⟨rfl,rfl⟩
  ·refine EqH.bind (Oz wf hK (n:=n) (by omega) (by omega) (hi.step hlt) x f) ?_
   rintro y a2 d2 A2 ⟨hy,hp⟩
   exact again ⟨hy,hp.up (by omega)⟩
  exact⟨rfl,hx,Post.refl hi⟩
theorem IJ(wf:WF T K)(hK:KEq T K m)(hn:40*m+10≤n)(hm:2*((K.length:Int)-a)≤m)(hi:Inv K a d A):EqH iI (QI K a d A 1) ((fns n).behind T K a d A ()) (mU T K (kns T K m) a d A):=by
 obtain⟨n,rfl,hn'⟩:=bb (k:=40*m+9) hn
 show EqH iI _ (xA (fns n) T K (su (fns n) T K (K.length+2)) a d A) _
 unfold xA mU Pm.bind
 refine EqH.bind (cx wf (n:=n) (by omega) hi.a0 hi.a1) ?_
 rintro _ _ _ _ ⟨rfl,rfl,rfl,rfl⟩
 refine EqH.bind (DV wf hK (n:=n) (by omega) hm hi) ?_
 rintro x a2 d2 A2 ⟨hx,hp⟩
 have:=hp.inv.a0
 have hle:=hp.le
 exact EqH.mono (va wf hK (n:=n) (by omega) _ _ _ (K.length+2) a2 d2 A2 x (by omega) (by omega) hp.inv hx) fun _ _ _ _ g=>⟨g.1,hp.trans g.2 (by omega)⟩
theorem EN(wf:WF T K)(hK:KEq T K m)(hn:40*m+12≤n)(hm:2*((K.length:Int)-a)≤m)(hi:Inv K a d A):EqH iI (QI K a d A 1) ((fns n).unary T K a d A ()) (vS T K (kns T K m) a d A):=by
 obtain⟨n,rfl,hn'⟩:=bb (k:=40*m+11) hn
 show EqH iI _ (ua (fns n) T K a d A) _
 unfold ua vS Pm.bind
 refine EqH.bind (cx wf (n:=n) (by omega) hi.a0 hi.a1) ?_
 rintro _ _ _ _ ⟨rfl,rfl,rfl,rfl⟩
 dsimp only[iTS]
 have hB:EqH iI (QI K a d A 1) (((fns n).behind T K a d A ()).bind fun y a d A=>.ok (y.1,()) a d A) (mU T K (kns T K m) a d A):=(IJ wf hK (n:=n) (by omega) hm hi).same
 show EqH iI _ (bif an (ab K a) !=5 then _ else bif !say T (ab K a)==[33]then bif !say T (ab K a)==[45]then _ else _ else _) ((bif an (ab K a)==5&&(say T (ab K a)==[33]||say T (ab K a)==[45])then _ else _:Pm Int) a d A)
 cases h5:an (ab K a)==5 with
 |false=>
  rw[show(an (ab K a) !=5)=true by simp[bne,h5]]
  exact hB
 |true=>
  rw[show(an (ab K a) !=5)=false by simp[bne,h5]]
  have hk:an (ab K a)≠0:=fun e=>by rw[e]at h5;exact absurd h5 (by decide)
  have hlt:=c8 wf hi.a0 hi.a1 hk
  have go:∀b b':Bool,b=b'→EqH iI (QI K a d A 1) (((fns n).goIn T K a d A ()).bind fun _ a10 d10 A10=>((fns n).skip T K a10 d10 A10 ()).bind fun _ a14 d14 A14=>((fns n).unary T K a14 d14 A14 ()).bind fun y18 a18 d18 A18=>
    bif b then((fns n).add T K a18 (IntKind.wrap .i64 (d18-1)) A18 (nod 32 [y18.1] [],aa (ab K a),())).bind fun y a d A=>.ok (y.1,()) a d A
    else((fns n).add T K a18 (IntKind.wrap .i64 (d18-1)) A18 (nod 33 [y18.1] [],aa (ab K a),())).bind fun y a d A=>.ok (y.1,()) a d A)
    ((fE K).bind (fun _=>(aW K).bind fun _=>(kns T K m).un.bind fun x=>rP.bind fun _=>bP K (nod (bif b' then 32 else 33) [x] []) (aa (ab K a))) a d A):=fun b b' hbb=>by
   subst hbb
   unfold Pm.bind
   refine EqH.bind (Ab wf (n:=n) (by omega) hi.a0 hi.a1 hi.d0 hi.d1) ?_
   rintro _ _ _ _ ⟨rfl,rfl,hd,rfl⟩
   refine EqH.bind (df wf (n:=n) (by omega) hi.a0 hi.a1 hk) ?_
   rintro _ _ _ _ ⟨rfl,rfl,rfl,rfl⟩
   have hi1:Inv K (a+1) (d+1) A:=⟨by have:=hi.a0;omega,hlt,by have:=hi.d0;omega,hd,hi.len,hi.nd⟩
   refine EqH.bind (hK.un n _ _ _ (by omega) (by omega) hi1) ?_
   rintro x a2 d2 A2 ⟨hx,hp⟩
   have hd2:=hp.eq
   have hd0:=hi.d0
   have hw:IntKind.wrap .i64 (d2-1)=d:=by rw[wf_wrap wf (by omega) (by omega)];omega
   have hp2:Post K a d A 1 a2 d A2:=⟨⟨hp.inv.a0,hp.inv.a1,hi.d0,hi.d1,hp.inv.len,hp.inv.nd⟩,by have:=hp.le;omega,rfl,hp.pre⟩
   have hd3:d2-1=d:=by omega
   show EqH iI _ (bif b then((fns n).add T K a2 (IntKind.wrap .i64 (d2-1)) A2 (nod 32 [x] [],aa (ab K a),())).bind _ else((fns n).add T K a2 (IntKind.wrap .i64 (d2-1)) A2 (nod 33 [x] [],aa (ab K a),())).bind _) (bP K (nod (bif b then 32 else 33) [x] []) (aa (ab K a)) a2 (d2-1) A2)
   rw[hw,hd3]
   cases b with
   |true=>exact cv wf (by omega) hp2 (aR (by simp))
   |false=>exact cv wf (by omega) hp2 (aR (by simp))
  cases h33:say T (ab K a)==[33]with
  |true=>exact go _ _ rfl
  |false=>
   cases h45:say T (ab K a)==[45]with
   |true=>exact go _ true h45
   |false=>exact hB
end
end Go.Sx.Tryz
namespace Go.Sx.Tryz
open Go Go.Sx
set_option maxRecDepth 100000
section
variable{T:List UInt8}{K:List Tok}{n m:Nat}{a d:Int}{A:List Nd}
theorem yd(wf:WF T K)(hn:3≤n)(l k f t:Int){sub:Pm Int}(hl:IntKind.wrap .i64 (l+1)=l+1)(hsub:∀a d A,2*((K.length:Int)-a)+1≤m→Inv K a d A→EqH iI (QI K a d A 1) ((fns n).chain T K a d A (l+1,())) (sub a d A)):
  ∀(N:Nat) (a d:Int) (A:List Nd) (x:Int),(K.length:Int)-a+1≤N→2*((K.length:Int)-a)+1≤m→Inv K a d A→(0≤x∧x<A.length)→EqH iI (QI K a d A 0) (mJ (fns n) T K N a d A l k f t x) (ff T K l f sub N x a d A)
 |0,a,d,A,x,hN,hm,hi,hx=>by have:=hi.a1;omega
 |N+1,a,d,A,x,hN,hm,hi,hx=>by
  show EqH iI _ (xx (fns n) T K (mJ (fns n) T K N) a d A l k f t x) _
  unfold xx ff Pm.bind
  have again:∀{a2 d2:Int} {A2:List Nd} {y:Int},QI K a d A 1 y a2 d2 A2→EqH iI (QI K a d A 0) (mJ (fns n) T K N a2 d2 A2 l k f t y) (ff T K l f sub N y a2 d2 A2):=fun{a2 d2 A2 y} h=>by
   have hle:=h.2.le
   exact EqH.mono (yd wf hn l k f t hl hsub N a2 d2 A2 y (by omega) (by omega) h.2.inv h.1) fun _ _ _ _ g=>⟨g.1,h.2.trans g.2 (by omega)⟩
  have done:EqH iI (QI K a d A 0) (.ok (x,()) a d A) ((Pm.ret x:Pm Int) a d A):=⟨rfl,hx,Post.refl hi⟩
  have hE:EqH iI (QI K a d A 0) (bif l==3 then((fns n).take T K a d A ([105,115],())).bind fun y16 a16 d16 A16=>bif y16.1 then
     ((fns n).take T K a16 d16 A16 ([115,111,109,101],())).bind fun y20 a20 d20 A20=>bif !y20.1 then
      ((fns n).want T K a20 d20 A20 ([110,111,110,101],())).bind fun _ a24 d24 A24=>((fns n).add T K a24 d24 A24 (nod 44 [x] [],f,())).bind fun y28 a28 d28 A28=>mJ (fns n) T K N a28 d28 A28 l k f t y28.1
     else((fns n).add T K a20 d20 A20 (nod 43 [x] [],f,())).bind fun y24 a24 d24 A24=>mJ (fns n) T K N a24 d24 A24 l k f t y24.1
    else .ok (x,()) a16 d16 A16
   else .ok (x,()) a d A)
   ((bif l==3 then((bR T K [105,115]).bind fun b=>bif b then
    ((bR T K [115,111,109,101]).bind fun b=>bif b then(bP K (nod 43 [x] []) f).bind fun z=>ff T K l f sub N z
     else(aJ T K [110,111,110,101]).bind fun _=>(bP K (nod 44 [x] []) f).bind fun z=>ff T K l f sub N z)
    else .ret x)else .ret x:Pm Int) a d A):=by
   cases l==3 with
   |false=>exact done
   |true=>
    show EqH iI _ _ (Pm.bind (bR T K [105,115]) _ a d A)
    unfold Pm.bind
    refine EqH.bind (fa wf (n:=n) (by omega) hi.a0 hi.a1) ?_
    rintro b _ _ _ ⟨hb,rfl,rfl⟩
    rcases hb with⟨rfl,rfl,hlt⟩|⟨rfl,rfl⟩
    ·have hp1:Post K a d A 1 (a+1) d A:=(Post.refl hi).step hlt
     show EqH iI _ _ (Pm.bind (bR T K [115,111,109,101]) _ (a+1) d A)
     unfold Pm.bind
     refine EqH.bind (fa wf (n:=n) (by omega) hp1.inv.a0 hp1.inv.a1) ?_
     rintro b _ _ _ ⟨hb,rfl,rfl⟩
     rcases hb with⟨rfl,rfl,hlt2⟩|⟨rfl,rfl⟩
     ·refine EqH.bind (jW wf (n:=n) (by omega) ((hp1.step hlt2).up (a:=a) (c:=1) (by omega)) (aR (by simp))) ?_
      rintro y a2 d2 A2 h
      exact again h
     ·refine EqH.bind (bH wf (n:=n) (by omega) hp1.inv.a0 hp1.inv.a1) ?_
      rintro _ _ _ _ ⟨rfl,rfl,hlt3,rfl,rfl⟩
      refine EqH.bind (jW wf (n:=n) (by omega) ((hp1.step hlt3).up (a:=a) (c:=1) (by omega)) (aR (by simp))) ?_
      rintro y a2 d2 A2 h
      exact again h
    ·exact done
  refine EqH.bind (cx wf (n:=n) (by omega) hi.a0 hi.a1) ?_
  rintro _ _ _ _ ⟨rfl,rfl,rfl,rfl⟩
  show EqH iI _ (bif an (ab K a)==5 then bif hZ (say T (ab K a))==l then _ else _ else _) ((bif an (ab K a)==5&&hZ (say T (ab K a))==l then _ else _:Pm Int) a d A)
  cases h5:an (ab K a)==5 with
  |false=>exact hE
  |true=>
   cases hZ (say T (ab K a))==l with
   |false=>exact hE
   |true=>
    have hk:an (ab K a)≠0:=fun e=>by rw[e]at h5;exact absurd h5 (by decide)
    have hlt:=c8 wf hi.a0 hi.a1 hk
    refine EqH.bind (df wf (n:=n) (by omega) hi.a0 hi.a1 hk) ?_
    rintro _ _ _ _ ⟨rfl,rfl,rfl,rfl⟩
    show EqH iI _ (PR.bind ((fns n).chain T K (a+1) d A (IntKind.wrap .i64 (l+1),())) _) _
    rw[hl]
    refine EqH.bind (hsub _ _ _ (by omega) (hi.step hlt)) ?_
    rintro y a2 d2 A2 ⟨hy,hp⟩
    refine EqH.bind (jW wf (n:=n) (by omega) (hp.up (a:=a) (c:=1) (by omega)) (aR (by simp))) ?_
    rintro z a3 d3 A3 h
    exact again h
theorem Bs(wf:WF T K)(hK:KEq T K m):∀(j n:Nat) (l a d:Int) (A:List Nd),l=6-(j:Int)→j≤6→40*m+14+j≤n→2*((K.length:Int)-a)+1≤m→Inv K a d A→EqH iI (QI K a d A 1) ((fns n).chain T K a d A (l,())) (jU T K (kns T K m) j a d A)
 |0,n,l,a,d,A,hl,hj,hn,hm,hi=>by
  have hl:l=6:=by omega
  subst hl
  obtain⟨n,rfl,hn'⟩:=bb (k:=40*m+13) (by omega)
  show EqH iI _ (Cw (fns n) T K a d A 6) _
  unfold Cw th jU Pm.bind
  refine EqH.bind (cx wf (n:=n) (by omega) hi.a0 hi.a1) ?_
  rintro _ _ _ _ ⟨rfl,rfl,rfl,rfl⟩
  exact(hK.un n _ _ _ (by omega) hm hi).same
 |j+1,n,l,a,d,A,hl,hj,hn,hm,hi=>by
  have hl:l=5-(j:Int):=by omega
  subst hl
  obtain⟨n,rfl,hn'⟩:=bb (k:=40*m+14+j) (by omega)
  show EqH iI _ (th (fns n) T K (mJ (fns n) T K (K.length+2)) a d A (5-(j:Int))) _
  unfold th jU Pm.bind
  refine EqH.bind (cx wf (n:=n) (by omega) hi.a0 hi.a1) ?_
  rintro _ _ _ _ ⟨rfl,rfl,rfl,rfl⟩
  rw[decide_eq_false (by omega:¬(5-(j:Int)>5))]
  have hw:IntKind.wrap .i64 (5-(j:Int)+1)=5-(j:Int)+1:=wf_wrap wf (by omega) (by omega)
  have hs:∀a d A,2*((K.length:Int)-a)+1≤m→Inv K a d A→EqH iI (QI K a d A 1) ((fns n).chain T K a d A (5-(j:Int)+1,())) (jU T K (kns T K m) j a d A):=fun a d A hm hi=>by
   exact Bs wf hK j n _ a d A (by omega) (by omega) (by omega) hm hi
  show EqH iI _ (PR.bind ((fns n).chain T K a d A (IntKind.wrap .i64 (5-(j:Int)+1),())) _) _
  rw[hw]
  refine EqH.bind (hs a d A hm hi) ?_
  rintro x a2 d2 A2 ⟨hx,hp⟩
  have hle:=hp.le
  have:=hp.inv.a0
  exact EqH.mono (yd wf (n:=n) (m:=m) (by omega) (5-(j:Int)) _ _ _ hw hs (K.length+2) a2 d2 A2 x (by omega) (by omega) hp.inv hx) fun _ _ _ _ g=>⟨g.1,hp.trans g.2 (by omega)⟩
theorem IL(wf:WF T K)(hK:KEq T K m)(hn:40*m+22≤n)(hm:2*((K.length:Int)-a)+1≤m)(hi:Inv K a d A):EqH iI (QI K a d A 1) ((fns n).value T K a d A ()) (vj T K (kns T K m) a d A):=by
 obtain⟨n,rfl,hn'⟩:=bb (k:=40*m+21) hn
 show EqH iI _ (tn (fns n) T K a d A) _
 unfold tn vj Pm.bind
 refine EqH.bind (Ab wf (n:=n) (by omega) hi.a0 hi.a1 hi.d0 hi.d1) ?_
 rintro _ _ _ _ ⟨rfl,rfl,hd,rfl⟩
 have hi1:Inv K a (d+1) A:=⟨hi.a0,hi.a1,by have:=hi.d0;omega,hd,hi.len,hi.nd⟩
 refine EqH.bind (Bs wf hK 6 n 0 a (d+1) A rfl (by omega) (by omega) hm hi1) ?_
 rintro x a2 d2 A2 ⟨hx,hp⟩
 have hd2:=hp.eq
 have hd0:=hi.d0
 have hw:IntKind.wrap .i64 (d2-1)=d2-1:=wf_wrap wf (by omega) (by omega)
 have hd3:d2-1=d:=by omega
 show EqH iI _ (.ok (x,()) a2 (IntKind.wrap .i64 (d2-1)) A2) (.ok x a2 (d2-1) A2)
 rw[hw,hd3]
 exact⟨rfl,hx,⟨hp.inv.a0,hp.inv.a1,hi.d0,hi.d1,hp.inv.len,hp.inv.nd⟩,hp.le,rfl,hp.pre⟩
end
end Go.Sx.Tryz
namespace Go.Sx.Tryz
open Go Go.Sx
set_option maxRecDepth 100000
def QW(K:List Tok)(a d:Int)(A:List Nd)(y:Nd×Bool)(a' d':Int)(A':List Nd):Prop:=Small y.1∧Post K a d A 0 a' d' A'∧(y.2=true→a+1≤a')
section
variable{T:List UInt8}{K:List Tok}{n m:Nat}{a d:Int}{A:List Nd}
theorem Pw(wf:WF T K)(hK:KEq T K m)(hn:40*m+8≤n)(hm:2*((K.length:Int)-a)≤m)(hi:Inv K a d A)(hk:an (ab K a)≠0)(s:Str):EqH iNB (QW K a d A) ((fns n).word T K a d A (s,())) (pA T K (kns T K m) s a d A):=by
 obtain⟨n,rfl,hn'⟩:=bb (k:=40*m+7) hn
 have hlt:=c8 wf hi.a0 hi.a1 hk
 have hi1:=hi.step hlt
 have hp1:Post K a d A 1 (a+1) d A:=(Post.refl hi).step hlt
 have fin:∀{x:Nd} {a2 d2:Int} {A2:List Nd},Small x→Post K a d A 1 a2 d2 A2→QW K a d A (x,true) a2 d2 A2:=fun hx hp=>⟨hx,hp.up (by omega),fun _=>hp.le⟩
 have skip:∀{k:au [tI]→Int→Int→List Nd→PR (au [tN,tB])} {k':Pm (Nd×Bool)},(EqH iNB (QW K a d A) (k (tTo (ab K a),()) (a+1) d A) (k' (a+1) d A))→EqH iNB (QW K a d A) (((fns n).skip T K a d A ()).bind k) ((aW K).bind (fun _=>k') a d A):=fun{k k'} h=>by
  unfold Pm.bind
  refine EqH.bind (df wf (n:=n) (by omega) hi.a0 hi.a1 hk) ?_
  rintro _ _ _ _ ⟨rfl,rfl,rfl,rfl⟩
  exact h
 show EqH iNB _ (uP (fns n) T K a d A s) _
 unfold uP pA
 cases s==[105,102]with
 |true=>
  refine skip ?_
  unfold Pm.bind
  refine EqH.bind (fO wf hK (n:=n) (by omega) (by omega) hi1) ?_
  rintro x a2 d2 A2 ⟨hx,hp⟩
  have h2:=hp1.trans hp (c:=1) (by omega)
  have h2l:=hp.le
  refine EqH.bind (hK.blk n _ _ _ (by omega) (by omega) h2.inv) ?_
  rintro y a3 d3 A3 ⟨hy,hp3⟩
  have h3:=h2.trans hp3 (c:=1) (by omega)
  have h3l:=hp3.le
  refine EqH.bind (fa wf (n:=n) (by omega) h3.inv.a0 h3.inv.a1) ?_
  rintro b _ _ _ ⟨hb,rfl,rfl⟩
  rcases hb with⟨rfl,rfl,hlt4⟩|⟨rfl,rfl⟩
  ·refine EqH.bind (hK.blk n _ _ _ (by omega) (by omega) (h3.inv.step hlt4)) ?_
   rintro z a5 d5 A5 ⟨hz,hp5⟩
   exact⟨rfl,fin (aR (by simp)) ((h3.step hlt4).trans hp5 (by omega))⟩
  ·exact⟨rfl,fin (aR (by simp)) h3⟩
 |false=>
 cases s==[119,104,105,108,101]with
 |true=>
  refine skip ?_
  unfold Pm.bind
  refine EqH.bind (fO wf hK (n:=n) (by omega) (by omega) hi1) ?_
  rintro x a2 d2 A2 ⟨hx,hp⟩
  have h2:=hp1.trans hp (c:=1) (by omega)
  have h2l:=hp.le
  refine EqH.bind (hK.blk n _ _ _ (by omega) (by omega) h2.inv) ?_
  rintro y a3 d3 A3 ⟨hy,hp3⟩
  exact⟨rfl,fin (aR (by simp)) (h2.trans hp3 (by omega))⟩
 |false=>
 cases s==[98,114,101,97,107]with
 |true=>
  refine skip ?_
  unfold Pm.bind
  refine EqH.bind (bH wf (n:=n) (by omega) hi1.a0 hi1.a1) ?_
  rintro _ _ _ _ ⟨rfl,rfl,hlt2,rfl,rfl⟩
  exact⟨rfl,fin (aR (by simp)) ((hp1.step hlt2).up (by omega))⟩
 |false=>
 cases s==[99,111,110,116,105,110,117,101]with
 |true=>
  refine skip ?_
  unfold Pm.bind
  refine EqH.bind (bH wf (n:=n) (by omega) hi1.a0 hi1.a1) ?_
  rintro _ _ _ _ ⟨rfl,rfl,hlt2,rfl,rfl⟩
  exact⟨rfl,fin (aR (by simp)) ((hp1.step hlt2).up (by omega))⟩
 |false=>
 cases s==[114,101,116,117,114,110]with
 |true=>
  refine skip ?_
  unfold Pm.bind
  refine EqH.bind (sN wf (n:=n) (by omega) hi1.a0 hi1.a1) ?_
  rintro b _ _ _ ⟨_,rfl,rfl,rfl⟩
  cases b with
  |false=>
   refine EqH.bind (hK.val n _ _ _ (by omega) (by omega) hi1) ?_
   rintro x a2 d2 A2 ⟨hx,hp⟩
   have h2:=hp1.trans hp (c:=1) (by omega)
   refine EqH.bind (bH wf (n:=n) (by omega) h2.inv.a0 h2.inv.a1) ?_
   rintro _ _ _ _ ⟨rfl,rfl,hlt2,rfl,rfl⟩
   exact⟨rfl,fin (aR (by simp)) ((h2.step hlt2).up (by omega))⟩
  |true=>
   refine EqH.bind (bH wf (n:=n) (by omega) hi1.a0 hi1.a1) ?_
   rintro _ _ _ _ ⟨rfl,rfl,hlt2,rfl,rfl⟩
   exact⟨rfl,fin (aR (by simp)) ((hp1.step hlt2).up (by omega))⟩
 |false=>
 cases s==[112,114,105,110,116]with
 |true=>
  refine skip ?_
  unfold Pm.bind
  refine EqH.bind (fO wf hK (n:=n) (by omega) (by omega) hi1) ?_
  rintro x a2 d2 A2 ⟨hx,hp⟩
  have h2:=hp1.trans hp (c:=1) (by omega)
  refine EqH.bind (bH wf (n:=n) (by omega) h2.inv.a0 h2.inv.a1) ?_
  rintro _ _ _ _ ⟨rfl,rfl,hlt2,rfl,rfl⟩
  exact⟨rfl,fin (aR (by simp)) ((h2.step hlt2).up (by omega))⟩
 |false=>
 cases s==[115,117,112,101,114]with
 |true=>
  refine skip ?_
  unfold Pm.bind
  refine EqH.bind (AL wf hK (n:=n) (by omega) (by omega) hi1) ?_
  rintro l a2 d2 A2 ⟨hl,hp⟩
  have h2:=hp1.trans hp (c:=1) (by omega)
  refine EqH.bind (bH wf (n:=n) (by omega) h2.inv.a0 h2.inv.a1) ?_
  rintro _ _ _ _ ⟨rfl,rfl,hlt2,rfl,rfl⟩
  exact⟨rfl,fin (aR (by omega)) ((h2.step hlt2).up (by omega))⟩
 |false=>exact⟨rfl,aR (by simp),Post.refl hi,fun h=>by cases h⟩
theorem Cn(wf:WF T K)(hK:KEq T K m)(hn:40*m+8≤n)(hm:2*((K.length:Int)-a)+2≤m)(hi:Inv K a d A)(f:Int):EqH iI (QI K a d A 1) ((fns n).plainS T K a d A (f,())) (eS T K (kns T K m) f a d A):=by
 obtain⟨n,rfl,hn'⟩:=bb (k:=40*m+7) hn
 show EqH iI _ (ug (fns n) T K a d A f) _
 unfold ug eS Pm.bind
 refine EqH.bind (hK.val n _ _ _ (by omega) hm hi) ?_
 rintro x a2 d2 A2 ⟨hx,hp⟩
 have hle:=hp.le
 refine EqH.bind (cx wf (n:=n) (by omega) hp.inv.a0 hp.inv.a1) ?_
 rintro _ _ _ _ ⟨rfl,rfl,rfl,rfl⟩
 have hmem:ag A2 x.toNat∈A2:=by
  have:x.toNat<A2.length:=by omega
  unfold ag
  rw[List.getD_eq_getElem?_getD,List.getElem?_eq_getElem this]
  exact List.getElem_mem _
 have hs:=hp.inv.nd _ hmem
 have e1:inI x A2.length=true:=by
  simp only[inI,Bool.and_eq_true,decide_eq_true_eq]
  omega
 have e2:Nat.ble (ai (ag A2 x.toNat)).length 17592186044416=true:=Nat.ble_eq_true_of_le (by omega)
 have e3:Nat.ble (aC (ag A2 x.toNat)).length 17592186044416=true:=Nat.ble_eq_true_of_le (by omega)
 show EqH iI _ (bif inI x A2.length then bif Nat.ble (ai (ag A2 x.toNat)).length 17592186044416 then bif Nat.ble (aC (ag A2 x.toNat)).length 17592186044416 then _ else _ else _ else _) _
 rw[e1,e2,e3]
 show EqH iI _ _ (PR.bind (bR T K [61] a2 d2 A2) _)
 refine EqH.bind (fa wf (n:=n) (by omega) hp.inv.a0 hp.inv.a1) ?_
 rintro b _ _ _ ⟨hb,rfl,rfl⟩
 rcases hb with⟨rfl,rfl,hlt⟩|⟨rfl,rfl⟩
 ·have go:EqH iI (QI K a d A 1) (((fns n).value T K (a2+1) d2 A2 ()).bind fun y19 a19 d19 A19=>((fns n).want T K a19 d19 A19 ([59],())).bind fun _ a23 d23 A23=>((fns n).add T K a23 d23 A23 (nod 10 [x,y19.1] [],f,())).bind fun y a d A=>.ok (y.1,()) a d A)
    ((kns T K m).val.bind (fun y=>(aJ T K [59]).bind fun _=>bP K (nod 10 [x,y] []) f) (a2+1) d2 A2):=by
   unfold Pm.bind
   have h1:=hp.step hlt
   refine EqH.bind (hK.val n _ _ _ (by omega) (by omega) h1.inv) ?_
   rintro y a3 d3 A3 ⟨hy,hp3⟩
   have h3:=h1.trans hp3 (c:=1) (by omega)
   refine EqH.bind (bH wf (n:=n) (by omega) h3.inv.a0 h3.inv.a1) ?_
   rintro _ _ _ _ ⟨rfl,rfl,hlt4,rfl,rfl⟩
   exact cv wf (by omega) ((h3.step hlt4).up (by omega)) (aR (by simp))
  show EqH iI _ (bif aj (ag A2 x.toNat) !=25 then bif aj (ag A2 x.toNat) !=26 then bif aj (ag A2 x.toNat) !=27 then _ else _ else _ else _)
   ((bif aj (ag A2 x.toNat)==25||(aj (ag A2 x.toNat)==26||aj (ag A2 x.toNat)==27)then _ else _:Pm Int) (a2+1) d2 A2)
  unfold bne
  cases aj (ag A2 x.toNat)==25 with
  |true=>exact go
  |false=>
   cases aj (ag A2 x.toNat)==26 with
   |true=>exact go
   |false=>
    cases aj (ag A2 x.toNat)==27 with
    |true=>exact go
    |false=>exact EqH.flt
 ·have go:EqH iI (QI K a d A 1) (((fns n).want T K a2 d2 A2 ([59],())).bind fun _ a23 d23 A23=>((fns n).add T K a23 d23 A23 (nod 18 [x] [],f,())).bind fun y a d A=>.ok (y.1,()) a d A)
    ((aJ T K [59]).bind (fun _=>bP K (nod 18 [x] []) f) a2 d2 A2):=by
   unfold Pm.bind
   refine EqH.bind (bH wf (n:=n) (by omega) hp.inv.a0 hp.inv.a1) ?_
   rintro _ _ _ _ ⟨rfl,rfl,hlt4,rfl,rfl⟩
   exact cv wf (by omega) ((hp.step hlt4).up (by omega)) (aR (by simp))
  show EqH iI _ (bif aj (ag A2 x.toNat) !=29 then bif aj (ag A2 x.toNat) !=30 then _ else _ else _) ((bif aj (ag A2 x.toNat)==29||aj (ag A2 x.toNat)==30 then _ else _:Pm Int) a2 d2 A2)
  unfold bne
  cases aj (ag A2 x.toNat)==29 with
  |true=>exact go
  |false=>
   cases aj (ag A2 x.toNat)==30 with
   |true=>exact go
   |false=>exact EqH.flt
end
end Go.Sx.Tryz
namespace Go.Sx.Tryz
open Go Go.Sx
set_option maxRecDepth 100000
section
variable{T:List UInt8}{K:List Tok}{n m:Nat}{a d:Int}{A:List Nd}
theorem N2(wf:WF T K)(hK:KEq T K m)(hn:40*m+10≤n)(hm:2*((K.length:Int)-a)+2≤m)(hi:Inv K a d A):EqH iI (QI K a d A 1) ((fns n).stat T K a d A ()) (By T K (kns T K m) a d A):=by
 obtain⟨n,rfl,hn'⟩:=bb (k:=40*m+9) hn
 have h0:=hi.a0
 show EqH iI _ (um (fns n) T K a d A) _
 unfold um By Pm.bind
 refine EqH.bind (cx wf (n:=n) (by omega) hi.a0 hi.a1) ?_
 rintro _ _ _ _ ⟨rfl,rfl,rfl,rfl⟩
 have hD:∀{X:au [tB]→Int→Int→List Nd→PR (au [tI])},(∀b:Bool,EqH iI (QI K a d A 1) (X (b,()) a d A) ((bif b then
  ((cE T K false).bind fun x=>(dc T K).bind fun s=>(bR T K [61]).bind fun b=>bif b then(kns T K m).val.bind fun y=>(aJ T K [59]).bind fun _=>bP K (bI x 9 [y] s) (aa (ab K a))
   else(aJ T K [59]).bind fun _=>bP K (bI x 9 (ai x) s) (aa (ab K a)))
  else bif an (ab K a)==1 then(pA T K (kns T K m) (say T (ab K a))).bind fun w=>bif w.2 then bP K w.1 (aa (ab K a))else eS T K (kns T K m) (aa (ab K a))
  else eS T K (kns T K m) (aa (ab K a)):Pm Int) a d A))→
   EqH iI (QI K a d A 1) (((fns n).declares T K a d A ()).bind X) ((dd T K).bind (fun b=>bif b then
  ((cE T K false).bind fun x=>(dc T K).bind fun s=>(bR T K [61]).bind fun b=>bif b then(kns T K m).val.bind fun y=>(aJ T K [59]).bind fun _=>bP K (bI x 9 [y] s) (aa (ab K a))
   else(aJ T K [59]).bind fun _=>bP K (bI x 9 (ai x) s) (aa (ab K a)))
  else bif an (ab K a)==1 then(pA T K (kns T K m) (say T (ab K a))).bind fun w=>bif w.2 then bP K w.1 (aa (ab K a))else eS T K (kns T K m) (aa (ab K a))
  else eS T K (kns T K m) (aa (ab K a))) a d A):=fun{X} h=>by
  unfold Pm.bind
  refine EqH.bind (zG wf (n:=n) (by omega) hi.a0 hi.a1) ?_
  rintro b _ _ _ ⟨rfl,rfl,rfl⟩
  exact h b
 have hP:EqH iI (QI K a d A 1) (((fns n).plainS T K a d A (aa (ab K a),())).bind fun y a d A=>.ok (y.1,()) a d A) (eS T K (kns T K m) (aa (ab K a)) a d A):=(Cn wf hK (n:=n) (by omega) hm hi _).same
 have hdecl:EqH iI (QI K a d A 1) (((fns n).typed T K a d A (false,())).bind fun y14 a14 d14 A14=>((fns n).name T K a14 d14 A14 ()).bind fun y18 a18 d18 A18=>((fns n).take T K a18 d18 A18 ([61],())).bind fun y22 a22 d22 A22=>
   bif y22.1 then((fns n).value T K a22 d22 A22 ()).bind fun y26 a26 d26 A26=>((fns n).want T K a26 d26 A26 ([59],())).bind fun _ a30 d30 A30=>((fns n).add T K a30 d30 A30 (bI y14.1 9 [y26.1] y18.1,aa (ab K a),())).bind fun y a d A=>.ok (y.1,()) a d A
   else((fns n).want T K a22 d22 A22 ([59],())).bind fun _ a26 d26 A26=>((fns n).add T K a26 d26 A26 (bI y14.1 9 (ai y14.1) y18.1,aa (ab K a),())).bind fun y a d A=>.ok (y.1,()) a d A)
   ((cE T K false).bind (fun x=>(dc T K).bind fun s=>(bR T K [61]).bind fun b=>bif b then(kns T K m).val.bind fun y=>(aJ T K [59]).bind fun _=>bP K (bI x 9 [y] s) (aa (ab K a))
   else(aJ T K [59]).bind fun _=>bP K (bI x 9 (ai x) s) (aa (ab K a))) a d A):=by
  unfold Pm.bind
  refine EqH.bind (ql wf (n:=n) (by omega) hi.a0 hi.a1 false) ?_
  rintro x a1 _ _ ⟨hx,⟨g1,g2⟩,rfl,rfl⟩
  have hp1:Post K a d A 1 a1 d A:=⟨hi.at (by omega) g2,g1,rfl,[],by simp⟩
  refine EqH.bind (oO wf (n:=n) (by omega) hp1.inv.a0 hp1.inv.a1) ?_
  rintro s _ _ _ ⟨hs,rfl,hlt,rfl,rfl⟩
  have hp2:=hp1.step hlt
  refine EqH.bind (fa wf (n:=n) (by omega) hp2.inv.a0 hp2.inv.a1) ?_
  rintro b _ _ _ ⟨hb,rfl,rfl⟩
  rcases hb with⟨rfl,rfl,hlt3⟩|⟨rfl,rfl⟩
  ·have hp3:=hp2.step hlt3
   refine EqH.bind (hK.val n _ _ _ (by omega) (by omega) hp3.inv) ?_
   rintro y a4 d4 A4 ⟨hy,hp⟩
   have hp4:=hp3.trans hp (c:=1) (by omega)
   refine EqH.bind (bH wf (n:=n) (by omega) hp4.inv.a0 hp4.inv.a1) ?_
   rintro _ _ _ _ ⟨rfl,rfl,hlt5,rfl,rfl⟩
   exact cv wf (by omega) ((hp4.step hlt5).up (by omega)) (dw hx.small (by simp))
  ·refine EqH.bind (bH wf (n:=n) (by omega) hp2.inv.a0 hp2.inv.a1) ?_
   rintro _ _ _ _ ⟨rfl,rfl,hlt5,rfl,rfl⟩
   exact cv wf (by omega) ((hp2.step hlt5).up (by omega)) (dw hx.small (by rw[hx.kids];simp))
 have hword:(an (ab K a)==1)=true→EqH iI (QI K a d A 1) (((fns n).word T K a d A (say T (ab K a),())).bind fun y14 a14 d14 A14=>bif y14.2.1 then((fns n).add T K a14 d14 A14 (y14.1,aa (ab K a),())).bind fun y a d A=>.ok (y.1,()) a d A
   else((fns n).plainS T K a14 d14 A14 (aa (ab K a),())).bind fun y a d A=>.ok (y.1,()) a d A)
   ((pA T K (kns T K m) (say T (ab K a))).bind (fun w=>bif w.2 then bP K w.1 (aa (ab K a))else eS T K (kns T K m) (aa (ab K a))) a d A):=fun h1=>by
  have hk:an (ab K a)≠0:=fun e=>by rw[e]at h1;exact absurd h1 (by decide)
  unfold Pm.bind
  refine EqH.bind (Pw wf hK (n:=n) (by omega) (by omega) hi hk _) ?_
  rintro ⟨x,b⟩ a2 d2 A2 ⟨hx,hp,hb⟩
  cases b with
  |true=>exact cv wf (by omega) ⟨hp.inv,hb rfl,hp.eq,hp.pre⟩ hx
  |false=>
   have hle:=hp.le
   exact EqH.mono (Cn wf hK (n:=n) (by omega) (by omega) hp.inv _).same fun _ _ _ _ g=>⟨g.1,hp.trans g.2 (by omega)⟩
 have hrest:EqH iI (QI K a d A 1) (((fns n).declares T K a d A ()).bind fun y10 a10 d10 A10=>bif y10.1 then((fns n).typed T K a10 d10 A10 (false,())).bind fun y14 a14 d14 A14=>((fns n).name T K a14 d14 A14 ()).bind fun y18 a18 d18 A18=>((fns n).take T K a18 d18 A18 ([61],())).bind fun y22 a22 d22 A22=>
   bif y22.1 then((fns n).value T K a22 d22 A22 ()).bind fun y26 a26 d26 A26=>((fns n).want T K a26 d26 A26 ([59],())).bind fun _ a30 d30 A30=>((fns n).add T K a30 d30 A30 (bI y14.1 9 [y26.1] y18.1,aa (ab K a),())).bind fun y a d A=>.ok (y.1,()) a d A
   else((fns n).want T K a22 d22 A22 ([59],())).bind fun _ a26 d26 A26=>((fns n).add T K a26 d26 A26 (bI y14.1 9 (ai y14.1) y18.1,aa (ab K a),())).bind fun y a d A=>.ok (y.1,()) a d A
   else bif an (ab K a)==1 then((fns n).word T K a10 d10 A10 (say T (ab K a),())).bind fun y14 a14 d14 A14=>bif y14.2.1 then((fns n).add T K a14 d14 A14 (y14.1,aa (ab K a),())).bind fun y a d A=>.ok (y.1,()) a d A
   else((fns n).plainS T K a14 d14 A14 (aa (ab K a),())).bind fun y a d A=>.ok (y.1,()) a d A
   else((fns n).plainS T K a10 d10 A10 (aa (ab K a),())).bind fun y a d A=>.ok (y.1,()) a d A)
   ((dd T K).bind (fun b=>bif b then
  ((cE T K false).bind fun x=>(dc T K).bind fun s=>(bR T K [61]).bind fun b=>bif b then(kns T K m).val.bind fun y=>(aJ T K [59]).bind fun _=>bP K (bI x 9 [y] s) (aa (ab K a))
   else(aJ T K [59]).bind fun _=>bP K (bI x 9 (ai x) s) (aa (ab K a)))
  else bif an (ab K a)==1 then(pA T K (kns T K m) (say T (ab K a))).bind fun w=>bif w.2 then bP K w.1 (aa (ab K a))else eS T K (kns T K m) (aa (ab K a))
  else eS T K (kns T K m) (aa (ab K a))) a d A):=by
  refine hD fun b=>?_
  cases b with
  |true=>exact hdecl
  |false=>
   cases h1:an (ab K a)==1 with
   |true=>exact hword h1
   |false=>exact hP
 show EqH iI _ (bif an (ab K a)==5 then bif say T (ab K a)==[123]then _ else _ else _) ((bif an (ab K a)==5&&say T (ab K a)==[123]then _ else _:Pm Int) a d A)
 cases an (ab K a)==5 with
 |false=>exact hrest
 |true=>
  cases say T (ab K a)==[123]with
  |false=>exact hrest
  |true=>exact(hK.blk n _ _ _ (by omega) (by omega) hi).same
theorem ye(wf:WF T K)(hK:KEq T K m)(hn:40*m+10≤n)(k f t:Int):∀(N:Nat) (a d:Int) (A:List Nd) (L:List Int),(K.length:Int)-a+1≤N→2*((K.length:Int)-a)+2≤m→Inv K a d A→1≤d→(L.length:Int)≤a→
  EqH iI (fun y a' d' A'=>(0≤y∧y<A'.length)∧Inv K a' d' A'∧a+1≤a'∧d'=d-1∧∃B,A'=A++B) (CY (fns n) T K N a d A k f t L) (nk T K (kns T K m) f N L a d A)
 |0,a,d,A,L,hN,hm,hi,hd,hL=>by have:=hi.a1;omega
 |N+1,a,d,A,L,hN,hm,hi,hd,hL=>by
  have hmost:=wf.most
  have ha1:=hi.a1
  show EqH iI _ (Gz (fns n) T K (CY (fns n) T K N) a d A k f t L) _
  unfold Gz nk Pm.bind
  refine EqH.bind (sN wf (n:=n) (by omega) hi.a0 hi.a1) ?_
  rintro b _ _ _ ⟨_,rfl,rfl,rfl⟩
  cases b with
  |true=>
   refine EqH.bind (bH wf (n:=n) (by omega) hi.a0 hi.a1) ?_
   rintro _ _ _ _ ⟨rfl,rfl,hlt,rfl,rfl⟩
   have hd1:=hi.d1
   have hw:IntKind.wrap .i64 (d-1)=d-1:=wf_wrap wf (by omega) (by omega)
   show EqH iI _ (((fns n).add T K (a+1) (IntKind.wrap .i64 (d-1)) A (nod 8 L [],f,())).bind _) (bP K (nod 8 L []) f (a+1) (d-1) A)
   rw[hw]
   have hi2:Inv K (a+1) (d-1) A:=⟨by have:=hi.a0;omega,hlt,by omega,by omega,hi.len,hi.nd⟩
   exact EqH.mono (cv wf (n:=n) (by omega) (Post.refl hi2) (aR (by omega))) fun y a' d' A' g=>⟨g.1,g.2.inv,by have:=g.2.le;omega,g.2.eq,g.2.pre⟩
  |false=>
   refine EqH.bind (N2 wf hK (n:=n) (by omega) hm hi) ?_
   rintro x a2 d2 A2 ⟨hx,hp⟩
   have hle:=hp.le
   have hdd:=hp.eq
   show EqH iI _ (bif decide (L.length+[x].length<al)then _ else _) _
   rw[gm (by omega)]
   exact EqH.mono (ye wf hK hn k f t N a2 d2 A2 (L++[x]) (by omega) (by omega) hp.inv (by omega) (by rw[List.length_append,List.length_singleton];omega)) fun y a' d' A' g=>by
    obtain⟨B1,e1⟩:=hp.pre
    obtain⟨g1,g2,g3,g4,B2,e2⟩:=g
    exact⟨g1,g2,by omega,by omega,B1++B2,by rw[e2,e1,List.append_assoc]⟩
theorem G3(wf:WF T K)(hK:KEq T K m)(hn:40*m+12≤n)(hm:2*((K.length:Int)-a)≤m)(hi:Inv K a d A):EqH iI (QI K a d A 1) ((fns n).block T K a d A ()) (wA T K (kns T K m) a d A):=by
 obtain⟨n,rfl,hn'⟩:=bb (k:=40*m+11) hn
 show EqH iI _ (IC (fns n) T K (CY (fns n) T K (K.length+2)) a d A) _
 unfold IC wA Pm.bind
 refine EqH.bind (cx wf (n:=n) (by omega) hi.a0 hi.a1) ?_
 rintro _ _ _ _ ⟨rfl,rfl,rfl,rfl⟩
 refine EqH.bind (Ab wf (n:=n) (by omega) hi.a0 hi.a1 hi.d0 hi.d1) ?_
 rintro _ _ _ _ ⟨rfl,rfl,hd,rfl⟩
 refine EqH.bind (bH wf (n:=n) (by omega) hi.a0 hi.a1) ?_
 rintro _ _ _ _ ⟨rfl,rfl,hlt,rfl,rfl⟩
 have h0:=hi.a0
 have hd0:=hi.d0
 have hi1:Inv K (a+1) (d+1) A:=⟨by omega,hlt,by omega,hd,hi.len,hi.nd⟩
 exact EqH.mono (ye wf hK (n:=n) (by omega) _ _ _ (K.length+2) (a+1) (d+1) A [] (by omega) (by omega) hi1 (by omega) (by simp;omega)) fun y a' d' A' g=>⟨g.1,g.2.1,by have:=g.2.2.1;omega,by have:=g.2.2.2.1;omega,g.2.2.2.2⟩
theorem kEq(wf:WF T K):∀m,KEq T K m
 |0=>⟨fun n a d A hn hm hi=>by have:=hi.a1;omega,fun n a d A hn hm hi=>by have:=hi.a1;omega,fun n a d A hn hm hi=>by have:=hi.a1;omega⟩
 |m+1=>by
  have hK:=kEq wf m
  exact⟨fun n a d A hn hm hi=>IL wf hK (by omega) (by omega) hi,fun n a d A hn hm hi=>G3 wf hK (by omega) (by omega) hi,fun n a d A hn hm hi=>EN wf hK (by omega) (by omega) hi⟩
end
end Go.Sx.Tryz
namespace Go.Sx.Tryz
open Go Go.Sx
set_option maxRecDepth 100000
section
variable{T:List UInt8}{K:List Tok}{n m:Nat}{a d:Int}{A:List Nd}
theorem tU(wf:WF T K)(hn:8≤n):∀(N:Nat) (a d:Int) (A:List Nd) (L:List Int),(K.length:Int)-a+1≤N→Inv K a d A→L.length≤64→
  EqH iL (QL K a d A 1) (zP (fns n) T K N a d A L) (iC T K N L a d A)
 |0,a,d,A,L,hN,hi,hL=>by have:=hi.a1;omega
 |N+1,a,d,A,L,hN,hi,hL=>by
  show EqH iL _ (Je (fns n) T K (zP (fns n) T K N) a d A L) _
  unfold Je iC Pm.bind
  refine EqH.bind (fa wf (n:=n) (by omega) hi.a0 hi.a1) ?_
  rintro b _ _ _ ⟨hb,rfl,rfl⟩
  rcases hb with⟨rfl,rfl,hlt⟩|⟨rfl,rfl⟩
  ·exact⟨rfl,hL,⟨hi.step hlt,by omega,rfl,[],by simp⟩⟩
  ·have hl1:IntKind.wrap .i64 ((L.length:Int)+1)=(L.length:Int)+1:=wf_wrap wf (by omega) (by omega)
   have go:∀(a1:Int),a≤a1→a1<K.length→EqH iL (QL K a d A 1) (((fns n).few T K a1 d A (IntKind.wrap .i64 ((L.length:Int)+1),())).bind fun _ a16 d16 A16=>((fns n).next T K a16 d16 A16 ()).bind fun y20 a20 d20 A20=>
      ((fns n).typed T K a20 d20 A20 (false,())).bind fun y24 a24 d24 A24=>((fns n).name T K a24 d24 A24 ()).bind fun y28 a28 d28 A28=>
       ((fns n).add T K a28 d28 A28 (bI y24.1 7 (ai y24.1) y28.1,aa y20.1,())).bind fun y32 a32 d32 A32=>bif decide (L.length+[y32.1].length<al)then zP (fns n) T K N a32 d32 A32 (L++([y32.1]:List Int))else .bad)
     ((jz K ((L.length:Int)+1)).bind (fun _=>(bK T K).bind fun t=>(cE T K false).bind fun x=>(dc T K).bind fun s=>(bP K (bI x 7 (ai x) s) (aa t.1)).bind fun y=>iC T K N (L++[y])) a1 d A):=fun a1 g0 g1=>by
    have hi1:Inv K a1 d A:=hi.at (by have:=hi.a0;omega) g1
    have h10:=hi1.a0
    rw[hl1]
    unfold Pm.bind
    refine EqH.bind (BS wf (n:=n) (by omega) hi1.a0 hi1.a1) ?_
    rintro _ _ _ _ ⟨rfl,rfl,rfl,h64⟩
    refine EqH.bind (cx wf (n:=n) (by omega) hi1.a0 hi1.a1) ?_
    rintro _ _ _ _ ⟨rfl,rfl,rfl,rfl⟩
    refine EqH.bind (ql wf (n:=n) (by omega) hi1.a0 hi1.a1 false) ?_
    rintro x a2 _ _ ⟨hx,⟨f1,f2⟩,rfl,rfl⟩
    have hp2:Post K a d A 1 a2 d A:=⟨hi.at (by omega) f2,by omega,rfl,[],by simp⟩
    refine EqH.bind (oO wf (n:=n) (by omega) hp2.inv.a0 hp2.inv.a1) ?_
    rintro s _ _ _ ⟨hs,rfl,hlt,rfl,rfl⟩
    refine EqH.bind (jW wf (n:=n) (by omega) (hp2.step hlt) (dw hx.small (by rw[hx.kids];simp))) ?_
    rintro y a4 d4 A4 ⟨hy,hp⟩
    have hle:=hp.le
    show EqH iL _ (bif decide (L.length+[y].length<al)then _ else _) _
    rw[gm (by omega)]
    exact EqH.mono (tU wf hn N a4 d4 A4 (L++[y]) (by omega) hp.inv (by rw[List.length_append,List.length_singleton];omega)) fun _ _ _ _ h=>⟨h.1,hp.trans h.2 (by omega)⟩
   show EqH iL _ (bif decide ((L.length:Int)>0)then _ else _) (PR.bind ((bif decide ((L.length:Int)>0)then(aJ T K [44]).bind fun _=>.ret ()else .ret ():Pm Unit) a d A) _)
   cases decide ((L.length:Int)>0)with
   |false=>exact go a (Int.le_refl _) hi.a1
   |true=>
    show EqH iL _ (PR.bind ((fns n).want T K a d A ([44],())) _) (PR.bind (PR.bind (aJ T K [44] a d A) _) _)
    have hw:=bH wf (n:=n) (a:=a) (d:=d) (A:=A) (s:=[44]) (by omega) hi.a0 hi.a1
    cases e:aJ T K [44] a d A with
    |bad=>rw[e]at hw;exact hw.elim
    |fault c p=>
     rw[e]at hw
     have hw:(fns n).want T K a d A ([44],())= .fault c p:=hw
     rw[hw]
     exact EqH.flt
    |ok y a1 d1 A1=>
     rw[e]at hw
     obtain⟨e1,rfl,rfl,hlt,rfl,rfl⟩:=hw
     rw[e1]
     exact go (a+1) (by omega) hlt
theorem xE(wf:WF T K)(hn:9≤n)(hi:Inv K a d A):EqH iL (QL K a d A 2) ((fns n).params T K a d A ()) (ld T K a d A):=by
 obtain⟨n,rfl,hn'⟩:=bb (k:=8) hn
 show EqH iL _ (Gj (fns n) T K (zP (fns n) T K (K.length+2)) a d A) _
 unfold Gj ld Pm.bind
 refine EqH.bind (bH wf (n:=n) (by omega) hi.a0 hi.a1) ?_
 rintro _ _ _ _ ⟨rfl,rfl,hlt,rfl,rfl⟩
 have:=hi.a0
 exact EqH.mono (tU wf (by omega) (K.length+2) (a+1) d A [] (by omega) (hi.step hlt) (by simp)) fun y a' d' A' h=>⟨h.1,h.2.up (by omega)⟩
theorem Jd(wf:WF T K)(hK:KEq T K m)(hn:40*m+12≤n)(hm:2*((K.length:Int)-a)+1≤m)(hi:Inv K a d A):EqH iI (QI K a d A 1) ((fns n).member T K a d A ()) (p9 T K (kns T K m) a d A):=by
 obtain⟨n,rfl,hn'⟩:=bb (k:=40*m+11) hn
 have h0:=hi.a0
 have app:∀{l:List Int} {x:Int},l.length≤64→(l++[x]).length≤20000:=fun{l x} h=>by rw[List.length_append,List.length_singleton];omega
 show EqH iI _ (DH (fns n) T K a d A) _
 unfold DH p9 Pm.bind
 refine EqH.bind (cx wf (n:=n) (by omega) hi.a0 hi.a1) ?_
 rintro _ _ _ _ ⟨rfl,rfl,rfl,rfl⟩
 have hT:EqH iI (QI K a d A 1) (((fns n).typed T K a d A (true,())).bind fun y10 a10 d10 A10=>((fns n).name T K a10 d10 A10 ()).bind fun y14 a14 d14 A14=>((fns n).isS T K a14 d14 A14 ([40],())).bind fun y18 a18 d18 A18=>
   bif y18.1 then((fns n).params T K a18 d18 A18 ()).bind fun y22 a22 d22 A22=>((fns n).block T K a22 d22 A22 ()).bind fun y26 a26 d26 A26=>bif decide (y22.1.length+[y26.1].length<al)then
     ((fns n).add T K a26 d26 A26 (bI y10.1 6 ((y22.1:List Int)++([y26.1]:List Int)) y14.1,aa (ab K a),())).bind fun y a d A=>.ok (y.1,()) a d A else .bad
   else bif ak y10.1==6 then .fault 80 (aa (ab K a))else((fns n).want T K a18 d18 A18 ([59],())).bind fun _ a22 d22 A22=>((fns n).add T K a22 d22 A22 (bI y10.1 4 (ai y10.1) y14.1,aa (ab K a),())).bind fun y a d A=>.ok (y.1,()) a d A)
   ((cE T K true).bind (fun x=>(dc T K).bind fun s=>(cIs T K [40]).bind fun b=>bif b then
   ((ld T K).bind fun l=>(kns T K m).blk.bind fun b=>bP K (bI x 6 (l++[b]) s) (aa (ab K a)))
  else bif ak x==6 then .flt 80 (aa (ab K a))else(aJ T K [59]).bind fun _=>bP K (bI x 4 (ai x) s) (aa (ab K a))) a d A):=by
  unfold Pm.bind
  refine EqH.bind (ql wf (n:=n) (by omega) hi.a0 hi.a1 true) ?_
  rintro x a1 _ _ ⟨hx,⟨g1,g2⟩,rfl,rfl⟩
  have hp1:Post K a d A 1 a1 d A:=⟨hi.at (by omega) g2,g1,rfl,[],by simp⟩
  refine EqH.bind (oO wf (n:=n) (by omega) hp1.inv.a0 hp1.inv.a1) ?_
  rintro s _ _ _ ⟨hs,rfl,hlt,rfl,rfl⟩
  have hp2:=hp1.step hlt
  refine EqH.bind (sN wf (n:=n) (by omega) hp2.inv.a0 hp2.inv.a1) ?_
  rintro b _ _ _ ⟨_,rfl,rfl,rfl⟩
  cases b with
  |true=>
   refine EqH.bind (xE wf (n:=n) (by omega) hp2.inv) ?_
   rintro l a3 d3 A3 ⟨hl,hp⟩
   have hp3:=hp2.trans hp (c:=1) (by omega)
   have hle:=hp.le
   refine EqH.bind (hK.blk n _ _ _ (by omega) (by omega) hp3.inv) ?_
   rintro y a4 d4 A4 ⟨hy,hp4⟩
   have hp5:=hp3.trans hp4 (c:=1) (by omega)
   show EqH iI _ (bif decide (l.length+[y].length<al)then _ else _) _
   rw[gm (by omega)]
   exact cv wf (by omega) hp5 (dw hx.small (app hl))
  |false=>
   show EqH iI _ (bif ak x==6 then _ else _) ((bif ak x==6 then _ else _:Pm Int) (a1+1) d A)
   cases ak x==6 with
   |true=>exact EqH.flt
   |false=>
    refine EqH.bind (bH wf (n:=n) (by omega) hp2.inv.a0 hp2.inv.a1) ?_
    rintro _ _ _ _ ⟨rfl,rfl,hlt5,rfl,rfl⟩
    exact cv wf (by omega) ((hp2.step hlt5).up (by omega)) (dw hx.small (by rw[hx.kids];simp))
 show EqH iI _ (bif an (ab K a)==1 then bif say T (ab K a)==[105,110,105,116]then _ else _ else _) ((bif an (ab K a)==1&&say T (ab K a)==[105,110,105,116]then _ else _:Pm Int) a d A)
 cases h1:an (ab K a)==1 with
 |false=>exact hT
 |true=>
  have hk:an (ab K a)≠0:=fun e=>by rw[e]at h1;exact absurd h1 (by decide)
  have hlt:=c8 wf hi.a0 hi.a1 hk
  cases say T (ab K a)==[105,110,105,116]with
  |false=>exact hT
  |true=>
   have hp1:Post K a d A 1 (a+1) d A:=(Post.refl hi).step hlt
   refine EqH.bind (df wf (n:=n) (by omega) hi.a0 hi.a1 hk) ?_
   rintro _ _ _ _ ⟨rfl,rfl,rfl,rfl⟩
   refine EqH.bind (xE wf (n:=n) (by omega) hp1.inv) ?_
   rintro l a3 d3 A3 ⟨hl,hp⟩
   have hp3:=hp1.trans hp (c:=1) (by omega)
   have hle:=hp.le
   refine EqH.bind (hK.blk n _ _ _ (by omega) (by omega) hp3.inv) ?_
   rintro y a4 d4 A4 ⟨hy,hp4⟩
   have hp5:=hp3.trans hp4 (c:=1) (by omega)
   show EqH iI _ (bif decide (l.length+[y].length<al)then _ else _) _
   rw[gm (by omega)]
   exact cv wf (by omega) hp5 (aR (app hl))
theorem sc(wf:WF T K)(hK:KEq T K m)(hn:40*m+12≤n)(k f t:Int)(s:Str):∀(N:Nat) (a d:Int) (A:List Nd) (L:List Int),(K.length:Int)-a+1≤N→2*((K.length:Int)-a)+1≤m→Inv K a d A→L.length≤65→
  EqH iI (QI K a d A 1) (DB (fns n) T K N a d A k f t s L) (lg T K (kns T K m) f s N L a d A)
 |0,a,d,A,L,hN,hm,hi,hL=>by have:=hi.a1;omega
 |N+1,a,d,A,L,hN,hm,hi,hL=>by
  show EqH iI _ (HZ (fns n) T K (DB (fns n) T K N) a d A k f t s L) _
  unfold HZ lg Pm.bind
  refine EqH.bind (sN wf (n:=n) (by omega) hi.a0 hi.a1) ?_
  rintro b _ _ _ ⟨_,rfl,rfl,rfl⟩
  cases b with
  |true=>
   refine EqH.bind (bH wf (n:=n) (by omega) hi.a0 hi.a1) ?_
   rintro _ _ _ _ ⟨rfl,rfl,hlt,rfl,rfl⟩
   exact cv wf (by omega) ((Post.refl hi).step hlt) (aR (by omega))
  |false=>
   have hl1:IntKind.wrap .i64 ((L.length:Int)+1)=(L.length:Int)+1:=wf_wrap wf (by omega) (by omega)
   show EqH iI _ (PR.bind ((fns n).few T K a d A (IntKind.wrap .i64 ((L.length:Int)+1),())) _) _
   rw[hl1]
   refine EqH.bind (BS wf (n:=n) (by omega) hi.a0 hi.a1) ?_
   rintro _ _ _ _ ⟨rfl,rfl,rfl,h64⟩
   refine EqH.bind (Jd wf hK (n:=n) (by omega) hm hi) ?_
   rintro x a2 d2 A2 ⟨hx,hp⟩
   have hle:=hp.le
   show EqH iI _ (bif decide (L.length+[x].length<al)then _ else _) _
   rw[gm (by omega)]
   exact EqH.mono (sc wf hK hn k f t s N a2 d2 A2 (L++[x]) (by omega) (by omega) hp.inv (by rw[List.length_append,List.length_singleton];omega)) fun _ _ _ _ h=>⟨h.1,hp.trans h.2 (by omega)⟩
theorem Ki(wf:WF T K)(hK:KEq T K m)(hn:40*m+14≤n)(hm:2*((K.length:Int)-a)+1≤m)(hi:Inv K a d A):EqH iI (QI K a d A 1) ((fns n).klass T K a d A ()) (wC T K (kns T K m) a d A):=by
 obtain⟨n,rfl,hn'⟩:=bb (k:=40*m+13) hn
 have h0:=hi.a0
 show EqH iI _ (EO (fns n) T K (DB (fns n) T K (K.length+2)) a d A) _
 unfold EO wC Pm.bind
 refine EqH.bind (cx wf (n:=n) (by omega) hi.a0 hi.a1) ?_
 rintro _ _ _ _ ⟨rfl,rfl,rfl,rfl⟩
 refine EqH.bind (bH wf (n:=n) (by omega) hi.a0 hi.a1) ?_
 rintro _ _ _ _ ⟨rfl,rfl,hlt,rfl,rfl⟩
 have hp1:Post K a d A 1 (a+1) d A:=(Post.refl hi).step hlt
 refine EqH.bind (oO wf (n:=n) (by omega) hp1.inv.a0 hp1.inv.a1) ?_
 rintro s _ _ _ ⟨hs,rfl,hlt2,rfl,rfl⟩
 have hp2:=hp1.step hlt2
 refine EqH.bind (cx wf (n:=n) (by omega) hp2.inv.a0 hp2.inv.a1) ?_
 rintro _ _ _ _ ⟨rfl,rfl,rfl,rfl⟩
 refine EqH.bind (fa wf (n:=n) (by omega) hp2.inv.a0 hp2.inv.a1) ?_
 rintro b _ _ _ ⟨hb,rfl,rfl⟩
 rcases hb with⟨rfl,rfl,hlt3⟩|⟨rfl,rfl⟩
 ·have hp3:=hp2.step hlt3
  refine EqH.bind (oO wf (n:=n) (by omega) hp3.inv.a0 hp3.inv.a1) ?_
  rintro e _ _ _ ⟨he,rfl,hlt4,rfl,rfl⟩
  refine EqH.bind (jW wf (n:=n) (by omega) (hp3.step hlt4) (aR (by simp))) ?_
  rintro y a5 d5 A5 ⟨hy,hp5⟩
  refine EqH.bind (bH wf (n:=n) (by omega) hp5.inv.a0 hp5.inv.a1) ?_
  rintro _ _ _ _ ⟨rfl,rfl,hlt6,rfl,rfl⟩
  have hp6:=hp5.step hlt6
  have hle:=hp6.le
  exact EqH.mono (sc wf hK (n:=n) (by omega) _ _ _ s (K.length+2) (a5+1) d5 A5 [y] (by omega) (by omega) hp6.inv (by simp)) fun _ _ _ _ h=>⟨h.1,hp6.trans h.2 (by omega)⟩
 ·refine EqH.bind (bH wf (n:=n) (by omega) hp2.inv.a0 hp2.inv.a1) ?_
  rintro _ _ _ _ ⟨rfl,rfl,hlt6,rfl,rfl⟩
  have hp6:=hp2.step hlt6
  have hle:=hp6.le
  exact EqH.mono (sc wf hK (n:=n) (by omega) _ _ _ s (K.length+2) (a+1+1+1) d A [] (by omega) (by omega) hp6.inv (by simp)) fun _ _ _ _ h=>⟨h.1,hp6.trans h.2 (by omega)⟩
theorem rD(wf:WF T K)(hK:KEq T K m)(hn:40*m+14≤n):∀(N:Nat) (a d:Int) (A:List Nd) (L:List Int),(K.length:Int)-a+1≤N→2*((K.length:Int)-a)+1≤m→Inv K a d A→L.length≤64→
  EqH iU (fun _ a' d' A'=>Post K a d A 0 a' d' A') (D0 (fns n) T K N a d A L) (iD T K (kns T K m) N L a d A)
 |0,a,d,A,L,hN,hm,hi,hL=>by have:=hi.a1;omega
 |N+1,a,d,A,L,hN,hm,hi,hL=>by
  show EqH iU _ (I4 (fns n) T K (D0 (fns n) T K N) a d A L) _
  unfold I4 iD Pm.bind
  refine EqH.bind (cx wf (n:=n) (by omega) hi.a0 hi.a1) ?_
  rintro _ _ _ _ ⟨rfl,rfl,rfl,rfl⟩
  show EqH iU _ (bif an (ab K a)==0 then _ else _) ((bif an (ab K a)==0 then _ else _:Pm Unit) a d A)
  cases an (ab K a)==0 with
  |true=>
   refine EqH.bind (Mm wf (n:=n) (by omega) hi (aR (by omega))) ?_
   rintro y a2 d2 A2 h
   exact⟨rfl,h.2.2.1⟩
  |false=>
   have hl1:IntKind.wrap .i64 ((L.length:Int)+1)=(L.length:Int)+1:=wf_wrap wf (by omega) (by omega)
   show EqH iU _ (PR.bind ((fns n).few T K a d A (IntKind.wrap .i64 ((L.length:Int)+1),())) _) _
   rw[hl1]
   refine EqH.bind (BS wf (n:=n) (by omega) hi.a0 hi.a1) ?_
   rintro _ _ _ _ ⟨rfl,rfl,rfl,h64⟩
   refine EqH.bind (Ki wf hK (n:=n) (by omega) hm hi) ?_
   rintro x a2 d2 A2 ⟨hx,hp⟩
   have hle:=hp.le
   show EqH iU _ (bif decide (L.length+[x].length<al)then _ else _) _
   rw[gm (by omega)]
   exact EqH.mono (rD wf hK hn N a2 d2 A2 (L++[x]) (by omega) (by omega) hp.inv (by rw[List.length_append,List.length_singleton];omega)) fun _ _ _ _ h=>hp.trans h (by omega)
theorem C6(wf:WF T K)(hn:40*m+14≤n)(hm:2*K.length+1≤m):EqH iU (fun _ a' d' A'=>Post K 0 0 [] 0 a' d' A') (sI (fns n) T K 0 0 []) (mW T K (kns T K m) 0 0 []):=by
 show EqH iU _ (Ja (fns n) T K (D0 (fns n) T K (K.length+2)) 0 0 []) _
 unfold Ja mW
 have hp:=wf.pos
 exact rD wf (kEq wf m) hn (K.length+2) 0 0 [] [] (by omega) (by omega) ⟨by omega,by omega,by omega,by omega,by simp,fun x hx=>by cases hx⟩ (by simp)
end
end Go.Sx.Tryz
namespace Go.Sx.Tryz
open Go Go.Sx Go.Proofs
open Go.RowKit
set_option maxRecDepth 100000
variable{G:Nat→Obj→Prop}
def cZ(T:List UInt8):Int:=(ic (T,())).2.1.1
def AK(T:List UInt8):Int:=(ic (T,())).2.1.2.1
def b9(T:List UInt8):List Tok:=(ic (T,())).1
def du(n:Nat)(T:List UInt8):au rsP:=
 bif cZ T !=0 then((([]:List Nd),(0:Int),()),(cZ T,AK T,()),())
 else match sI (fns n) T (b9 T) 0 0 []with
  | .ok _ _ _ A=>((A,IntKind.wrap .i64 ((A.length:Int)-1),()),((0:Int),(0:Int),()),())
  | .fault c p=>((([]:List Nd),(0:Int),()),(c,p,()),())
  | .bad=>((([]:List Nd),(0:Int),()),((0:Int),(0:Int),()),())
def qb(n:Nat)(T:List UInt8):Bool:=match sI (fns n) T (b9 T) 0 0 []with
  | .ok _ _ _ A=>k9 ((A,(0:Int),()),())
  | .fault _ _=>true
  | .bad=>false
theorem yL(J:Jump R0)(T:List UInt8):start (R:=R0) E (aq u6) me uV J [.str T] [] .ok=
  bif cZ T !=0 then .ok (.ret (.tup [.agg [.nils,.int .i64 0],.agg [.int .i64 (cZ T),.int .i64 (AK T)]]),[])
  else J 0 (Cy T (b9 T) (cZ T) (AK T)):=Kw J T
theorem w6(ht:iO G):bm Tryz.prog G u6:=.cons (aT fun x _=>Bp ht x) .nil
theorem Kh(Q:Go.Sx.Post):place Tryz.prog [true,true,true,true] me.code Q=some (c31,Q):=rfl
theorem Of:codeOk 28 me.code=true:=by kernel_rfl
theorem G2(ht:iO G)(hf:nA G)(n:Nat)(T:List UInt8)(hok:cZ T=0→qb n T=true):SAD Tryz.prog G 10 cz rsP (T,()) (du n T):=by
 by_cases hlx:cZ T=0
 ·have hpo:=hok hlx
  intro D vals hG hm hs hv
  refine .inl ⟨dE PC _ _,calls_of_wp_defers Tryz.func10 rfl ?_⟩
  classical
  let J:Jump R0:=fun j st=>if j=0∧st=Cy T (b9 T) (cZ T) (AK T)then Rs.ok (.ret (cV rsP (du n T)),[])else .err 0
  have hst:start (R:=R0) E (aq u6) me uV J [.str T] [] .ok= .ok (.ret (cV rsP (du n T)),[]):=by
   rw[yL,show(cZ T !=0)=false by simp[hlx]]
   exact if_pos ⟨rfl,rfl⟩
  have hev:ev E (aq u6) (aS 0 uV 0) J me.code 1 {tmps:=ep 0 [.str T],blks:=ay 0 [],next:=0} (bX E 0 me.results .ok)= .ok (.ret (cV rsP (du n T)),[]):=hst
  have hfin:=vU (N:=28) (aX []) hm (fn:=Tryz.f10) (rs:=me.results) rfl (k:=Rs.ok) (r:=(.ret (cV rsP (du n T)),[]))
  have hKS:KS D 28 [] (bX E 0 me.results Rs.ok) (.ret (cV rsP (du n T)),[]) (bodyPostD Tryz.prog Tryz.f10 (cj D (.ret (cV rsP (du n T)),[]))):={
   normal:=fun st C a h hr hX=>by
    obtain⟨h1,v,h2,o',h3,h4⟩:=hfin.normal st C a h hr hX
    cases h3
    show Leaves _ _ _ _ a.defers .returning C.w
    rw[h1]
    exact⟨v,h2,h4⟩
   exit:=fun id st C a h hr hX=>(hfin.exit id st C a h hr hX).elim
   ret:=fun st C a h hr hX=>by
    obtain⟨h1,v,h2,o',h3,h4⟩:=hfin.ret st C a h hr hX
    cases h3
    show Leaves _ _ _ _ a.defers .returning C.w
    rw[h1]
    exact⟨v,h2,h4⟩
   panic:=fun v st a w ch h hp hd=>by
    obtain⟨h1,o',h3,h4⟩:=hfin.panic v st a w ch h hp hd
    cases h3
    show Leaves _ _ _ _ a.defers (.panicking ch) w
    rw[h1]
    exact h4}
  have hlen:vals.length=1:=hv.len.symm
  have hSt:StR D {tmps:=vals.toArray++Array.replicate (28-vals.toArray.size) undef,defers:=[]} {tmps:=ep 0 [.str T],blks:=ay 0 [],next:=0} 28 []:=⟨⟨hm,hs,uT hv _⟩,fun k _=>rfl,by simp[hlen],rfl⟩
  have hCS:CS Tryz.prog (XJ Tryz.prog D 28 [] (aS 0 uV 0) J (.ret (cV rsP (du n T)),[])) me.code 1 (bodyPostD Tryz.prog Tryz.f10 (cj D (.ret (cV rsP (du n T)),[]))):=by
   refine xC _ _ _ ?_
   intro d r c' Q' hp j f hc st C a hJ hr hX
   obtain⟨c,_,hcn,hcp,_⟩:=jB hc
   have hj0:j=0:=by
    have:J j st= .ok (.ret (cV rsP (du n T)),[]):=hJ
    simp only[J]at this
    split at this
    ·rename_i h;exact h.1
    ·cases this
   subst hj0
   have hst:st=Cy T (b9 T) (cZ T) (AK T):=by
    have:J 0 st= .ok (.ret (cV rsP (du n T)),[]):=hJ
    simp only[J]at this
    split at this
    ·rename_i h;exact h.2
    ·cases this
   subst hst
   cases hcn
   have hpath:=vJ _ [true,true,true,true] (d::r) (Nat.le_refl _) hcp
   rw[←hpath,Kh]at hp
   cases hp
   refine AO ht hf n hG hm hs hr hX ?_
   have hb:(cZ T !=0)=false:=by simp[hlx]
   unfold qb at hpo
   cases e:sI (fns n) T (b9 T) 0 0 []with
   |ok z a' d' A'=>
    rw[e]at hpo
    refine .inr ⟨z,a',d',A',rfl,hpo,?_⟩
    unfold du
    rw[hb,e]
    rfl
   |fault c p=>
    refine .inl ⟨c,p,rfl,?_⟩
    unfold du
    rw[hb,e]
    rfl
   |bad=>
    rw[e]at hpo
    cases hpo
  exact iw (aX []) (aP (w6 ht)) hG (qw (bs:=[]) hm (.inl cF)) me.code 1 _ _ _ D _ Of hCS hKS hev hSt (Ext.refl D)
 ·have h1:start (R:=R0) E (aq u6) me uV cp [.str T] [] .ok= .ok (.ret (.tup [.agg [.nils,.int .i64 0],.agg [.int .i64 (cZ T),.int .i64 (AK T)]]),[]):=by
   rw[yL,show(cZ T !=0)=true by simp[hlx]]
   rfl
  have h2:=bA (aX []) (aP (w6 ht)) PC (.inl cF) (n:=0) h1
  refine SA.data (rs:=rsP) h2 (y:=du n T) (m:=[]) ?_
  unfold du
  rw[show(cZ T !=0)=true by simp[hlx]]
  rfl
end Go.Sx.Tryz
