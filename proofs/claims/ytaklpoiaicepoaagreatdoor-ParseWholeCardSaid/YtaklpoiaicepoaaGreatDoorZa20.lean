/- A part of the proof: see the row's text. -/
import Derived.Test.YtaklpoiaicepoaaGreatDoorZa19
import Derived.Test.YtaklpoiaicepoaaGreatDoorZa18
set_option linter.unusedVariables false
set_option linter.unusedSimpArgs false
noncomputable section
namespace Go.Sx.Tryz
open Go Go.Sx
set_option maxRecDepth 100000
section
variable{T:List UInt8}{K:List Tok}{n m:Nat}{a d:Int}{A:List Nd}
theorem Qk(wf:WF T K)(hK:KEq T K m)(hn:40*m+7≤n)(hm:2*((K.length:Int)-a)≤m)(hi:Inv K a d A):EqH iN (QN K a d A 1) ((fns n).made T K a d A ()) (CF T K (kns T K m) a d A):=by
 obtain⟨n,rfl,hn'⟩:=bg (k:=40*m+6) hn
 show EqH iN _ (uG (fns n) T K a d A) _
 unfold uG CF Pm.bind
 refine EqH.bind (wa wf (n:=n) (by omega) hi.a0 hi.a1) ?_
 rintro x a1 _ _ ⟨hx,⟨g1,g2⟩,rfl,rfl⟩
 have hi1:Inv K a1 d A:=hi.at (by have:=hi.a0;omega) g2
 have hp1:Post K a d A 1 a1 d A:=⟨hi1,g1,rfl,[],by simp⟩
 refine EqH.bind (sX wf (n:=n) (by omega) hi1.a0 hi1.a1) ?_
 rintro b _ _ _ ⟨_,rfl,rfl,rfl⟩
 show EqH iN _ (bif b then _ else _) ((bif b then _ else _:Pm Nd) a1 d A)
 cases b with
 |true=>
  have hmk:=hx.mks
  have hd1:=hx.d1
  have e1:(decide (UInt8.toNat 32<128)&&Nat.ble (List.length (af x)) 9223372036854775807)=true:=by
   rw[show decide (UInt8.toNat 32<128)=true from rfl,Bool.true_and]
   exact Nat.ble_eq_true_of_le (by omega)
  show EqH iN _ (bif al x !=5 then _ else bif decide (ah x>0)then _ else bif (decide (UInt8.toNat 32<128)&&Nat.ble (List.length (af x)) 9223372036854775807)then bif !Lib.trimB (af x) 32==[]then _ else _ else _)
   ((bif al x !=5||(decide (ah x>0)|| !Lib.trimB (af x) 32==[])then _ else _:Pm Nd) a1 d A)
  rw[e1]
  cases al x !=5 with
  |true=>exact EqH.flt
  |false=>
   cases decide (ah x>0)with
   |true=>exact EqH.flt
   |false=>
    cases !Lib.trimB (af x) 32==[]with
    |true=>exact EqH.flt
    |false=>
     refine EqH.bind (zL wf hK (n:=n) (by omega) (by omega) hi1) ?_
     rintro l a2 d2 A2 ⟨hl,hp⟩
     exact⟨rfl,dt hx.small (by omega),hp1.trans hp (by omega)⟩
 |false=>
  refine EqH.bind (bK wf (n:=n) (by omega) hi1.a0 hi1.a1) ?_
  rintro _ _ _ _ ⟨rfl,rfl,hlt,rfl,rfl⟩
  refine EqH.bind (hK.val n _ _ _ (by omega) (by omega) (hi1.step hlt)) ?_
  rintro y a2 d2 A2 ⟨hy,hp⟩
  refine EqH.bind (bK wf (n:=n) (by omega) hp.inv.a0 hp.inv.a1) ?_
  rintro _ _ _ _ ⟨rfl,rfl,hlt2,rfl,rfl⟩
  exact⟨rfl,dt hx.small (by simp),((hp1.step hlt).trans (hp.step hlt2) (by omega))⟩
theorem PZ(wf:WF T K)(hK:KEq T K m)(hn:40*m+8≤n)(hm:2*((K.length:Int)-a)≤m)(hi:Inv K a d A)(hk:ai (aa K a)≠0)(t:Tok)(s:Str):EqH iI (QI K a d A 1) ((fns n).kept T K a d A (t,s,())) (B8 T K (kns T K m) t s a d A):=by
 obtain⟨n,rfl,hn'⟩:=bg (k:=40*m+7) hn
 have hlt:=cY wf hi.a0 hi.a1 hk
 have hi1:=hi.step hlt
 have hp1:Post K a d A 1 (a+1) d A:=(Post.refl hi).step hlt
 have hlit:∀(k v:Int),EqH iI (QI K a d A 1) (((fns n).literal T K a d A (eu k v [],0,())).bind fun y a d A=>.ok (y.1,()) a d A) (oP T K (eu k v []) 0 a d A):=fun k v=>(zb wf (n:=n) (by omega) hi hk gk).same
 have hW:∀b1 b2 b3:Bool,EqH iI (QI K a d A 1) (((fns n).skip T K a d A ()).bind fun _ a8 d8 A8=>((fns n).bracket T K a8 d8 A8 ()).bind fun y12 a12 d12 A12=>
   bif b1 then((fns n).add T K a12 d12 A12 (nod 39 [y12.1] [],ab t,())).bind fun y a d A=>.ok (y.1,()) a d A
   else bif b2 then((fns n).add T K a12 d12 A12 (nod 36 [y12.1] [],ab t,())).bind fun y a d A=>.ok (y.1,()) a d A
   else bif b3 then((fns n).add T K a12 d12 A12 (nod 37 [y12.1] [],ab t,())).bind fun y a d A=>.ok (y.1,()) a d A
   else((fns n).add T K a12 d12 A12 (nod 41 [y12.1] [],ab t,())).bind fun y a d A=>.ok (y.1,()) a d A)
   ((aW K).bind (fun _=>(dO T K (kns T K m)).bind fun x=>bS K (nod (bif b1 then 39 else bif b2 then 36 else bif b3 then 37 else 41) [x] []) (ab t)) a d A):=fun b1 b2 b3=>by
  unfold Pm.bind
  refine EqH.bind (dh wf (n:=n) (by omega) hi.a0 hi.a1 hk) ?_
  rintro _ _ _ _ ⟨rfl,rfl,rfl,rfl⟩
  refine EqH.bind (fX wf hK (n:=n) (by omega) (by omega) hi1) ?_
  rintro x a2 d2 A2 ⟨hx,hp⟩
  have hp2:=hp1.trans (c:=1) hp (by omega)
  cases b1 with
  |true=>exact cu wf (by omega) hp2 (aS (by simp))
  |false=>
   cases b2 with
   |true=>exact cu wf (by omega) hp2 (aS (by simp))
   |false=>
    cases b3 with
    |true=>exact cu wf (by omega) hp2 (aS (by simp))
    |false=>exact cu wf (by omega) hp2 (aS (by simp))
 show EqH iI _ (uD (fns n) T K a d A t s) _
 unfold uD B8
 cases s==[116,114,117,101]with
 |true=>exact hlit 21 1
 |false=>
 cases s==[102,97,108,115,101]with
 |true=>exact hlit 21 0
 |false=>
 cases s==[110,117,108,108]with
 |true=>exact hlit 23 0
 |false=>
 cases s==[110,111,110,101]with
 |true=>exact hlit 42 0
 |false=>
 cases s==[116,104,105,115]with
 |true=>exact hlit 24 0
 |false=>
 cases s==[105,110,112,117,116]with
 |true=>
  show EqH iI _ _ (Pm.bind (aW K) _ a d A)
  unfold Pm.bind
  refine EqH.bind (dh wf (n:=n) (by omega) hi.a0 hi.a1 hk) ?_
  rintro _ _ _ _ ⟨rfl,rfl,rfl,rfl⟩
  refine EqH.bind (bK wf (n:=n) (by omega) hi1.a0 hi1.a1) ?_
  rintro _ _ _ _ ⟨rfl,rfl,hlt2,rfl,rfl⟩
  refine EqH.bind (bK wf (n:=n) (by omega) (by have:=hi1.a0;omega) hlt2) ?_
  rintro _ _ _ _ ⟨rfl,rfl,hlt3,rfl,rfl⟩
  exact cu wf (by omega) (((hp1.step hlt2).step hlt3).up (by omega)) (aS (by simp))
 |false=>
 unfold isWrap pR
 cases s==[115,111,109,101]with
 |true=>exact hW _ _ _
 |false=>
 cases s==[97,115,107]with
 |true=>exact hW true _ _
 |false=>
 cases s==[116,111,105,110,116]with
 |true=>exact hW false true _
 |false=>
 cases s==[116,111,100,111,117,98,108,101]with
 |true=>exact hW false false true
 |false=>
 cases s==[99,97,115,116]with
 |true=>
  show EqH iI _ _ (Pm.bind (aW K) _ a d A)
  unfold Pm.bind
  refine EqH.bind (dh wf (n:=n) (by omega) hi.a0 hi.a1 hk) ?_
  rintro _ _ _ _ ⟨rfl,rfl,rfl,rfl⟩
  refine EqH.bind (bK wf (n:=n) (by omega) hi1.a0 hi1.a1) ?_
  rintro _ _ _ _ ⟨rfl,rfl,hlt2,rfl,rfl⟩
  refine EqH.bind (qq wf (n:=n) (by omega) (by have:=hi1.a0;omega) hlt2 false) ?_
  rintro x a3 _ _ ⟨hx,⟨g1,g2⟩,rfl,rfl⟩
  have h0:=hi.a0
  refine EqH.bind (bK wf (n:=n) (by omega) (by omega) g2) ?_
  rintro _ _ _ _ ⟨rfl,rfl,hlt4,rfl,rfl⟩
  refine EqH.bind (fX wf hK (n:=n) (by omega) (by omega) (hi.at (by omega) hlt4)) ?_
  rintro y a5 d5 A5 ⟨hy,hp⟩
  exact cu wf (by omega) (hp.up (by omega)) (dt hx.small (by simp))
 |false=>
 cases s==[110,101,119]with
 |true=>
  show EqH iI _ _ (Pm.bind (aW K) _ a d A)
  unfold Pm.bind
  refine EqH.bind (dh wf (n:=n) (by omega) hi.a0 hi.a1 hk) ?_
  rintro _ _ _ _ ⟨rfl,rfl,rfl,rfl⟩
  refine EqH.bind (Qk wf hK (n:=n) (by omega) (by omega) hi1) ?_
  rintro x a3 d3 A3 ⟨hx,hp⟩
  exact cu wf (by omega) (hp.up (by omega)) hx
 |false=>exact EqH.flt
theorem DP(wf:WF T K)(hK:KEq T K m)(hn:40*m+9≤n)(hm:2*((K.length:Int)-a)≤m)(hi:Inv K a d A):EqH iI (QI K a d A 1) ((fns n).primary T K a d A ()) (nC T K (kns T K m) a d A):=by
 obtain⟨n,rfl,hn'⟩:=bg (k:=40*m+8) hn
 show EqH iI _ (tD (fns n) T K a d A) _
 unfold tD nC Pm.bind
 refine EqH.bind (cw wf (n:=n) (by omega) hi.a0 hi.a1) ?_
 rintro _ _ _ _ ⟨rfl,rfl,rfl,rfl⟩
 have kne:∀k:Int,k≠0→(ai (aa K a)==k)=true→ai (aa K a)≠0:=fun k h e e2=>by
  rw[e2]at e
  have e3:(0:Int)=k:=by simpa using e
  exact h e3.symm
 show EqH iI _ (bif ai (aa K a)==2 then bif lp (say T (aa K a),())then _ else _ else bif ai (aa K a)==3 then bif lp (say T (aa K a),())then _ else _ else bif ai (aa K a)==4 then bif lp (say T (aa K a),())then _ else _ else
  bif ai (aa K a)==5 then bif say T (aa K a)==[40]then _ else _ else bif ai (aa K a)==1 then bif dZ (say T (aa K a),())then bif bV (say T (aa K a))then _ else _ else _ else _)
  ((bif ai (aa K a)==2 then _ else bif ai (aa K a)==3 then _ else bif ai (aa K a)==4 then _ else bif ai (aa K a)==5 then(bif say T (aa K a)==[40]then _ else _)else bif ai (aa K a)==1 then(bif bV (say T (aa K a))then _ else _)else _:Pm Int) a d A)
 rw[jX wf k9,HE wf k9]
 cases h2:ai (aa K a)==2 with
 |true=>exact(zb wf (n:=n) (by omega) hi (kne 2 (by decide) h2) gk).same
 |false=>
 cases h3:ai (aa K a)==3 with
 |true=>exact(zb wf (n:=n) (by omega) hi (kne 3 (by decide) h3) gk).same
 |false=>
 cases h4:ai (aa K a)==4 with
 |true=>exact(zb wf (n:=n) (by omega) hi (kne 4 (by decide) h4) gk).same
 |false=>
 cases h5:ai (aa K a)==5 with
 |true=>
  cases say T (aa K a)==[40]with
  |true=>exact(EqH.mono (fX wf hK (n:=n) (by omega) hm hi) fun _ _ _ _ h=>⟨h.1,h.2.up (by omega)⟩).same
  |false=>exact EqH.flt
 |false=>
 cases h1:ai (aa K a)==1 with
 |true=>
  have hk:=kne 1 (by decide) h1
  cases bV (say T (aa K a))with
  |true=>exact(zb wf (n:=n) (by omega) hi hk gk).same
  |false=>exact(PZ wf hK (n:=n) (by omega) hm hi hk _ _).same
 |false=>exact EqH.flt
end
end Go.Sx.Tryz
namespace Go.Sx.Tryz
open Go Go.Sx
set_option maxRecDepth 100000
section
variable{T:List UInt8}{K:List Tok}{n m:Nat}{a d:Int}{A:List Nd}
theorem OY(wf:WF T K)(hK:KEq T K m)(hn:40*m+7≤n)(hm:2*((K.length:Int)-a)≤m)(hi:Inv K a d A)(x f:Int):EqH iI (QI K a d A 0) ((fns n).part T K a d A (x,f,())) (BL T K (kns T K m) x f a d A):=by
 obtain⟨n,rfl,hn'⟩:=bg (k:=40*m+6) hn
 show EqH iI _ (tJ (fns n) T K a d A x f) _
 unfold tJ BL Pm.bind
 refine EqH.bind (fa wf (n:=n) (by omega) hi.a0 hi.a1) ?_
 rintro b _ _ _ ⟨hb,rfl,rfl⟩
 rcases hb with⟨rfl,rfl,hlt⟩|⟨rfl,rfl⟩
 ·exact cu wf (by omega) (((Post.refl hi).step hlt).up (by omega)) (aS (by simp))
 refine EqH.bind (fa wf (n:=n) (by omega) hi.a0 hi.a1) ?_
 rintro b _ _ _ ⟨hb,rfl,rfl⟩
 rcases hb with⟨rfl,rfl,hlt⟩|⟨rfl,rfl⟩
 ·exact cu wf (by omega) (((Post.refl hi).step hlt).up (by omega)) (aS (by simp))
 refine EqH.bind (oY wf (n:=n) (by omega) hi.a0 hi.a1) ?_
 rintro s _ _ _ ⟨hs,rfl,hlt,rfl,rfl⟩
 have hi1:=hi.step hlt
 have hp1:Post K a d A 1 (a+1) d A:=(Post.refl hi).step hlt
 refine EqH.bind (sX wf (n:=n) (by omega) hi1.a0 hi1.a1) ?_
 rintro b _ _ _ ⟨_,rfl,rfl,rfl⟩
 cases b with
 |true=>
  refine EqH.bind (zL wf hK (n:=n) (by omega) (by omega) hi1) ?_
  rintro l a2 d2 A2 ⟨hl,hp⟩
  have e:decide ([x].length+l.length<aq)=true:=decide_eq_true (by
   unfold aq
   show 1+l.length<2^36
   omega)
  show EqH iI _ (bif decide ([x].length+l.length<aq)then _ else _) _
  rw[e]
  exact cu wf (by omega) ((hp1.trans hp (c:=0) (by omega))) (aS (by simp;omega))
 |false=>exact cu wf (by omega) (hp1.up (by omega)) (aS (by simp))
theorem ur(wf:WF T K)(hK:KEq T K m)(hn:40*m+7≤n)(k f t:Int):∀(N:Nat) (a d:Int) (A:List Nd) (x:Int),(K.length:Int)-a+1≤N→2*((K.length:Int)-a)≤m→Inv K a d A→(0≤x∧x<A.length)→
  EqH iI (QI K a d A 0) (sv (fns n) T K N a d A k f t x) (fw T K (kns T K m) f N x a d A)
 |0,a,d,A,x,hN,hm,hi,hx=>by have:=hi.a1;omega
 |N+1,a,d,A,x,hN,hm,hi,hx=>by
  show EqH iI _ (yN (fns n) T K (sv (fns n) T K N) a d A k f t x) _
  unfold yN fw Pm.bind
  have again:∀{a2 d2:Int} {A2:List Nd} {y:Int},QI K a d A 1 y a2 d2 A2→EqH iI (QI K a d A 0) (sv (fns n) T K N a2 d2 A2 k f t y) (fw T K (kns T K m) f N y a2 d2 A2):=fun{a2 d2 A2 y} h=>by
   have hle:=h.2.le
   exact EqH.mono (ur wf hK hn k f t N a2 d2 A2 y (by omega) (by omega) h.2.inv h.1) fun _ _ _ _ g=>⟨g.1,h.2.trans g.2 (by omega)⟩
  refine EqH.bind (fa wf (n:=n) (by omega) hi.a0 hi.a1) ?_
  rintro b _ _ _ ⟨hb,rfl,rfl⟩
  rcases hb with⟨rfl,rfl,hlt⟩|⟨rfl,rfl⟩
  ·refine EqH.bind (j6 wf (n:=n) (by omega) ((Post.refl hi).step hlt) (aS (by simp))) ?_
   rintro y a2 d2 A2 h
   exact again h
  refine EqH.bind (fa wf (n:=n) (by omega) hi.a0 hi.a1) ?_
  rintro b _ _ _ ⟨hb,rfl,rfl⟩
  rcases hb with⟨rfl,rfl,hlt⟩|⟨rfl,rfl⟩
  ·refine EqH.bind (hK.val n _ _ _ (by omega) (by omega) (hi.step hlt)) ?_
   rintro y a2 d2 A2 ⟨hy,hp⟩
   refine EqH.bind (bK wf (n:=n) (by omega) hp.inv.a0 hp.inv.a1) ?_
   rintro _ _ _ _ ⟨rfl,rfl,hlt2,rfl,rfl⟩
   refine EqH.bind (j6 wf (n:=n) (by omega) (((hp.step hlt2).up (a:=a) (c:=1) (by omega))) (aS (by simp))) ?_
   rintro y a2 d2 A2 h
   exact again h
  refine EqH.bind (fa wf (n:=n) (by omega) hi.a0 hi.a1) ?_
  rintro b _ _ _ ⟨hb,rfl,rfl⟩
  rcases hb with⟨rfl,rfl,hlt⟩|⟨rfl,rfl⟩
  ·refine EqH.bind (OY wf hK (n:=n) (by omega) (by omega) (hi.step hlt) x f) ?_
   rintro y a2 d2 A2 ⟨hy,hp⟩
   exact again ⟨hy,hp.up (by omega)⟩
  exact⟨rfl,hx,Post.refl hi⟩
theorem Jm(wf:WF T K)(hK:KEq T K m)(hn:40*m+10≤n)(hm:2*((K.length:Int)-a)≤m)(hi:Inv K a d A):EqH iI (QI K a d A 1) ((fns n).behind T K a d A ()) (nV T K (kns T K m) a d A):=by
 obtain⟨n,rfl,hn'⟩:=bg (k:=40*m+9) hn
 show EqH iI _ (yX (fns n) T K (sv (fns n) T K (K.length+2)) a d A) _
 unfold yX nV Pm.bind
 refine EqH.bind (cw wf (n:=n) (by omega) hi.a0 hi.a1) ?_
 rintro _ _ _ _ ⟨rfl,rfl,rfl,rfl⟩
 refine EqH.bind (DP wf hK (n:=n) (by omega) hm hi) ?_
 rintro x a2 d2 A2 ⟨hx,hp⟩
 have:=hp.inv.a0
 have hle:=hp.le
 exact EqH.mono (ur wf hK (n:=n) (by omega) _ _ _ (K.length+2) a2 d2 A2 x (by omega) (by omega) hp.inv hx) fun _ _ _ _ g=>⟨g.1,hp.trans g.2 (by omega)⟩
theorem Jj(wf:WF T K)(hK:KEq T K m)(hn:40*m+12≤n)(hm:2*((K.length:Int)-a)≤m)(hi:Inv K a d A):EqH iI (QI K a d A 1) ((fns n).unary T K a d A ()) (vz T K (kns T K m) a d A):=by
 obtain⟨n,rfl,hn'⟩:=bg (k:=40*m+11) hn
 show EqH iI _ (tR (fns n) T K a d A) _
 unfold tR vz Pm.bind
 refine EqH.bind (cw wf (n:=n) (by omega) hi.a0 hi.a1) ?_
 rintro _ _ _ _ ⟨rfl,rfl,rfl,rfl⟩
 dsimp only[iTS]
 have hB:EqH iI (QI K a d A 1) (((fns n).behind T K a d A ()).bind fun y a d A=>.ok (y.1,()) a d A) (nV T K (kns T K m) a d A):=(Jm wf hK (n:=n) (by omega) hm hi).same
 show EqH iI _ (bif ai (aa K a) !=5 then _ else bif !say T (aa K a)==[33]then bif !say T (aa K a)==[45]then _ else _ else _) ((bif ai (aa K a)==5&&(say T (aa K a)==[33]||say T (aa K a)==[45])then _ else _:Pm Int) a d A)
 cases h5:ai (aa K a)==5 with
 |false=>
  rw[show(ai (aa K a) !=5)=true by simp[bne,h5]]
  exact hB
 |true=>
  rw[show(ai (aa K a) !=5)=false by simp[bne,h5]]
  have hk:ai (aa K a)≠0:=fun e=>by rw[e]at h5;exact absurd h5 (by decide)
  have hlt:=cY wf hi.a0 hi.a1 hk
  have go:∀b b':Bool,b=b'→EqH iI (QI K a d A 1) (((fns n).goIn T K a d A ()).bind fun _ a10 d10 A10=>((fns n).skip T K a10 d10 A10 ()).bind fun _ a14 d14 A14=>((fns n).unary T K a14 d14 A14 ()).bind fun y18 a18 d18 A18=>
    bif b then((fns n).add T K a18 (IntKind.wrap .i64 (d18-1)) A18 (nod 32 [y18.1] [],ab (aa K a),())).bind fun y a d A=>.ok (y.1,()) a d A
    else((fns n).add T K a18 (IntKind.wrap .i64 (d18-1)) A18 (nod 33 [y18.1] [],ab (aa K a),())).bind fun y a d A=>.ok (y.1,()) a d A)
    ((fJ K).bind (fun _=>(aW K).bind fun _=>(kns T K m).un.bind fun x=>rO.bind fun _=>bS K (nod (bif b' then 32 else 33) [x] []) (ab (aa K a))) a d A):=fun b b' hbb=>by
   subst hbb
   unfold Pm.bind
   refine EqH.bind (Bb wf (n:=n) (by omega) hi.a0 hi.a1 hi.d0 hi.d1) ?_
   rintro _ _ _ _ ⟨rfl,rfl,hd,rfl⟩
   refine EqH.bind (dh wf (n:=n) (by omega) hi.a0 hi.a1 hk) ?_
   rintro _ _ _ _ ⟨rfl,rfl,rfl,rfl⟩
   have hi1:Inv K (a+1) (d+1) A:=⟨by have:=hi.a0;omega,hlt,by have:=hi.d0;omega,hd,hi.len,hi.nd⟩
   refine EqH.bind (hK.un n _ _ _ (by omega) (by omega) hi1) ?_
   rintro x a2 d2 A2 ⟨hx,hp⟩
   have hd2:=hp.eq
   have hd0:=hi.d0
   have hw:IntKind.wrap .i64 (d2-1)=d:=by rw[wf_wrap wf (by omega) (by omega)];omega
   have hp2:Post K a d A 1 a2 d A2:=⟨⟨hp.inv.a0,hp.inv.a1,hi.d0,hi.d1,hp.inv.len,hp.inv.nd⟩,by have:=hp.le;omega,rfl,hp.pre⟩
   have hd3:d2-1=d:=by omega
   show EqH iI _ (bif b then((fns n).add T K a2 (IntKind.wrap .i64 (d2-1)) A2 (nod 32 [x] [],ab (aa K a),())).bind _ else((fns n).add T K a2 (IntKind.wrap .i64 (d2-1)) A2 (nod 33 [x] [],ab (aa K a),())).bind _) (bS K (nod (bif b then 32 else 33) [x] []) (ab (aa K a)) a2 (d2-1) A2)
   rw[hw,hd3]
   cases b with
   |true=>exact cu wf (by omega) hp2 (aS (by simp))
   |false=>exact cu wf (by omega) hp2 (aS (by simp))
  cases h33:say T (aa K a)==[33]with
  |true=>exact go _ _ rfl
  |false=>
   cases h45:say T (aa K a)==[45]with
   |true=>exact go _ true h45
   |false=>exact hB
end
end Go.Sx.Tryz
namespace Go.Sx.Tryz
open Go Go.Sx
set_option maxRecDepth 100000
section
variable{T:List UInt8}{K:List Tok}{n m:Nat}{a d:Int}{A:List Nd}
theorem xR(wf:WF T K)(hn:3≤n)(l k f t:Int){sub:Pm Int}(hl:IntKind.wrap .i64 (l+1)=l+1)(hsub:∀a d A,2*((K.length:Int)-a)+1≤m→Inv K a d A→EqH iI (QI K a d A 1) ((fns n).chain T K a d A (l+1,())) (sub a d A)):
  ∀(N:Nat) (a d:Int) (A:List Nd) (x:Int),(K.length:Int)-a+1≤N→2*((K.length:Int)-a)+1≤m→Inv K a d A→(0≤x∧x<A.length)→EqH iI (QI K a d A 0) (nJ (fns n) T K N a d A l k f t x) (fm T K l f sub N x a d A)
 |0,a,d,A,x,hN,hm,hi,hx=>by have:=hi.a1;omega
 |N+1,a,d,A,x,hN,hm,hi,hx=>by
  show EqH iI _ (xI (fns n) T K (nJ (fns n) T K N) a d A l k f t x) _
  unfold xI fm Pm.bind
  have again:∀{a2 d2:Int} {A2:List Nd} {y:Int},QI K a d A 1 y a2 d2 A2→EqH iI (QI K a d A 0) (nJ (fns n) T K N a2 d2 A2 l k f t y) (fm T K l f sub N y a2 d2 A2):=fun{a2 d2 A2 y} h=>by
   have hle:=h.2.le
   exact EqH.mono (xR wf hn l k f t hl hsub N a2 d2 A2 y (by omega) (by omega) h.2.inv h.1) fun _ _ _ _ g=>⟨g.1,h.2.trans g.2 (by omega)⟩
  have done:EqH iI (QI K a d A 0) (.ok (x,()) a d A) ((Pm.ret x:Pm Int) a d A):=⟨rfl,hx,Post.refl hi⟩
  have hE:EqH iI (QI K a d A 0) (bif l==3 then((fns n).take T K a d A ([105,115],())).bind fun y16 a16 d16 A16=>bif y16.1 then
     ((fns n).take T K a16 d16 A16 ([115,111,109,101],())).bind fun y20 a20 d20 A20=>bif !y20.1 then
      ((fns n).want T K a20 d20 A20 ([110,111,110,101],())).bind fun _ a24 d24 A24=>((fns n).add T K a24 d24 A24 (nod 44 [x] [],f,())).bind fun y28 a28 d28 A28=>nJ (fns n) T K N a28 d28 A28 l k f t y28.1
     else((fns n).add T K a20 d20 A20 (nod 43 [x] [],f,())).bind fun y24 a24 d24 A24=>nJ (fns n) T K N a24 d24 A24 l k f t y24.1
    else .ok (x,()) a16 d16 A16
   else .ok (x,()) a d A)
   ((bif l==3 then((bU T K [105,115]).bind fun b=>bif b then
    ((bU T K [115,111,109,101]).bind fun b=>bif b then(bS K (nod 43 [x] []) f).bind fun z=>fm T K l f sub N z
     else(aM T K [110,111,110,101]).bind fun _=>(bS K (nod 44 [x] []) f).bind fun z=>fm T K l f sub N z)
    else .ret x)else .ret x:Pm Int) a d A):=by
   cases l==3 with
   |false=>exact done
   |true=>
    show EqH iI _ _ (Pm.bind (bU T K [105,115]) _ a d A)
    unfold Pm.bind
    refine EqH.bind (fa wf (n:=n) (by omega) hi.a0 hi.a1) ?_
    rintro b _ _ _ ⟨hb,rfl,rfl⟩
    rcases hb with⟨rfl,rfl,hlt⟩|⟨rfl,rfl⟩
    ·have hp1:Post K a d A 1 (a+1) d A:=(Post.refl hi).step hlt
     show EqH iI _ _ (Pm.bind (bU T K [115,111,109,101]) _ (a+1) d A)
     unfold Pm.bind
     refine EqH.bind (fa wf (n:=n) (by omega) hp1.inv.a0 hp1.inv.a1) ?_
     rintro b _ _ _ ⟨hb,rfl,rfl⟩
     rcases hb with⟨rfl,rfl,hlt2⟩|⟨rfl,rfl⟩
     ·refine EqH.bind (j6 wf (n:=n) (by omega) ((hp1.step hlt2).up (a:=a) (c:=1) (by omega)) (aS (by simp))) ?_
      rintro y a2 d2 A2 h
      exact again h
     ·refine EqH.bind (bK wf (n:=n) (by omega) hp1.inv.a0 hp1.inv.a1) ?_
      rintro _ _ _ _ ⟨rfl,rfl,hlt3,rfl,rfl⟩
      refine EqH.bind (j6 wf (n:=n) (by omega) ((hp1.step hlt3).up (a:=a) (c:=1) (by omega)) (aS (by simp))) ?_
      rintro y a2 d2 A2 h
      exact again h
    ·exact done
  refine EqH.bind (cw wf (n:=n) (by omega) hi.a0 hi.a1) ?_
  rintro _ _ _ _ ⟨rfl,rfl,rfl,rfl⟩
  show EqH iI _ (bif ai (aa K a)==5 then bif ie (say T (aa K a))==l then _ else _ else _) ((bif ai (aa K a)==5&&ie (say T (aa K a))==l then _ else _:Pm Int) a d A)
  cases h5:ai (aa K a)==5 with
  |false=>exact hE
  |true=>
   cases ie (say T (aa K a))==l with
   |false=>exact hE
   |true=>
    have hk:ai (aa K a)≠0:=fun e=>by rw[e]at h5;exact absurd h5 (by decide)
    have hlt:=cY wf hi.a0 hi.a1 hk
    refine EqH.bind (dh wf (n:=n) (by omega) hi.a0 hi.a1 hk) ?_
    rintro _ _ _ _ ⟨rfl,rfl,rfl,rfl⟩
    show EqH iI _ (PR.bind ((fns n).chain T K (a+1) d A (IntKind.wrap .i64 (l+1),())) _) _
    rw[hl]
    refine EqH.bind (hsub _ _ _ (by omega) (hi.step hlt)) ?_
    rintro y a2 d2 A2 ⟨hy,hp⟩
    refine EqH.bind (j6 wf (n:=n) (by omega) (hp.up (a:=a) (c:=1) (by omega)) (aS (by simp))) ?_
    rintro z a3 d3 A3 h
    exact again h
theorem Cg(wf:WF T K)(hK:KEq T K m):∀(j n:Nat) (l a d:Int) (A:List Nd),l=6-(j:Int)→j≤6→40*m+14+j≤n→2*((K.length:Int)-a)+1≤m→Inv K a d A→EqH iI (QI K a d A 1) ((fns n).chain T K a d A (l,())) (kF T K (kns T K m) j a d A)
 |0,n,l,a,d,A,hl,hj,hn,hm,hi=>by
  have hl:l=6:=by omega
  subst hl
  obtain⟨n,rfl,hn'⟩:=bg (k:=40*m+13) (by omega)
  show EqH iI _ (Cs (fns n) T K a d A 6) _
  unfold Cs uQ kF Pm.bind
  refine EqH.bind (cw wf (n:=n) (by omega) hi.a0 hi.a1) ?_
  rintro _ _ _ _ ⟨rfl,rfl,rfl,rfl⟩
  exact(hK.un n _ _ _ (by omega) hm hi).same
 |j+1,n,l,a,d,A,hl,hj,hn,hm,hi=>by
  have hl:l=5-(j:Int):=by omega
  subst hl
  obtain⟨n,rfl,hn'⟩:=bg (k:=40*m+14+j) (by omega)
  show EqH iI _ (uQ (fns n) T K (nJ (fns n) T K (K.length+2)) a d A (5-(j:Int))) _
  unfold uQ kF Pm.bind
  refine EqH.bind (cw wf (n:=n) (by omega) hi.a0 hi.a1) ?_
  rintro _ _ _ _ ⟨rfl,rfl,rfl,rfl⟩
  rw[decide_eq_false (by omega:¬(5-(j:Int)>5))]
  have hw:IntKind.wrap .i64 (5-(j:Int)+1)=5-(j:Int)+1:=wf_wrap wf (by omega) (by omega)
  have hs:∀a d A,2*((K.length:Int)-a)+1≤m→Inv K a d A→EqH iI (QI K a d A 1) ((fns n).chain T K a d A (5-(j:Int)+1,())) (kF T K (kns T K m) j a d A):=fun a d A hm hi=>by
   exact Cg wf hK j n _ a d A (by omega) (by omega) (by omega) hm hi
  show EqH iI _ (PR.bind ((fns n).chain T K a d A (IntKind.wrap .i64 (5-(j:Int)+1),())) _) _
  rw[hw]
  refine EqH.bind (hs a d A hm hi) ?_
  rintro x a2 d2 A2 ⟨hx,hp⟩
  have hle:=hp.le
  have:=hp.inv.a0
  exact EqH.mono (xR wf (n:=n) (m:=m) (by omega) (5-(j:Int)) _ _ _ hw hs (K.length+2) a2 d2 A2 x (by omega) (by omega) hp.inv hx) fun _ _ _ _ g=>⟨g.1,hp.trans g.2 (by omega)⟩
theorem Jw(wf:WF T K)(hK:KEq T K m)(hn:40*m+22≤n)(hm:2*((K.length:Int)-a)+1≤m)(hi:Inv K a d A):EqH iI (QI K a d A 1) ((fns n).value T K a d A ()) (vL T K (kns T K m) a d A):=by
 obtain⟨n,rfl,hn'⟩:=bg (k:=40*m+21) hn
 show EqH iI _ (uU (fns n) T K a d A) _
 unfold uU vL Pm.bind
 refine EqH.bind (Bb wf (n:=n) (by omega) hi.a0 hi.a1 hi.d0 hi.d1) ?_
 rintro _ _ _ _ ⟨rfl,rfl,hd,rfl⟩
 have hi1:Inv K a (d+1) A:=⟨hi.a0,hi.a1,by have:=hi.d0;omega,hd,hi.len,hi.nd⟩
 refine EqH.bind (Cg wf hK 6 n 0 a (d+1) A rfl (by omega) (by omega) hm hi1) ?_
 rintro x a2 d2 A2 ⟨hx,hp⟩
 have hd2:=hp.eq
 have hd0:=hi.d0
 have hw:IntKind.wrap .i64 (d2-1)=d2-1:=wf_wrap wf (by omega) (by omega)
 have hd3:d2-1=d:=by omega
 show EqH iI _ (.ok (x,()) a2 (IntKind.wrap .i64 (d2-1)) A2) (.ok x a2 (d2-1) A2)
 rw[hw,hd3]
 exact⟨rfl,hx,⟨hp.inv.a0,hp.inv.a1,hi.d0,hi.d1,hp.inv.len,hp.inv.nd⟩,hp.le,rfl,hp.pre⟩
end
end Go.Sx.Tryz
namespace Go.Sx.Tryz
open Go Go.Sx
set_option maxRecDepth 100000
def QW(K:List Tok)(a d:Int)(A:List Nd)(y:Nd×Bool)(a' d':Int)(A':List Nd):Prop:=Small y.1∧Post K a d A 0 a' d' A'∧(y.2=true→a+1≤a')
section
variable{T:List UInt8}{K:List Tok}{n m:Nat}{a d:Int}{A:List Nd}
theorem NU(wf:WF T K)(hK:KEq T K m)(hn:40*m+8≤n)(hm:2*((K.length:Int)-a)≤m)(hi:Inv K a d A)(hk:ai (aa K a)≠0)(s:Str):EqH iNB (QW K a d A) ((fns n).word T K a d A (s,())) (pE T K (kns T K m) s a d A):=by
 obtain⟨n,rfl,hn'⟩:=bg (k:=40*m+7) hn
 have hlt:=cY wf hi.a0 hi.a1 hk
 have hi1:=hi.step hlt
 have hp1:Post K a d A 1 (a+1) d A:=(Post.refl hi).step hlt
 have fin:∀{x:Nd} {a2 d2:Int} {A2:List Nd},Small x→Post K a d A 1 a2 d2 A2→QW K a d A (x,true) a2 d2 A2:=fun hx hp=>⟨hx,hp.up (by omega),fun _=>hp.le⟩
 have skip:∀{k:aA [tI]→Int→Int→List Nd→PR (aA [tN,tB])} {k':Pm (Nd×Bool)},(EqH iNB (QW K a d A) (k (tTo (aa K a),()) (a+1) d A) (k' (a+1) d A))→EqH iNB (QW K a d A) (((fns n).skip T K a d A ()).bind k) ((aW K).bind (fun _=>k') a d A):=fun{k k'} h=>by
  unfold Pm.bind
  refine EqH.bind (dh wf (n:=n) (by omega) hi.a0 hi.a1 hk) ?_
  rintro _ _ _ _ ⟨rfl,rfl,rfl,rfl⟩
  exact h
 show EqH iNB _ (vb (fns n) T K a d A s) _
 unfold vb pE
 cases s==[105,102]with
 |true=>
  refine skip ?_
  unfold Pm.bind
  refine EqH.bind (fX wf hK (n:=n) (by omega) (by omega) hi1) ?_
  rintro x a2 d2 A2 ⟨hx,hp⟩
  have h2:=hp1.trans hp (c:=1) (by omega)
  have h2l:=hp.le
  refine EqH.bind (hK.blk n _ _ _ (by omega) (by omega) h2.inv) ?_
  rintro y a3 d3 A3 ⟨hy,hp3⟩
  have h3:=h2.trans hp3 (c:=1) (by omega)
  have h3l:=hp3.le
  refine EqH.bind (fa wf (n:=n) (by omega) h3.inv.a0 h3.inv.a1) ?_
  rintro b _ _ _ ⟨hb,rfl,rfl⟩
  rcases hb with⟨rfl,rfl,hlt4⟩|⟨rfl,rfl⟩
  ·refine EqH.bind (hK.blk n _ _ _ (by omega) (by omega) (h3.inv.step hlt4)) ?_
   rintro z a5 d5 A5 ⟨hz,hp5⟩
   exact⟨rfl,fin (aS (by simp)) ((h3.step hlt4).trans hp5 (by omega))⟩
  ·exact⟨rfl,fin (aS (by simp)) h3⟩
 |false=>
 cases s==[119,104,105,108,101]with
 |true=>
  refine skip ?_
  unfold Pm.bind
  refine EqH.bind (fX wf hK (n:=n) (by omega) (by omega) hi1) ?_
  rintro x a2 d2 A2 ⟨hx,hp⟩
  have h2:=hp1.trans hp (c:=1) (by omega)
  have h2l:=hp.le
  refine EqH.bind (hK.blk n _ _ _ (by omega) (by omega) h2.inv) ?_
  rintro y a3 d3 A3 ⟨hy,hp3⟩
  exact⟨rfl,fin (aS (by simp)) (h2.trans hp3 (by omega))⟩
 |false=>
 cases s==[98,114,101,97,107]with
 |true=>
  refine skip ?_
  unfold Pm.bind
  refine EqH.bind (bK wf (n:=n) (by omega) hi1.a0 hi1.a1) ?_
  rintro _ _ _ _ ⟨rfl,rfl,hlt2,rfl,rfl⟩
  exact⟨rfl,fin (aS (by simp)) ((hp1.step hlt2).up (by omega))⟩
 |false=>
 cases s==[99,111,110,116,105,110,117,101]with
 |true=>
  refine skip ?_
  unfold Pm.bind
  refine EqH.bind (bK wf (n:=n) (by omega) hi1.a0 hi1.a1) ?_
  rintro _ _ _ _ ⟨rfl,rfl,hlt2,rfl,rfl⟩
  exact⟨rfl,fin (aS (by simp)) ((hp1.step hlt2).up (by omega))⟩
 |false=>
 cases s==[114,101,116,117,114,110]with
 |true=>
  refine skip ?_
  unfold Pm.bind
  refine EqH.bind (sX wf (n:=n) (by omega) hi1.a0 hi1.a1) ?_
  rintro b _ _ _ ⟨_,rfl,rfl,rfl⟩
  cases b with
  |false=>
   refine EqH.bind (hK.val n _ _ _ (by omega) (by omega) hi1) ?_
   rintro x a2 d2 A2 ⟨hx,hp⟩
   have h2:=hp1.trans hp (c:=1) (by omega)
   refine EqH.bind (bK wf (n:=n) (by omega) h2.inv.a0 h2.inv.a1) ?_
   rintro _ _ _ _ ⟨rfl,rfl,hlt2,rfl,rfl⟩
   exact⟨rfl,fin (aS (by simp)) ((h2.step hlt2).up (by omega))⟩
  |true=>
   refine EqH.bind (bK wf (n:=n) (by omega) hi1.a0 hi1.a1) ?_
   rintro _ _ _ _ ⟨rfl,rfl,hlt2,rfl,rfl⟩
   exact⟨rfl,fin (aS (by simp)) ((hp1.step hlt2).up (by omega))⟩
 |false=>
 cases s==[112,114,105,110,116]with
 |true=>
  refine skip ?_
  unfold Pm.bind
  refine EqH.bind (fX wf hK (n:=n) (by omega) (by omega) hi1) ?_
  rintro x a2 d2 A2 ⟨hx,hp⟩
  have h2:=hp1.trans hp (c:=1) (by omega)
  refine EqH.bind (bK wf (n:=n) (by omega) h2.inv.a0 h2.inv.a1) ?_
  rintro _ _ _ _ ⟨rfl,rfl,hlt2,rfl,rfl⟩
  exact⟨rfl,fin (aS (by simp)) ((h2.step hlt2).up (by omega))⟩
 |false=>
 cases s==[115,117,112,101,114]with
 |true=>
  refine skip ?_
  unfold Pm.bind
  refine EqH.bind (zL wf hK (n:=n) (by omega) (by omega) hi1) ?_
  rintro l a2 d2 A2 ⟨hl,hp⟩
  have h2:=hp1.trans hp (c:=1) (by omega)
  refine EqH.bind (bK wf (n:=n) (by omega) h2.inv.a0 h2.inv.a1) ?_
  rintro _ _ _ _ ⟨rfl,rfl,hlt2,rfl,rfl⟩
  exact⟨rfl,fin (aS (by omega)) ((h2.step hlt2).up (by omega))⟩
 |false=>exact⟨rfl,aS (by simp),Post.refl hi,fun h=>by cases h⟩
theorem BI(wf:WF T K)(hK:KEq T K m)(hn:40*m+8≤n)(hm:2*((K.length:Int)-a)+2≤m)(hi:Inv K a d A)(f:Int):EqH iI (QI K a d A 1) ((fns n).plainS T K a d A (f,())) (fc T K (kns T K m) f a d A):=by
 obtain⟨n,rfl,hn'⟩:=bg (k:=40*m+7) hn
 show EqH iI _ (uo (fns n) T K a d A f) _
 unfold uo fc Pm.bind
 refine EqH.bind (hK.val n _ _ _ (by omega) hm hi) ?_
 rintro x a2 d2 A2 ⟨hx,hp⟩
 have hle:=hp.le
 refine EqH.bind (cw wf (n:=n) (by omega) hp.inv.a0 hp.inv.a1) ?_
 rintro _ _ _ _ ⟨rfl,rfl,rfl,rfl⟩
 have hmem:ag A2 x.toNat∈A2:=by
  have:x.toNat<A2.length:=by omega
  unfold ag
  rw[List.getD_eq_getElem?_getD,List.getElem?_eq_getElem this]
  exact List.getElem_mem _
 have hs:=hp.inv.nd _ hmem
 have e1:inI x A2.length=true:=by
  simp only[inI,Bool.and_eq_true,decide_eq_true_eq]
  omega
 have e2:Nat.ble (aj (ag A2 x.toNat)).length 17592186044416=true:=Nat.ble_eq_true_of_le (by omega)
 have e3:Nat.ble (aG (ag A2 x.toNat)).length 17592186044416=true:=Nat.ble_eq_true_of_le (by omega)
 show EqH iI _ (bif inI x A2.length then bif Nat.ble (aj (ag A2 x.toNat)).length 17592186044416 then bif Nat.ble (aG (ag A2 x.toNat)).length 17592186044416 then _ else _ else _ else _) _
 rw[e1,e2,e3]
 show EqH iI _ _ (PR.bind (bU T K [61] a2 d2 A2) _)
 refine EqH.bind (fa wf (n:=n) (by omega) hp.inv.a0 hp.inv.a1) ?_
 rintro b _ _ _ ⟨hb,rfl,rfl⟩
 rcases hb with⟨rfl,rfl,hlt⟩|⟨rfl,rfl⟩
 ·have go:EqH iI (QI K a d A 1) (((fns n).value T K (a2+1) d2 A2 ()).bind fun y19 a19 d19 A19=>((fns n).want T K a19 d19 A19 ([59],())).bind fun _ a23 d23 A23=>((fns n).add T K a23 d23 A23 (nod 10 [x,y19.1] [],f,())).bind fun y a d A=>.ok (y.1,()) a d A)
    ((kns T K m).val.bind (fun y=>(aM T K [59]).bind fun _=>bS K (nod 10 [x,y] []) f) (a2+1) d2 A2):=by
   unfold Pm.bind
   have h1:=hp.step hlt
   refine EqH.bind (hK.val n _ _ _ (by omega) (by omega) h1.inv) ?_
   rintro y a3 d3 A3 ⟨hy,hp3⟩
   have h3:=h1.trans hp3 (c:=1) (by omega)
   refine EqH.bind (bK wf (n:=n) (by omega) h3.inv.a0 h3.inv.a1) ?_
   rintro _ _ _ _ ⟨rfl,rfl,hlt4,rfl,rfl⟩
   exact cu wf (by omega) ((h3.step hlt4).up (by omega)) (aS (by simp))
  show EqH iI _ (bif ak (ag A2 x.toNat) !=25 then bif ak (ag A2 x.toNat) !=26 then bif ak (ag A2 x.toNat) !=27 then _ else _ else _ else _)
   ((bif ak (ag A2 x.toNat)==25||(ak (ag A2 x.toNat)==26||ak (ag A2 x.toNat)==27)then _ else _:Pm Int) (a2+1) d2 A2)
  unfold bne
  cases ak (ag A2 x.toNat)==25 with
  |true=>exact go
  |false=>
   cases ak (ag A2 x.toNat)==26 with
   |true=>exact go
   |false=>
    cases ak (ag A2 x.toNat)==27 with
    |true=>exact go
    |false=>exact EqH.flt
 ·have go:EqH iI (QI K a d A 1) (((fns n).want T K a2 d2 A2 ([59],())).bind fun _ a23 d23 A23=>((fns n).add T K a23 d23 A23 (nod 18 [x] [],f,())).bind fun y a d A=>.ok (y.1,()) a d A)
    ((aM T K [59]).bind (fun _=>bS K (nod 18 [x] []) f) a2 d2 A2):=by
   unfold Pm.bind
   refine EqH.bind (bK wf (n:=n) (by omega) hp.inv.a0 hp.inv.a1) ?_
   rintro _ _ _ _ ⟨rfl,rfl,hlt4,rfl,rfl⟩
   exact cu wf (by omega) ((hp.step hlt4).up (by omega)) (aS (by simp))
  show EqH iI _ (bif ak (ag A2 x.toNat) !=29 then bif ak (ag A2 x.toNat) !=30 then _ else _ else _) ((bif ak (ag A2 x.toNat)==29||ak (ag A2 x.toNat)==30 then _ else _:Pm Int) a2 d2 A2)
  unfold bne
  cases ak (ag A2 x.toNat)==29 with
  |true=>exact go
  |false=>
   cases ak (ag A2 x.toNat)==30 with
   |true=>exact go
   |false=>exact EqH.flt
end
end Go.Sx.Tryz
namespace Go.Sx.Tryz
open Go Go.Sx
set_option maxRecDepth 100000
section
variable{T:List UInt8}{K:List Tok}{n m:Nat}{a d:Int}{A:List Nd}
theorem OF(wf:WF T K)(hK:KEq T K m)(hn:40*m+10≤n)(hm:2*((K.length:Int)-a)+2≤m)(hi:Inv K a d A):EqH iI (QI K a d A 1) ((fns n).stat T K a d A ()) (BX T K (kns T K m) a d A):=by
 obtain⟨n,rfl,hn'⟩:=bg (k:=40*m+9) hn
 have h0:=hi.a0
 show EqH iI _ (tV (fns n) T K a d A) _
 unfold tV BX Pm.bind
 refine EqH.bind (cw wf (n:=n) (by omega) hi.a0 hi.a1) ?_
 rintro _ _ _ _ ⟨rfl,rfl,rfl,rfl⟩
 have hD:∀{X:aA [tB]→Int→Int→List Nd→PR (aA [tI])},(∀b:Bool,EqH iI (QI K a d A 1) (X (b,()) a d A) ((bif b then
  ((cF T K false).bind fun x=>(cW T K).bind fun s=>(bU T K [61]).bind fun b=>bif b then(kns T K m).val.bind fun y=>(aM T K [59]).bind fun _=>bS K (bL x 9 [y] s) (ab (aa K a))
   else(aM T K [59]).bind fun _=>bS K (bL x 9 (aj x) s) (ab (aa K a)))
  else bif ai (aa K a)==1 then(pE T K (kns T K m) (say T (aa K a))).bind fun w=>bif w.2 then bS K w.1 (ab (aa K a))else fc T K (kns T K m) (ab (aa K a))
  else fc T K (kns T K m) (ab (aa K a)):Pm Int) a d A))→
   EqH iI (QI K a d A 1) (((fns n).declares T K a d A ()).bind X) ((dc T K).bind (fun b=>bif b then
  ((cF T K false).bind fun x=>(cW T K).bind fun s=>(bU T K [61]).bind fun b=>bif b then(kns T K m).val.bind fun y=>(aM T K [59]).bind fun _=>bS K (bL x 9 [y] s) (ab (aa K a))
   else(aM T K [59]).bind fun _=>bS K (bL x 9 (aj x) s) (ab (aa K a)))
  else bif ai (aa K a)==1 then(pE T K (kns T K m) (say T (aa K a))).bind fun w=>bif w.2 then bS K w.1 (ab (aa K a))else fc T K (kns T K m) (ab (aa K a))
  else fc T K (kns T K m) (ab (aa K a))) a d A):=fun{X} h=>by
  unfold Pm.bind
  refine EqH.bind (zy wf (n:=n) (by omega) hi.a0 hi.a1) ?_
  rintro b _ _ _ ⟨rfl,rfl,rfl⟩
  exact h b
 have hP:EqH iI (QI K a d A 1) (((fns n).plainS T K a d A (ab (aa K a),())).bind fun y a d A=>.ok (y.1,()) a d A) (fc T K (kns T K m) (ab (aa K a)) a d A):=(BI wf hK (n:=n) (by omega) hm hi _).same
 have hdecl:EqH iI (QI K a d A 1) (((fns n).typed T K a d A (false,())).bind fun y14 a14 d14 A14=>((fns n).name T K a14 d14 A14 ()).bind fun y18 a18 d18 A18=>((fns n).take T K a18 d18 A18 ([61],())).bind fun y22 a22 d22 A22=>
   bif y22.1 then((fns n).value T K a22 d22 A22 ()).bind fun y26 a26 d26 A26=>((fns n).want T K a26 d26 A26 ([59],())).bind fun _ a30 d30 A30=>((fns n).add T K a30 d30 A30 (bL y14.1 9 [y26.1] y18.1,ab (aa K a),())).bind fun y a d A=>.ok (y.1,()) a d A
   else((fns n).want T K a22 d22 A22 ([59],())).bind fun _ a26 d26 A26=>((fns n).add T K a26 d26 A26 (bL y14.1 9 (aj y14.1) y18.1,ab (aa K a),())).bind fun y a d A=>.ok (y.1,()) a d A)
   ((cF T K false).bind (fun x=>(cW T K).bind fun s=>(bU T K [61]).bind fun b=>bif b then(kns T K m).val.bind fun y=>(aM T K [59]).bind fun _=>bS K (bL x 9 [y] s) (ab (aa K a))
   else(aM T K [59]).bind fun _=>bS K (bL x 9 (aj x) s) (ab (aa K a))) a d A):=by
  unfold Pm.bind
  refine EqH.bind (qq wf (n:=n) (by omega) hi.a0 hi.a1 false) ?_
  rintro x a1 _ _ ⟨hx,⟨g1,g2⟩,rfl,rfl⟩
  have hp1:Post K a d A 1 a1 d A:=⟨hi.at (by omega) g2,g1,rfl,[],by simp⟩
  refine EqH.bind (oY wf (n:=n) (by omega) hp1.inv.a0 hp1.inv.a1) ?_
  rintro s _ _ _ ⟨hs,rfl,hlt,rfl,rfl⟩
  have hp2:=hp1.step hlt
  refine EqH.bind (fa wf (n:=n) (by omega) hp2.inv.a0 hp2.inv.a1) ?_
  rintro b _ _ _ ⟨hb,rfl,rfl⟩
  rcases hb with⟨rfl,rfl,hlt3⟩|⟨rfl,rfl⟩
  ·have hp3:=hp2.step hlt3
   refine EqH.bind (hK.val n _ _ _ (by omega) (by omega) hp3.inv) ?_
   rintro y a4 d4 A4 ⟨hy,hp⟩
   have hp4:=hp3.trans hp (c:=1) (by omega)
   refine EqH.bind (bK wf (n:=n) (by omega) hp4.inv.a0 hp4.inv.a1) ?_
   rintro _ _ _ _ ⟨rfl,rfl,hlt5,rfl,rfl⟩
   exact cu wf (by omega) ((hp4.step hlt5).up (by omega)) (dt hx.small (by simp))
  ·refine EqH.bind (bK wf (n:=n) (by omega) hp2.inv.a0 hp2.inv.a1) ?_
   rintro _ _ _ _ ⟨rfl,rfl,hlt5,rfl,rfl⟩
   exact cu wf (by omega) ((hp2.step hlt5).up (by omega)) (dt hx.small (by rw[hx.kids];simp))
 have hword:(ai (aa K a)==1)=true→EqH iI (QI K a d A 1) (((fns n).word T K a d A (say T (aa K a),())).bind fun y14 a14 d14 A14=>bif y14.2.1 then((fns n).add T K a14 d14 A14 (y14.1,ab (aa K a),())).bind fun y a d A=>.ok (y.1,()) a d A
   else((fns n).plainS T K a14 d14 A14 (ab (aa K a),())).bind fun y a d A=>.ok (y.1,()) a d A)
   ((pE T K (kns T K m) (say T (aa K a))).bind (fun w=>bif w.2 then bS K w.1 (ab (aa K a))else fc T K (kns T K m) (ab (aa K a))) a d A):=fun h1=>by
  have hk:ai (aa K a)≠0:=fun e=>by rw[e]at h1;exact absurd h1 (by decide)
  unfold Pm.bind
  refine EqH.bind (NU wf hK (n:=n) (by omega) (by omega) hi hk _) ?_
  rintro ⟨x,b⟩ a2 d2 A2 ⟨hx,hp,hb⟩
  cases b with
  |true=>exact cu wf (by omega) ⟨hp.inv,hb rfl,hp.eq,hp.pre⟩ hx
  |false=>
   have hle:=hp.le
   exact EqH.mono (BI wf hK (n:=n) (by omega) (by omega) hp.inv _).same fun _ _ _ _ g=>⟨g.1,hp.trans g.2 (by omega)⟩
 have hrest:EqH iI (QI K a d A 1) (((fns n).declares T K a d A ()).bind fun y10 a10 d10 A10=>bif y10.1 then((fns n).typed T K a10 d10 A10 (false,())).bind fun y14 a14 d14 A14=>((fns n).name T K a14 d14 A14 ()).bind fun y18 a18 d18 A18=>((fns n).take T K a18 d18 A18 ([61],())).bind fun y22 a22 d22 A22=>
   bif y22.1 then((fns n).value T K a22 d22 A22 ()).bind fun y26 a26 d26 A26=>((fns n).want T K a26 d26 A26 ([59],())).bind fun _ a30 d30 A30=>((fns n).add T K a30 d30 A30 (bL y14.1 9 [y26.1] y18.1,ab (aa K a),())).bind fun y a d A=>.ok (y.1,()) a d A
   else((fns n).want T K a22 d22 A22 ([59],())).bind fun _ a26 d26 A26=>((fns n).add T K a26 d26 A26 (bL y14.1 9 (aj y14.1) y18.1,ab (aa K a),())).bind fun y a d A=>.ok (y.1,()) a d A
   else bif ai (aa K a)==1 then((fns n).word T K a10 d10 A10 (say T (aa K a),())).bind fun y14 a14 d14 A14=>bif y14.2.1 then((fns n).add T K a14 d14 A14 (y14.1,ab (aa K a),())).bind fun y a d A=>.ok (y.1,()) a d A
   else((fns n).plainS T K a14 d14 A14 (ab (aa K a),())).bind fun y a d A=>.ok (y.1,()) a d A
   else((fns n).plainS T K a10 d10 A10 (ab (aa K a),())).bind fun y a d A=>.ok (y.1,()) a d A)
   ((dc T K).bind (fun b=>bif b then
  ((cF T K false).bind fun x=>(cW T K).bind fun s=>(bU T K [61]).bind fun b=>bif b then(kns T K m).val.bind fun y=>(aM T K [59]).bind fun _=>bS K (bL x 9 [y] s) (ab (aa K a))
   else(aM T K [59]).bind fun _=>bS K (bL x 9 (aj x) s) (ab (aa K a)))
  else bif ai (aa K a)==1 then(pE T K (kns T K m) (say T (aa K a))).bind fun w=>bif w.2 then bS K w.1 (ab (aa K a))else fc T K (kns T K m) (ab (aa K a))
  else fc T K (kns T K m) (ab (aa K a))) a d A):=by
  refine hD fun b=>?_
  cases b with
  |true=>exact hdecl
  |false=>
   cases h1:ai (aa K a)==1 with
   |true=>exact hword h1
   |false=>exact hP
 show EqH iI _ (bif ai (aa K a)==5 then bif say T (aa K a)==[123]then _ else _ else _) ((bif ai (aa K a)==5&&say T (aa K a)==[123]then _ else _:Pm Int) a d A)
 cases ai (aa K a)==5 with
 |false=>exact hrest
 |true=>
  cases say T (aa K a)==[123]with
  |false=>exact hrest
  |true=>exact(hK.blk n _ _ _ (by omega) (by omega) hi).same
theorem xh(wf:WF T K)(hK:KEq T K m)(hn:40*m+10≤n)(k f t:Int):∀(N:Nat) (a d:Int) (A:List Nd) (L:List Int),(K.length:Int)-a+1≤N→2*((K.length:Int)-a)+2≤m→Inv K a d A→1≤d→(L.length:Int)≤a→
  EqH iI (fun y a' d' A'=>(0≤y∧y<A'.length)∧Inv K a' d' A'∧a+1≤a'∧d'=d-1∧∃B,A'=A++B) (Dm (fns n) T K N a d A k f t L) (nn T K (kns T K m) f N L a d A)
 |0,a,d,A,L,hN,hm,hi,hd,hL=>by have:=hi.a1;omega
 |N+1,a,d,A,L,hN,hm,hi,hd,hL=>by
  have hmost:=wf.most
  have ha1:=hi.a1
  show EqH iI _ (Jl (fns n) T K (Dm (fns n) T K N) a d A k f t L) _
  unfold Jl nn Pm.bind
  refine EqH.bind (sX wf (n:=n) (by omega) hi.a0 hi.a1) ?_
  rintro b _ _ _ ⟨_,rfl,rfl,rfl⟩
  cases b with
  |true=>
   refine EqH.bind (bK wf (n:=n) (by omega) hi.a0 hi.a1) ?_
   rintro _ _ _ _ ⟨rfl,rfl,hlt,rfl,rfl⟩
   have hd1:=hi.d1
   have hw:IntKind.wrap .i64 (d-1)=d-1:=wf_wrap wf (by omega) (by omega)
   show EqH iI _ (((fns n).add T K (a+1) (IntKind.wrap .i64 (d-1)) A (nod 8 L [],f,())).bind _) (bS K (nod 8 L []) f (a+1) (d-1) A)
   rw[hw]
   have hi2:Inv K (a+1) (d-1) A:=⟨by have:=hi.a0;omega,hlt,by omega,by omega,hi.len,hi.nd⟩
   exact EqH.mono (cu wf (n:=n) (by omega) (Post.refl hi2) (aS (by omega))) fun y a' d' A' g=>⟨g.1,g.2.inv,by have:=g.2.le;omega,g.2.eq,g.2.pre⟩
  |false=>
   refine EqH.bind (OF wf hK (n:=n) (by omega) hm hi) ?_
   rintro x a2 d2 A2 ⟨hx,hp⟩
   have hle:=hp.le
   have hdd:=hp.eq
   show EqH iI _ (bif decide (L.length+[x].length<aq)then _ else _) _
   rw[gz (by omega)]
   exact EqH.mono (xh wf hK hn k f t N a2 d2 A2 (L++[x]) (by omega) (by omega) hp.inv (by omega) (by rw[List.length_append,List.length_singleton];omega)) fun y a' d' A' g=>by
    obtain⟨B1,e1⟩:=hp.pre
    obtain⟨g1,g2,g3,g4,B2,e2⟩:=g
    exact⟨g1,g2,by omega,by omega,B1++B2,by rw[e2,e1,List.append_assoc]⟩
theorem IC(wf:WF T K)(hK:KEq T K m)(hn:40*m+12≤n)(hm:2*((K.length:Int)-a)≤m)(hi:Inv K a d A):EqH iI (QI K a d A 1) ((fns n).block T K a d A ()) (xb T K (kns T K m) a d A):=by
 obtain⟨n,rfl,hn'⟩:=bg (k:=40*m+11) hn
 show EqH iI _ (H5 (fns n) T K (Dm (fns n) T K (K.length+2)) a d A) _
 unfold H5 xb Pm.bind
 refine EqH.bind (cw wf (n:=n) (by omega) hi.a0 hi.a1) ?_
 rintro _ _ _ _ ⟨rfl,rfl,rfl,rfl⟩
 refine EqH.bind (Bb wf (n:=n) (by omega) hi.a0 hi.a1 hi.d0 hi.d1) ?_
 rintro _ _ _ _ ⟨rfl,rfl,hd,rfl⟩
 refine EqH.bind (bK wf (n:=n) (by omega) hi.a0 hi.a1) ?_
 rintro _ _ _ _ ⟨rfl,rfl,hlt,rfl,rfl⟩
 have h0:=hi.a0
 have hd0:=hi.d0
 have hi1:Inv K (a+1) (d+1) A:=⟨by omega,hlt,by omega,hd,hi.len,hi.nd⟩
 exact EqH.mono (xh wf hK (n:=n) (by omega) _ _ _ (K.length+2) (a+1) (d+1) A [] (by omega) (by omega) hi1 (by omega) (by simp;omega)) fun y a' d' A' g=>⟨g.1,g.2.1,by have:=g.2.2.1;omega,by have:=g.2.2.2.1;omega,g.2.2.2.2⟩
theorem kEq(wf:WF T K):∀m,KEq T K m
 |0=>⟨fun n a d A hn hm hi=>by have:=hi.a1;omega,fun n a d A hn hm hi=>by have:=hi.a1;omega,fun n a d A hn hm hi=>by have:=hi.a1;omega⟩
 |m+1=>by
  have hK:=kEq wf m
  exact⟨fun n a d A hn hm hi=>Jw wf hK (by omega) (by omega) hi,fun n a d A hn hm hi=>IC wf hK (by omega) (by omega) hi,fun n a d A hn hm hi=>Jj wf hK (by omega) (by omega) hi⟩
end
end Go.Sx.Tryz
namespace Go.Sx.Tryz
open Go Go.Sx
set_option maxRecDepth 100000
section
variable{T:List UInt8}{K:List Tok}{n m:Nat}{a d:Int}{A:List Nd}
theorem tX(wf:WF T K)(hn:8≤n):∀(N:Nat) (a d:Int) (A:List Nd) (L:List Int),(K.length:Int)-a+1≤N→Inv K a d A→L.length≤64→
  EqH iL (QL K a d A 1) (AU (fns n) T K N a d A L) (iw T K N L a d A)
 |0,a,d,A,L,hN,hi,hL=>by have:=hi.a1;omega
 |N+1,a,d,A,L,hN,hi,hL=>by
  show EqH iL _ (ES (fns n) T K (AU (fns n) T K N) a d A L) _
  unfold ES iw Pm.bind
  refine EqH.bind (fa wf (n:=n) (by omega) hi.a0 hi.a1) ?_
  rintro b _ _ _ ⟨hb,rfl,rfl⟩
  rcases hb with⟨rfl,rfl,hlt⟩|⟨rfl,rfl⟩
  ·exact⟨rfl,hL,⟨hi.step hlt,by omega,rfl,[],by simp⟩⟩
  ·have hl1:IntKind.wrap .i64 ((L.length:Int)+1)=(L.length:Int)+1:=wf_wrap wf (by omega) (by omega)
   have go:∀(a1:Int),a≤a1→a1<K.length→EqH iL (QL K a d A 1) (((fns n).few T K a1 d A (IntKind.wrap .i64 ((L.length:Int)+1),())).bind fun _ a16 d16 A16=>((fns n).next T K a16 d16 A16 ()).bind fun y20 a20 d20 A20=>
      ((fns n).typed T K a20 d20 A20 (false,())).bind fun y24 a24 d24 A24=>((fns n).name T K a24 d24 A24 ()).bind fun y28 a28 d28 A28=>
       ((fns n).add T K a28 d28 A28 (bL y24.1 7 (aj y24.1) y28.1,ab y20.1,())).bind fun y32 a32 d32 A32=>bif decide (L.length+[y32.1].length<aq)then AU (fns n) T K N a32 d32 A32 (L++([y32.1]:List Int))else .bad)
     ((gG K ((L.length:Int)+1)).bind (fun _=>(bM T K).bind fun t=>(cF T K false).bind fun x=>(cW T K).bind fun s=>(bS K (bL x 7 (aj x) s) (ab t.1)).bind fun y=>iw T K N (L++[y])) a1 d A):=fun a1 g0 g1=>by
    have hi1:Inv K a1 d A:=hi.at (by have:=hi.a0;omega) g1
    have h10:=hi1.a0
    rw[hl1]
    unfold Pm.bind
    refine EqH.bind (CH wf (n:=n) (by omega) hi1.a0 hi1.a1) ?_
    rintro _ _ _ _ ⟨rfl,rfl,rfl,h64⟩
    refine EqH.bind (cw wf (n:=n) (by omega) hi1.a0 hi1.a1) ?_
    rintro _ _ _ _ ⟨rfl,rfl,rfl,rfl⟩
    refine EqH.bind (qq wf (n:=n) (by omega) hi1.a0 hi1.a1 false) ?_
    rintro x a2 _ _ ⟨hx,⟨f1,f2⟩,rfl,rfl⟩
    have hp2:Post K a d A 1 a2 d A:=⟨hi.at (by omega) f2,by omega,rfl,[],by simp⟩
    refine EqH.bind (oY wf (n:=n) (by omega) hp2.inv.a0 hp2.inv.a1) ?_
    rintro s _ _ _ ⟨hs,rfl,hlt,rfl,rfl⟩
    refine EqH.bind (j6 wf (n:=n) (by omega) (hp2.step hlt) (dt hx.small (by rw[hx.kids];simp))) ?_
    rintro y a4 d4 A4 ⟨hy,hp⟩
    have hle:=hp.le
    show EqH iL _ (bif decide (L.length+[y].length<aq)then _ else _) _
    rw[gz (by omega)]
    exact EqH.mono (tX wf hn N a4 d4 A4 (L++[y]) (by omega) hp.inv (by rw[List.length_append,List.length_singleton];omega)) fun _ _ _ _ h=>⟨h.1,hp.trans h.2 (by omega)⟩
   show EqH iL _ (bif decide ((L.length:Int)>0)then _ else _) (PR.bind ((bif decide ((L.length:Int)>0)then(aM T K [44]).bind fun _=>.ret ()else .ret ():Pm Unit) a d A) _)
   cases decide ((L.length:Int)>0)with
   |false=>exact go a (Int.le_refl _) hi.a1
   |true=>
    show EqH iL _ (PR.bind ((fns n).want T K a d A ([44],())) _) (PR.bind (PR.bind (aM T K [44] a d A) _) _)
    have hw:=bK wf (n:=n) (a:=a) (d:=d) (A:=A) (s:=[44]) (by omega) hi.a0 hi.a1
    cases e:aM T K [44] a d A with
    |bad=>rw[e]at hw;exact hw.elim
    |fault c p=>
     rw[e]at hw
     have hw:(fns n).want T K a d A ([44],())= .fault c p:=hw
     rw[hw]
     exact EqH.flt
    |ok y a1 d1 A1=>
     rw[e]at hw
     obtain⟨e1,rfl,rfl,hlt,rfl,rfl⟩:=hw
     rw[e1]
     exact go (a+1) (by omega) hlt
theorem zm(wf:WF T K)(hn:9≤n)(hi:Inv K a d A):EqH iL (QL K a d A 2) ((fns n).params T K a d A ()) (kY T K a d A):=by
 obtain⟨n,rfl,hn'⟩:=bg (k:=8) hn
 show EqH iL _ (EX (fns n) T K (AU (fns n) T K (K.length+2)) a d A) _
 unfold EX kY Pm.bind
 refine EqH.bind (bK wf (n:=n) (by omega) hi.a0 hi.a1) ?_
 rintro _ _ _ _ ⟨rfl,rfl,hlt,rfl,rfl⟩
 have:=hi.a0
 exact EqH.mono (tX wf (by omega) (K.length+2) (a+1) d A [] (by omega) (hi.step hlt) (by simp)) fun y a' d' A' h=>⟨h.1,h.2.up (by omega)⟩
theorem HR(wf:WF T K)(hK:KEq T K m)(hn:40*m+12≤n)(hm:2*((K.length:Int)-a)+1≤m)(hi:Inv K a d A):EqH iI (QI K a d A 1) ((fns n).member T K a d A ()) (qf T K (kns T K m) a d A):=by
 obtain⟨n,rfl,hn'⟩:=bg (k:=40*m+11) hn
 have h0:=hi.a0
 have app:∀{l:List Int} {x:Int},l.length≤64→(l++[x]).length≤20000:=fun{l x} h=>by rw[List.length_append,List.length_singleton];omega
 show EqH iI _ (Dd (fns n) T K a d A) _
 unfold Dd qf Pm.bind
 refine EqH.bind (cw wf (n:=n) (by omega) hi.a0 hi.a1) ?_
 rintro _ _ _ _ ⟨rfl,rfl,rfl,rfl⟩
 have hT:EqH iI (QI K a d A 1) (((fns n).typed T K a d A (true,())).bind fun y10 a10 d10 A10=>((fns n).name T K a10 d10 A10 ()).bind fun y14 a14 d14 A14=>((fns n).isS T K a14 d14 A14 ([40],())).bind fun y18 a18 d18 A18=>
   bif y18.1 then((fns n).params T K a18 d18 A18 ()).bind fun y22 a22 d22 A22=>((fns n).block T K a22 d22 A22 ()).bind fun y26 a26 d26 A26=>bif decide (y22.1.length+[y26.1].length<aq)then
     ((fns n).add T K a26 d26 A26 (bL y10.1 6 ((y22.1:List Int)++([y26.1]:List Int)) y14.1,ab (aa K a),())).bind fun y a d A=>.ok (y.1,()) a d A else .bad
   else bif al y10.1==6 then .fault 80 (ab (aa K a))else((fns n).want T K a18 d18 A18 ([59],())).bind fun _ a22 d22 A22=>((fns n).add T K a22 d22 A22 (bL y10.1 4 (aj y10.1) y14.1,ab (aa K a),())).bind fun y a d A=>.ok (y.1,()) a d A)
   ((cF T K true).bind (fun x=>(cW T K).bind fun s=>(cIs T K [40]).bind fun b=>bif b then
   ((kY T K).bind fun l=>(kns T K m).blk.bind fun b=>bS K (bL x 6 (l++[b]) s) (ab (aa K a)))
  else bif al x==6 then .flt 80 (ab (aa K a))else(aM T K [59]).bind fun _=>bS K (bL x 4 (aj x) s) (ab (aa K a))) a d A):=by
  unfold Pm.bind
  refine EqH.bind (qq wf (n:=n) (by omega) hi.a0 hi.a1 true) ?_
  rintro x a1 _ _ ⟨hx,⟨g1,g2⟩,rfl,rfl⟩
  have hp1:Post K a d A 1 a1 d A:=⟨hi.at (by omega) g2,g1,rfl,[],by simp⟩
  refine EqH.bind (oY wf (n:=n) (by omega) hp1.inv.a0 hp1.inv.a1) ?_
  rintro s _ _ _ ⟨hs,rfl,hlt,rfl,rfl⟩
  have hp2:=hp1.step hlt
  refine EqH.bind (sX wf (n:=n) (by omega) hp2.inv.a0 hp2.inv.a1) ?_
  rintro b _ _ _ ⟨_,rfl,rfl,rfl⟩
  cases b with
  |true=>
   refine EqH.bind (zm wf (n:=n) (by omega) hp2.inv) ?_
   rintro l a3 d3 A3 ⟨hl,hp⟩
   have hp3:=hp2.trans hp (c:=1) (by omega)
   have hle:=hp.le
   refine EqH.bind (hK.blk n _ _ _ (by omega) (by omega) hp3.inv) ?_
   rintro y a4 d4 A4 ⟨hy,hp4⟩
   have hp5:=hp3.trans hp4 (c:=1) (by omega)
   show EqH iI _ (bif decide (l.length+[y].length<aq)then _ else _) _
   rw[gz (by omega)]
   exact cu wf (by omega) hp5 (dt hx.small (app hl))
  |false=>
   show EqH iI _ (bif al x==6 then _ else _) ((bif al x==6 then _ else _:Pm Int) (a1+1) d A)
   cases al x==6 with
   |true=>exact EqH.flt
   |false=>
    refine EqH.bind (bK wf (n:=n) (by omega) hp2.inv.a0 hp2.inv.a1) ?_
    rintro _ _ _ _ ⟨rfl,rfl,hlt5,rfl,rfl⟩
    exact cu wf (by omega) ((hp2.step hlt5).up (by omega)) (dt hx.small (by rw[hx.kids];simp))
 show EqH iI _ (bif ai (aa K a)==1 then bif say T (aa K a)==[105,110,105,116]then _ else _ else _) ((bif ai (aa K a)==1&&say T (aa K a)==[105,110,105,116]then _ else _:Pm Int) a d A)
 cases h1:ai (aa K a)==1 with
 |false=>exact hT
 |true=>
  have hk:ai (aa K a)≠0:=fun e=>by rw[e]at h1;exact absurd h1 (by decide)
  have hlt:=cY wf hi.a0 hi.a1 hk
  cases say T (aa K a)==[105,110,105,116]with
  |false=>exact hT
  |true=>
   have hp1:Post K a d A 1 (a+1) d A:=(Post.refl hi).step hlt
   refine EqH.bind (dh wf (n:=n) (by omega) hi.a0 hi.a1 hk) ?_
   rintro _ _ _ _ ⟨rfl,rfl,rfl,rfl⟩
   refine EqH.bind (zm wf (n:=n) (by omega) hp1.inv) ?_
   rintro l a3 d3 A3 ⟨hl,hp⟩
   have hp3:=hp1.trans hp (c:=1) (by omega)
   have hle:=hp.le
   refine EqH.bind (hK.blk n _ _ _ (by omega) (by omega) hp3.inv) ?_
   rintro y a4 d4 A4 ⟨hy,hp4⟩
   have hp5:=hp3.trans hp4 (c:=1) (by omega)
   show EqH iI _ (bif decide (l.length+[y].length<aq)then _ else _) _
   rw[gz (by omega)]
   exact cu wf (by omega) hp5 (aS (app hl))
theorem sk(wf:WF T K)(hK:KEq T K m)(hn:40*m+12≤n)(k f t:Int)(s:Str):∀(N:Nat) (a d:Int) (A:List Nd) (L:List Int),(K.length:Int)-a+1≤N→2*((K.length:Int)-a)+1≤m→Inv K a d A→L.length≤65→
  EqH iI (QI K a d A 1) (D8 (fns n) T K N a d A k f t s L) (lj T K (kns T K m) f s N L a d A)
 |0,a,d,A,L,hN,hm,hi,hL=>by have:=hi.a1;omega
 |N+1,a,d,A,L,hN,hm,hi,hL=>by
  show EqH iI _ (E7 (fns n) T K (D8 (fns n) T K N) a d A k f t s L) _
  unfold E7 lj Pm.bind
  refine EqH.bind (sX wf (n:=n) (by omega) hi.a0 hi.a1) ?_
  rintro b _ _ _ ⟨_,rfl,rfl,rfl⟩
  cases b with
  |true=>
   refine EqH.bind (bK wf (n:=n) (by omega) hi.a0 hi.a1) ?_
   rintro _ _ _ _ ⟨rfl,rfl,hlt,rfl,rfl⟩
   exact cu wf (by omega) ((Post.refl hi).step hlt) (aS (by omega))
  |false=>
   have hl1:IntKind.wrap .i64 ((L.length:Int)+1)=(L.length:Int)+1:=wf_wrap wf (by omega) (by omega)
   show EqH iI _ (PR.bind ((fns n).few T K a d A (IntKind.wrap .i64 ((L.length:Int)+1),())) _) _
   rw[hl1]
   refine EqH.bind (CH wf (n:=n) (by omega) hi.a0 hi.a1) ?_
   rintro _ _ _ _ ⟨rfl,rfl,rfl,h64⟩
   refine EqH.bind (HR wf hK (n:=n) (by omega) hm hi) ?_
   rintro x a2 d2 A2 ⟨hx,hp⟩
   have hle:=hp.le
   show EqH iI _ (bif decide (L.length+[x].length<aq)then _ else _) _
   rw[gz (by omega)]
   exact EqH.mono (sk wf hK hn k f t s N a2 d2 A2 (L++[x]) (by omega) (by omega) hp.inv (by rw[List.length_append,List.length_singleton];omega)) fun _ _ _ _ h=>⟨h.1,hp.trans h.2 (by omega)⟩
theorem Lq(wf:WF T K)(hK:KEq T K m)(hn:40*m+14≤n)(hm:2*((K.length:Int)-a)+1≤m)(hi:Inv K a d A):EqH iI (QI K a d A 1) ((fns n).klass T K a d A ()) (vq T K (kns T K m) a d A):=by
 obtain⟨n,rfl,hn'⟩:=bg (k:=40*m+13) hn
 have h0:=hi.a0
 show EqH iI _ (JC (fns n) T K (D8 (fns n) T K (K.length+2)) a d A) _
 unfold JC vq Pm.bind
 refine EqH.bind (cw wf (n:=n) (by omega) hi.a0 hi.a1) ?_
 rintro _ _ _ _ ⟨rfl,rfl,rfl,rfl⟩
 refine EqH.bind (bK wf (n:=n) (by omega) hi.a0 hi.a1) ?_
 rintro _ _ _ _ ⟨rfl,rfl,hlt,rfl,rfl⟩
 have hp1:Post K a d A 1 (a+1) d A:=(Post.refl hi).step hlt
 refine EqH.bind (oY wf (n:=n) (by omega) hp1.inv.a0 hp1.inv.a1) ?_
 rintro s _ _ _ ⟨hs,rfl,hlt2,rfl,rfl⟩
 have hp2:=hp1.step hlt2
 refine EqH.bind (cw wf (n:=n) (by omega) hp2.inv.a0 hp2.inv.a1) ?_
 rintro _ _ _ _ ⟨rfl,rfl,rfl,rfl⟩
 refine EqH.bind (fa wf (n:=n) (by omega) hp2.inv.a0 hp2.inv.a1) ?_
 rintro b _ _ _ ⟨hb,rfl,rfl⟩
 rcases hb with⟨rfl,rfl,hlt3⟩|⟨rfl,rfl⟩
 ·have hp3:=hp2.step hlt3
  refine EqH.bind (oY wf (n:=n) (by omega) hp3.inv.a0 hp3.inv.a1) ?_
  rintro e _ _ _ ⟨he,rfl,hlt4,rfl,rfl⟩
  refine EqH.bind (j6 wf (n:=n) (by omega) (hp3.step hlt4) (aS (by simp))) ?_
  rintro y a5 d5 A5 ⟨hy,hp5⟩
  refine EqH.bind (bK wf (n:=n) (by omega) hp5.inv.a0 hp5.inv.a1) ?_
  rintro _ _ _ _ ⟨rfl,rfl,hlt6,rfl,rfl⟩
  have hp6:=hp5.step hlt6
  have hle:=hp6.le
  exact EqH.mono (sk wf hK (n:=n) (by omega) _ _ _ s (K.length+2) (a5+1) d5 A5 [y] (by omega) (by omega) hp6.inv (by simp)) fun _ _ _ _ h=>⟨h.1,hp6.trans h.2 (by omega)⟩
 ·refine EqH.bind (bK wf (n:=n) (by omega) hp2.inv.a0 hp2.inv.a1) ?_
  rintro _ _ _ _ ⟨rfl,rfl,hlt6,rfl,rfl⟩
  have hp6:=hp2.step hlt6
  have hle:=hp6.le
  exact EqH.mono (sk wf hK (n:=n) (by omega) _ _ _ s (K.length+2) (a+1+1+1) d A [] (by omega) (by omega) hp6.inv (by simp)) fun _ _ _ _ h=>⟨h.1,hp6.trans h.2 (by omega)⟩
theorem qJ(wf:WF T K)(hK:KEq T K m)(hn:40*m+14≤n):∀(N:Nat) (a d:Int) (A:List Nd) (L:List Int),(K.length:Int)-a+1≤N→2*((K.length:Int)-a)+1≤m→Inv K a d A→L.length≤64→
  EqH iU (fun _ a' d' A'=>Post K a d A 0 a' d' A') (Eg (fns n) T K N a d A L) (iD T K (kns T K m) N L a d A)
 |0,a,d,A,L,hN,hm,hi,hL=>by have:=hi.a1;omega
 |N+1,a,d,A,L,hN,hm,hi,hL=>by
  show EqH iU _ (F3 (fns n) T K (Eg (fns n) T K N) a d A L) _
  unfold F3 iD Pm.bind
  refine EqH.bind (cw wf (n:=n) (by omega) hi.a0 hi.a1) ?_
  rintro _ _ _ _ ⟨rfl,rfl,rfl,rfl⟩
  show EqH iU _ (bif ai (aa K a)==0 then _ else _) ((bif ai (aa K a)==0 then _ else _:Pm Unit) a d A)
  cases ai (aa K a)==0 with
  |true=>
   refine EqH.bind (M5 wf (n:=n) (by omega) hi (aS (by omega))) ?_
   rintro y a2 d2 A2 h
   exact⟨rfl,h.2.2.1⟩
  |false=>
   have hl1:IntKind.wrap .i64 ((L.length:Int)+1)=(L.length:Int)+1:=wf_wrap wf (by omega) (by omega)
   show EqH iU _ (PR.bind ((fns n).few T K a d A (IntKind.wrap .i64 ((L.length:Int)+1),())) _) _
   rw[hl1]
   refine EqH.bind (CH wf (n:=n) (by omega) hi.a0 hi.a1) ?_
   rintro _ _ _ _ ⟨rfl,rfl,rfl,h64⟩
   refine EqH.bind (Lq wf hK (n:=n) (by omega) hm hi) ?_
   rintro x a2 d2 A2 ⟨hx,hp⟩
   have hle:=hp.le
   show EqH iU _ (bif decide (L.length+[x].length<aq)then _ else _) _
   rw[gz (by omega)]
   exact EqH.mono (qJ wf hK hn N a2 d2 A2 (L++[x]) (by omega) (by omega) hp.inv (by rw[List.length_append,List.length_singleton];omega)) fun _ _ _ _ h=>hp.trans h (by omega)
theorem DX(wf:WF T K)(hn:40*m+14≤n)(hm:2*K.length+1≤m):EqH iU (fun _ a' d' A'=>Post K 0 0 [] 0 a' d' A') (tj (fns n) T K 0 0 []) (mJ T K (kns T K m) 0 0 []):=by
 show EqH iU _ (EM (fns n) T K (Eg (fns n) T K (K.length+2)) 0 0 []) _
 unfold EM mJ
 have hp:=wf.pos
 exact qJ wf (kEq wf m) hn (K.length+2) 0 0 [] [] (by omega) (by omega) ⟨by omega,by omega,by omega,by omega,by simp,fun x hx=>by cases hx⟩ (by simp)
end
end Go.Sx.Tryz
namespace Go.Sx.Tryz
open Go Go.Sx Go.Proofs
open Go.RowKit
set_option maxRecDepth 100000
variable{G:Nat→Obj→Prop}
def cL(T:List UInt8):Int:=(mg (T,())).2.1.1
def zW(T:List UInt8):Int:=(mg (T,())).2.1.2.1
def bJ(T:List UInt8):List Tok:=(mg (T,())).1
def dk(n:Nat)(T:List UInt8):aA rsP:=
 bif cL T !=0 then((([]:List Nd),(0:Int),()),(cL T,zW T,()),())
 else match tj (fns n) T (bJ T) 0 0 []with
  | .ok _ _ _ A=>((A,IntKind.wrap .i64 ((A.length:Int)-1),()),((0:Int),(0:Int),()),())
  | .fault c p=>((([]:List Nd),(0:Int),()),(c,p,()),())
  | .bad=>((([]:List Nd),(0:Int),()),((0:Int),(0:Int),()),())
def qm(n:Nat)(T:List UInt8):Bool:=match tj (fns n) T (bJ T) 0 0 []with
  | .ok _ _ _ A=>lf ((A,(0:Int),()),())
  | .fault _ _=>true
  | .bad=>false
theorem xn(J:Jump R0)(T:List UInt8):start (R:=R0) E (ao uZ) mi tH J [.str T] [] .ok=
  bif cL T !=0 then .ok (.ret (.tup [.agg [.nils,.int .i64 0],.agg [.int .i64 (cL T),.int .i64 (zW T)]]),[])
  else J 0 (Bj T (bJ T) (cL T) (zW T)):=Lw J T
theorem zv(ht:iG G):bu Tryz.prog G uZ:=.cons (aZ fun x _=>La ht x) .nil
theorem KU(Q:Go.Sx.Post):place Tryz.prog [true,true,true,true] mi.code Q=some (c31,Q):=rfl
theorem Ob:codeOk 28 mi.code=true:=by kernel_rfl
theorem EF(ht:iG G)(hf:nZ G)(n:Nat)(T:List UInt8)(hok:cL T=0→qm n T=true):SAD Tryz.prog G 10 cK rsP (T,()) (dk n T):=by
 by_cases hlx:cL T=0
 ·have hpo:=hok hlx
  intro D vals hG hm hs hv
  refine .inl ⟨dP OR _ _,calls_of_wp_defers Tryz.func10 rfl ?_⟩
  classical
  let J:Jump R0:=fun j st=>if j=0∧st=Bj T (bJ T) (cL T) (zW T)then Rs.ok (.ret (cV rsP (dk n T)),[])else .err 0
  have hst:start (R:=R0) E (ao uZ) mi tH J [.str T] [] .ok= .ok (.ret (cV rsP (dk n T)),[]):=by
   rw[xn,show(cL T !=0)=false by simp[hlx]]
   exact if_pos ⟨rfl,rfl⟩
  have hev:ev E (ao uZ) (aT 0 tH 0) J mi.code 1 {tmps:=eO 0 [.str T],blks:=aB 0 [],next:=0} (bY E 0 mi.results .ok)= .ok (.ret (cV rsP (dk n T)),[]):=hst
  have hfin:=vM (N:=28) (bo []) hm (fn:=Tryz.f10) (rs:=mi.results) rfl (k:=Rs.ok) (r:=(.ret (cV rsP (dk n T)),[]))
  have hKS:KS D 28 [] (bY E 0 mi.results Rs.ok) (.ret (cV rsP (dk n T)),[]) (bodyPostD Tryz.prog Tryz.f10 (cj D (.ret (cV rsP (dk n T)),[]))):={
   normal:=fun st C a h hr hX=>by
    obtain⟨h1,v,h2,o',h3,h4⟩:=hfin.normal st C a h hr hX
    cases h3
    show Leaves _ _ _ _ a.defers .returning C.w
    rw[h1]
    exact⟨v,h2,h4⟩
   exit:=fun id st C a h hr hX=>(hfin.exit id st C a h hr hX).elim
   ret:=fun st C a h hr hX=>by
    obtain⟨h1,v,h2,o',h3,h4⟩:=hfin.ret st C a h hr hX
    cases h3
    show Leaves _ _ _ _ a.defers .returning C.w
    rw[h1]
    exact⟨v,h2,h4⟩
   panic:=fun v st a w ch h hp hd=>by
    obtain⟨h1,o',h3,h4⟩:=hfin.panic v st a w ch h hp hd
    cases h3
    show Leaves _ _ _ _ a.defers (.panicking ch) w
    rw[h1]
    exact h4}
  have hlen:vals.length=1:=hv.len.symm
  have hSt:StR D {tmps:=vals.toArray++Array.replicate (28-vals.toArray.size) undef,defers:=[]} {tmps:=eO 0 [.str T],blks:=aB 0 [],next:=0} 28 []:=⟨⟨hm,hs,uX hv _⟩,fun k _=>rfl,by simp[hlen],rfl⟩
  have hCS:CS Tryz.prog (XJ Tryz.prog D 28 [] (aT 0 tH 0) J (.ret (cV rsP (dk n T)),[])) mi.code 1 (bodyPostD Tryz.prog Tryz.f10 (cj D (.ret (cV rsP (dk n T)),[]))):=by
   refine xS _ _ _ ?_
   intro d r c' Q' hp j f hc st C a hJ hr hX
   obtain⟨c,_,hcn,hcp,_⟩:=ji hc
   have hj0:j=0:=by
    have:J j st= .ok (.ret (cV rsP (dk n T)),[]):=hJ
    simp only[J]at this
    split at this
    ·rename_i h;exact h.1
    ·cases this
   subst hj0
   have hst:st=Bj T (bJ T) (cL T) (zW T):=by
    have:J 0 st= .ok (.ret (cV rsP (dk n T)),[]):=hJ
    simp only[J]at this
    split at this
    ·rename_i h;exact h.2
    ·cases this
   subst hst
   cases hcn
   have hpath:=wX _ [true,true,true,true] (d::r) (Nat.le_refl _) hcp
   rw[←hpath,KU]at hp
   cases hp
   refine zF ht hf n hG hm hs hr hX ?_
   have hb:(cL T !=0)=false:=by simp[hlx]
   unfold qm at hpo
   cases e:tj (fns n) T (bJ T) 0 0 []with
   |ok z a' d' A'=>
    rw[e]at hpo
    refine .inr ⟨z,a',d',A',rfl,hpo,?_⟩
    unfold dk
    rw[hb,e]
    rfl
   |fault c p=>
    refine .inl ⟨c,p,rfl,?_⟩
    unfold dk
    rw[hb,e]
    rfl
   |bad=>
    rw[e]at hpo
    cases hpo
  exact iy (bo []) (aV (zv ht)) hG (rh (bs:=[]) hm (.inl cH)) mi.code 1 _ _ _ D _ Ob hCS hKS hev hSt (Ext.refl D)
 ·have h1:start (R:=R0) E (ao uZ) mi tH cq [.str T] [] .ok= .ok (.ret (.tup [.agg [.nils,.int .i64 0],.agg [.int .i64 (cL T),.int .i64 (zW T)]]),[]):=by
   rw[xn,show(cL T !=0)=true by simp[hlx]]
   rfl
  have h2:=bA (bo []) (aV (zv ht)) OR (.inl cH) (n:=0) h1
  refine SA.data (rs:=rsP) h2 (y:=dk n T) (m:=[]) ?_
  unfold dk
  rw[show(cL T !=0)=true by simp[hlx]]
  rfl
end Go.Sx.Tryz
