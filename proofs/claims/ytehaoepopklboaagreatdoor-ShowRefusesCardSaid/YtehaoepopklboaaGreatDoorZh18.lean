/- A part of the proof: see the row's text. -/
import Derived.Test.YtehaoepopklboaaGreatDoorZh17
import Derived.Test.YtehaoepopklboaaGreatDoorZh16
set_option linter.unusedVariables false
set_option linter.unusedSimpArgs false
noncomputable section
namespace Go.Sx.Tryz
open Go Go.Sx
set_option maxRecDepth 100000
section
variable{T:List UInt8}{K:List Tok}{n m:Nat}{a d:Int}{A:List Nd}
theorem JT(wf:WF T K)(hK:KEq T K m)(hn:40*m+7≤n)(hm:2*((K.length:Int)-a)≤m)(hi:Inv K a d A)(x f:Int):EqH iI (QI K a d A 0) ((fns n).part T K a d A (x,f,())) (BW T K (kns T K m) x f a d A):=by
 obtain⟨n,rfl,hn'⟩:=aZ (k:=40*m+6) hn
 show EqH iI _ (rC (fns n) T K a d A x f) _
 unfold rC tz BW Pm.bind
 refine EqH.bind (dK wf (n:=n) (by omega) hi.a0 hi.a1) ?_
 rintro b _ _ _ ⟨hb,rfl,rfl⟩
 rcases hb with⟨rfl,rfl,hlt⟩|⟨rfl,rfl⟩
 ·exact b8 wf (by omega) (((Post.refl hi).step hlt).up (by omega)) (aL (by simp))
 refine EqH.bind (dK wf (n:=n) (by omega) hi.a0 hi.a1) ?_
 rintro b _ _ _ ⟨hb,rfl,rfl⟩
 rcases hb with⟨rfl,rfl,hlt⟩|⟨rfl,rfl⟩
 ·exact b8 wf (by omega) (((Post.refl hi).step hlt).up (by omega)) (aL (by simp))
 refine EqH.bind (lW wf (n:=n) (by omega) hi.a0 hi.a1) ?_
 rintro s _ _ _ ⟨hs,rfl,hlt,rfl,rfl⟩
 have hi1:=hi.step hlt
 have hp1:Post K a d A 1 (a+1) d A:=(Post.refl hi).step hlt
 refine EqH.bind (pE wf (n:=n) (by omega) hi1.a0 hi1.a1) ?_
 rintro b _ _ _ ⟨_,rfl,rfl,rfl⟩
 cases b with
 |true=>
  refine EqH.bind (vX wf hK (n:=n) (by omega) (by omega) hi1) ?_
  rintro l a2 d2 A2 ⟨hl,hp⟩
  have e:decide ([x].length+l.length<ar)=true:=decide_eq_true (by
   unfold ar
   show 1+l.length<2^36
   omega)
  show EqH iI _ (bif decide ([x].length+l.length<ar)then _ else _) _
  rw[e]
  exact b8 wf (by omega) ((hp1.trans hp (c:=0) (by omega))) (aL (by simp;omega))
 |false=>exact b8 wf (by omega) (hp1.up (by omega)) (aL (by simp))
theorem rH(wf:WF T K)(hK:KEq T K m)(hn:40*m+7≤n)(k f t:Int):∀(N:Nat) (a d:Int) (A:List Nd) (x:Int),(K.length:Int)-a+1≤N→2*((K.length:Int)-a)≤m→Inv K a d A→(0≤x∧x<A.length)→
  EqH iI (QI K a d A 0) (nG (fns n) T K N a d A k f t x) (eH T K (kns T K m) f N x a d A)
 |0,a,d,A,x,hN,hm,hi,hx=>by have:=hi.a1;omega
 |N+1,a,d,A,x,hN,hm,hi,hx=>by
  show EqH iI _ (uZ (fns n) T K (nG (fns n) T K N) a d A k f t x) _
  unfold uZ sb eH Pm.bind
  have again:∀{a2 d2:Int} {A2:List Nd} {y:Int},QI K a d A 1 y a2 d2 A2→EqH iI (QI K a d A 0) (nG (fns n) T K N a2 d2 A2 k f t y) (eH T K (kns T K m) f N y a2 d2 A2):=fun{a2 d2 A2 y} h=>by
   have hle:=h.2.le
   exact EqH.mono (rH wf hK hn k f t N a2 d2 A2 y (by omega) (by omega) h.2.inv h.1) fun _ _ _ _ g=>⟨g.1,h.2.trans g.2 (by omega)⟩
  refine EqH.bind (dK wf (n:=n) (by omega) hi.a0 hi.a1) ?_
  rintro b _ _ _ ⟨hb,rfl,rfl⟩
  rcases hb with⟨rfl,rfl,hlt⟩|⟨rfl,rfl⟩
  ·refine EqH.bind (iq wf (n:=n) (by omega) ((Post.refl hi).step hlt) (aL (by simp))) ?_
   rintro y a2 d2 A2 h
   exact again h
  refine EqH.bind (dK wf (n:=n) (by omega) hi.a0 hi.a1) ?_
  rintro b _ _ _ ⟨hb,rfl,rfl⟩
  rcases hb with⟨rfl,rfl,hlt⟩|⟨rfl,rfl⟩
  ·refine EqH.bind (hK.val n _ _ _ (by omega) (by omega) (hi.step hlt)) ?_
   rintro y a2 d2 A2 ⟨hy,hp⟩
   refine EqH.bind (bE wf (n:=n) (by omega) hp.inv.a0 hp.inv.a1) ?_
   rintro _ _ _ _ ⟨rfl,rfl,hlt2,rfl,rfl⟩
   refine EqH.bind (iq wf (n:=n) (by omega) (((hp.step hlt2).up (a:=a) (c:=1) (by omega))) (aL (by simp))) ?_
   rintro y a2 d2 A2 h
   exact again h
  refine EqH.bind (dK wf (n:=n) (by omega) hi.a0 hi.a1) ?_
  rintro b _ _ _ ⟨hb,rfl,rfl⟩
  rcases hb with⟨rfl,rfl,hlt⟩|⟨rfl,rfl⟩
  ·refine EqH.bind (JT wf hK (n:=n) (by omega) (by omega) (hi.step hlt) x f) ?_
   rintro y a2 d2 A2 ⟨hy,hp⟩
   exact again ⟨hy,hp.up (by omega)⟩
  exact⟨rfl,hx,Post.refl hi⟩
theorem En(wf:WF T K)(hK:KEq T K m)(hn:40*m+10≤n)(hm:2*((K.length:Int)-a)≤m)(hi:Inv K a d A):EqH iI (QI K a d A 1) ((fns n).behind T K a d A ()) (nw T K (kns T K m) a d A):=by
 obtain⟨n,rfl,hn'⟩:=aZ (k:=40*m+9) hn
 show EqH iI _ (vh (fns n) T K (nG (fns n) T K (K.length+2)) a d A) _
 unfold vh sz nw Pm.bind
 refine EqH.bind (b7 wf (n:=n) (by omega) hi.a0 hi.a1) ?_
 rintro _ _ _ _ ⟨rfl,rfl,rfl,rfl⟩
 refine EqH.bind (AF wf hK (n:=n) (by omega) hm hi) ?_
 rintro x a2 d2 A2 ⟨hx,hp⟩
 have:=hp.inv.a0
 have hle:=hp.le
 exact EqH.mono (rH wf hK (n:=n) (by omega) _ _ _ (K.length+2) a2 d2 A2 x (by omega) (by omega) hp.inv hx) fun _ _ _ _ g=>⟨g.1,hp.trans g.2 (by omega)⟩
theorem Ce(wf:WF T K)(hK:KEq T K m)(hn:40*m+12≤n)(hm:2*((K.length:Int)-a)≤m)(hi:Inv K a d A):EqH iI (QI K a d A 1) ((fns n).unary T K a d A ()) (xp T K (kns T K m) a d A):=by
 obtain⟨n,rfl,hn'⟩:=aZ (k:=40*m+11) hn
 show EqH iI _ (rA (fns n) T K a d A) _
 unfold rA tk xp Pm.bind
 refine EqH.bind (b7 wf (n:=n) (by omega) hi.a0 hi.a1) ?_
 rintro _ _ _ _ ⟨rfl,rfl,rfl,rfl⟩
 dsimp only[iTS]
 have hB:EqH iI (QI K a d A 1) (((fns n).behind T K a d A ()).bind fun y a d A=>.ok (y.1,()) a d A) (nw T K (kns T K m) a d A):=(En wf hK (n:=n) (by omega) hm hi).same
 show EqH iI _ (bif az (af K a) !=5 then _ else bif !say T (af K a)==[33]then bif !say T (af K a)==[45]then _ else _ else _) ((bif az (af K a)==5&&(say T (af K a)==[33]||say T (af K a)==[45])then _ else _:Pm Int) a d A)
 cases h5:az (af K a)==5 with
 |false=>
  rw[show(az (af K a) !=5)=true by simp[bne,h5]]
  exact hB
 |true=>
  rw[show(az (af K a) !=5)=false by simp[bne,h5]]
  have hk:az (af K a)≠0:=fun e=>by rw[e]at h5;exact absurd h5 (by decide)
  have hlt:=cD wf hi.a0 hi.a1 hk
  have go:∀b b':Bool,b=b'→EqH iI (QI K a d A 1) (((fns n).goIn T K a d A ()).bind fun _ a10 d10 A10=>((fns n).skip T K a10 d10 A10 ()).bind fun _ a14 d14 A14=>((fns n).unary T K a14 d14 A14 ()).bind fun y18 a18 d18 A18=>
    bif b then((fns n).add T K a18 (IntKind.wrap .i64 (d18-1)) A18 (nod 32 [y18.1] [],ag (af K a),())).bind fun y a d A=>.ok (y.1,()) a d A
    else((fns n).add T K a18 (IntKind.wrap .i64 (d18-1)) A18 (nod 33 [y18.1] [],ag (af K a),())).bind fun y a d A=>.ok (y.1,()) a d A)
    ((qN K).bind (fun _=>(bM K).bind fun _=>(kns T K m).un.bind fun x=>FF.bind fun _=>bQ K (nod (bif b' then 32 else 33) [x] []) (ag (af K a))) a d A):=fun b b' hbb=>by
   subst hbb
   unfold Pm.bind
   refine EqH.bind (wG wf (n:=n) (by omega) hi.a0 hi.a1 hi.d0 hi.d1) ?_
   rintro _ _ _ _ ⟨rfl,rfl,hd,rfl⟩
   refine EqH.bind (cF wf (n:=n) (by omega) hi.a0 hi.a1 hk) ?_
   rintro _ _ _ _ ⟨rfl,rfl,rfl,rfl⟩
   have hi1:Inv K (a+1) (d+1) A:=⟨by have:=hi.a0;omega,hlt,by have:=hi.d0;omega,hd,hi.len,hi.nd⟩
   refine EqH.bind (hK.un n _ _ _ (by omega) (by omega) hi1) ?_
   rintro x a2 d2 A2 ⟨hx,hp⟩
   have hd2:=hp.eq
   have hd0:=hi.d0
   have hw:IntKind.wrap .i64 (d2-1)=d:=by rw[wf_wrap wf (by omega) (by omega)];omega
   have hp2:Post K a d A 1 a2 d A2:=⟨⟨hp.inv.a0,hp.inv.a1,hi.d0,hi.d1,hp.inv.len,hp.inv.nd⟩,by have:=hp.le;omega,rfl,hp.pre⟩
   have hd3:d2-1=d:=by omega
   show EqH iI _ (bif b then((fns n).add T K a2 (IntKind.wrap .i64 (d2-1)) A2 (nod 32 [x] [],ag (af K a),())).bind _ else((fns n).add T K a2 (IntKind.wrap .i64 (d2-1)) A2 (nod 33 [x] [],ag (af K a),())).bind _) (bQ K (nod (bif b then 32 else 33) [x] []) (ag (af K a)) a2 (d2-1) A2)
   rw[hw,hd3]
   cases b with
   |true=>exact b8 wf (by omega) hp2 (aL (by simp))
   |false=>exact b8 wf (by omega) hp2 (aL (by simp))
  cases h33:say T (af K a)==[33]with
  |true=>exact go _ _ rfl
  |false=>
   cases h45:say T (af K a)==[45]with
   |true=>exact go _ true h45
   |false=>exact hB
end
end Go.Sx.Tryz
namespace Go.Sx.Tryz
open Go Go.Sx
set_option maxRecDepth 100000
section
variable{T:List UInt8}{K:List Tok}{n m:Nat}{a d:Int}{A:List Nd}
theorem vi(wf:WF T K)(hn:3≤n)(l k f t:Int){sub:Pm Int}(hl:IntKind.wrap .i64 (l+1)=l+1)(hsub:∀a d A,2*((K.length:Int)-a)+1≤m→Inv K a d A→EqH iI (QI K a d A 1) ((fns n).chain T K a d A (l+1,())) (sub a d A)):
  ∀(N:Nat) (a d:Int) (A:List Nd) (x:Int),(K.length:Int)-a+1≤N→2*((K.length:Int)-a)+1≤m→Inv K a d A→(0≤x∧x<A.length)→EqH iI (QI K a d A 0) (lq (fns n) T K N a d A l k f t x) (eC T K l f sub N x a d A)
 |0,a,d,A,x,hN,hm,hi,hx=>by have:=hi.a1;omega
 |N+1,a,d,A,x,hN,hm,hi,hx=>by
  show EqH iI _ (ug (fns n) T K (lq (fns n) T K N) a d A l k f t x) _
  unfold ug sS eC Pm.bind
  have again:∀{a2 d2:Int} {A2:List Nd} {y:Int},QI K a d A 1 y a2 d2 A2→EqH iI (QI K a d A 0) (lq (fns n) T K N a2 d2 A2 l k f t y) (eC T K l f sub N y a2 d2 A2):=fun{a2 d2 A2 y} h=>by
   have hle:=h.2.le
   exact EqH.mono (vi wf hn l k f t hl hsub N a2 d2 A2 y (by omega) (by omega) h.2.inv h.1) fun _ _ _ _ g=>⟨g.1,h.2.trans g.2 (by omega)⟩
  have done:EqH iI (QI K a d A 0) (.ok (x,()) a d A) ((Pm.ret x:Pm Int) a d A):=⟨rfl,hx,Post.refl hi⟩
  have hE:EqH iI (QI K a d A 0) (bif l==3 then((fns n).take T K a d A ([105,115],())).bind fun y16 a16 d16 A16=>bif y16.1 then
     ((fns n).take T K a16 d16 A16 ([115,111,109,101],())).bind fun y20 a20 d20 A20=>bif !y20.1 then
      ((fns n).want T K a20 d20 A20 ([110,111,110,101],())).bind fun _ a24 d24 A24=>((fns n).add T K a24 d24 A24 (nod 44 [x] [],f,())).bind fun y28 a28 d28 A28=>lq (fns n) T K N a28 d28 A28 l k f t y28.1
     else((fns n).add T K a20 d20 A20 (nod 43 [x] [],f,())).bind fun y24 a24 d24 A24=>lq (fns n) T K N a24 d24 A24 l k f t y24.1
    else .ok (x,()) a16 d16 A16
   else .ok (x,()) a d A)
   ((bif l==3 then((cJ T K [105,115]).bind fun b=>bif b then
    ((cJ T K [115,111,109,101]).bind fun b=>bif b then(bQ K (nod 43 [x] []) f).bind fun z=>eC T K l f sub N z
     else(bd T K [110,111,110,101]).bind fun _=>(bQ K (nod 44 [x] []) f).bind fun z=>eC T K l f sub N z)
    else .ret x)else .ret x:Pm Int) a d A):=by
   cases l==3 with
   |false=>exact done
   |true=>
    show EqH iI _ _ (Pm.bind (cJ T K [105,115]) _ a d A)
    unfold Pm.bind
    refine EqH.bind (dK wf (n:=n) (by omega) hi.a0 hi.a1) ?_
    rintro b _ _ _ ⟨hb,rfl,rfl⟩
    rcases hb with⟨rfl,rfl,hlt⟩|⟨rfl,rfl⟩
    ·have hp1:Post K a d A 1 (a+1) d A:=(Post.refl hi).step hlt
     show EqH iI _ _ (Pm.bind (cJ T K [115,111,109,101]) _ (a+1) d A)
     unfold Pm.bind
     refine EqH.bind (dK wf (n:=n) (by omega) hp1.inv.a0 hp1.inv.a1) ?_
     rintro b _ _ _ ⟨hb,rfl,rfl⟩
     rcases hb with⟨rfl,rfl,hlt2⟩|⟨rfl,rfl⟩
     ·refine EqH.bind (iq wf (n:=n) (by omega) ((hp1.step hlt2).up (a:=a) (c:=1) (by omega)) (aL (by simp))) ?_
      rintro y a2 d2 A2 h
      exact again h
     ·refine EqH.bind (bE wf (n:=n) (by omega) hp1.inv.a0 hp1.inv.a1) ?_
      rintro _ _ _ _ ⟨rfl,rfl,hlt3,rfl,rfl⟩
      refine EqH.bind (iq wf (n:=n) (by omega) ((hp1.step hlt3).up (a:=a) (c:=1) (by omega)) (aL (by simp))) ?_
      rintro y a2 d2 A2 h
      exact again h
    ·exact done
  refine EqH.bind (b7 wf (n:=n) (by omega) hi.a0 hi.a1) ?_
  rintro _ _ _ _ ⟨rfl,rfl,rfl,rfl⟩
  show EqH iI _ (bif az (af K a)==5 then bif eY (say T (af K a))==l then _ else _ else _) ((bif az (af K a)==5&&eY (say T (af K a))==l then _ else _:Pm Int) a d A)
  cases h5:az (af K a)==5 with
  |false=>exact hE
  |true=>
   cases eY (say T (af K a))==l with
   |false=>exact hE
   |true=>
    have hk:az (af K a)≠0:=fun e=>by rw[e]at h5;exact absurd h5 (by decide)
    have hlt:=cD wf hi.a0 hi.a1 hk
    refine EqH.bind (cF wf (n:=n) (by omega) hi.a0 hi.a1 hk) ?_
    rintro _ _ _ _ ⟨rfl,rfl,rfl,rfl⟩
    show EqH iI _ (PR.bind ((fns n).chain T K (a+1) d A (IntKind.wrap .i64 (l+1),())) _) _
    rw[hl]
    refine EqH.bind (hsub _ _ _ (by omega) (hi.step hlt)) ?_
    rintro y a2 d2 A2 ⟨hy,hp⟩
    refine EqH.bind (iq wf (n:=n) (by omega) (hp.up (a:=a) (c:=1) (by omega)) (aL (by simp))) ?_
    rintro z a3 d3 A3 h
    exact again h
theorem yk(wf:WF T K)(hK:KEq T K m):∀(j n:Nat) (l a d:Int) (A:List Nd),l=6-(j:Int)→j≤6→40*m+14+j≤n→2*((K.length:Int)-a)+1≤m→Inv K a d A→EqH iI (QI K a d A 1) ((fns n).chain T K a d A (l,())) (kl T K (kns T K m) j a d A)
 |0,n,l,a,d,A,hl,hj,hn,hm,hi=>by
  have hl:l=6:=by omega
  subst hl
  obtain⟨n,rfl,hn'⟩:=aZ (k:=40*m+13) (by omega)
  show EqH iI _ (x7 (fns n) T K a d A 6) _
  unfold x7 rD oC kl Pm.bind
  refine EqH.bind (b7 wf (n:=n) (by omega) hi.a0 hi.a1) ?_
  rintro _ _ _ _ ⟨rfl,rfl,rfl,rfl⟩
  exact(hK.un n _ _ _ (by omega) hm hi).same
 |j+1,n,l,a,d,A,hl,hj,hn,hm,hi=>by
  have hl:l=5-(j:Int):=by omega
  subst hl
  obtain⟨n,rfl,hn'⟩:=aZ (k:=40*m+14+j) (by omega)
  show EqH iI _ (rD (fns n) T K (lq (fns n) T K (K.length+2)) a d A (5-(j:Int))) _
  unfold rD oC kl Pm.bind
  refine EqH.bind (b7 wf (n:=n) (by omega) hi.a0 hi.a1) ?_
  rintro _ _ _ _ ⟨rfl,rfl,rfl,rfl⟩
  rw[decide_eq_false (by omega:¬(5-(j:Int)>5))]
  have hw:IntKind.wrap .i64 (5-(j:Int)+1)=5-(j:Int)+1:=wf_wrap wf (by omega) (by omega)
  have hs:∀a d A,2*((K.length:Int)-a)+1≤m→Inv K a d A→EqH iI (QI K a d A 1) ((fns n).chain T K a d A (5-(j:Int)+1,())) (kl T K (kns T K m) j a d A):=fun a d A hm hi=>by
   exact yk wf hK j n _ a d A (by omega) (by omega) (by omega) hm hi
  show EqH iI _ (PR.bind ((fns n).chain T K a d A (IntKind.wrap .i64 (5-(j:Int)+1),())) _) _
  rw[hw]
  refine EqH.bind (hs a d A hm hi) ?_
  rintro x a2 d2 A2 ⟨hx,hp⟩
  have hle:=hp.le
  have:=hp.inv.a0
  exact EqH.mono (vi wf (n:=n) (m:=m) (by omega) (5-(j:Int)) _ _ _ hw hs (K.length+2) a2 d2 A2 x (by omega) (by omega) hp.inv hx) fun _ _ _ _ g=>⟨g.1,hp.trans g.2 (by omega)⟩
theorem Ct(wf:WF T K)(hK:KEq T K m)(hn:40*m+22≤n)(hm:2*((K.length:Int)-a)+1≤m)(hi:Inv K a d A):EqH iI (QI K a d A 1) ((fns n).value T K a d A ()) (xv T K (kns T K m) a d A):=by
 obtain⟨n,rfl,hn'⟩:=aZ (k:=40*m+21) hn
 show EqH iI _ (qF (fns n) T K a d A) _
 unfold qF tE xv Pm.bind
 refine EqH.bind (wG wf (n:=n) (by omega) hi.a0 hi.a1 hi.d0 hi.d1) ?_
 rintro _ _ _ _ ⟨rfl,rfl,hd,rfl⟩
 have hi1:Inv K a (d+1) A:=⟨hi.a0,hi.a1,by have:=hi.d0;omega,hd,hi.len,hi.nd⟩
 refine EqH.bind (yk wf hK 6 n 0 a (d+1) A rfl (by omega) (by omega) hm hi1) ?_
 rintro x a2 d2 A2 ⟨hx,hp⟩
 have hd2:=hp.eq
 have hd0:=hi.d0
 have hw:IntKind.wrap .i64 (d2-1)=d2-1:=wf_wrap wf (by omega) (by omega)
 have hd3:d2-1=d:=by omega
 show EqH iI _ (.ok (x,()) a2 (IntKind.wrap .i64 (d2-1)) A2) (.ok x a2 (d2-1) A2)
 rw[hw,hd3]
 exact⟨rfl,hx,⟨hp.inv.a0,hp.inv.a1,hi.d0,hi.d1,hp.inv.len,hp.inv.nd⟩,hp.le,rfl,hp.pre⟩
end
end Go.Sx.Tryz
namespace Go.Sx.Tryz
open Go Go.Sx
set_option maxRecDepth 100000
def QW(K:List Tok)(a d:Int)(A:List Nd)(y:Nd×Bool)(a' d':Int)(A':List Nd):Prop:=Small y.1∧Post K a d A 0 a' d' A'∧(y.2=true→a+1≤a')
section
variable{T:List UInt8}{K:List Tok}{n m:Nat}{a d:Int}{A:List Nd}
theorem J9(wf:WF T K)(hK:KEq T K m)(hn:40*m+8≤n)(hm:2*((K.length:Int)-a)≤m)(hi:Inv K a d A)(hk:az (af K a)≠0)(s:Str):EqH iNB (QW K a d A) ((fns n).word T K a d A (s,())) (ph T K (kns T K m) s a d A):=by
 obtain⟨n,rfl,hn'⟩:=aZ (k:=40*m+7) hn
 have hlt:=cD wf hi.a0 hi.a1 hk
 have hi1:=hi.step hlt
 have hp1:Post K a d A 1 (a+1) d A:=(Post.refl hi).step hlt
 have fin:∀{x:Nd} {a2 d2:Int} {A2:List Nd},Small x→Post K a d A 1 a2 d2 A2→QW K a d A (x,true) a2 d2 A2:=fun hx hp=>⟨hx,hp.up (by omega),fun _=>hp.le⟩
 have skip:∀{k:ai [tI]→Int→Int→List Nd→PR (ai [tN,tB])} {k':Pm (Nd×Bool)},(EqH iNB (QW K a d A) (k (tTo (af K a),()) (a+1) d A) (k' (a+1) d A))→EqH iNB (QW K a d A) (((fns n).skip T K a d A ()).bind k) ((bM K).bind (fun _=>k') a d A):=fun{k k'} h=>by
  unfold Pm.bind
  refine EqH.bind (cF wf (n:=n) (by omega) hi.a0 hi.a1 hk) ?_
  rintro _ _ _ _ ⟨rfl,rfl,rfl,rfl⟩
  exact h
 show EqH iNB _ (qJ (fns n) T K a d A s) _
 unfold qJ tD ph
 cases s==[105,102]with
 |true=>
  refine skip ?_
  unfold Pm.bind
  refine EqH.bind (eF wf hK (n:=n) (by omega) (by omega) hi1) ?_
  rintro x a2 d2 A2 ⟨hx,hp⟩
  have h2:=hp1.trans hp (c:=1) (by omega)
  have h2l:=hp.le
  refine EqH.bind (hK.blk n _ _ _ (by omega) (by omega) h2.inv) ?_
  rintro y a3 d3 A3 ⟨hy,hp3⟩
  have h3:=h2.trans hp3 (c:=1) (by omega)
  have h3l:=hp3.le
  refine EqH.bind (dK wf (n:=n) (by omega) h3.inv.a0 h3.inv.a1) ?_
  rintro b _ _ _ ⟨hb,rfl,rfl⟩
  rcases hb with⟨rfl,rfl,hlt4⟩|⟨rfl,rfl⟩
  ·refine EqH.bind (hK.blk n _ _ _ (by omega) (by omega) (h3.inv.step hlt4)) ?_
   rintro z a5 d5 A5 ⟨hz,hp5⟩
   exact⟨rfl,fin (aL (by simp)) ((h3.step hlt4).trans hp5 (by omega))⟩
  ·exact⟨rfl,fin (aL (by simp)) h3⟩
 |false=>
 cases s==[119,104,105,108,101]with
 |true=>
  refine skip ?_
  unfold Pm.bind
  refine EqH.bind (eF wf hK (n:=n) (by omega) (by omega) hi1) ?_
  rintro x a2 d2 A2 ⟨hx,hp⟩
  have h2:=hp1.trans hp (c:=1) (by omega)
  have h2l:=hp.le
  refine EqH.bind (hK.blk n _ _ _ (by omega) (by omega) h2.inv) ?_
  rintro y a3 d3 A3 ⟨hy,hp3⟩
  exact⟨rfl,fin (aL (by simp)) (h2.trans hp3 (by omega))⟩
 |false=>
 cases s==[98,114,101,97,107]with
 |true=>
  refine skip ?_
  unfold Pm.bind
  refine EqH.bind (bE wf (n:=n) (by omega) hi1.a0 hi1.a1) ?_
  rintro _ _ _ _ ⟨rfl,rfl,hlt2,rfl,rfl⟩
  exact⟨rfl,fin (aL (by simp)) ((hp1.step hlt2).up (by omega))⟩
 |false=>
 cases s==[99,111,110,116,105,110,117,101]with
 |true=>
  refine skip ?_
  unfold Pm.bind
  refine EqH.bind (bE wf (n:=n) (by omega) hi1.a0 hi1.a1) ?_
  rintro _ _ _ _ ⟨rfl,rfl,hlt2,rfl,rfl⟩
  exact⟨rfl,fin (aL (by simp)) ((hp1.step hlt2).up (by omega))⟩
 |false=>
 cases s==[114,101,116,117,114,110]with
 |true=>
  refine skip ?_
  unfold Pm.bind
  refine EqH.bind (pE wf (n:=n) (by omega) hi1.a0 hi1.a1) ?_
  rintro b _ _ _ ⟨_,rfl,rfl,rfl⟩
  cases b with
  |false=>
   refine EqH.bind (hK.val n _ _ _ (by omega) (by omega) hi1) ?_
   rintro x a2 d2 A2 ⟨hx,hp⟩
   have h2:=hp1.trans hp (c:=1) (by omega)
   refine EqH.bind (bE wf (n:=n) (by omega) h2.inv.a0 h2.inv.a1) ?_
   rintro _ _ _ _ ⟨rfl,rfl,hlt2,rfl,rfl⟩
   exact⟨rfl,fin (aL (by simp)) ((h2.step hlt2).up (by omega))⟩
  |true=>
   refine EqH.bind (bE wf (n:=n) (by omega) hi1.a0 hi1.a1) ?_
   rintro _ _ _ _ ⟨rfl,rfl,hlt2,rfl,rfl⟩
   exact⟨rfl,fin (aL (by simp)) ((hp1.step hlt2).up (by omega))⟩
 |false=>
 cases s==[112,114,105,110,116]with
 |true=>
  refine skip ?_
  unfold Pm.bind
  refine EqH.bind (eF wf hK (n:=n) (by omega) (by omega) hi1) ?_
  rintro x a2 d2 A2 ⟨hx,hp⟩
  have h2:=hp1.trans hp (c:=1) (by omega)
  refine EqH.bind (bE wf (n:=n) (by omega) h2.inv.a0 h2.inv.a1) ?_
  rintro _ _ _ _ ⟨rfl,rfl,hlt2,rfl,rfl⟩
  exact⟨rfl,fin (aL (by simp)) ((h2.step hlt2).up (by omega))⟩
 |false=>
 cases s==[115,117,112,101,114]with
 |true=>
  refine skip ?_
  unfold Pm.bind
  refine EqH.bind (vX wf hK (n:=n) (by omega) (by omega) hi1) ?_
  rintro l a2 d2 A2 ⟨hl,hp⟩
  have h2:=hp1.trans hp (c:=1) (by omega)
  refine EqH.bind (bE wf (n:=n) (by omega) h2.inv.a0 h2.inv.a1) ?_
  rintro _ _ _ _ ⟨rfl,rfl,hlt2,rfl,rfl⟩
  exact⟨rfl,fin (aL (by omega)) ((h2.step hlt2).up (by omega))⟩
 |false=>exact⟨rfl,aL (by simp),Post.refl hi,fun h=>by cases h⟩
theorem xM(wf:WF T K)(hK:KEq T K m)(hn:40*m+8≤n)(hm:2*((K.length:Int)-a)+2≤m)(hi:Inv K a d A)(f:Int):EqH iI (QI K a d A 1) ((fns n).plainS T K a d A (f,())) (dZ T K (kns T K m) f a d A):=by
 obtain⟨n,rfl,hn'⟩:=aZ (k:=40*m+7) hn
 show EqH iI _ (qD (fns n) T K a d A f) _
 unfold qD tq dZ Pm.bind
 refine EqH.bind (hK.val n _ _ _ (by omega) hm hi) ?_
 rintro x a2 d2 A2 ⟨hx,hp⟩
 have hle:=hp.le
 refine EqH.bind (b7 wf (n:=n) (by omega) hp.inv.a0 hp.inv.a1) ?_
 rintro _ _ _ _ ⟨rfl,rfl,rfl,rfl⟩
 have hmem:aj A2 x.toNat∈A2:=by
  have:x.toNat<A2.length:=by omega
  unfold aj
  rw[List.getD_eq_getElem?_getD,List.getElem?_eq_getElem this]
  exact List.getElem_mem _
 have hs:=hp.inv.nd _ hmem
 have e1:inI x A2.length=true:=by
  simp only[inI,Bool.and_eq_true,decide_eq_true_eq]
  omega
 have e2:Nat.ble (aa (aj A2 x.toNat)).length 17592186044416=true:=Nat.ble_eq_true_of_le (by omega)
 have e3:Nat.ble (aF (aj A2 x.toNat)).length 17592186044416=true:=Nat.ble_eq_true_of_le (by omega)
 show EqH iI _ (bif inI x A2.length then bif Nat.ble (aa (aj A2 x.toNat)).length 17592186044416 then bif Nat.ble (aF (aj A2 x.toNat)).length 17592186044416 then _ else _ else _ else _) _
 rw[e1,e2,e3]
 show EqH iI _ _ (PR.bind (cJ T K [61] a2 d2 A2) _)
 refine EqH.bind (dK wf (n:=n) (by omega) hp.inv.a0 hp.inv.a1) ?_
 rintro b _ _ _ ⟨hb,rfl,rfl⟩
 rcases hb with⟨rfl,rfl,hlt⟩|⟨rfl,rfl⟩
 ·have go:EqH iI (QI K a d A 1) (((fns n).value T K (a2+1) d2 A2 ()).bind fun y19 a19 d19 A19=>((fns n).want T K a19 d19 A19 ([59],())).bind fun _ a23 d23 A23=>((fns n).add T K a23 d23 A23 (nod 10 [x,y19.1] [],f,())).bind fun y a d A=>.ok (y.1,()) a d A)
    ((kns T K m).val.bind (fun y=>(bd T K [59]).bind fun _=>bQ K (nod 10 [x,y] []) f) (a2+1) d2 A2):=by
   unfold Pm.bind
   have h1:=hp.step hlt
   refine EqH.bind (hK.val n _ _ _ (by omega) (by omega) h1.inv) ?_
   rintro y a3 d3 A3 ⟨hy,hp3⟩
   have h3:=h1.trans hp3 (c:=1) (by omega)
   refine EqH.bind (bE wf (n:=n) (by omega) h3.inv.a0 h3.inv.a1) ?_
   rintro _ _ _ _ ⟨rfl,rfl,hlt4,rfl,rfl⟩
   exact b8 wf (by omega) ((h3.step hlt4).up (by omega)) (aL (by simp))
  show EqH iI _ (bif ae (aj A2 x.toNat) !=25 then bif ae (aj A2 x.toNat) !=26 then bif ae (aj A2 x.toNat) !=27 then _ else _ else _ else _)
   ((bif ae (aj A2 x.toNat)==25||(ae (aj A2 x.toNat)==26||ae (aj A2 x.toNat)==27)then _ else _:Pm Int) (a2+1) d2 A2)
  unfold bne
  cases ae (aj A2 x.toNat)==25 with
  |true=>exact go
  |false=>
   cases ae (aj A2 x.toNat)==26 with
   |true=>exact go
   |false=>
    cases ae (aj A2 x.toNat)==27 with
    |true=>exact go
    |false=>exact EqH.flt
 ·have go:EqH iI (QI K a d A 1) (((fns n).want T K a2 d2 A2 ([59],())).bind fun _ a23 d23 A23=>((fns n).add T K a23 d23 A23 (nod 18 [x] [],f,())).bind fun y a d A=>.ok (y.1,()) a d A)
    ((bd T K [59]).bind (fun _=>bQ K (nod 18 [x] []) f) a2 d2 A2):=by
   unfold Pm.bind
   refine EqH.bind (bE wf (n:=n) (by omega) hp.inv.a0 hp.inv.a1) ?_
   rintro _ _ _ _ ⟨rfl,rfl,hlt4,rfl,rfl⟩
   exact b8 wf (by omega) ((hp.step hlt4).up (by omega)) (aL (by simp))
  show EqH iI _ (bif ae (aj A2 x.toNat) !=29 then bif ae (aj A2 x.toNat) !=30 then _ else _ else _) ((bif ae (aj A2 x.toNat)==29||ae (aj A2 x.toNat)==30 then _ else _:Pm Int) a2 d2 A2)
  unfold bne
  cases ae (aj A2 x.toNat)==29 with
  |true=>exact go
  |false=>
   cases ae (aj A2 x.toNat)==30 with
   |true=>exact go
   |false=>exact EqH.flt
end
end Go.Sx.Tryz
namespace Go.Sx.Tryz
open Go Go.Sx
set_option maxRecDepth 100000
section
variable{T:List UInt8}{K:List Tok}{n m:Nat}{a d:Int}{A:List Nd}
theorem Kv(wf:WF T K)(hK:KEq T K m)(hn:40*m+10≤n)(hm:2*((K.length:Int)-a)+2≤m)(hi:Inv K a d A):EqH iI (QI K a d A 1) ((fns n).stat T K a d A ()) (Dj T K (kns T K m) a d A):=by
 obtain⟨n,rfl,hn'⟩:=aZ (k:=40*m+9) hn
 have h0:=hi.a0
 show EqH iI _ (qh (fns n) T K a d A) _
 unfold qh tF Dj Pm.bind
 refine EqH.bind (b7 wf (n:=n) (by omega) hi.a0 hi.a1) ?_
 rintro _ _ _ _ ⟨rfl,rfl,rfl,rfl⟩
 have hD:∀{X:ai [tB]→Int→Int→List Nd→PR (ai [tI])},(∀b:Bool,EqH iI (QI K a d A 1) (X (b,()) a d A) ((bif b then
  ((ef T K false).bind fun x=>(fE T K).bind fun s=>(cJ T K [61]).bind fun b=>bif b then(kns T K m).val.bind fun y=>(bd T K [59]).bind fun _=>bQ K (cw x 9 [y] s) (ag (af K a))
   else(bd T K [59]).bind fun _=>bQ K (cw x 9 (aa x) s) (ag (af K a)))
  else bif az (af K a)==1 then(ph T K (kns T K m) (say T (af K a))).bind fun w=>bif w.2 then bQ K w.1 (ag (af K a))else dZ T K (kns T K m) (ag (af K a))
  else dZ T K (kns T K m) (ag (af K a)):Pm Int) a d A))→
   EqH iI (QI K a d A 1) (((fns n).declares T K a d A ()).bind X) ((fO T K).bind (fun b=>bif b then
  ((ef T K false).bind fun x=>(fE T K).bind fun s=>(cJ T K [61]).bind fun b=>bif b then(kns T K m).val.bind fun y=>(bd T K [59]).bind fun _=>bQ K (cw x 9 [y] s) (ag (af K a))
   else(bd T K [59]).bind fun _=>bQ K (cw x 9 (aa x) s) (ag (af K a)))
  else bif az (af K a)==1 then(ph T K (kns T K m) (say T (af K a))).bind fun w=>bif w.2 then bQ K w.1 (ag (af K a))else dZ T K (kns T K m) (ag (af K a))
  else dZ T K (kns T K m) (ag (af K a))) a d A):=fun{X} h=>by
  unfold Pm.bind
  refine EqH.bind (wQ wf (n:=n) (by omega) hi.a0 hi.a1) ?_
  rintro b _ _ _ ⟨rfl,rfl,rfl⟩
  exact h b
 have hP:EqH iI (QI K a d A 1) (((fns n).plainS T K a d A (ag (af K a),())).bind fun y a d A=>.ok (y.1,()) a d A) (dZ T K (kns T K m) (ag (af K a)) a d A):=(xM wf hK (n:=n) (by omega) hm hi _).same
 have hdecl:EqH iI (QI K a d A 1) (((fns n).typed T K a d A (false,())).bind fun y14 a14 d14 A14=>((fns n).name T K a14 d14 A14 ()).bind fun y18 a18 d18 A18=>((fns n).take T K a18 d18 A18 ([61],())).bind fun y22 a22 d22 A22=>
   bif y22.1 then((fns n).value T K a22 d22 A22 ()).bind fun y26 a26 d26 A26=>((fns n).want T K a26 d26 A26 ([59],())).bind fun _ a30 d30 A30=>((fns n).add T K a30 d30 A30 (cw y14.1 9 [y26.1] y18.1,ag (af K a),())).bind fun y a d A=>.ok (y.1,()) a d A
   else((fns n).want T K a22 d22 A22 ([59],())).bind fun _ a26 d26 A26=>((fns n).add T K a26 d26 A26 (cw y14.1 9 (aa y14.1) y18.1,ag (af K a),())).bind fun y a d A=>.ok (y.1,()) a d A)
   ((ef T K false).bind (fun x=>(fE T K).bind fun s=>(cJ T K [61]).bind fun b=>bif b then(kns T K m).val.bind fun y=>(bd T K [59]).bind fun _=>bQ K (cw x 9 [y] s) (ag (af K a))
   else(bd T K [59]).bind fun _=>bQ K (cw x 9 (aa x) s) (ag (af K a))) a d A):=by
  unfold Pm.bind
  refine EqH.bind (nn wf (n:=n) (by omega) hi.a0 hi.a1 false) ?_
  rintro x a1 _ _ ⟨hx,⟨g1,g2⟩,rfl,rfl⟩
  have hp1:Post K a d A 1 a1 d A:=⟨hi.at (by omega) g2,g1,rfl,[],by simp⟩
  refine EqH.bind (lW wf (n:=n) (by omega) hp1.inv.a0 hp1.inv.a1) ?_
  rintro s _ _ _ ⟨hs,rfl,hlt,rfl,rfl⟩
  have hp2:=hp1.step hlt
  refine EqH.bind (dK wf (n:=n) (by omega) hp2.inv.a0 hp2.inv.a1) ?_
  rintro b _ _ _ ⟨hb,rfl,rfl⟩
  rcases hb with⟨rfl,rfl,hlt3⟩|⟨rfl,rfl⟩
  ·have hp3:=hp2.step hlt3
   refine EqH.bind (hK.val n _ _ _ (by omega) (by omega) hp3.inv) ?_
   rintro y a4 d4 A4 ⟨hy,hp⟩
   have hp4:=hp3.trans hp (c:=1) (by omega)
   refine EqH.bind (bE wf (n:=n) (by omega) hp4.inv.a0 hp4.inv.a1) ?_
   rintro _ _ _ _ ⟨rfl,rfl,hlt5,rfl,rfl⟩
   exact b8 wf (by omega) ((hp4.step hlt5).up (by omega)) (cN hx.small (by simp))
  ·refine EqH.bind (bE wf (n:=n) (by omega) hp2.inv.a0 hp2.inv.a1) ?_
   rintro _ _ _ _ ⟨rfl,rfl,hlt5,rfl,rfl⟩
   exact b8 wf (by omega) ((hp2.step hlt5).up (by omega)) (cN hx.small (by rw[hx.kids];simp))
 have hword:(az (af K a)==1)=true→EqH iI (QI K a d A 1) (((fns n).word T K a d A (say T (af K a),())).bind fun y14 a14 d14 A14=>bif y14.2.1 then((fns n).add T K a14 d14 A14 (y14.1,ag (af K a),())).bind fun y a d A=>.ok (y.1,()) a d A
   else((fns n).plainS T K a14 d14 A14 (ag (af K a),())).bind fun y a d A=>.ok (y.1,()) a d A)
   ((ph T K (kns T K m) (say T (af K a))).bind (fun w=>bif w.2 then bQ K w.1 (ag (af K a))else dZ T K (kns T K m) (ag (af K a))) a d A):=fun h1=>by
  have hk:az (af K a)≠0:=fun e=>by rw[e]at h1;exact absurd h1 (by decide)
  unfold Pm.bind
  refine EqH.bind (J9 wf hK (n:=n) (by omega) (by omega) hi hk _) ?_
  rintro ⟨x,b⟩ a2 d2 A2 ⟨hx,hp,hb⟩
  cases b with
  |true=>exact b8 wf (by omega) ⟨hp.inv,hb rfl,hp.eq,hp.pre⟩ hx
  |false=>
   have hle:=hp.le
   exact EqH.mono (xM wf hK (n:=n) (by omega) (by omega) hp.inv _).same fun _ _ _ _ g=>⟨g.1,hp.trans g.2 (by omega)⟩
 have hrest:EqH iI (QI K a d A 1) (((fns n).declares T K a d A ()).bind fun y10 a10 d10 A10=>bif y10.1 then((fns n).typed T K a10 d10 A10 (false,())).bind fun y14 a14 d14 A14=>((fns n).name T K a14 d14 A14 ()).bind fun y18 a18 d18 A18=>((fns n).take T K a18 d18 A18 ([61],())).bind fun y22 a22 d22 A22=>
   bif y22.1 then((fns n).value T K a22 d22 A22 ()).bind fun y26 a26 d26 A26=>((fns n).want T K a26 d26 A26 ([59],())).bind fun _ a30 d30 A30=>((fns n).add T K a30 d30 A30 (cw y14.1 9 [y26.1] y18.1,ag (af K a),())).bind fun y a d A=>.ok (y.1,()) a d A
   else((fns n).want T K a22 d22 A22 ([59],())).bind fun _ a26 d26 A26=>((fns n).add T K a26 d26 A26 (cw y14.1 9 (aa y14.1) y18.1,ag (af K a),())).bind fun y a d A=>.ok (y.1,()) a d A
   else bif az (af K a)==1 then((fns n).word T K a10 d10 A10 (say T (af K a),())).bind fun y14 a14 d14 A14=>bif y14.2.1 then((fns n).add T K a14 d14 A14 (y14.1,ag (af K a),())).bind fun y a d A=>.ok (y.1,()) a d A
   else((fns n).plainS T K a14 d14 A14 (ag (af K a),())).bind fun y a d A=>.ok (y.1,()) a d A
   else((fns n).plainS T K a10 d10 A10 (ag (af K a),())).bind fun y a d A=>.ok (y.1,()) a d A)
   ((fO T K).bind (fun b=>bif b then
  ((ef T K false).bind fun x=>(fE T K).bind fun s=>(cJ T K [61]).bind fun b=>bif b then(kns T K m).val.bind fun y=>(bd T K [59]).bind fun _=>bQ K (cw x 9 [y] s) (ag (af K a))
   else(bd T K [59]).bind fun _=>bQ K (cw x 9 (aa x) s) (ag (af K a)))
  else bif az (af K a)==1 then(ph T K (kns T K m) (say T (af K a))).bind fun w=>bif w.2 then bQ K w.1 (ag (af K a))else dZ T K (kns T K m) (ag (af K a))
  else dZ T K (kns T K m) (ag (af K a))) a d A):=by
  refine hD fun b=>?_
  cases b with
  |true=>exact hdecl
  |false=>
   cases h1:az (af K a)==1 with
   |true=>exact hword h1
   |false=>exact hP
 show EqH iI _ (bif az (af K a)==5 then bif say T (af K a)==[123]then _ else _ else _) ((bif az (af K a)==5&&say T (af K a)==[123]then _ else _:Pm Int) a d A)
 cases az (af K a)==5 with
 |false=>exact hrest
 |true=>
  cases say T (af K a)==[123]with
  |false=>exact hrest
  |true=>exact(hK.blk n _ _ _ (by omega) (by omega) hi).same
theorem uT(wf:WF T K)(hK:KEq T K m)(hn:40*m+10≤n)(k f t:Int):∀(N:Nat) (a d:Int) (A:List Nd) (L:List Int),(K.length:Int)-a+1≤N→2*((K.length:Int)-a)+2≤m→Inv K a d A→1≤d→(L.length:Int)≤a→
  EqH iI (fun y a' d' A'=>(0≤y∧y<A'.length)∧Inv K a' d' A'∧a+1≤a'∧d'=d-1∧∃B,A'=A++B) (Aa (fns n) T K N a d A k f t L) (nc T K (kns T K m) f N L a d A)
 |0,a,d,A,L,hN,hm,hi,hd,hL=>by have:=hi.a1;omega
 |N+1,a,d,A,L,hN,hm,hi,hd,hL=>by
  have hmost:=wf.most
  have ha1:=hi.a1
  show EqH iI _ (Dy (fns n) T K (Aa (fns n) T K N) a d A k f t L) _
  unfold Dy yb nc Pm.bind
  refine EqH.bind (pE wf (n:=n) (by omega) hi.a0 hi.a1) ?_
  rintro b _ _ _ ⟨_,rfl,rfl,rfl⟩
  cases b with
  |true=>
   refine EqH.bind (bE wf (n:=n) (by omega) hi.a0 hi.a1) ?_
   rintro _ _ _ _ ⟨rfl,rfl,hlt,rfl,rfl⟩
   have hd1:=hi.d1
   have hw:IntKind.wrap .i64 (d-1)=d-1:=wf_wrap wf (by omega) (by omega)
   show EqH iI _ (((fns n).add T K (a+1) (IntKind.wrap .i64 (d-1)) A (nod 8 L [],f,())).bind _) (bQ K (nod 8 L []) f (a+1) (d-1) A)
   rw[hw]
   have hi2:Inv K (a+1) (d-1) A:=⟨by have:=hi.a0;omega,hlt,by omega,by omega,hi.len,hi.nd⟩
   exact EqH.mono (b8 wf (n:=n) (by omega) (Post.refl hi2) (aL (by omega))) fun y a' d' A' g=>⟨g.1,g.2.inv,by have:=g.2.le;omega,g.2.eq,g.2.pre⟩
  |false=>
   refine EqH.bind (Kv wf hK (n:=n) (by omega) hm hi) ?_
   rintro x a2 d2 A2 ⟨hx,hp⟩
   have hle:=hp.le
   have hdd:=hp.eq
   show EqH iI _ (bif decide (L.length+[x].length<ar)then _ else _) _
   rw[eN (by omega)]
   exact EqH.mono (uT wf hK hn k f t N a2 d2 A2 (L++[x]) (by omega) (by omega) hp.inv (by omega) (by rw[List.length_append,List.length_singleton];omega)) fun y a' d' A' g=>by
    obtain⟨B1,e1⟩:=hp.pre
    obtain⟨g1,g2,g3,g4,B2,e2⟩:=g
    exact⟨g1,g2,by omega,by omega,B1++B2,by rw[e2,e1,List.append_assoc]⟩
theorem CX(wf:WF T K)(hK:KEq T K m)(hn:40*m+12≤n)(hm:2*((K.length:Int)-a)≤m)(hi:Inv K a d A):EqH iI (QI K a d A 1) ((fns n).block T K a d A ()) (vW T K (kns T K m) a d A):=by
 obtain⟨n,rfl,hn'⟩:=aZ (k:=40*m+11) hn
 show EqH iI _ (Dl (fns n) T K (Aa (fns n) T K (K.length+2)) a d A) _
 unfold Dl za vW Pm.bind
 refine EqH.bind (b7 wf (n:=n) (by omega) hi.a0 hi.a1) ?_
 rintro _ _ _ _ ⟨rfl,rfl,rfl,rfl⟩
 refine EqH.bind (wG wf (n:=n) (by omega) hi.a0 hi.a1 hi.d0 hi.d1) ?_
 rintro _ _ _ _ ⟨rfl,rfl,hd,rfl⟩
 refine EqH.bind (bE wf (n:=n) (by omega) hi.a0 hi.a1) ?_
 rintro _ _ _ _ ⟨rfl,rfl,hlt,rfl,rfl⟩
 have h0:=hi.a0
 have hd0:=hi.d0
 have hi1:Inv K (a+1) (d+1) A:=⟨by omega,hlt,by omega,hd,hi.len,hi.nd⟩
 exact EqH.mono (uT wf hK (n:=n) (by omega) _ _ _ (K.length+2) (a+1) (d+1) A [] (by omega) (by omega) hi1 (by omega) (by simp;omega)) fun y a' d' A' g=>⟨g.1,g.2.1,by have:=g.2.2.1;omega,by have:=g.2.2.2.1;omega,g.2.2.2.2⟩
theorem kEq(wf:WF T K):∀m,KEq T K m
 |0=>⟨fun n a d A hn hm hi=>by have:=hi.a1;omega,fun n a d A hn hm hi=>by have:=hi.a1;omega,fun n a d A hn hm hi=>by have:=hi.a1;omega⟩
 |m+1=>by
  have hK:=kEq wf m
  exact⟨fun n a d A hn hm hi=>Ct wf hK (by omega) (by omega) hi,fun n a d A hn hm hi=>CX wf hK (by omega) (by omega) hi,fun n a d A hn hm hi=>Ce wf hK (by omega) (by omega) hi⟩
end
end Go.Sx.Tryz
namespace Go.Sx.Tryz
open Go Go.Sx
set_option maxRecDepth 100000
section
variable{T:List UInt8}{K:List Tok}{n m:Nat}{a d:Int}{A:List Nd}
theorem rf(wf:WF T K)(hn:8≤n):∀(N:Nat) (a d:Int) (A:List Nd) (L:List Int),(K.length:Int)-a+1≤N→Inv K a d A→L.length≤64→
  EqH iL (QL K a d A 1) (wk (fns n) T K N a d A L) (jb T K N L a d A)
 |0,a,d,A,L,hN,hi,hL=>by have:=hi.a1;omega
 |N+1,a,d,A,L,hN,hi,hL=>by
  show EqH iL _ (Cq (fns n) T K (wk (fns n) T K N) a d A L) _
  unfold Cq yN jb Pm.bind
  refine EqH.bind (dK wf (n:=n) (by omega) hi.a0 hi.a1) ?_
  rintro b _ _ _ ⟨hb,rfl,rfl⟩
  rcases hb with⟨rfl,rfl,hlt⟩|⟨rfl,rfl⟩
  ·exact⟨rfl,hL,⟨hi.step hlt,by omega,rfl,[],by simp⟩⟩
  ·have hl1:IntKind.wrap .i64 ((L.length:Int)+1)=(L.length:Int)+1:=wf_wrap wf (by omega) (by omega)
   have go:∀(a1:Int),a≤a1→a1<K.length→EqH iL (QL K a d A 1) (((fns n).few T K a1 d A (IntKind.wrap .i64 ((L.length:Int)+1),())).bind fun _ a16 d16 A16=>((fns n).next T K a16 d16 A16 ()).bind fun y20 a20 d20 A20=>
      ((fns n).typed T K a20 d20 A20 (false,())).bind fun y24 a24 d24 A24=>((fns n).name T K a24 d24 A24 ()).bind fun y28 a28 d28 A28=>
       ((fns n).add T K a28 d28 A28 (cw y24.1 7 (aa y24.1) y28.1,ag y20.1,())).bind fun y32 a32 d32 A32=>bif decide (L.length+[y32.1].length<ar)then wk (fns n) T K N a32 d32 A32 (L++([y32.1]:List Int))else .bad)
     ((uM K ((L.length:Int)+1)).bind (fun _=>(cM T K).bind fun t=>(ef T K false).bind fun x=>(fE T K).bind fun s=>(bQ K (cw x 7 (aa x) s) (ag t.1)).bind fun y=>jb T K N (L++[y])) a1 d A):=fun a1 g0 g1=>by
    have hi1:Inv K a1 d A:=hi.at (by have:=hi.a0;omega) g1
    have h10:=hi1.a0
    rw[hl1]
    unfold Pm.bind
    refine EqH.bind (x4 wf (n:=n) (by omega) hi1.a0 hi1.a1) ?_
    rintro _ _ _ _ ⟨rfl,rfl,rfl,h64⟩
    refine EqH.bind (b7 wf (n:=n) (by omega) hi1.a0 hi1.a1) ?_
    rintro _ _ _ _ ⟨rfl,rfl,rfl,rfl⟩
    refine EqH.bind (nn wf (n:=n) (by omega) hi1.a0 hi1.a1 false) ?_
    rintro x a2 _ _ ⟨hx,⟨f1,f2⟩,rfl,rfl⟩
    have hp2:Post K a d A 1 a2 d A:=⟨hi.at (by omega) f2,by omega,rfl,[],by simp⟩
    refine EqH.bind (lW wf (n:=n) (by omega) hp2.inv.a0 hp2.inv.a1) ?_
    rintro s _ _ _ ⟨hs,rfl,hlt,rfl,rfl⟩
    refine EqH.bind (iq wf (n:=n) (by omega) (hp2.step hlt) (cN hx.small (by rw[hx.kids];simp))) ?_
    rintro y a4 d4 A4 ⟨hy,hp⟩
    have hle:=hp.le
    show EqH iL _ (bif decide (L.length+[y].length<ar)then _ else _) _
    rw[eN (by omega)]
    exact EqH.mono (rf wf hn N a4 d4 A4 (L++[y]) (by omega) hp.inv (by rw[List.length_append,List.length_singleton];omega)) fun _ _ _ _ h=>⟨h.1,hp.trans h.2 (by omega)⟩
   show EqH iL _ (bif decide ((L.length:Int)>0)then _ else _) (PR.bind ((bif decide ((L.length:Int)>0)then(bd T K [44]).bind fun _=>.ret ()else .ret ():Pm Unit) a d A) _)
   cases decide ((L.length:Int)>0)with
   |false=>exact go a (Int.le_refl _) hi.a1
   |true=>
    show EqH iL _ (PR.bind ((fns n).want T K a d A ([44],())) _) (PR.bind (PR.bind (bd T K [44] a d A) _) _)
    have hw:=bE wf (n:=n) (a:=a) (d:=d) (A:=A) (s:=[44]) (by omega) hi.a0 hi.a1
    cases e:bd T K [44] a d A with
    |bad=>rw[e]at hw;exact hw.elim
    |fault c p=>
     rw[e]at hw
     have hw:(fns n).want T K a d A ([44],())= .fault c p:=hw
     rw[hw]
     exact EqH.flt
    |ok y a1 d1 A1=>
     rw[e]at hw
     obtain⟨e1,rfl,rfl,hlt,rfl,rfl⟩:=hw
     rw[e1]
     exact go (a+1) (by omega) hlt
theorem uj(wf:WF T K)(hn:9≤n)(hi:Inv K a d A):EqH iL (QL K a d A 2) ((fns n).params T K a d A ()) (kA T K a d A):=by
 obtain⟨n,rfl,hn'⟩:=aZ (k:=8) hn
 show EqH iL _ (DD (fns n) T K (wk (fns n) T K (K.length+2)) a d A) _
 unfold DD yS kA Pm.bind
 refine EqH.bind (bE wf (n:=n) (by omega) hi.a0 hi.a1) ?_
 rintro _ _ _ _ ⟨rfl,rfl,hlt,rfl,rfl⟩
 have:=hi.a0
 exact EqH.mono (rf wf (by omega) (K.length+2) (a+1) d A [] (by omega) (hi.step hlt) (by simp)) fun y a' d' A' h=>⟨h.1,h.2.up (by omega)⟩
theorem BA(wf:WF T K)(hK:KEq T K m)(hn:40*m+12≤n)(hm:2*((K.length:Int)-a)+1≤m)(hi:Inv K a d A):EqH iI (QI K a d A 1) ((fns n).member T K a d A ()) (sQ T K (kns T K m) a d A):=by
 obtain⟨n,rfl,hn'⟩:=aZ (k:=40*m+11) hn
 have h0:=hi.a0
 have app:∀{l:List Int} {x:Int},l.length≤64→(l++[x]).length≤20000:=fun{l x} h=>by rw[List.length_append,List.length_singleton];omega
 show EqH iI _ (Az (fns n) T K a d A) _
 unfold Az zr sQ Pm.bind
 refine EqH.bind (b7 wf (n:=n) (by omega) hi.a0 hi.a1) ?_
 rintro _ _ _ _ ⟨rfl,rfl,rfl,rfl⟩
 have hT:EqH iI (QI K a d A 1) (((fns n).typed T K a d A (true,())).bind fun y10 a10 d10 A10=>((fns n).name T K a10 d10 A10 ()).bind fun y14 a14 d14 A14=>((fns n).isS T K a14 d14 A14 ([40],())).bind fun y18 a18 d18 A18=>
   bif y18.1 then((fns n).params T K a18 d18 A18 ()).bind fun y22 a22 d22 A22=>((fns n).block T K a22 d22 A22 ()).bind fun y26 a26 d26 A26=>bif decide (y22.1.length+[y26.1].length<ar)then
     ((fns n).add T K a26 d26 A26 (cw y10.1 6 ((y22.1:List Int)++([y26.1]:List Int)) y14.1,ag (af K a),())).bind fun y a d A=>.ok (y.1,()) a d A else .bad
   else bif ax y10.1==6 then .fault 80 (ag (af K a))else((fns n).want T K a18 d18 A18 ([59],())).bind fun _ a22 d22 A22=>((fns n).add T K a22 d22 A22 (cw y10.1 4 (aa y10.1) y14.1,ag (af K a),())).bind fun y a d A=>.ok (y.1,()) a d A)
   ((ef T K true).bind (fun x=>(fE T K).bind fun s=>(cIs T K [40]).bind fun b=>bif b then
   ((kA T K).bind fun l=>(kns T K m).blk.bind fun b=>bQ K (cw x 6 (l++[b]) s) (ag (af K a)))
  else bif ax x==6 then .flt 80 (ag (af K a))else(bd T K [59]).bind fun _=>bQ K (cw x 4 (aa x) s) (ag (af K a))) a d A):=by
  unfold Pm.bind
  refine EqH.bind (nn wf (n:=n) (by omega) hi.a0 hi.a1 true) ?_
  rintro x a1 _ _ ⟨hx,⟨g1,g2⟩,rfl,rfl⟩
  have hp1:Post K a d A 1 a1 d A:=⟨hi.at (by omega) g2,g1,rfl,[],by simp⟩
  refine EqH.bind (lW wf (n:=n) (by omega) hp1.inv.a0 hp1.inv.a1) ?_
  rintro s _ _ _ ⟨hs,rfl,hlt,rfl,rfl⟩
  have hp2:=hp1.step hlt
  refine EqH.bind (pE wf (n:=n) (by omega) hp2.inv.a0 hp2.inv.a1) ?_
  rintro b _ _ _ ⟨_,rfl,rfl,rfl⟩
  cases b with
  |true=>
   refine EqH.bind (uj wf (n:=n) (by omega) hp2.inv) ?_
   rintro l a3 d3 A3 ⟨hl,hp⟩
   have hp3:=hp2.trans hp (c:=1) (by omega)
   have hle:=hp.le
   refine EqH.bind (hK.blk n _ _ _ (by omega) (by omega) hp3.inv) ?_
   rintro y a4 d4 A4 ⟨hy,hp4⟩
   have hp5:=hp3.trans hp4 (c:=1) (by omega)
   show EqH iI _ (bif decide (l.length+[y].length<ar)then _ else _) _
   rw[eN (by omega)]
   exact b8 wf (by omega) hp5 (cN hx.small (app hl))
  |false=>
   show EqH iI _ (bif ax x==6 then _ else _) ((bif ax x==6 then _ else _:Pm Int) (a1+1) d A)
   cases ax x==6 with
   |true=>exact EqH.flt
   |false=>
    refine EqH.bind (bE wf (n:=n) (by omega) hp2.inv.a0 hp2.inv.a1) ?_
    rintro _ _ _ _ ⟨rfl,rfl,hlt5,rfl,rfl⟩
    exact b8 wf (by omega) ((hp2.step hlt5).up (by omega)) (cN hx.small (by rw[hx.kids];simp))
 show EqH iI _ (bif az (af K a)==1 then bif say T (af K a)==[105,110,105,116]then _ else _ else _) ((bif az (af K a)==1&&say T (af K a)==[105,110,105,116]then _ else _:Pm Int) a d A)
 cases h1:az (af K a)==1 with
 |false=>exact hT
 |true=>
  have hk:az (af K a)≠0:=fun e=>by rw[e]at h1;exact absurd h1 (by decide)
  have hlt:=cD wf hi.a0 hi.a1 hk
  cases say T (af K a)==[105,110,105,116]with
  |false=>exact hT
  |true=>
   have hp1:Post K a d A 1 (a+1) d A:=(Post.refl hi).step hlt
   refine EqH.bind (cF wf (n:=n) (by omega) hi.a0 hi.a1 hk) ?_
   rintro _ _ _ _ ⟨rfl,rfl,rfl,rfl⟩
   refine EqH.bind (uj wf (n:=n) (by omega) hp1.inv) ?_
   rintro l a3 d3 A3 ⟨hl,hp⟩
   have hp3:=hp1.trans hp (c:=1) (by omega)
   have hle:=hp.le
   refine EqH.bind (hK.blk n _ _ _ (by omega) (by omega) hp3.inv) ?_
   rintro y a4 d4 A4 ⟨hy,hp4⟩
   have hp5:=hp3.trans hp4 (c:=1) (by omega)
   show EqH iI _ (bif decide (l.length+[y].length<ar)then _ else _) _
   rw[eN (by omega)]
   exact b8 wf (by omega) hp5 (aL (app hl))
theorem oJ(wf:WF T K)(hK:KEq T K m)(hn:40*m+12≤n)(k f t:Int)(s:Str):∀(N:Nat) (a d:Int) (A:List Nd) (L:List Int),(K.length:Int)-a+1≤N→2*((K.length:Int)-a)+1≤m→Inv K a d A→L.length≤65→
  EqH iI (QI K a d A 1) (zP (fns n) T K N a d A k f t s L) (kM T K (kns T K m) f s N L a d A)
 |0,a,d,A,L,hN,hm,hi,hL=>by have:=hi.a1;omega
 |N+1,a,d,A,L,hN,hm,hi,hL=>by
  show EqH iI _ (DH (fns n) T K (zP (fns n) T K N) a d A k f t s L) _
  unfold DH yG kM Pm.bind
  refine EqH.bind (pE wf (n:=n) (by omega) hi.a0 hi.a1) ?_
  rintro b _ _ _ ⟨_,rfl,rfl,rfl⟩
  cases b with
  |true=>
   refine EqH.bind (bE wf (n:=n) (by omega) hi.a0 hi.a1) ?_
   rintro _ _ _ _ ⟨rfl,rfl,hlt,rfl,rfl⟩
   exact b8 wf (by omega) ((Post.refl hi).step hlt) (aL (by omega))
  |false=>
   have hl1:IntKind.wrap .i64 ((L.length:Int)+1)=(L.length:Int)+1:=wf_wrap wf (by omega) (by omega)
   show EqH iI _ (PR.bind ((fns n).few T K a d A (IntKind.wrap .i64 ((L.length:Int)+1),())) _) _
   rw[hl1]
   refine EqH.bind (x4 wf (n:=n) (by omega) hi.a0 hi.a1) ?_
   rintro _ _ _ _ ⟨rfl,rfl,rfl,h64⟩
   refine EqH.bind (BA wf hK (n:=n) (by omega) hm hi) ?_
   rintro x a2 d2 A2 ⟨hx,hp⟩
   have hle:=hp.le
   show EqH iI _ (bif decide (L.length+[x].length<ar)then _ else _) _
   rw[eN (by omega)]
   exact EqH.mono (oJ wf hK hn k f t s N a2 d2 A2 (L++[x]) (by omega) (by omega) hp.inv (by rw[List.length_append,List.length_singleton];omega)) fun _ _ _ _ h=>⟨h.1,hp.trans h.2 (by omega)⟩
theorem Fv(wf:WF T K)(hK:KEq T K m)(hn:40*m+14≤n)(hm:2*((K.length:Int)-a)+1≤m)(hi:Inv K a d A):EqH iI (QI K a d A 1) ((fns n).klass T K a d A ()) (w6 T K (kns T K m) a d A):=by
 obtain⟨n,rfl,hn'⟩:=aZ (k:=40*m+13) hn
 have h0:=hi.a0
 show EqH iI _ (DI (fns n) T K (zP (fns n) T K (K.length+2)) a d A) _
 unfold DI xU w6 Pm.bind
 refine EqH.bind (b7 wf (n:=n) (by omega) hi.a0 hi.a1) ?_
 rintro _ _ _ _ ⟨rfl,rfl,rfl,rfl⟩
 refine EqH.bind (bE wf (n:=n) (by omega) hi.a0 hi.a1) ?_
 rintro _ _ _ _ ⟨rfl,rfl,hlt,rfl,rfl⟩
 have hp1:Post K a d A 1 (a+1) d A:=(Post.refl hi).step hlt
 refine EqH.bind (lW wf (n:=n) (by omega) hp1.inv.a0 hp1.inv.a1) ?_
 rintro s _ _ _ ⟨hs,rfl,hlt2,rfl,rfl⟩
 have hp2:=hp1.step hlt2
 refine EqH.bind (b7 wf (n:=n) (by omega) hp2.inv.a0 hp2.inv.a1) ?_
 rintro _ _ _ _ ⟨rfl,rfl,rfl,rfl⟩
 refine EqH.bind (dK wf (n:=n) (by omega) hp2.inv.a0 hp2.inv.a1) ?_
 rintro b _ _ _ ⟨hb,rfl,rfl⟩
 rcases hb with⟨rfl,rfl,hlt3⟩|⟨rfl,rfl⟩
 ·have hp3:=hp2.step hlt3
  refine EqH.bind (lW wf (n:=n) (by omega) hp3.inv.a0 hp3.inv.a1) ?_
  rintro e _ _ _ ⟨he,rfl,hlt4,rfl,rfl⟩
  refine EqH.bind (iq wf (n:=n) (by omega) (hp3.step hlt4) (aL (by simp))) ?_
  rintro y a5 d5 A5 ⟨hy,hp5⟩
  refine EqH.bind (bE wf (n:=n) (by omega) hp5.inv.a0 hp5.inv.a1) ?_
  rintro _ _ _ _ ⟨rfl,rfl,hlt6,rfl,rfl⟩
  have hp6:=hp5.step hlt6
  have hle:=hp6.le
  exact EqH.mono (oJ wf hK (n:=n) (by omega) _ _ _ s (K.length+2) (a5+1) d5 A5 [y] (by omega) (by omega) hp6.inv (by simp)) fun _ _ _ _ h=>⟨h.1,hp6.trans h.2 (by omega)⟩
 ·refine EqH.bind (bE wf (n:=n) (by omega) hp2.inv.a0 hp2.inv.a1) ?_
  rintro _ _ _ _ ⟨rfl,rfl,hlt6,rfl,rfl⟩
  have hp6:=hp2.step hlt6
  have hle:=hp6.le
  exact EqH.mono (oJ wf hK (n:=n) (by omega) _ _ _ s (K.length+2) (a+1+1+1) d A [] (by omega) (by omega) hp6.inv (by simp)) fun _ _ _ _ h=>⟨h.1,hp6.trans h.2 (by omega)⟩
theorem n8(wf:WF T K)(hK:KEq T K m)(hn:40*m+14≤n):∀(N:Nat) (a d:Int) (A:List Nd) (L:List Int),(K.length:Int)-a+1≤N→2*((K.length:Int)-a)+1≤m→Inv K a d A→L.length≤64→
  EqH iU (fun _ a' d' A'=>Post K a d A 0 a' d' A') (zA (fns n) T K N a d A L) (jr T K (kns T K m) N L a d A)
 |0,a,d,A,L,hN,hm,hi,hL=>by have:=hi.a1;omega
 |N+1,a,d,A,L,hN,hm,hi,hL=>by
  show EqH iU _ (Bt (fns n) T K (zA (fns n) T K N) a d A L) _
  unfold Bt yQ jr Pm.bind
  refine EqH.bind (b7 wf (n:=n) (by omega) hi.a0 hi.a1) ?_
  rintro _ _ _ _ ⟨rfl,rfl,rfl,rfl⟩
  show EqH iU _ (bif az (af K a)==0 then _ else _) ((bif az (af K a)==0 then _ else _:Pm Unit) a d A)
  cases az (af K a)==0 with
  |true=>
   refine EqH.bind (Gy wf (n:=n) (by omega) hi (aL (by omega))) ?_
   rintro y a2 d2 A2 h
   exact⟨rfl,h.2.2.1⟩
  |false=>
   have hl1:IntKind.wrap .i64 ((L.length:Int)+1)=(L.length:Int)+1:=wf_wrap wf (by omega) (by omega)
   show EqH iU _ (PR.bind ((fns n).few T K a d A (IntKind.wrap .i64 ((L.length:Int)+1),())) _) _
   rw[hl1]
   refine EqH.bind (x4 wf (n:=n) (by omega) hi.a0 hi.a1) ?_
   rintro _ _ _ _ ⟨rfl,rfl,rfl,h64⟩
   refine EqH.bind (Fv wf hK (n:=n) (by omega) hm hi) ?_
   rintro x a2 d2 A2 ⟨hx,hp⟩
   have hle:=hp.le
   show EqH iU _ (bif decide (L.length+[x].length<ar)then _ else _) _
   rw[eN (by omega)]
   exact EqH.mono (n8 wf hK hn N a2 d2 A2 (L++[x]) (by omega) (by omega) hp.inv (by rw[List.length_append,List.length_singleton];omega)) fun _ _ _ _ h=>hp.trans h (by omega)
theorem zE(wf:WF T K)(hn:40*m+14≤n)(hm:2*K.length+1≤m):EqH iU (fun _ a' d' A'=>Post K 0 0 [] 0 a' d' A') (pU (fns n) T K 0 0 []) (nV T K (kns T K m) 0 0 []):=by
 show EqH iU _ (DY (fns n) T K (zA (fns n) T K (K.length+2)) 0 0 []) _
 unfold DY xT nV
 have hp:=wf.pos
 exact n8 wf (kEq wf m) hn (K.length+2) 0 0 [] [] (by omega) (by omega) ⟨by omega,by omega,by omega,by omega,by simp,fun x hx=>by cases hx⟩ (by simp)
end
end Go.Sx.Tryz
namespace Go.Sx.Tryz
open Go Go.Sx Go.Proofs
open Go.RowKit
set_option maxRecDepth 100000
variable{G:Nat→Obj→Prop}
def dW(T:List UInt8):Int:=(km (T,())).2.1.1
def wz(T:List UInt8):Int:=(km (T,())).2.1.2.1
def kc(T:List UInt8):List Tok:=(km (T,())).1
def cO(n:Nat)(T:List UInt8):ai rsP:=
 bif dW T !=0 then((([]:List Nd),(0:Int),()),(dW T,wz T,()),())
 else match pU (fns n) T (kc T) 0 0 []with
  | .ok _ _ _ A=>((A,IntKind.wrap .i64 ((A.length:Int)-1),()),((0:Int),(0:Int),()),())
  | .fault c p=>((([]:List Nd),(0:Int),()),(c,p,()),())
  | .bad=>((([]:List Nd),(0:Int),()),((0:Int),(0:Int),()),())
def nr(n:Nat)(T:List UInt8):Bool:=match pU (fns n) T (kc T) 0 0 []with
  | .ok _ _ _ A=>jw ((A,(0:Int),()),())
  | .fault _ _=>true
  | .bad=>false
theorem vN(J:Jump R0)(T:List UInt8):start (R:=R0) E (an qt) jZ qu J [.str T] [] .ok=
  bif dW T !=0 then .ok (.ret (.tup [.agg [.nils,.int .i64 0],.agg [.int .i64 (dW T),.int .i64 (wz T)]]),[])
  else J 0 (yt T (kc T) (dW T) (wz T)):=Gc J T
theorem vR(ht:fX G):aT Tryz.prog G qt:=.cons (aD fun x _=>Gm ht x) .nil
theorem FH(Q:Go.Sx.Post):place Tryz.prog [true,true,true,true] jZ.code Q=some (c31,Q):=rfl
theorem JO:codeOk 28 jZ.code=true:=by kernel_rfl
theorem CG(ht:fX G)(hf:kO G)(n:Nat)(T:List UInt8)(hok:dW T=0→nr n T=true):SAD Tryz.prog G 15 bB rsP (T,()) (cO n T):=by
 by_cases hlx:dW T=0
 ·have hpo:=hok hlx
  intro D vals hG hm hs hv
  refine .inl ⟨cU JQ _ _,calls_of_wp_defers Tryz.func15 rfl ?_⟩
  classical
  let J:Jump R0:=fun j st=>if j=0∧st=yt T (kc T) (dW T) (wz T)then Rs.ok (.ret (cr rsP (cO n T)),[])else .err 0
  have hst:start (R:=R0) E (an qt) jZ qu J [.str T] [] .ok= .ok (.ret (cr rsP (cO n T)),[]):=by
   rw[vN,show(dW T !=0)=false by simp[hlx]]
   exact if_pos ⟨rfl,rfl⟩
  have hev:ev E (an qt) (aR 0 qu 0) J jZ.code 1 {tmps:=dF 0 [.str T],blks:=aq 0 [],next:=0} (bX E 0 jZ.results .ok)= .ok (.ret (cr rsP (cO n T)),[]):=hst
  have hfin:=sI (N:=28) (aS []) hm (fn:=Tryz.f15) (rs:=jZ.results) rfl (k:=Rs.ok) (r:=(.ret (cr rsP (cO n T)),[]))
  have hKS:KS D 28 [] (bX E 0 jZ.results Rs.ok) (.ret (cr rsP (cO n T)),[]) (bodyPostD Tryz.prog Tryz.f15 (bW D (.ret (cr rsP (cO n T)),[]))):={
   normal:=fun st C a h hr hX=>by
    obtain⟨h1,v,h2,o',h3,h4⟩:=hfin.normal st C a h hr hX
    cases h3
    show Leaves _ _ _ _ a.defers .returning C.w
    rw[h1]
    exact⟨v,h2,h4⟩
   exit:=fun id st C a h hr hX=>(hfin.exit id st C a h hr hX).elim
   ret:=fun st C a h hr hX=>by
    obtain⟨h1,v,h2,o',h3,h4⟩:=hfin.ret st C a h hr hX
    cases h3
    show Leaves _ _ _ _ a.defers .returning C.w
    rw[h1]
    exact⟨v,h2,h4⟩
   panic:=fun v st a w ch h hp hd=>by
    obtain⟨h1,o',h3,h4⟩:=hfin.panic v st a w ch h hp hd
    cases h3
    show Leaves _ _ _ _ a.defers (.panicking ch) w
    rw[h1]
    exact h4}
  have hlen:vals.length=1:=hv.len.symm
  have hSt:StR D {tmps:=vals.toArray++Array.replicate (28-vals.toArray.size) undef,defers:=[]} {tmps:=dF 0 [.str T],blks:=aq 0 [],next:=0} 28 []:=⟨⟨hm,hs,qQ hv _⟩,fun k _=>rfl,by simp[hlen],rfl⟩
  have hCS:CS Tryz.prog (XJ Tryz.prog D 28 [] (aR 0 qu 0) J (.ret (cr rsP (cO n T)),[])) jZ.code 1 (bodyPostD Tryz.prog Tryz.f15 (bW D (.ret (cr rsP (cO n T)),[]))):=by
   refine vt _ _ _ ?_
   intro d r c' Q' hp j f hc st C a hJ hr hX
   obtain⟨c,_,hcn,hcp,_⟩:=gK hc
   have hj0:j=0:=by
    have:J j st= .ok (.ret (cr rsP (cO n T)),[]):=hJ
    simp only[J]at this
    split at this
    ·rename_i h;exact h.1
    ·cases this
   subst hj0
   have hst:st=yt T (kc T) (dW T) (wz T):=by
    have:J 0 st= .ok (.ret (cr rsP (cO n T)),[]):=hJ
    simp only[J]at this
    split at this
    ·rename_i h;exact h.2
    ·cases this
   subst hst
   cases hcn
   have hpath:=rP _ [true,true,true,true] (d::r) (Nat.le_refl _) hcp
   rw[←hpath,FH]at hp
   cases hp
   refine xf ht hf n hG hm hs hr hX ?_
   have hb:(dW T !=0)=false:=by simp[hlx]
   unfold nr at hpo
   cases e:pU (fns n) T (kc T) 0 0 []with
   |ok z a' d' A'=>
    rw[e]at hpo
    refine .inr ⟨z,a',d',A',rfl,hpo,?_⟩
    unfold cO
    rw[hb,e]
    rfl
   |fault c p=>
    refine .inl ⟨c,p,rfl,?_⟩
    unfold cO
    rw[hb,e]
    rfl
   |bad=>
    rw[e]at hpo
    cases hpo
  exact ga (aS []) (aE (vR ht)) hG (nX (bs:=[]) hm (.inl cb)) jZ.code 1 _ _ _ D _ JO hCS hKS hev hSt (Ext.refl D)
 ·have h1:start (R:=R0) E (an qt) jZ qu bY [.str T] [] .ok= .ok (.ret (.tup [.agg [.nils,.int .i64 0],.agg [.int .i64 (dW T),.int .i64 (wz T)]]),[]):=by
   rw[vN,show(dW T !=0)=true by simp[hlx]]
   rfl
  have h2:=bh (aS []) (aE (vR ht)) JQ (.inl cb) (n:=0) h1
  refine SA.data (rs:=rsP) h2 (y:=cO n T) (m:=[]) ?_
  unfold cO
  rw[show(dW T !=0)=true by simp[hlx]]
  rfl
end Go.Sx.Tryz
namespace Go.Sx.Tryz
open Go Go.Sx
set_option maxRecDepth 100000
theorem zu{s:List UInt8}(h:(nK s).2.1=0):(nK s).1≠0:=by
 unfold nK at h⊢
 cases hL:isLet (at8 s 0)
 ·rw[hL]at h
  simp only[cond_false]at h⊢
  cases hD:aM (at8 s 0)
  ·rw[hD]at h
   simp only[cond_false]at h⊢
   cases hQ:at8 s 0==34
   ·simp
   ·rw[hQ]at h
    simp only[cond_true]at h⊢
    cases hc:((jY s).2==0&&decide (((jY s).1:Int)>256))<;>simp
  ·rw[hD]at h
   simp only[cond_true]at h⊢
   cases hc:(decide (((aP aM s:Nat):Int)+1<s.length)&&(at8 s (aP aM s)==46&&aM (at8 s (aP aM s+1))))
   ·rw[hc]at h
    simp only[cond_false]at h⊢
    cases hd:decide (((aP aM s:Nat):Int)>20)
    ·simp
    ·rw[hd]at h;simp at h
   ·rw[hc]at h
    simp only[cond_true]at h⊢
    cases hd:decide (((aP aM s+1+aP aM (s.drop (aP aM s+1)):Nat):Int)>20)
    ·simp
    ·rw[hd]at h;simp at h
 ·rw[hL]at h
  simp only[cond_true]at h⊢
  cases hd:decide (((aP fu s:Nat):Int)>64)
  ·simp
  ·rw[hd]at h;simp at h
theorem zi(T:List UInt8):∀(n:Nat) (a:Int) (k:Nat),0≤a→a≤T.length→(T.length:Int)-a<n→k≤16384→(pF n T a k).1=0→
  ∃L,(pF n T a k).2.2=L++[tkn 0 T.length T.length]∧L.length+k≤16384∧∀t∈L,(0≤ag t∧a≤ag t)∧ag t<tTo t∧tTo t≤T.length∧az t≠0
 |0,a,k,h0,h1,hn,hk,h=>by omega
 |n+1,a,k,h0,h1,hn,hk,h=>by
  unfold pF at h⊢
  cases hlt:decide (a<(T.length:Int))with
  |false=>exact⟨[],rfl,by simpa using hk,by simp⟩
  |true=>
   rw[hlt]at h
   have hlt:=of_decide_eq_true hlt
   simp only[cond_true]at h⊢
   cases h16:decide ((k:Int)≥16384)with
   |true=>rw[h16]at h;simp at h
   |false=>
    rw[h16]at h
    have h16:=of_decide_eq_false h16
    simp only[cond_false]at h⊢
    cases he:jy T a !=0 with
    |true=>
     rw[he]at h
     simp only[cond_true]at h
     rw[h]at he
     exact absurd he (by decide)
    |false=>
     rw[he]at h
     simp only[cond_false]at h⊢
     have he0:jy T a=0:=by simpa [bne]using he
     obtain⟨o1,o2⟩:=x3 h0 hlt
     have o3:=o2 he0
     obtain⟨g1,g2⟩:=nk (T:=T) (a:=cK T a) (by omega) o1
     obtain⟨L,e1,e2,e3⟩:=zi T n (jC T (cK T a)) (k+1) (by omega) g2 (by omega) (by omega) h
     refine⟨tkn (pI T a) a (cK T a)::L,by rw[e1];rfl,by simp only[List.length_cons];omega,fun t ht=>?_⟩
     rcases List.mem_cons.1 ht with rfl|ht
     ·exact⟨⟨h0,Int.le_refl _⟩,o3,o1,zu he0⟩
     ·obtain⟨f1,f2⟩:=e3 t ht
      exact⟨⟨f1.1,by omega⟩,f2⟩
theorem xZ(T:List UInt8):dW T=(fk T).1:=by
 unfold dW km
 cases h:(fk T).1==0 with
 |true=>
  have:(fk T).1=0:=by simpa using h
  rw[this]
  rfl
 |false=>rfl
theorem Fh{T:List UInt8}(h:dW T=0):kc T=(fk T).2.2:=by
 rw[xZ]at h
 unfold kc km
 rw[h]
 rfl
theorem BX{T:List UInt8}(h:dW T=0):T.length≤65536∧∃L,kc T=L++[tkn 0 T.length T.length]∧L.length≤16384∧∀t∈L,0≤ag t∧ag t<tTo t∧tTo t≤T.length∧az t≠0:=by
 rw[Fh h]
 rw[xZ]at h
 unfold fk at h⊢
 cases h6:decide ((T.length:Int)>65536)with
 |true=>rw[h6]at h;simp at h
 |false=>
  rw[h6]at h
  have h6:=of_decide_eq_false h6
  obtain⟨g1,g2⟩:=nk (T:=T) (a:=0) (by omega) (by omega)
  obtain⟨L,e1,e2,e3⟩:=zi T (T.length+1) (jC T 0) 0 (by omega) g2 (by omega) (by omega) h
  exact⟨by omega,L,e1,by omega,fun t ht=>⟨(e3 t ht).1.1,(e3 t ht).2⟩⟩
theorem Ac{K:List Tok}{a:Int}(h0:0≤a)(h1:a<K.length):af K a∈K:=by
 have:a.toNat<K.length:=by omega
 unfold af
 rw[List.getD_eq_getElem?_getD,List.getElem?_eq_getElem this]
 exact List.getElem_mem _
theorem wX{L R:List Tok}{a:Int}(h0:0≤a)(h1:a<L.length):af (L++R) a=af L a:=by
 unfold af
 have:a.toNat<L.length:=by omega
 rw[List.getD_eq_getElem?_getD,List.getD_eq_getElem?_getD,List.getElem?_append_left this]
theorem xx{L:List Tok}{t:Tok}:af (L++[t]) L.length=t:=by
 unfold af
 simp[List.getD_eq_getElem?_getD]
theorem Lk{T:List UInt8}{L:List Tok}(hT:T.length≤65536)(hL:L.length≤16384)(h:∀t∈L,0≤ag t∧ag t<tTo t∧tTo t≤T.length∧az t≠0):WF T (L++[tkn 0 T.length T.length]):=by
 have hlen:(L++[tkn 0 T.length T.length]).length=L.length+1:=by simp
 have hcase:∀a:Int,0≤a→a<(L++[tkn 0 T.length T.length]).length→(a<L.length∧af (L++[tkn 0 T.length T.length]) a∈L)∨(a=L.length∧af (L++[tkn 0 T.length T.length]) a=tkn 0 T.length T.length):=fun a h0 h1=>by
  by_cases hl:a<L.length
  ·exact .inl ⟨hl,by rw[wX h0 hl];exact Ac h0 hl⟩
  ·have e:a=L.length:=by omega
   exact .inr ⟨e,by rw[e];exact xx⟩
 exact{
  len:=hT
  pos:=by omega
  most:=by omega
  span:=fun a h0 h1=>by
   rcases hcase a h0 h1 with⟨_,hm⟩|⟨_,e⟩
   ·obtain⟨f1,f2,f3,_⟩:=h _ hm
    exact⟨f1,by omega,f3⟩
   ·rw[e]
    show(0:Int)≤T.length∧(T.length:Int)≤T.length∧(T.length:Int)≤T.length
    omega
  last:=fun a h0 h1=>by
   rcases hcase a h0 h1 with⟨hl,hm⟩|⟨e1,e⟩
   ·have:=(h _ hm).2.2.2
    exact⟨fun hk=>absurd hk this,fun hk=>by omega⟩
   ·rw[e]
    exact⟨fun _=>by omega,fun _=>rfl⟩
  fin:=fun a h0 h1 hk=>by
   rcases hcase a h0 h1 with⟨hl,hm⟩|⟨e1,e⟩
   ·exact absurd hk (h _ hm).2.2.2
   ·rw[e]
    show List.drop (Int.toNat (T.length:Int)) (List.take (Int.toNat (T.length:Int)) T)=[]
    simp}
theorem lex_wf{T:List UInt8}(h:dW T=0):WF T (kc T):=by
 obtain⟨h1,L,e,h2,h3⟩:=BX h
 rw[e]
 exact Lk h1 h2 h3
def BJ:Nat:=40000
def qM:Nat:=1700000
def wA(T:List UInt8):PR Unit:=nV T (kc T) (kns T (kc T) BJ) 0 0 []
theorem Ae{T:List UInt8}(h:dW T=0):EqH iU (fun _ a' d' A'=>Post (kc T) 0 0 [] 0 a' d' A') (pU (fns qM) T (kc T) 0 0 []) (wA T):=by
 have wf:=lex_wf h
 have:=wf.most
 exact zE wf (by unfold BJ qM;omega) (by unfold BJ;omega)
def th(T:List UInt8):ai rsP:=
 bif dW T !=0 then((([]:List Nd),(0:Int),()),(dW T,wz T,()),())
 else match wA T with
  | .ok _ _ _ A=>((A,(A.length:Int)-1,()),((0:Int),(0:Int),()),())
  | .fault c p=>((([]:List Nd),(0:Int),()),(c,p,()),())
  | .bad=>((([]:List Nd),(0:Int),()),((0:Int),(0:Int),()),())
theorem AZ{G:Nat→Obj→Prop}(ht:fX G)(hf:kO G)(T:List UInt8):SAD Go.Proofs.Tryz.prog G 15 bB rsP (T,()) (th T):=by
 have key:cO qM T=th T∧(dW T=0→nr qM T=true):=by
  unfold cO th nr
  cases hc:dW T !=0 with
  |true=>exact⟨rfl,fun h=>by rw[h]at hc;exact absurd hc (by decide)⟩
  |false=>
   have h:dW T=0:=by simpa [bne]using hc
   have hE:=Ae h
   cases e:wA T with
   |ok y a d A=>
    rw[e]at hE
    obtain⟨h1,h2⟩:=hE
    rw[h1]
    have hl:=h2.inv.len
    refine⟨?_,fun _=>?_⟩
    ·have hw:IntKind.wrap .i64 ((A.length:Int)-1)=(A.length:Int)-1:=wrap64 (by omega) (by omega)
     show((A,IntKind.wrap .i64 ((A.length:Int)-1),()),((0:Int),(0:Int),()),())=((A,(A.length:Int)-1,()),((0:Int),(0:Int),()),())
     rw[hw]
    ·show(decide (A.length≤20000)&&A.all lQ)=true
     rw[Bool.and_eq_true]
     refine⟨decide_eq_true (by omega),List.all_eq_true.2 fun x hx=>?_⟩
     obtain⟨n1,n2⟩:=h2.inv.nd x hx
     unfold lQ
     rw[Bool.and_eq_true]
     exact⟨decide_eq_true (by omega),decide_eq_true (by omega)⟩
   |fault c p=>
    rw[e]at hE
    have hE:pU (fns qM) T (kc T) 0 0 []= .fault c p:=hE
    rw[hE]
    exact⟨rfl,fun _=>rfl⟩
   |bad=>
    rw[e]at hE
    exact hE.elim
 rw[←key.1]
 exact CG ht hf qM T key.2
end Go.Sx.Tryz
