/- A part of the proof: see the row's text. -/
import Derived.Test.YtaklpoiaicepoaaGreatDoorZa29
import Derived.Test.YtaklpoiaicepoaaGreatDoorZa31
set_option linter.unusedVariables false
set_option linter.unusedSimpArgs false
noncomputable section
namespace Go.Sx.Tryz
open Go Go.Sx Go.Proofs
set_option maxRecDepth 100000
theorem rq{L:List Nd}{r:Int}(g:GoodT L r){u w:Tn}{S:List Nd}(hL:L=u.flat 0++S)(hk:u.kids=[w]):(∃S',L=w.flat 0++S')∧af L (u.size-1)=c8 u.data (roots 0 u.kids)∧u.size-1<L.length∧fx L (u.size-1)=((u.size-1:Nat):Int)::fx L (w.size-1):=by
 obtain⟨x,ks⟩:=u
 have hk:ks=[w]:=hk
 subst hk
 have hr:af ([]++(Tn.mk x [w]).flat 0++S) (eT 0 (.mk x [w])).toNat=c8 x (roots 0 [w]):=nC [] S x [w]
 rw[List.nil_append,←hL]at hr
 have hw:=size_pos w
 have e:(eT 0 (.mk x [w])).toNat=(Tn.mk x [w]).size-1:=by rw[eT];simp
 rw[e]at hr
 have hs:=size_pos (Tn.mk x [w])
 have hlen:L.length=(Tn.mk x [w]).size+S.length:=by rw[hL,List.length_append,Tn.flat_len]
 refine⟨⟨[c8 x (roots 0 [w])]++S,?_⟩,hr,by omega,?_⟩
 ·rw[hL,Tn.flat,Tn.flats_one,List.append_assoc]
 ·rw[iC g (by omega),hr]
  show _::(roots 0 [w]).flatMap (fun k=>fx L k.toNat)=_
  have er:roots 0 [w]=[((w.size-1:Nat):Int)]:=by
   show [((0+w.size:Nat):Int)-1]=_
   congr 1
   omega
  rw[er]
  simp
abbrev BI(n:Nat):Jump R0:=pieces (R:=R0) E (au Gf) fi6 JX 0 .ok n
theorem nO{at0:Int}{LA LB:List Nd}{rA rB:Int}{K:List Int}{l:Int}{i:Nat}{p:Nat}(hl:(i:Int)<l)(hl2:l=K.length)(hl3:l≤100000)(hK:K[i]? =some (p:Int))(hp:p<LB.length)(hk:aj (af LB p)≠10){w:R0}(h:∃n,BI n 0 (mk6 at0 LA LB rA rB K l ((i+1:Nat):Int))= .ok w):∃n,BI n 0 (mk6 at0 LA LB rA rB K l (i:Int))= .ok w:=by
 obtain⟨n,hn⟩:=h
 refine⟨n+1,(aU rfl).trans ((MT (BI n) at0 LA LB rA rB K l i).trans ?_)⟩
 have hg:bE K (i:Int).toNat=(p:Int):=by
  rw[Int.toNat_natCast]
  unfold bE
  rw[List.getD_eq_getElem?_getD,hK]
  rfl
 have hw:IntKind.wrap .i64 ((i:Int)+1)=((i+1:Nat):Int):=by
  rw[wrap64 (by omega) (by omega)]
  rfl
 rw[hg,hw,Int.toNat_natCast]
 refine(bt (decide_eq_true hl)).trans ((bt (bZ (by omega) (by omega))).trans ((bt (bZ (by omega) (by omega))).trans ((bn ?_).trans hn)))
 simpa using hk
theorem Kj{at0:Int}{LA LB:List Nd}{rA rB:Int}{K:List Int}{l:Int}{i:Nat}{p:Nat}{k1:Int}(hl:(i:Int)<l)(hl2:l=K.length)(hK:K[i]? =some (p:Int))(hp:p<LB.length)(hk:aj (af LB p)=10)(h1:inI 1 (ai (af LB p)).length=true)(h2:bE (ai (af LB p)) 1=k1)(ha:Bu ((LA,rA,()),at0,())=true)(hb:Bu ((LB,rB,()),k1,())=true)(hf:kO LB rB k1=kO LA rA at0):∃n,BI n 0 (mk6 at0 LA LB rA rB K l (i:Int))= .ok (.ret (.bool true),[]):=by
 refine⟨1,(aU rfl).trans ((MT (BI 0) at0 LA LB rA rB K l i).trans ?_)⟩
 have hg:bE K (i:Int).toNat=(p:Int):=by
  rw[Int.toNat_natCast]
  unfold bE
  rw[List.getD_eq_getElem?_getD,hK]
  rfl
 rw[hg,Int.toNat_natCast,hk,show Int.toNat 1=1 from rfl,h2,hf]
 refine(bt (decide_eq_true hl)).trans ((bt (bZ (by omega) (by omega))).trans ((bt (bZ (by omega) (by omega))).trans ((bt rfl).trans ((bt (bZ (by omega) (by omega))).trans ((bt h1).trans ((bt hb).trans ((bt ha).trans ?_)))))))
 simp
theorem Pd.formAt{t v:Tn}{L:List Nd}{r:Int}(h:Pd t L r){P S:List Nd}(hL:L=P++v.flat P.length++S):kO L r ((P.length+v.size-1:Nat):Int)=oS v:=by
 have hp:=size_pos v
 have hlen:L.length=P.length+v.size+S.length:=by
  rw[hL]
  simp only[List.length_append,Tn.flat_len]
 unfold kO
 have hc:dC L r=0:=by rw[h.r,h.l,Tn.flat_len];exact r5 h.g h.k h.s
 rw[hc]
 refine(bt ?_).trans ?_
 ·have h5:inI ((P.length+v.size-1:Nat):Int) L.length=true:=bZ (by omega) (by omega)
  rw[h5]
  rfl
 ·rw[Int.toNat_natCast]
  exact JT hL
theorem Pd.chk{t:Tn}{L:List Nd}{r:Int}(h:Pd t L r):dC L r=0:=by rw[h.r,h.l,Tn.flat_len];exact r5 h.g h.k h.s
theorem fn6{t z v:Tn}{LA LB:List Nd}{rA rB:Int}(ht:Pd t LA rA)(hz:Pd z LB rB){P S:List Nd}(hL:LA=P++v.flat P.length++S)(hs:Sp1 v z):∃n,BI n 0 (mk6 ((P.length+v.size-1:Nat):Int) LA LB rA rB (kj LB rB) (kj LB rB).length 0)= .ok (.ret (.bool true),[]):=by
 obtain⟨c,z1,z2,m,c1,c2,b,m1,m2,s,b1,b2,x,y,s1,s2,he⟩:=hs
 have g:=rE hz.chk
 have hz0:LB=z.flat 0++[]:=by rw[List.append_nil];exact hz.l
 obtain⟨⟨Sc',hc⟩,rz,lz,pz⟩:=rq g hz0 z2
 obtain⟨⟨Sm',hm⟩,rc,lc,pc⟩:=rq g hc c2
 obtain⟨⟨Sb',hb⟩,rm,lm,pm⟩:=rq g hm m2
 obtain⟨⟨Ss',hsl⟩,rb,lb,pb⟩:=rq g hb b2
 obtain⟨sx,sk⟩:=s
 have s2:sk=[x,y]:=s2
 subst s2
 have hsz:=size_pos (Tn.mk sx [x,y])
 have rs:af ([]++(Tn.mk sx [x,y]).flat 0++Ss') (eT 0 (.mk sx [x,y])).toNat=c8 sx (roots 0 [x,y]):=nC [] Ss' sx [x,y]
 rw[List.nil_append,←hsl]at rs
 have e:(eT 0 (.mk sx [x,y])).toNat=(Tn.mk sx [x,y]).size-1:=by rw[eT];simp
 rw[e]at rs
 have ls:(Tn.mk sx [x,y]).size-1<LB.length:=by rw[hsl,List.length_append,Tn.flat_len];omega
 have ps:=iC g ls
 have hzs:=size_pos z
 have hrB:rB=((z.size-1:Nat):Int):=by rw[hz.r,hz.l,Tn.flat_len];omega
 have hw:kj LB rB=((z.size-1:Nat):Int)::((c.size-1:Nat):Int)::((m.size-1:Nat):Int)::((b.size-1:Nat):Int)::(((Tn.mk sx [x,y]).size-1:Nat):Int)::(ai (af LB ((Tn.mk sx [x,y]).size-1))).flatMap fun k=>fx LB k.toNat:=by
  unfold kj
  rw[hz.inr]
  show fx LB rB.toNat=_
  rw[hrB,Int.toNat_natCast,pz,pc,pm,pb,ps]
 have hwl:(kj LB rB).length≤100000:=by
  unfold kj
  rw[hz.inr]
  show(fx LB rB.toNat).length≤_
  have:=na g (i:=rB.toNat) (by rw[hrB,Int.toNat_natCast];exact lz)
  have h2:=(lM hz.m).1
  omega
 generalize hW:kj LB rB=K at hw hwl
 have hl5:5≤K.length:=by rw[hw];simp
 have ky:bE (ai (af LB ((Tn.mk sx [x,y]).size-1))) 1=(((x.flat 0).length+y.size-1:Nat):Int):=by
  have hy:=size_pos y
  rw[rs,Tn.flat_len]
  show((0+x.size+y.size:Nat):Int)-1=_
  omega
 have hy2:LB=(x.flat 0)++y.flat (x.flat 0).length++([c8 sx (roots 0 [x,y])]++Ss'):=by
  rw[hsl,Tn.flat_len,Tn.flat,Tn.flats,Tn.flats_one,Nat.zero_add]
  simp[List.append_assoc]
 have hf:kO LB rB (((x.flat 0).length+y.size-1:Nat):Int)=kO LA rA ((P.length+v.size-1:Nat):Int):=by
  rw[hz.formAt hy2,ht.formAt hL,DE v y he]
 have a1:inI 1 (ai (af LB ((Tn.mk sx [x,y]).size-1))).length=true:=by
  rw[rs]
  rfl
 refine nO (i:=0) (p:=z.size-1) (by omega) rfl (by omega) (by rw[hw];rfl) lz (by rw[rz];show aj z.data≠10;omega) ?_
 refine nO (i:=1) (p:=c.size-1) (by omega) rfl (by omega) (by rw[hw];rfl) lc (by rw[rc];show aj c.data≠10;omega) ?_
 refine nO (i:=2) (p:=m.size-1) (by omega) rfl (by omega) (by rw[hw];rfl) lm (by rw[rm];show aj m.data≠10;omega) ?_
 refine nO (i:=3) (p:=b.size-1) (by omega) rfl (by omega) (by rw[hw];rfl) lb (by rw[rb];show aj b.data≠10;omega) ?_
 exact Kj (i:=4) (p:=(Tn.mk sx [x,y]).size-1) (by omega) rfl (by rw[hw];rfl) ls (by rw[rs];exact s1) a1 ky (ht.ok _) (hz.ok _) hf
theorem HZ(A:List UInt8)(at0:Int):∃n,start (R:=R0) E (au Gf) fi6 JX (BI n) [.str A,.int .i64 at0] [] .ok= .ok (.ret (.bool true),[]):=by
 by_cases h1:(A.length:Int)>800
 ·exact⟨0,(pZ _ A at0).trans (bt (decide_eq_true h1))⟩
 have b1:=decide_eq_false h1
 by_cases h2:ndE A≠0
 ·exact⟨0,(pZ _ A at0).trans ((bn b1).trans (bt (by simpa using h2)))⟩
 have h2:ndE A=0:=Decidable.not_not.1 h2
 have b2:(ndE A !=0)=false:=by rw[h2];rfl
 by_cases h3:at0<0
 ·exact⟨0,(pZ _ A at0).trans ((bn b1).trans ((bn b2).trans (bt (decide_eq_true h3))))⟩
 have b3:=decide_eq_false h3
 by_cases h4:at0≥((ndL A).length:Int)
 ·exact⟨0,(pZ _ A at0).trans ((bn b1).trans ((bn b2).trans ((bn b3).trans (bt (decide_eq_true h4)))))⟩
 have b4:=decide_eq_false h4
 have b5:inI at0 (ndL A).length=true:=bZ (by omega) (by omega)
 cases h6:FD (aj (nd6 A at0))with
 |false=>exact⟨0,(pZ _ A at0).trans ((bn b1).trans ((bn b2).trans ((bn b3).trans ((bn b4).trans ((bt b5).trans (bt (by rw[h6];rfl)))))))⟩
 |true=>
  have b6:(!FD (aj (nd6 A at0)))=false:=by rw[h6];rfl
  have hl:=S6 h2
  obtain⟨t,a,d,n,ht,hp⟩:=TH hl h2
  obtain⟨hin,hpc⟩:=JJ hl ht
  obtain⟨v,P,S,hL,hi,hv⟩:=pL (ndL A) [] (Pc A (bL A) (a-1)) (fun x ks h=>by
   unfold Pc at h
   exact h.2.mem) t [] at0.toNat (by rw[List.append_nil];exact hp.l) hpc (Nat.zero_le _) (by
    have:=congrArg List.length hp.l
    rw[Tn.flat_len]at this
    simp
    omega)
  have hvs:=size_pos v
  have hnd:nd6 A at0=c8 v.data (roots P.length v.kids):=by
   obtain⟨x,ks⟩:=v
   have:=nC P S x ks
   rw[←hL]at this
   unfold nd6
   rw[hi,←show(eT P.length (.mk x ks)).toNat=P.length+(Tn.mk x ks).size-1 by rw[eT];omega]
   exact this
  have hkv:19≤aj v.data:=by
   have h6:FD (aj v.data)=true:=by rw[hnd]at h6;exact h6
   unfold FD at h6
   simp only[Bool.and_eq_true,decide_eq_true_eq]at h6
   omega
  obtain⟨hpos,hlx,halt⟩:=FN (by omega) hl ht hv hkv hin
  have e1:nAt (nd6 A at0)=nAt v.data:=by rw[hnd];rfl
  have e2:nTo (nd6 A at0)=nTo v.data:=by rw[hnd];rfl
  have htx:tx6 A at0=txP (eQ A (nAt v.data) (nTo v.data)):=by
   unfold tx6 pc6
   rw[e1,e2]
   rfl
  rw[←htx]at hlx halt
  have b7:inB (nAt (nd6 A at0)) (nTo (nd6 A at0)) A.length=true:=by
   rw[e1,e2]
   exact nf hpos.1 hpos.2.1 hpos.2.2
  have hpl:(pc6 A at0).length≤800:=by
   unfold pc6
   rw[List.length_drop,List.length_take]
   omega
  have b8:decide (pre6.length+(pc6 A at0).length<2^62)=true:=decide_eq_true (by
   show 19+(pc6 A at0).length<2^62
   omega)
  have b9:decide ((pre6++pc6 A at0).length+List.length [(10:UInt8),41,59,125,125]<2^62)=true:=decide_eq_true (by
   rw[List.length_append]
   show 19+(pc6 A at0).length+5<2^62
   omega)
  have hd:∀J:Jump R0,start (R:=R0) E (au Gf) fi6 JX J [.str A,.int .i64 at0] [] .ok=_:=fun J=>(pZ J A at0).trans ((bn b1).trans ((bn b2).trans ((bn b3).trans ((bn b4).trans ((bt b5).trans ((bn b6).trans ((bt b5).trans ((bt b7).trans ((bt b8).trans (bt b9))))))))))
  rcases qB hlx with⟨z,a',d',n',f1,f2,f3,f4,f5,f6⟩|⟨c,p,f1,f2,f3⟩
  ·rw[f1]at halt
   have hs:Sp1 v z:=halt
   have hz:Pd z (ndL (tx6 A at0)) (ndR (tx6 A at0)):=by
    have p2:ndL (tx6 A at0)=z.flat 0:=by unfold ndL;rw[f2]
    have p3:ndR (tx6 A at0)=((z.flat 0).length:Int)-1:=by unfold ndR;rw[f2]
    rw[p2,p3]
    exact⟨rfl,rfl,f3,f4,f5,f6⟩
   have hE:ndE (tx6 A at0)=0:=by unfold ndE;rw[f2]
   obtain⟨k,hk⟩:=fn6 hp hz hL hs
   refine⟨k,(hd _).trans ?_⟩
   rw[hE]
   refine(bn rfl).trans ((bn rfl).trans ((bt ?_).trans ?_))
   ·show(jg (ndL (tx6 A at0))&&dC (ndL (tx6 A at0)) (ndR (tx6 A at0))==0)=true
    rw[hz.m,hz.chk]
    rfl
   ·have ea:at0=((P.length+v.size-1:Nat):Int):=by omega
    rw[ea]at hk⊢
    exact hk
  ·rw[f1]at halt
   have hc:c=2∨c=6:=halt
   have hE:ndE (tx6 A at0)=c:=by unfold ndE;rw[f3]
   refine⟨0,(hd _).trans ?_⟩
   rw[hE]
   rcases hc with rfl|rfl
   ·exact(bn rfl).trans ((bt rfl).trans (bn rfl))
   ·exact(bn rfl).trans ((bt rfl).trans (bt rfl))
theorem NP{G:Nat→Obj→Prop}(x:an iu):SAD Tryz.prog G 21 iu dt x (RR x):=by
 obtain⟨k,⟨⟩⟩:=x
 refine cg (bb []) (aQ .nil) S4 ((PZ k).trans ?_)
 show _=Rs.ok (Out.ret (AV.bool (decide ((show Int from k)≥19)&&decide ((show Int from k)≤45))),[])
 cases decide ((show Int from k)≥19)<;>rfl
theorem Kr{w0:World}(t:TabsW w0):bw Tryz.prog (GW w0) Gf:=
 .cons (d9 t) (.cons (Jc t) (.cons (aW fun x h=>LX t x h) (.cons (aW fun x _=>NP x) (.cons (aW fun x h=>KI x h) .nil))))
theorem Ms{w0:World}(t:TabsW w0)(A:List UInt8)(at0:Int):SA Tryz.prog (GW w0) 6 [.str A,.int .i64 at0] [] (.ret (.bool true),[]):=by
 obtain⟨n,h⟩:=HZ A at0
 exact bu (bb []) (aQ (Kr t)) fc6 (.inl cN) h
end Go.Sx.Tryz
