/- A part of the proof: see the row's text. -/
import Derived.Test.YtaklpoiaicepoaaGreatDoorZa11
import Derived.Shelf.LaysC
import Derived.Shelf.Strconv.ParseIntPublic10
import Derived.Test.YtaklpoiaicepoaaGreatDoorZa09
import Derived.Lib.LaidPrint
set_option linter.unusedVariables false
set_option linter.unusedSimpArgs false
noncomputable section
namespace Go.Sx.Tryz
open Go Go.Sx Go.Proofs
set_option maxRecDepth 100000
variable{G:Nat→Obj→Prop}
def nl(c:Int):Bool:=c !=10
theorem vx{r:List UInt8}(h:Lib.hasPrefix r [47,47]=true):∃r',r=47::r':=by
 cases r with
 |nil=>exact absurd h (by decide)
 |cons c r=>
  refine⟨r,?_⟩
  simp[Lib.hasPrefix,List.isPrefixOf]at h
  rw[h.1]
theorem Jr(J:Jump R0){T:List UInt8}{K:List Tok}{a:Int}{c:UInt8}(h1:a<T.length)(h2:inI a T.length=true)(h3:List.getD T a.toNat 0=c)(h4:IntKind.wrap .i64 (a+1)=a+1)(hc:nl (c.toNat:Int)=true):
  resume E (aq fC) (aS 2 gy 0) J [false,false,false,true,true,false,false] gz.code 1 (mkR T a K) (bX E 2 gz.results .ok)=J 1 (mkR T (a+1) K):=by
 unfold nl at hc
 rw[wj,decide_eq_true h1,h2,h3,hc,h4]
 rfl
theorem ER(J:Jump R0){T:List UInt8}{K:List Tok}{a:Int}{c:UInt8}(h1:a<T.length)(h2:inI a T.length=true)(h3:List.getD T a.toNat 0=c)(hc:nl (c.toNat:Int)=false):
  resume E (aq fC) (aS 2 gy 0) J [false,false,false,true,true,false,false] gz.code 1 (mkR T a K) (bX E 2 gz.results .ok)=J 0 (mkR T a K):=by
 unfold nl at hc
 rw[wj,decide_eq_true h1,h2,h3,hc]
 rfl
theorem I1(J:Jump R0){T:List UInt8}{K:List Tok}{a:Int}(h1:¬a<T.length):
  resume E (aq fC) (aS 2 gy 0) J [false,false,false,true,true,false,false] gz.code 1 (mkR T a K) (bX E 2 gz.results .ok)=J 0 (mkR T a K):=by
 rw[wj,decide_eq_false h1]
 rfl
theorem Bn{T:List UInt8}{K:List Tok}(hT:(T.length:Int)≤1099511627776):∀(r pre:List UInt8) (fuel:Nat),T=pre++r→pieces (R:=R0) E (aq fC) gz gy 2 .ok (fuel+(aG nl r+1)) 1 (mkR T pre.length K)=pieces (R:=R0) E (aq fC) gz gy 2 .ok fuel 0 (mkR T ((pre.length:Int)+aG nl r) K)
 |[],pre,fuel,hp=>by
  rw[show aG nl []=0 from rfl]
  have h1:¬((pre.length:Int)<T.length):=by rw[hp,List.append_nil];omega
  refine((bg rfl).trans (I1 (pieces (R:=R0) E (aq fC) gz gy 2 .ok fuel) h1)).trans ?_
  rw[show(pre.length:Int)+((0:Nat):Int)=pre.length by omega]
 |c::r,pre,fuel,hp=>by
  have hlen:pre.length+1+r.length=T.length:=by rw[hp];simp;omega
  have ih:=Bn (K:=K) hT r (pre++[c]) fuel (by simp[hp])
  have h1:(pre.length:Int)<T.length:=by omega
  have h2:inI (pre.length:Int) T.length=true:=by rw[hp];exact ra _ _ _
  have h3:List.getD T (pre.length:Int).toNat 0=c:=by rw[Int.toNat_natCast,hp];exact dK _ _ _
  have h4:IntKind.wrap .i64 ((pre.length:Int)+1)=(pre.length:Int)+1:=wrap64 (by omega) (by omega)
  have h5:(((pre++[c]).length:Nat):Int)=(pre.length:Int)+1:=by simp
  rw[bS]
  cases hc:nl (c.toNat:Int)
  ·rw[cond_false]
   refine((bg rfl).trans (ER (pieces (R:=R0) E (aq fC) gz gy 2 .ok fuel) h1 h2 h3 hc)).trans ?_
   rw[show(pre.length:Int)+((0:Nat):Int)=pre.length by omega]
  ·rw[cond_true]
   refine((bg rfl).trans (Jr (pieces (R:=R0) E (aq fC) gz gy 2 .ok (fuel+(aG nl r+1))) h1 h2 h3 h4 hc)).trans ?_
   rw[h5]at ih
   refine ih.trans ?_
   rw[show(pre.length:Int)+1+aG nl r=(pre.length:Int)+((aG nl r+1:Nat):Int) by omega]
theorem ed(n:Nat)(s:List UInt8):pV (n+1) s=bif Lib.hasPrefix (s.drop (aG aU s)) [47,47]then aG aU s+aG nl (s.drop (aG aU s))+pV n (s.drop (aG aU s+aG nl (s.drop (aG aU s))))else aG aU s:=rfl
theorem xD{T:List UInt8}{K:List Tok}(hT:(T.length:Int)≤1099511627776):∀(n:Nat) (s pre:List UInt8),T=pre++s→s.length<n→∃fuel g,pieces (R:=R0) E (aq fC) gz gy 2 .ok fuel 0 (mkR T pre.length K)= .ok (fA g (.tup []) T ((pre.length:Int)+pV n s) K)
 |0,_,_,_,h=>absurd h (Nat.not_lt_zero _)
 |n+1,s,pre,hp,hn=>by
  have hr:aI T (pre.length:Int)=s:=xP hp
  have hb:=ek aU s
  have hlen:pre.length+s.length=T.length:=by rw[hp];simp
  have hok:okA T (pre.length:Int)=true:=iX.2 ⟨by omega,by omega,hT⟩
  have hw:whI (pOf 60) T (pre.length:Int)=(pre.length:Int)+aG aU s:=by
   show(pre.length:Int)+aG aU (aI T _)=_
   rw[hr]
  have hib:inB ((pre.length:Int)+aG aU s) (T.length:Int) T.length=true:=lP (by omega) (by omega) (by omega)
  have hd:List.drop (Int.toNat ((pre.length:Int)+aG aU s)) (List.take (Int.toNat (T.length:Int)) T)=s.drop (aG aU s):=by
   rw[lK]
   have:((pre.length:Int)+aG aU s)=(((pre++s.take (aG aU s)).length:Nat):Int):=by simp;omega
   rw[this]
   exact xP (by rw[List.append_assoc,List.take_append_drop];exact hp)
  rw[ed]
  cases hh:Lib.hasPrefix (s.drop (aG aU s)) [47,47]
  ·refine⟨1,2,?_⟩
   refine((bg rfl).trans (B8 (pieces (R:=R0) E (aq fC) gz gy 2 .ok 0) T pre.length K)).trans ?_
   rw[hok,hw,hib,hd,hh]
   rfl
  ·obtain⟨r',hr'⟩:=vx hh
   have hc:1≤aG nl (s.drop (aG aU s)):=by
    rw[hr',bS]
    show 1≤aG nl r'+1
    omega
   have hcl:=ek nl (s.drop (aG aU s))
   rw[List.length_drop]at hcl
   obtain⟨fuel,g,ih⟩:=xD (K:=K) hT n (s.drop (aG aU s+aG nl (s.drop (aG aU s)))) (pre++s.take (aG aU s+aG nl (s.drop (aG aU s)))) (by rw[List.append_assoc,List.take_append_drop];exact hp) (by rw[List.length_drop];omega)
   refine⟨fuel+(aG nl (s.drop (aG aU s))+1)+1,g,?_⟩
   refine((bg rfl).trans (B8 (pieces (R:=R0) E (aq fC) gz gy 2 .ok (fuel+(aG nl (s.drop (aG aU s))+1))) T pre.length K)).trans ?_
   rw[hok,hw,hib,hd,hh]
   have hs:=Bn (K:=K) hT (s.drop (aG aU s)) (pre++s.take (aG aU s)) fuel (by rw[List.append_assoc,List.take_append_drop];exact hp)
   have e1:(((pre++s.take (aG aU s)).length:Nat):Int)=(pre.length:Int)+aG aU s:=by simp;omega
   rw[e1]at hs
   refine hs.trans ?_
   have e2:(((pre++s.take (aG aU s+aG nl (s.drop (aG aU s)))).length:Nat):Int)=(pre.length:Int)+aG aU s+aG nl (s.drop (aG aU s)):=by simp;omega
   rw[e2]at ih
   refine ih.trans ?_
   congr 2
   show _=(pre.length:Int)+((aG aU s+aG nl (s.drop (aG aU s))+pV n (s.drop (aG aU s+aG nl (s.drop (aG aU s)))):Nat):Int)
   omega
theorem Ej(h:bm Tryz.prog G fM):bm Tryz.prog G fC:=.cons (dy F9) h
theorem NA(h:bm Tryz.prog G fM)(T:List UInt8)(a:Int)(K:List Tok)(ha:okA T a=true):SA Tryz.prog G 36 [.ref 0 0] (bsR T a K) (.ret (cV [] ()),sW T (gh T a) K):=by
 obtain⟨a0,a1,a2⟩:=iX.1 ha
 obtain⟨pre,hp,hl⟩:=rN a0 a1
 obtain⟨fuel,g,hg⟩:=xD (K:=K) a2 _ (aI T a) pre hp (Nat.lt_succ_self _)
 rw[hl]at hg
 have h2:=(J5 (pieces (R:=R0) E (aq fC) gz gy 2 .ok fuel) T a K).trans hg
 exact xN (bA (aX []) (aP (Ej h)) VC (.inl (nZ T a K)) h2) (fun _=>rfl) rfl
end Go.Sx.Tryz
namespace Go.Sx.Tryz
open Go Go.Sx Go.Proofs
set_option maxRecDepth 100000
variable{G:Nat→Obj→Prop}
def sgB(s:List UInt8):Bool:=decide ((s.length:Int)>1)&&(Lib.contains eF (s.take 2++[32])&&(at8 s 0 !=32&&at8 s 1 !=32))
theorem wo(s:List UInt8):sQ s=bif sgB s then(2,0)else bif decide (ibS q9 (at8 s 0)≥0)then(1,0)else(0,60):=rfl
theorem DW(J:Jump R0){T:List UInt8}{a:Int}{K:List Tok}(ha:jT T a=true):start E (aq fM) wZ zb J [.ref 0 0] (bsR T a K) .ok=J 0 (Qk T a K (aI T a) (sgB (aI T a))):=by
 obtain⟨a0,a1,a2⟩:=iP.1 ha
 refine(L6 J T a K).trans ?_
 rw[lK,lP a0 (by omega) (by omega),cond_true]
 have hl:=gi a0 (Int.le_of_lt a1)
 generalize aI T a=s at hl
 unfold sgB
 cases h1:decide ((s.length:Int)>1)
 ·rfl
 ·rw[decide_eq_true_eq]at h1
  have h2:inB 0 2 s.length=true:=lP (by omega) (by omega) (by omega)
  have h3:inI 0 s.length=true:=cB (by omega) (by omega)
  have h4:inI 1 s.length=true:=cB (by omega) (by omega)
  have h5:List.length (List.drop (Int.toNat 0) (List.take (Int.toNat 2) s))+List.length [(32:UInt8)]<2^62:=by
   show List.length (List.take 2 s)+1<_
   rw[List.length_take]
   omega
  rw[h2,h3,h4]
  simp only[cond_true,Bool.true_and]
  refine(mh h5).trans ?_
  show(bif Lib.contains eF (List.take 2 s++[32])then _ else _)=_
  cases Lib.contains eF (List.take 2 s++[32])
  ·rfl
  ·show(bif at8 s 0 !=32 then _ else _)=_
   cases at8 s 0 !=32
   ·rfl
   ·rfl
theorem Eb{T:List UInt8}{a:Int}{K:List Tok}(ha:jT T a=true):pieces (R:=R0) E (aq fM) wZ zb 2 .ok 1 0 (Qk T a K (aI T a) (sgB (aI T a)))= .ok (fA 1 (.int .i64 (CZ T a)) T (CN T a) K):=by
 obtain⟨a0,a1,a2⟩:=iP.1 ha
 refine(LZ (pieces (R:=R0) E (aq fM) wZ zb 2 .ok 0) T a K _ _).trans ?_
 unfold CZ CN
 rw[wo]
 have hl:=gi a0 (Int.le_of_lt a1)
 generalize aI T a=s at hl
 have w1:IntKind.wrap .i64 (a+1)=a+1:=wrap64 (by omega) (by omega)
 have w2:IntKind.wrap .i64 (a+2)=a+2:=wrap64 (by omega) (by omega)
 rw[w1,w2,cB (show(0:Int)≤0 by omega) (show(0:Int)<s.length by omega)]
 cases sgB s
 ·simp only[cond_false,cond_true]
  show(bif decide (ibS q9 (at8 s 0)≥0)then _ else _)=_
  cases decide (ibS q9 (at8 s 0)≥0)
  ·show _=Rs.ok (fA 1 (.int .i64 60) T (a+0) K)
   rw[Int.add_zero]
   rfl
  ·rfl
 ·rfl
theorem OI(h:bm Tryz.prog G fM)(T:List UInt8)(a:Int)(K:List Tok)(ha:jT T a=true):SA Tryz.prog G 65 [.ref 0 0] (bsR T a K) (.ret (cV jJ (CZ T a,())),sW T (CN T a) K):=
 xN (bA (aX []) (aP h) Vx (.inl (nZ T a K)) ((DW _ ha).trans (Eb ha))) (fun _=>rfl) rfl
theorem qx{T:List UInt8}{K:List Tok}(hT:(T.length:Int)≤1099511627776):∀(n:Nat) (r pre:List UInt8),T=pre++r→r.length≤n→∃fuel,pieces (R:=R0) E (aq fM) sz rQ 2 .ok fuel 0 (mkR T pre.length K)= .ok (fA 1 (.int .i64 (cU n r).2) T ((pre.length:Int)+(cU n r).1) K)
 |n,[],pre,hp,_=>by
  refine⟨1,(G7 (pieces (R:=R0) E (aq fM) sz rQ 2 .ok 0) T pre.length K).trans ?_⟩
  have h1:¬((pre.length:Int)<T.length):=by rw[hp,List.append_nil];omega
  have h2:cU n []=(0,61):=by cases n<;>rfl
  simp only[h1,decide_false,cond_false,h2]
  show _=Rs.ok (fA 1 (.int .i64 61) T ((pre.length:Int)+0) K)
  rw[Int.add_zero]
  rfl
 |0,c::r,pre,hp,h=>by simp at h
 |n+1,c::r,pre,hp,hn=>by
  have hlen:pre.length+1+r.length=T.length:=by rw[hp];simp;omega
  simp only[List.length_cons]at hn
  have h1:(pre.length:Int)<T.length:=by omega
  have h2:inI (pre.length:Int) T.length=true:=by rw[hp];exact ra _ _ _
  have h3:List.getD T pre.length 0=c:=by rw[hp];exact dK _ _ _
  have h4:IntKind.wrap .i64 ((pre.length:Int)+1)=(pre.length:Int)+1:=wrap64 (by omega) (by omega)
  have h5:(((pre++[c]).length:Nat):Int)=(pre.length:Int)+1:=by simp
  have hq:cU (n+1) (c::r)=bif (c.toNat:Int)==34 then(1,0)else bif (c.toNat:Int)==10 then(0,61)else bif decide ((c.toNat:Int)<32)||decide ((c.toNat:Int)>126)then(0,60)
   else bif (c.toNat:Int)==92 then(match r with
    |[]=>(0,61)
    |d::r'=>bif decide (ibS rL (d.toNat:Int)<0)then(0,5)else((cU n r').1+2,(cU n r').2))
   else((cU n r).1+1,(cU n r).2):=rfl
  rw[hq]
  have one:∀{v:Int} {x:Nat×Int},x=(0,v)→Rs.ok (fA 1 (.int .i64 v) T (pre.length:Int) K)=Rs.ok (fA 1 (.int .i64 x.2) T ((pre.length:Int)+x.1) K):=fun h=>by
   rw[h]
   show _=Rs.ok (fA 1 _ T ((pre.length:Int)+0) K)
   rw[Int.add_zero]
  have go:∀fuel,pieces (R:=R0) E (aq fM) sz rQ 2 .ok (fuel+1) 0 (mkR T pre.length K)=_:=fun fuel=>(G7 (pieces (R:=R0) E (aq fM) sz rQ 2 .ok fuel) T pre.length K)
  simp only[h1,h2,h3,h4,Int.toNat_natCast,decide_true,cond_true]at go
  cases e1:(c.toNat:Int)==34
  ·cases e2:(c.toNat:Int)==10
   ·cases e3:decide ((c.toNat:Int)<32)
    ·cases e4:decide ((c.toNat:Int)>126)
     ·cases e5:(c.toNat:Int)==92
      ·obtain⟨fuel,ih⟩:=qx (K:=K) hT n r (pre++[c]) (by simp[hp]) (by omega)
       rw[h5]at ih
       refine⟨fuel+1,(go fuel).trans ?_⟩
       simp only[e1,e2,e3,e4,e5,cond_false]
       refine ih.trans ?_
       congr 2
       show _=(pre.length:Int)+(((cU n r).1+1:Nat):Int)
       omega
      ·cases r with
       |nil=>
        refine⟨1,(go 0).trans ?_⟩
        simp only[List.length_nil]at hlen
        have h6:(pre.length:Int)+1≥T.length:=by omega
        simp only[e1,e2,e3,e4,e5,cond_false,cond_true,h6,decide_true]
        exact one rfl
       |cons d r'=>
        simp only[List.length_cons]at hlen hn
        have h6:¬((pre.length:Int)+1≥T.length):=by omega
        have h7:inI ((pre.length:Int)+1) T.length=true:=cB (by omega) (by omega)
        have h8:List.getD T (Int.toNat ((pre.length:Int)+1)) 0=d:=by
         have:Int.toNat ((pre.length:Int)+1)=(pre++[c]).length:=by simp
         rw[this,hp,show pre++c::d::r'=(pre++[c])++d::r' by simp]
         exact dK _ _ _
        have h9:IntKind.wrap .i64 ((pre.length:Int)+1+1)=(pre.length:Int)+1+1:=wrap64 (by omega) (by omega)
        cases e6:decide (ibS rL (d.toNat:Int)<0)
        ·obtain⟨fuel,ih⟩:=qx (K:=K) hT n r' (pre++[c,d]) (by simp[hp]) (by omega)
         have h10:(((pre++[c,d]).length:Nat):Int)=(pre.length:Int)+1+1:=by simp;omega
         rw[h10]at ih
         refine⟨fuel+1,(go fuel).trans ?_⟩
         simp only[e1,e2,e3,e4,e5,cond_false,cond_true,h6,decide_false,h7,h8,h9]
         show(bif decide (ibS rL (d.toNat:Int)<0)then _ else _)=_
         rw[e6]
         refine ih.trans ?_
         congr 2
         show _=(pre.length:Int)+(((cU n r').1+2:Nat):Int)
         omega
        ·refine⟨1,(go 0).trans ?_⟩
         simp only[e1,e2,e3,e4,e5,cond_false,cond_true,h6,decide_false,h7,h8,h9]
         show(bif decide (ibS rL (d.toNat:Int)<0)then _ else _)=_
         rw[e6]
         exact one rfl
     ·refine⟨1,(go 0).trans ?_⟩
      simp only[e1,e2,e3,e4,cond_false,cond_true]
      exact one rfl
    ·refine⟨1,(go 0).trans ?_⟩
     simp only[e1,e2,e3,cond_false,cond_true]
     exact one rfl
   ·refine⟨1,(go 0).trans ?_⟩
    simp only[e1,e2,cond_false,cond_true]
    exact one rfl
  ·refine⟨1,(go 0).trans ?_⟩
   simp only[e1,cond_true]
   rfl
theorem HN(h:bm Tryz.prog G fM)(T:List UInt8)(a:Int)(K:List Tok)(ha:jT T a=true):SA Tryz.prog G 64 [.ref 0 0] (bsR T a K) (.ret (cV jJ (pZ T a,())),sW T (j6 T a) K):=by
 obtain⟨a0,a1,a2⟩:=iP.1 ha
 obtain⟨pre,hp,hl⟩:=rN a0 (Int.le_of_lt a1)
 have hlen:=gi a0 (Int.le_of_lt a1)
 obtain⟨fuel,hg⟩:=qx (K:=K) a2 (aI T a).length ((aI T a).drop 1) (pre++(aI T a).take 1) (by rw[List.append_assoc,List.take_append_drop];exact hp) (by rw[List.length_drop];omega)
 have h5:(((pre++(aI T a).take 1).length:Nat):Int)=a+1:=by
  rw[List.length_append,List.length_take]
  omega
 rw[h5]at hg
 have w1:IntKind.wrap .i64 (a+1)=a+1:=wrap64 (by omega) (by omega)
 have hs:=KR (pieces (R:=R0) E (aq fM) sz rQ 2 .ok fuel) T a K
 rw[w1]at hs
 have h2:=hs.trans hg
 have h3:a+1+((cU (aI T a).length ((aI T a).drop 1)).1:Int)=j6 T a:=by
  unfold j6 gD
  show _=a+(((cU (aI T a).length ((aI T a).drop 1)).1+1:Nat):Int)
  omega
 rw[h3]at h2
 exact xN (bA (aX []) (aP h) We (.inl (nZ T a K)) h2) (fun _=>rfl) rfl
end Go.Sx.Tryz
namespace Go.Sx.Tryz
open Go Go.Sx Go.Proofs
set_option maxRecDepth 100000
abbrev MQ:Sig:=[(false,.int .i64),(false,.int .i64)]
def WB:aV:=rdC 64 jJ jT (fun T a=>(pZ T a,())) j6
def sgnC:aV:=rdC 65 jJ jT (fun T a=>(CZ T a,())) CN
def w5:List (Nat×aV):=(59,eQ 59 whC)::(64,eQ 64 WB)::(65,eQ 65 sgnC)::ma
def Bh:List Cut:=[⟨[true,true,false,false,true,true,true,false,true,true,true,false,false],some ⟨[(0,[]),(4,[]),(6,[])],[[],[]]⟩⟩]
def KT(T:List UInt8)(b:Int)(K:List Tok)(a k:Int):St:={tmps:=[(0,.ref 0 0),(4,.int .i64 a),(6,.int .i64 k)],blks:=[(0,.cells 86 [.str T,.int .i64 b,.own 1 1]),(1,.list 50 aE 1 false K)],next:=2}
def oneC:aV:=rdC 37 MQ jT (fun T a=>(lr T a,ig T a,())) bZ
def gapC:aV:=rdC 36 [] okA (fun _ _=>()) gh
def yA:List (Nat×aV):=[(36,eQ 36 gapC),(37,eQ 37 oneC)]
def BI:List Cut:=[⟨[true,true,true,false,false],some ⟨[(0,[]),(3,[]),(4,[])],[[],[.keep,.keep,.own 50 aE]]⟩⟩,⟨[true,true,true,false,true,false,false],some ⟨[(0,[]),(3,[]),(4,[])],[[],[],[]]⟩⟩]
def KX(T:List UInt8)(a:Int)(K:List Tok):St:={tmps:=[(0,.str T),(3,.ref 0 0),(4,.ref 1 0)],blks:=[(0,.cells 28 [.int .i64 0,.int .i64 0]),(1,.cells 86 [.str T,.int .i64 a,.own 2 0]),(2,.list 50 aE 0 false K)],next:=3}
def tkn(k a b:Int):Tok:=(k,a,b,())
end Go.Sx.Tryz
namespace Go.Sx.Tryz
open Go Go.Sx
set_option maxRecDepth 100000
theorem L9(J:Jump R0)(T:List UInt8)(a:Int)(K:List Tok):start E (aq w5) Ae Bh J [.ref 0 0] (bsR T a K) .ok=bif inI a (List.length T)then bif isLet (↑(UInt8.toNat (List.getD T (Int.toNat a) 0)):Int)then bif (Nat.beq 62 60||(Nat.beq 62 62||Nat.beq 62 63))&&okA T a then bif decide (IntKind.wrap IntKind.i64 (whI (pOf 62) T a-a)>64)then Rs.ok (Out.ret (AV.tup [Iz 0,Iz (Int.ofNat 2)]),[Blk.cells 86 [AV.str T,Iz (whI (pOf 62) T a),AV.own 1 1],Blk.list 50 aE 1 false K])else Rs.ok (Out.ret (AV.tup [Iz (Int.ofNat 1),Iz 0]),[Blk.cells 86 [AV.str T,Iz (whI (pOf 62) T a),AV.own 1 1],Blk.list 50 aE 1 false K])else Rs.err 3000059 else bif aH (↑(UInt8.toNat (List.getD T (Int.toNat a) 0)):Int)then bif (Nat.beq 63 60||(Nat.beq 63 62||Nat.beq 63 63))&&okA T a then bif decide (IntKind.wrap IntKind.i64 (whI (pOf 63) T a+1)<(↑(List.length T):Int))then bif inI (whI (pOf 63) T a) (List.length T)then bif (↑(UInt8.toNat (List.getD T (Int.toNat (whI (pOf 63) T a)) 0)):Int)==46 then bif inI (IntKind.wrap IntKind.i64 (whI (pOf 63) T a+1)) (List.length T)then bif aH (↑(UInt8.toNat (List.getD T (Int.toNat (IntKind.wrap IntKind.i64 (whI (pOf 63) T a+1))) 0)):Int)then bif (Nat.beq 63 60||(Nat.beq 63 62||Nat.beq 63 63))&&okA T (IntKind.wrap IntKind.i64 (whI (pOf 63) T a+1))then J 0 {tmps:=[(0,AV.ref 0 0),(4,Iz a),(6,Iz (Int.ofNat 3))],blks:=[(0,Blk.cells 86 [AV.str T,Iz (whI (pOf 63) T (IntKind.wrap IntKind.i64 (whI (pOf 63) T a+1))),AV.own 1 1]),(1,Blk.list 50 aE 1 false K)],next:=2}else Rs.err 3000059 else J 0 {tmps:=[(0,AV.ref 0 0),(4,Iz a),(6,Iz (Int.ofNat 2))],blks:=[(0,Blk.cells 86 [AV.str T,Iz (whI (pOf 63) T a),AV.own 1 1]),(1,Blk.list 50 aE 1 false K)],next:=2}else Rs.err 1033 else J 0 {tmps:=[(0,AV.ref 0 0),(4,Iz a),(6,Iz (Int.ofNat 2))],blks:=[(0,Blk.cells 86 [AV.str T,Iz (whI (pOf 63) T a),AV.own 1 1]),(1,Blk.list 50 aE 1 false K)],next:=2}else Rs.err 1020 else J 0 {tmps:=[(0,AV.ref 0 0),(4,Iz a),(6,Iz (Int.ofNat 2))],blks:=[(0,Blk.cells 86 [AV.str T,Iz (whI (pOf 63) T a),AV.own 1 1]),(1,Blk.list 50 aE 1 false K)],next:=2}else Rs.err 3000059 else bif (↑(UInt8.toNat (List.getD T (Int.toNat a) 0)):Int)==34 then bif jT T a then bif pZ T a==0 then bif decide (IntKind.wrap IntKind.i64 (j6 T a-a)>256)then Rs.ok (Out.ret (AV.tup [Iz (Int.ofNat 4),Iz (Int.ofNat 2)]),[Blk.cells 86 [AV.str T,Iz (j6 T a),AV.own 1 1],Blk.list 50 aE 1 false K])else Rs.ok (Out.ret (AV.tup [Iz (Int.ofNat 4),Iz (pZ T a)]),[Blk.cells 86 [AV.str T,Iz (j6 T a),AV.own 1 1],Blk.list 50 aE 1 false K])else Rs.ok (Out.ret (AV.tup [Iz (Int.ofNat 4),Iz (pZ T a)]),[Blk.cells 86 [AV.str T,Iz (j6 T a),AV.own 1 1],Blk.list 50 aE 1 false K])else Rs.err 3000064 else bif jT T a then Rs.ok (Out.ret (AV.tup [Iz (Int.ofNat 5),Iz (CZ T a)]),[Blk.cells 86 [AV.str T,Iz (CN T a),AV.own 1 1],Blk.list 50 aE 1 false K])else Rs.err 3000065 else Rs.err 112:=by kernel_rfl
theorem Kk(J:Jump R0)(T:List UInt8)(b:Int)(K:List Tok)(a k:Int):resume E (aq w5) (aS 2 Bh 0) J [true,true,false,false,true,true,true,false,true,true,true,false,false] Ae.code 1 (KT T b K a k) (bX E 2 Ae.results .ok)=bif decide (IntKind.wrap IntKind.i64 (b-a)>20)then Rs.ok (Out.ret (AV.tup [Iz 0,Iz (Int.ofNat 2)]),[Blk.cells 86 [AV.str T,Iz b,AV.own 1 1],Blk.list 50 aE 1 false K])else Rs.ok (Out.ret (AV.tup [Iz k,Iz 0]),[Blk.cells 86 [AV.str T,Iz b,AV.own 1 1],Blk.list 50 aE 1 false K]):=by kernel_rfl
theorem BX(J:Jump R0)(T:List UInt8):start E (aq yA) xS BI J [.str T] [] .ok=bif decide ((↑(List.length T):Int)>65536)then Rs.ok (Out.ret (AV.tup [AV.nils,AV.agg [Iz (Int.ofNat 2),Iz 0]]),[])else J 0 {tmps:=[(0,AV.str T),(3,AV.ref 0 0),(4,AV.ref 1 0)],blks:=[(0,Blk.cells 28 [Iz 0,Iz 0]),(1,Blk.cells 86 [AV.str T,Iz 0,AV.own 2 0]),(2,Blk.list 50 aE 0 false [])],next:=3}:=by kernel_rfl
theorem Ly(J:Jump R0)(T:List UInt8)(a:Int)(K:List Tok):resume E (aq yA) (aS 0 BI 0) J [true,true,true,false,false] xS.code 1 (KX T a K) (bX E 0 xS.results .ok)=bif okA T a then J 1 {tmps:=[(0,AV.str T),(3,AV.ref 0 0),(4,AV.ref 1 0)],blks:=[(0,Blk.cells 28 [Iz 0,Iz 0]),(1,Blk.cells 86 [AV.str T,Iz (gh T a),AV.own 2 0]),(2,Blk.list 50 aE 0 false K)],next:=3}else Rs.err 3000036:=by kernel_rfl
theorem NH(J:Jump R0)(T:List UInt8)(a:Int)(K:List Tok):resume E (aq yA) (aS 0 BI 0) J [true,true,true,false,true,false,false] xS.code 1 (KX T a K) (bX E 0 xS.results .ok)=bif decide (a<(↑(List.length T):Int))then bif decide ((↑(List.length K):Int)≥16384)then Rs.ok (Out.ret (AV.tup [AV.nils,AV.agg [Iz (Int.ofNat 2),Iz a]]),[])else bif jT T a then bif ig T a !=0 then Rs.ok (Out.ret (AV.tup [AV.nils,AV.agg [Iz (ig T a),Iz a]]),[])else bif decide (List.length K+List.length [(tkn (lr T a) (a) (bZ T a))]<al)then bif okA T (bZ T a)then J 1 {tmps:=[(0,AV.str T),(3,AV.ref 0 0),(4,AV.ref 1 0)],blks:=[(0,Blk.cells 28 [Iz 0,Iz 0]),(1,Blk.cells 86 [AV.str T,Iz (gh T (bZ T a)),AV.own 2 0]),(2,Blk.list 50 aE 0 false (K++[(tkn (lr T a) (a) (bZ T a))]))],next:=3}else Rs.err 3000036 else Rs.err 1314 else Rs.err 3000037 else bif decide (List.length K+List.length [(tkn (0) ((↑(List.length T):Int)) ((↑(List.length T):Int)))]<al)then Rs.ok (Out.ret (AV.tup [AV.own 0 1,AV.agg [Iz 0,Iz 0]]),[Blk.list 50 aE 1 false (K++[(tkn (0) ((↑(List.length T):Int)) ((↑(List.length T):Int)))])])else Rs.err 1411:=by kernel_rfl
theorem LF(s:List UInt8):body (R:=R0) E (aq fM) Bj [.str s] [] .ok=bif !s==[]then bif decide (ibS s 32<0)then bif decide (List.length [32]+List.length s<2^62)then bif decide (List.length ([32]++s)+List.length [32]<2^62)then Rs.ok (Out.ret (AV.bool (Lib.contains (List.append (List.append [32,99,108,97,115,115,32,101,120,116,101,110,100,115,32,105,110,105,116,32,105,110,116,32,98,111,111,108,32,100,111,117,98,108,101,32,115,116,114,32,118,111,105,100] [32,79,112,116,105,111,110,32,105,102,32,101,108,115,101,32,119,104,105,108,101,32,98,114,101,97,107,32,99,111,110,116,105,110,117,101,32,114,101,116,117,114,110,32,112]) (List.append [114,105,110,116,32,115,117,112,101,114,32,116,104,105,115,32,110,117,108,108,32,110,111,110,101,32,115,111,109,101,32,105,115,32,116,114,117,101,32,102,97,108,115,101,32] [110,101,119,32,99,97,115,116,32,116,111,105,110,116,32,116,111,100,111,117,98,108,101,32,105,110,112,117,116,32,97,115,107,32,108,101,110,103,116,104,32,118,97,108,32])) ([32]++s++[32]))),[])else Rs.err 110 else Rs.err 109 else Rs.ok (Out.ret (AV.bool false),[])else Rs.ok (Out.ret (AV.bool false),[]):=by kernel_rfl
end Go.Sx.Tryz
namespace Go.Sx.Tryz
open Go Go.Sx Go.Proofs
set_option maxRecDepth 100000
variable{G:Nat→Obj→Prop}
theorem FJ(h:bm Tryz.prog G fM):bm Tryz.prog G w5:=
 .cons (dy F9) (.cons (dy (qZ fun T a K ha=>HN h T a K ha)) (.cons (dy (qZ fun T a K ha=>OI h T a K ha)) BY))
abbrev DC(n:Nat):Jump R0:=pieces (R:=R0) E (aq w5) Ae Bh 2 .ok n
theorem MV{T:List UInt8}{b a k:Int}{K:List Tok}(h0:0≤a)(h1:a≤b)(h2:b≤1099511627776):DC 1 0 (KT T b K a k)=bif decide (b-a>20)then .ok (fA 1 (.tup [.int .i64 0,.int .i64 2]) T b K)else .ok (fA 1 (.tup [.int .i64 k,.int .i64 0]) T b K):=by
 refine(Kk (DC 0) T b K a k).trans ?_
 rw[wrap64 (show-9223372036854775808≤b-a by omega) (by omega)]
 rfl
theorem Ce{T:List UInt8}{a:Int}(h0:0≤a)(n:Nat):at8 (aI T a) n=(((T.getD (a+n).toNat 0).toNat:Nat):Int):=by
 unfold at8
 rw[GJ h0,show a.toNat+n=(a+n).toNat by omega]
theorem wk{p:Int→Bool}{s:List UInt8}(h:p (at8 s 0)=true)(hs:0<s.length):1≤aG p s:=by
 cases s with
 |nil=>simp at hs
 |cons c s=>
  rw[bS,show p (c.toNat:Int)=true from h]
  show 1≤aG p s+1
  omega
theorem Dd{T:List UInt8}{a:Int}(h0:0≤a)(n:Nat):aI T (a+n)=(aI T a).drop n:=by
 unfold aI
 rw[List.drop_drop,show(a+n).toNat=a.toNat+n by omega]
theorem v7:∀(n:Nat) (s:List UInt8),(cU n s).1≤s.length
 |n,[]=>by cases n<;>exact Nat.zero_le _
 |0,_::_=>Nat.zero_le _
 |n+1,c::r=>by
  have hq:cU (n+1) (c::r)=bif (c.toNat:Int)==34 then(1,0)else bif (c.toNat:Int)==10 then(0,61)else bif decide ((c.toNat:Int)<32)||decide ((c.toNat:Int)>126)then(0,60)
   else bif (c.toNat:Int)==92 then(match r with
    |[]=>(0,61)
    |d::r'=>bif decide (ibS rL (d.toNat:Int)<0)then(0,5)else((cU n r').1+2,(cU n r').2))
   else((cU n r).1+1,(cU n r).2):=rfl
  rw[hq]
  have ih:=v7 n r
  cases (c.toNat:Int)==34
  ·cases (c.toNat:Int)==10
   ·cases decide ((c.toNat:Int)<32)||decide ((c.toNat:Int)>126)
    ·cases (c.toNat:Int)==92
     ·show(cU n r).1+1≤r.length+1
      omega
     ·cases r with
      |nil=>exact Nat.zero_le _
      |cons d r'=>
       have ih2:=v7 n r'
       show(bif decide (ibS rL (d.toNat:Int)<0)then((0,5):Nat×Int)else((cU n r').1+2,(cU n r').2)).1≤r'.length+1+1
       cases decide (ibS rL (d.toNat:Int)<0)
       ·show(cU n r').1+2≤r'.length+1+1
        omega
       ·exact Nat.zero_le _
    ·exact Nat.zero_le _
   ·exact Nat.zero_le _
  ·show 1≤r.length+1
   omega
theorem Cl{s:List UInt8}(h:0<s.length):(gD s).1≤s.length:=by
 have:=v7 s.length (s.drop 1)
 rw[List.length_drop]at this
 show(cU s.length (s.drop 1)).1+1≤s.length
 omega
theorem Ks{T:List UInt8}{a:Int}{K:List Tok}(ha:jT T a=true):∃n,start (R:=R0) E (aq w5) Ae Bh (DC n) [.ref 0 0] (bsR T a K) .ok= .ok (fA 1 (.tup [.int .i64 (lr T a),.int .i64 (ig T a)]) T (bZ T a) K):=by
 obtain⟨a0,a1,a2⟩:=iP.1 ha
 refine⟨1,(L9 (DC 1) T a K).trans ?_⟩
 have hl:=gi a0 (Int.le_of_lt a1)
 have e0:(((T.getD a.toNat 0).toNat:Nat):Int)=at8 (aI T a) 0:=by
  rw[Ce a0,show a+((0:Nat):Int)=a by omega]
 have hok:okA T a=true:=iX.2 ⟨a0,Int.le_of_lt a1,a2⟩
 have q1:IntKind.wrap .i64 (j6 T a-a)=j6 T a-a:=by
  have:=Cl (s:=aI T a) (by omega)
  exact wrap64 (by unfold j6;omega) (by unfold j6;omega)
 rw[cB a0 a1,e0,hok,ha,q1]
 unfold lr ig bZ whI pZ j6 CZ CN
 have r1:∀x:Nat,aI T (a+x)=(aI T a).drop x:=Dd a0
 have g1:∀x:Nat,(((T.getD (a+(x:Int)).toNat 0).toNat:Nat):Int)=at8 (aI T a) x:=fun x=>(Ce a0 x).symm
 show(bif isLet (at8 (aI T a) 0)then _ else _)=_
 unfold eX
 cases hL:isLet (at8 (aI T a) 0)
 ·cases hD:aH (at8 (aI T a) 0)
  ·show(bif at8 (aI T a) 0==34 then _ else _)=_
   cases hQ:at8 (aI T a) 0==34
   ·rfl
   ·simp only[cond_true,cond_false]
    have:a+((gD (aI T a)).1:Int)-a=((gD (aI T a)).1:Int):=by omega
    rw[this]
    cases (gD (aI T a)).2==0
    ·rfl
    ·show(bif decide (((gD (aI T a)).1:Int)>256)then _ else _)=_
     cases decide (((gD (aI T a)).1:Int)>256)<;>rfl
  ·have hn:=ek aH (aI T a)
   generalize hN:aG aH (aI T a)=n at hn
   have p63:aG (pOf 63) (aI T a)=n:=hN
   have w1:IntKind.wrap .i64 (a+(n:Int)+1)=a+((n+1:Nat):Int):=by rw[wrap64 (by omega) (by omega)];omega
   rw[p63,w1]
   simp only[cond_true,cond_false]
   have leaf:∀k:Int,DC 1 0 (KT T (a+n) K a k)=bif decide ((n:Int)>20)then .ok (fA 1 (.tup [.int .i64 0,.int .i64 2]) T (a+n) K)else .ok (fA 1 (.tup [.int .i64 k,.int .i64 0]) T (a+n) K):=fun k=>by
    rw[MV a0 (by omega) (by omega),show a+(n:Int)-a=n by omega]
   have two:(bif decide ((n:Int)>20)then Rs.ok (fA 1 (.tup [.int .i64 0,.int .i64 2]) T (a+n) K)else Rs.ok (fA 1 (.tup [.int .i64 2,.int .i64 0]) T (a+n) K))=Rs.ok (fA 1 (.tup [.int .i64 (bif decide ((n:Int)>20)then((0,2,n):Int×Int×Nat)else(2,0,n)).1,.int .i64 (bif decide ((n:Int)>20)then((0,2,n):Int×Int×Nat)else(2,0,n)).2.1]) T (a+(bif decide ((n:Int)>20)then((0,2,n):Int×Int×Nat)else(2,0,n)).2.2) K):=by
    cases decide ((n:Int)>20)<;>rfl
   show(bif decide (a+((n+1:Nat):Int)<T.length)then _ else _)=_
   have c1:decide (a+((n+1:Nat):Int)<T.length)=decide ((n:Int)+1<(aI T a).length):=by
    rw[decide_eq_decide]
    omega
   rw[c1]
   cases hc:decide ((n:Int)+1<(aI T a).length)
   ·exact(leaf 2).trans two
   ·rw[decide_eq_true_eq]at hc
    have i1:inI (a+(n:Int)) T.length=true:=cB (by omega) (by omega)
    have i2:inI (a+((n+1:Nat):Int)) T.length=true:=cB (by omega) (by omega)
    rw[i1,i2,g1 n,g1 (n+1)]
    show(bif at8 (aI T a) n==46 then _ else _)=_
    cases h46:at8 (aI T a) n==46
    ·exact(leaf 2).trans two
    ·show(bif aH (at8 (aI T a) (n+1))then _ else _)=_
     cases h47:aH (at8 (aI T a) (n+1))
     ·exact(leaf 2).trans two
     ·have ok2:okA T (a+((n+1:Nat):Int))=true:=iX.2 ⟨by omega,by omega,a2⟩
      rw[ok2,r1 (n+1)]
      simp only[cond_true,Bool.true_and,Bool.and_self]
      have hm:=ek aH ((aI T a).drop (n+1))
      rw[List.length_drop]at hm
      show DC 1 0 (KT T (a+((n+1:Nat):Int)+(aG aH ((aI T a).drop (n+1)):Int)) K a 3)=_
      rw[MV a0 (by omega) (by omega)]
      have e1:a+((n+1:Nat):Int)+(aG aH ((aI T a).drop (n+1)):Int)=a+((n+1+aG aH ((aI T a).drop (n+1)):Nat):Int):=by omega
      rw[e1]
      generalize n+1+aG aH ((aI T a).drop (n+1))=m
      rw[show a+(m:Int)-a=m by omega]
      show _=Rs.ok (fA 1 (.tup [.int .i64 (bif decide ((m:Int)>20)then((0,2,m):Int×Int×Nat)else(3,0,m)).1,.int .i64 (bif decide ((m:Int)>20)then((0,2,m):Int×Int×Nat)else(3,0,m)).2.1]) T (a+(bif decide ((m:Int)>20)then((0,2,m):Int×Int×Nat)else(3,0,m)).2.2) K)
      cases decide ((m:Int)>20)<;>rfl
 ·have hn:=ek fk (aI T a)
  generalize hN:aG fk (aI T a)=n at hn
  have p62:aG (pOf 62) (aI T a)=n:=hN
  rw[p62]
  simp only[cond_true]
  have w1:IntKind.wrap .i64 (a+(n:Int)-a)=n:=by rw[wrap64 (by omega) (by omega)];omega
  rw[w1]
  show(bif decide ((n:Int)>64)then _ else _)=_
  cases decide ((n:Int)>64)<;>rfl
theorem Qo(h:bm Tryz.prog G fM)(T:List UInt8)(a:Int)(K:List Tok)(ha:jT T a=true):SA Tryz.prog G 37 [.ref 0 0] (bsR T a K) (.ret (cV MQ (lr T a,ig T a,())),sW T (bZ T a) K):=by
 obtain⟨n,hn⟩:=Ks (K:=K) ha
 exact xN (bA (aX []) (aP (FJ h)) SE (.inl (nZ T a K)) hn) (fun _=>rfl) rfl
end Go.Sx.Tryz
namespace Go.Sx.Tryz
open Go Go.Sx Go.Proofs
set_option maxRecDepth 100000
variable{G:Nat→Obj→Prop}
theorem qj:∀(n:Nat) (s:List UInt8),pV n s≤s.length
 |0,_=>Nat.zero_le _
 |n+1,s=>by
  rw[ed]
  have hb:=ek aU s
  have hc:=ek nl (s.drop (aG aU s))
  have ih:=qj n (s.drop (aG aU s+aG nl (s.drop (aG aU s))))
  rw[List.length_drop]at hc ih
  cases Lib.hasPrefix (s.drop (aG aU s)) [47,47]
  ·exact hb
  ·show aG aU s+aG nl (s.drop (aG aU s))+pV n _≤s.length
   omega
theorem kE{T:List UInt8}{a:Int}(h0:0≤a)(h1:a≤T.length):a≤gh T a∧gh T a≤T.length:=by
 have h:=qj ((aI T a).length+1) (aI T a)
 have hl:=gi h0 h1
 unfold gh ia
 omega
theorem Lm{c:Int}(h:isLet c=true):fk c=true:=by unfold fk;rw[h];rfl
theorem Kb{s:List UInt8}(h:sgB s=true):1<s.length:=by
 unfold sgB at h
 simp only[Bool.and_eq_true,decide_eq_true_eq]at h
 omega
theorem KP{s:List UInt8}(h:0<s.length):(sQ s).1≤s.length∧((sQ s).2=0→1≤(sQ s).1):=by
 rw[wo]
 cases hb:sgB s
 ·cases decide (ibS q9 (at8 s 0)≥0)
  ·exact⟨Nat.zero_le _,fun h=>absurd h (by decide)⟩
  ·exact⟨h,fun _=>Nat.le_refl 1⟩
 ·exact⟨Kb hb,fun _=>Nat.le_succ 1⟩
theorem K5{s:List UInt8}(h:0<s.length):(eX s).2.2≤s.length∧((eX s).2.1=0→1≤(eX s).2.2):=by
 unfold eX
 cases hL:isLet (at8 s 0)
 ·cases hD:aH (at8 s 0)
  ·cases hQ:at8 s 0==34
   ·exact KP h
   ·have hq:=Cl h
    have h1:1≤(gD s).1:=Nat.succ_le_succ (Nat.zero_le _)
    simp only[cond_true,cond_false]
    cases ((gD s).2==0&&decide (((gD s).1:Int)>256))<;>exact⟨hq,fun _=>h1⟩
  ·have hn:=ek aH s
   have h1:=wk hD h
   simp only[cond_true,cond_false]
   cases hc:(decide (((aG aH s:Nat):Int)+1<s.length)&&(at8 s (aG aH s)==46&&aH (at8 s (aG aH s+1))))
   ·cases decide (((aG aH s:Nat):Int)>20)<;>exact⟨hn,fun _=>h1⟩
   ·simp only[Bool.and_eq_true,decide_eq_true_eq]at hc
    have hm:=ek aH (s.drop (aG aH s+1))
    rw[List.length_drop]at hm
    have:=hc.1
    simp only[cond_true]
    cases decide (((aG aH s+1+aG aH (s.drop (aG aH s+1)):Nat):Int)>20)
    ·exact⟨by show aG aH s+1+aG aH (s.drop (aG aH s+1))≤s.length;omega,fun _=>by show 1≤aG aH s+1+aG aH (s.drop (aG aH s+1));omega⟩
    ·exact⟨by show aG aH s+1+aG aH (s.drop (aG aH s+1))≤s.length;omega,fun _=>by show 1≤aG aH s+1+aG aH (s.drop (aG aH s+1));omega⟩
 ·have hn:=ek fk s
  have h1:=wk (Lm hL) h
  simp only[cond_true]
  cases decide (((aG fk s:Nat):Int)>64)<;>exact⟨hn,fun _=>h1⟩
theorem wq{T:List UInt8}{a:Int}(h0:0≤a)(h1:a<T.length):bZ T a≤T.length∧(ig T a=0→a<bZ T a):=by
 have hl:=gi h0 (Int.le_of_lt h1)
 obtain⟨x,y⟩:=K5 (s:=aI T a) (by omega)
 unfold bZ ig
 exact⟨by omega,fun h=>by have:=y h;omega⟩
def jL:Nat→List UInt8→Int→Nat→Int×Int×List Tok
 |0,_,_,_=>(0,0,[])
 |n+1,T,a,k=>bif decide (a<T.length)then bif decide ((k:Int)≥16384)then(2,a,[])else bif ig T a !=0 then(ig T a,a,[])else
   ((jL n T (gh T (bZ T a)) (k+1)).1,(jL n T (gh T (bZ T a)) (k+1)).2.1,tkn (lr T a) a (bZ T a)::(jL n T (gh T (bZ T a)) (k+1)).2.2)
  else(0,0,[tkn 0 T.length T.length])
def fB(T:List UInt8):Int×Int×List Tok:=bif decide ((T.length:Int)>65536)then(2,0,[])else jL (T.length+1) T (gh T 0) 0
def DR(r:Int×Int×List Tok)(K:List Tok):R0:=bif r.1==0 then(.ret (.tup [.own 0 1,.agg [.int .i64 0,.int .i64 0]]),[.list 50 aE 1 false (K++r.2.2)])else(.ret (.tup [.nils,.agg [.int .i64 r.1,.int .i64 r.2.1]]),[])
abbrev DM(n:Nat):Jump R0:=pieces (R:=R0) E (aq yA) xS BI 0 .ok n
theorem ze{T:List UInt8}(hT:(T.length:Int)≤65536):∀(n:Nat) (a:Int) (K:List Tok),0≤a→a≤T.length→(T.length:Int)-a<n→(K.length:Int)≤16384→DM n 1 (KX T a K)= .ok (DR (jL n T a K.length) K)
 |0,a,K,h0,h1,h2,_=>by omega
 |n+1,a,K,h0,h1,h2,hK=>by
  refine(NH (DM n) T a K).trans ?_
  unfold jL
  have hm:∀t:Tok,List.length K+List.length [t]<al:=fun t=>by
   show List.length K+1<al
   unfold al
   omega
  cases ha:decide (a<(T.length:Int))
  ·exact mh (hm _)
  ·rw[decide_eq_true_eq]at ha
   simp only[cond_true]
   cases hk:decide ((K.length:Int)≥16384)
   ·have hok:jT T a=true:=iP.2 ⟨h0,ha,by omega⟩
    rw[hok]
    simp only[cond_true,cond_false]
    obtain⟨o1,o2⟩:=wq h0 ha
    cases he:ig T a !=0
    ·have he0:ig T a=0:=by simpa using he
     have o3:=o2 he0
     simp only[cond_false]
     refine(mh (hm _)).trans ?_
     have hok2:okA T (bZ T a)=true:=iX.2 ⟨by omega,o1,by omega⟩
     rw[hok2]
     simp only[cond_true]
     obtain⟨g1,g2⟩:=kE (T:=T) (a:=bZ T a) (by omega) o1
     rw[decide_eq_false_iff_not]at hk
     have hlen:(K++[tkn (lr T a) a (bZ T a)]).length=K.length+1:=by simp
     have ih:=ze hT n (gh T (bZ T a)) (K++[tkn (lr T a) a (bZ T a)]) (by omega) g2 (by omega) (by rw[hlen];omega)
     rw[hlen]at ih
     refine Eq.trans ?_ (ih.trans ?_)
     ·rfl
     ·unfold DR
      rw[List.append_assoc]
      rfl
    ·have hz:(ig T a==0)=false:=by
      rw[bne,Bool.not_eq_true']at he
      exact he
     show _=Rs.ok (DR (ig T a,a,[]) K)
     unfold DR
     rw[hz]
     rfl
   ·rfl
theorem xk(h:bm Tryz.prog G fM):bm Tryz.prog G yA:=
 .cons (dy (qZ fun T a K ha=>NA h T a K ha)) (.cons (dy (qZ fun T a K ha=>Qo h T a K ha)) .nil)
theorem NO(h:bm Tryz.prog G fM)(T:List UInt8):SA Tryz.prog G 15 [.str T] [] (DR (fB T) []):=by
 cases hb:decide ((T.length:Int)>65536)
 ·have hs:=BX (DM (T.length+2)) T
  rw[decide_eq_false_iff_not]at hb
  have hT:(T.length:Int)≤65536:=by omega
  have h1:DM (T.length+2) 0 (KX T 0 [])=_:=Ly (DM (T.length+1)) T 0 []
  have hok:okA T 0=true:=iX.2 ⟨by omega,by omega,by omega⟩
  rw[hok]at h1
  obtain⟨g1,g2⟩:=kE (T:=T) (a:=0) (by omega) (by omega)
  have h2:=ze hT (T.length+1) (gh T 0) [] g1 g2 (by omega) (by simp)
  have h3:fB T=jL (T.length+1) T (gh T 0) 0:=by
   unfold fB
   exact MD (decide_eq_false_iff_not.2 hb)
  rw[h3]
  refine bA (aX []) (aP (xk h)) Ow (.inl cF) (hs.trans ?_)
  rw[decide_eq_false_iff_not.2 hb]
  exact h1.trans h2
 ·have h3:fB T=(2,0,[]):=by
   unfold fB
   exact MC hb
  rw[h3]
  refine bA (aX []) (aP (xk h)) Ow (.inl cF) ((BX (DM 0) T).trans ?_)
  rw[hb]
  rfl
end Go.Sx.Tryz
namespace Go.Proofs
open Go.Shelf
def Tryz.lays137_ren:Go.Shelf.Ren:=⟨fun|137=>88|217=>84|266=>101|n=>n,fun|9=>9|5=>5|3=>3|n=>n,fun|n=>n⟩
theorem Tryz.lays137:Go.Proofs.Lays.n137 Tryz.prog Tryz.lays137_ren:={
 mixed:=by kernel_rfl
 f137:=Tryz.func88.trans (congrArg some (by kernel_rfl))
 f217:=Tryz.func84.trans (congrArg some (by kernel_rfl))
 f266:=Tryz.func101.trans (congrArg some (by kernel_rfl))
 t3:=Tryz.underlying3
 a3:=Tryz.isAgg3
 z3:=Tryz.sizeOf3
 v3:=Tryz.zeroValue3
 t5:=Tryz.underlying5
 a5:=Tryz.isAgg5
 z5:=Tryz.sizeOf5
 v5:=Tryz.zeroValue5
 t9:=Tryz.underlying9
 a9:=Tryz.isAgg9
 z9:=Tryz.sizeOf9
 v9:=Tryz.zeroValue9}
def Tryz.laysC174_ren:Go.Shelf.Ren:=⟨fun|174=>144|247=>149|245=>150|287=>155|279=>156|280=>157|281=>158|282=>159|321=>162|322=>163|316=>164|171=>166|205=>165|243=>172|246=>81|283=>96|284=>97|285=>98|286=>99|129=>109|317=>108|318=>110|319=>111|320=>112|337=>123|338=>124|n=>n,fun|9=>9|3=>3|2=>2|75=>52|85=>182|4=>4|167=>192|5=>5|53=>124|175=>193|46=>94|168=>195|37=>46|0=>0|210=>202|21=>21|127=>91|145=>210|143=>208|171=>141|173=>144|212=>155|51=>121|20=>20|213=>156|232=>172|233=>173|80=>58|n=>n,fun|15=>12|16=>13|17=>3|18=>9|19=>10|n=>n⟩
theorem Tryz.laysC174:Go.Proofs.LaysC.n174 Tryz.prog Tryz.laysC174_ren:={
 mixed:=by kernel_rfl
 f129:=Tryz.func109.trans (congrArg some (by kernel_rfl))
 f171:=Tryz.func166.trans (congrArg some (by kernel_rfl))
 f174:=Tryz.func144.trans (congrArg some (by kernel_rfl))
 f205:=Tryz.func165.trans (congrArg some (by kernel_rfl))
 f243:=Tryz.func172.trans (congrArg some (by kernel_rfl))
 f245:=Tryz.func150.trans (congrArg some (by kernel_rfl))
 f246:=Tryz.func81.trans (congrArg some (by kernel_rfl))
 f247:=Tryz.func149.trans (congrArg some (by kernel_rfl))
 f279:=Tryz.func156.trans (congrArg some (by kernel_rfl))
 f280:=Tryz.func157.trans (congrArg some (by kernel_rfl))
 f281:=Tryz.func158.trans (congrArg some (by kernel_rfl))
 f282:=Tryz.func159.trans (congrArg some (by kernel_rfl))
 f283:=Tryz.func96.trans (congrArg some (by kernel_rfl))
 f284:=Tryz.func97.trans (congrArg some (by kernel_rfl))
 f285:=Tryz.func98.trans (congrArg some (by kernel_rfl))
 f286:=Tryz.func99.trans (congrArg some (by kernel_rfl))
 f287:=Tryz.func155.trans (congrArg some (by kernel_rfl))
 f316:=Tryz.func164.trans (congrArg some (by kernel_rfl))
 f317:=Tryz.func108.trans (congrArg some (by kernel_rfl))
 f318:=Tryz.func110.trans (congrArg some (by kernel_rfl))
 f319:=Tryz.func111.trans (congrArg some (by kernel_rfl))
 f320:=Tryz.func112.trans (congrArg some (by kernel_rfl))
 f321:=Tryz.func162.trans (congrArg some (by kernel_rfl))
 f322:=Tryz.func163.trans (congrArg some (by kernel_rfl))
 f337:=Tryz.func123.trans (congrArg some (by kernel_rfl))
 f338:=Tryz.func124.trans (congrArg some (by kernel_rfl))
 t0:=Tryz.underlying0
 a0:=Tryz.isAgg0
 z0:=Tryz.sizeOf0
 v0:=Tryz.zeroValue0
 t2:=Tryz.underlying2
 a2:=Tryz.isAgg2
 z2:=Tryz.sizeOf2
 v2:=Tryz.zeroValue2
 t3:=Tryz.underlying3
 a3:=Tryz.isAgg3
 z3:=Tryz.sizeOf3
 v3:=Tryz.zeroValue3
 t4:=Tryz.underlying4
 a4:=Tryz.isAgg4
 z4:=Tryz.sizeOf4
 v4:=Tryz.zeroValue4
 t5:=Tryz.underlying5
 a5:=Tryz.isAgg5
 z5:=Tryz.sizeOf5
 v5:=Tryz.zeroValue5
 t9:=Tryz.underlying9
 a9:=Tryz.isAgg9
 z9:=Tryz.sizeOf9
 v9:=Tryz.zeroValue9
 t20:=Tryz.underlying20
 a20:=Tryz.isAgg20
 z20:=Tryz.sizeOf20
 v20:=Tryz.zeroValue20
 t21:=Tryz.underlying21
 a21:=Tryz.isAgg21
 z21:=Tryz.sizeOf21
 v21:=Tryz.zeroValue21
 t37:=Tryz.underlying46
 a37:=Tryz.isAgg46
 z37:=Tryz.sizeOf46
 v37:=Tryz.zeroValue46
 t46:=Tryz.underlying94
 a46:=Tryz.isAgg94
 z46:=Tryz.sizeOf94
 v46:=Tryz.zeroValue94
 t51:=Tryz.underlying121
 a51:=Tryz.isAgg121
 z51:=Tryz.sizeOf121
 v51:=Tryz.zeroValue121
 t53:=Tryz.underlying124
 a53:=Tryz.isAgg124
 z53:=Tryz.sizeOf124
 v53:=Tryz.zeroValue124
 t75:=Tryz.underlying52
 a75:=Tryz.isAgg52
 z75:=Tryz.sizeOf52
 v75:=Tryz.zeroValue52
 t85:=Tryz.underlying182
 a85:=Tryz.isAgg182
 z85:=Tryz.sizeOf182
 v85:=Tryz.zeroValue182
 t127:=Tryz.underlying91
 a127:=Tryz.isAgg91
 z127:=Tryz.sizeOf91
 v127:=Tryz.zeroValue91
 t143:=Tryz.underlying208
 a143:=Tryz.isAgg208
 z143:=Tryz.sizeOf208
 v143:=Tryz.zeroValue208
 t145:=Tryz.underlying210
 a145:=Tryz.isAgg210
 z145:=Tryz.sizeOf210
 v145:=Tryz.zeroValue210
 t167:=Tryz.underlying192
 a167:=Tryz.isAgg192
 z167:=Tryz.sizeOf192
 v167:=Tryz.zeroValue192
 t168:=Tryz.underlying195
 a168:=Tryz.isAgg195
 z168:=Tryz.sizeOf195
 v168:=Tryz.zeroValue195
 t171:=Tryz.underlying141
 a171:=Tryz.isAgg141
 z171:=Tryz.sizeOf141
 v171:=Tryz.zeroValue141
 t173:=Tryz.underlying144
 a173:=Tryz.isAgg144
 z173:=Tryz.sizeOf144
 v173:=Tryz.zeroValue144
 t175:=Tryz.underlying193
 a175:=Tryz.isAgg193
 z175:=Tryz.sizeOf193
 v175:=Tryz.zeroValue193
 t210:=Tryz.underlying202
 a210:=Tryz.isAgg202
 z210:=Tryz.sizeOf202
 v210:=Tryz.zeroValue202
 t212:=Tryz.underlying155
 a212:=Tryz.isAgg155
 z212:=Tryz.sizeOf155
 v212:=Tryz.zeroValue155
 t213:=Tryz.underlying156
 a213:=Tryz.isAgg156
 z213:=Tryz.sizeOf156
 t232:=Tryz.underlying172
 a232:=Tryz.isAgg172
 z232:=Tryz.sizeOf172
 v232:=Tryz.zeroValue172
 t233:=Tryz.underlying173
 a233:=Tryz.isAgg173
 z233:=Tryz.sizeOf173
 v233:=Tryz.zeroValue173
 g15:=by kernel_rfl
 g16:=by kernel_rfl
 g17:=by kernel_rfl
 g18:=by kernel_rfl
 g19:=by kernel_rfl
 t80:=Tryz.underlying58
 a80:=Tryz.isAgg58
 z80:=Tryz.sizeOf58
 v80:=Tryz.zeroValue58
 i0:=by kernel_rfl
 i2:=by kernel_rfl
 i3:=by kernel_rfl
 i4:=by kernel_rfl
 i5:=by kernel_rfl
 i9:=by kernel_rfl
 i20:=by kernel_rfl
 i21:=by kernel_rfl
 i37:=by kernel_rfl
 i46:=by kernel_rfl
 i51:=by kernel_rfl
 i53:=by kernel_rfl
 i75:=by kernel_rfl
 i80:=by kernel_rfl
 i85:=by kernel_rfl
 i127:=by kernel_rfl
 i143:=by kernel_rfl
 i145:=by kernel_rfl
 i167:=by kernel_rfl
 i168:=by kernel_rfl
 i171:=by kernel_rfl
 i173:=by kernel_rfl
 i175:=by kernel_rfl
 i210:=by kernel_rfl
 i212:=by kernel_rfl
 i232:=by kernel_rfl
 i233:=by kernel_rfl
 m15:=by kernel_rfl
 m16:=by kernel_rfl
 m17:=by kernel_rfl
 m18:=by kernel_rfl
 m19:=by kernel_rfl
 c0:=by kernel_rfl
 c2:=by kernel_rfl
 c3:=by kernel_rfl
 c4:=by kernel_rfl
 c5:=by kernel_rfl
 c9:=by kernel_rfl
 c20:=by kernel_rfl
 c21:=by kernel_rfl
 c37:=by kernel_rfl
 c46:=by kernel_rfl
 c51:=by kernel_rfl
 c53:=by kernel_rfl
 c75:=by kernel_rfl
 c80:=by kernel_rfl
 c85:=by kernel_rfl
 c127:=by kernel_rfl
 c143:=by kernel_rfl
 c145:=by kernel_rfl
 c167:=by kernel_rfl
 c168:=by kernel_rfl
 c171:=by kernel_rfl
 c173:=by kernel_rfl
 c175:=by kernel_rfl
 c210:=by kernel_rfl
 c212:=by kernel_rfl
 c213:=by kernel_rfl
 c232:=by kernel_rfl
 c233:=by kernel_rfl}
def Tryz.lays144_ren:Go.Shelf.Ren:=⟨fun|144=>14|143=>35|219=>58|217=>84|225=>85|224=>86|267=>87|266=>101|314=>102|n=>n,fun|9=>9|4=>4|3=>3|5=>5|46=>94|146=>122|51=>121|n=>n,fun|1=>0|n=>n⟩
theorem Tryz.lays144:Go.Proofs.Lays.n144 Tryz.prog Tryz.lays144_ren:={
 mixed:=by kernel_rfl
 f143:=Tryz.func35.trans (congrArg some (by kernel_rfl))
 f144:=Tryz.func14.trans (congrArg some (by kernel_rfl))
 f217:=Tryz.func84.trans (congrArg some (by kernel_rfl))
 f219:=Tryz.func58.trans (congrArg some (by kernel_rfl))
 f224:=Tryz.func86.trans (congrArg some (by kernel_rfl))
 f225:=Tryz.func85.trans (congrArg some (by kernel_rfl))
 f266:=Tryz.func101.trans (congrArg some (by kernel_rfl))
 f267:=Tryz.func87.trans (congrArg some (by kernel_rfl))
 f314:=Tryz.func102.trans (congrArg some (by kernel_rfl))
 t3:=Tryz.underlying3
 a3:=Tryz.isAgg3
 z3:=Tryz.sizeOf3
 v3:=Tryz.zeroValue3
 t4:=Tryz.underlying4
 a4:=Tryz.isAgg4
 z4:=Tryz.sizeOf4
 v4:=Tryz.zeroValue4
 t5:=Tryz.underlying5
 a5:=Tryz.isAgg5
 z5:=Tryz.sizeOf5
 v5:=Tryz.zeroValue5
 t9:=Tryz.underlying9
 a9:=Tryz.isAgg9
 z9:=Tryz.sizeOf9
 v9:=Tryz.zeroValue9
 t46:=Tryz.underlying94
 a46:=Tryz.isAgg94
 z46:=Tryz.sizeOf94
 v46:=Tryz.zeroValue94
 t51:=Tryz.underlying121
 a51:=Tryz.isAgg121
 z51:=Tryz.sizeOf121
 v51:=Tryz.zeroValue121
 t146:=Tryz.underlying122
 a146:=Tryz.isAgg122
 z146:=Tryz.sizeOf122
 v146:=Tryz.zeroValue122
 g1:=by kernel_rfl}
def Tryz.lays99_ren:Go.Shelf.Ren:=⟨fun|99=>12|206=>30|n=>n,fun|9=>9|4=>4|3=>3|n=>n,fun|n=>n⟩
theorem Tryz.lays99:Go.Proofs.Lays.n99 Tryz.prog Tryz.lays99_ren:={
 mixed:=by kernel_rfl
 f99:=Tryz.func12.trans (congrArg some (by kernel_rfl))
 f206:=Tryz.func30.trans (congrArg some (by kernel_rfl))
 t3:=Tryz.underlying3
 a3:=Tryz.isAgg3
 z3:=Tryz.sizeOf3
 v3:=Tryz.zeroValue3
 t4:=Tryz.underlying4
 a4:=Tryz.isAgg4
 z4:=Tryz.sizeOf4
 v4:=Tryz.zeroValue4
 t9:=Tryz.underlying9
 a9:=Tryz.isAgg9
 z9:=Tryz.sizeOf9
 v9:=Tryz.zeroValue9}
end Go.Proofs
namespace Go.Sx.Tryz
open Go Go.Sx Go.Proofs
set_option maxRecDepth 100000
variable{G:Nat→Obj→Prop}
structure TabsAt(w:World):Prop where
 mx:∃m,w.cell? ⟨0,0,none⟩=some (.int .i64 m)
 er:∃ev,w.cell? ⟨13,0,none⟩=some ev∧(ev= .nilIface∨∃te pe,ev= .iface te pe)
def iO(G:Nat→Obj→Prop):Prop:=∀D:Ctx,D.gl=G→SRel D→TabsAt D.w
theorem fc12:FIOK Tryz.prog 12 fi12:=⟨⟨Tryz.f12,Tryz.func12,rfl,rfl,rfl,by kernel_rfl⟩,by kernel_rfl⟩
theorem fc14:FIOK Tryz.prog 14 fi14:=⟨⟨Tryz.f14,Tryz.func14,rfl,rfl,rfl,by kernel_rfl⟩,by kernel_rfl⟩
theorem fc88:FIOK Tryz.prog 88 fi88:=⟨⟨Tryz.f88,Tryz.func88,rfl,rfl,rfl,by kernel_rfl⟩,by kernel_rfl⟩
theorem SO(x:au lD):SAD Tryz.prog G 12 lD cT x (hpX x):=by
 obtain⟨s,p,⟨⟩⟩:=x
 exact rn fc12 (us:=[.string ⟨⟨s⟩⟩,.string ⟨⟨p⟩⟩]) rfl (fun _=>rfl) rfl fun D hG hs=>Calls.mono (Any.strings_HasPrefix Tryz.lays99 ⟨⟨s⟩⟩ ⟨⟨p⟩⟩ D.w) fun e w' h=>⟨h.1,ir h.2 rfl⟩
theorem FZ(ht:iO G)(x:au lD)(hx:OE x=true):SAD Tryz.prog G 14 lD cT x (Pb x):=by
 obtain⟨s,p,⟨⟩⟩:=x
 refine rn fc14 (us:=[.string ⟨⟨s⟩⟩,.string ⟨⟨p⟩⟩]) rfl (fun _=>rfl) rfl fun D hG hs=>?_
 obtain⟨m,hm⟩:=(ht D hG hs).mx
 refine Calls.mono (Any.strings_Contains Tryz.lays144 ⟨⟨s⟩⟩ ⟨⟨p⟩⟩ m D.w ?_ hm) fun e w' h=>⟨h.1,ir h.2 rfl⟩
 have h1:s.length≤4000000000:=Nat.le_of_ble_eq_true hx
 show List.length s<_
 omega
theorem Wb(x:au Ba):SAD Tryz.prog G 88 Ba jJ x (ibX x):=by
 obtain⟨s,c,⟨⟩⟩:=x
 exact rn fc88 (us:=[.string ⟨⟨s⟩⟩,.int .u8 c]) rfl (fun _=>rfl) rfl fun D hG hs=>Calls.mono (Any.strings_IndexByte Tryz.lays137 ⟨⟨s⟩⟩ c D.w) fun e w' h=>⟨h.1,ir h.2 rfl⟩
theorem vC(ht:iO G):bm Tryz.prog G fM:=.cons (aT fun x _=>SO x) (.cons (aT fun x h=>FZ ht x h) (.cons (aT fun x _=>Wb x) .nil))
end Go.Sx.Tryz
namespace Go.Sx.Tryz
open Go Go.Sx Go.Proofs
set_option maxRecDepth 100000
def TW:List UInt8:=List.append
          (List.append
           [32,99,108,97,115,115,32,101,120,116,101,110,100,115,32,105,110,105,116,32,105,110,116,32,98,111,111,108,32,100,111,117,98,
            108,101,32,115,116,114,32,118,111,105,100]
           [32,79,112,116,105,111,110,32,105,102,32,101,108,115,101,32,119,104,105,108,101,32,98,114,101,97,107,32,99,111,110,116,105,
            110,117,101,32,114,101,116,117,114,110,32,112])
          (List.append
           [114,105,110,116,32,115,117,112,101,114,32,116,104,105,115,32,110,117,108,108,32,110,111,110,101,32,115,111,109,101,32,105,
            115,32,116,114,117,101,32,102,97,108,115,101,32]
           [110,101,119,32,99,97,115,116,32,116,111,105,110,116,32,116,111,100,111,117,98,108,101,32,105,110,112,117,116,32,97,115,107,
            32,108,101,110,103,116,104,32,118,97,108,32])
def uf(s:List UInt8):Bool:=(!s==[])&&(decide (ibS s 32<0)&&Lib.contains TW ([32]++s++[32]))
def okS(s:List UInt8):Bool:=decide ((s.length:Int)≤1099511627776)
def Nc(x:au cz):au cT:=(uf x.1,())
def dL(s:List UInt8):Bool:=(s.all fun c=>aH c.toNat)&& !s==[]
def Fk(x:au cz):au cT:=(dL x.1,())
def kA(first:Bool)(c:UInt8):Bool:=isLet c.toNat||(!first&&aH c.toNat)
def ca(s:List UInt8):Bool:=(match s with|[]=>true|c::r=>kA true c&&r.all (kA false))&&((!s==[])&&(decide ((s.length:Int)≤64)&& !uf s))
def Np(x:au cz):au cT:=(ca x.1,())
def dT(x:au cz):Bool:=okS x.1
def pE:List (Nat×aV):=[(61,b8 61 im cT (fun _=>true) LX),(63,b8 63 im cT (fun _=>true) LA),(103,b8 103 cz cT dT Nc)]
def iK:List Cut:=[⟨[true,false,true,false,false],some ⟨[(0,[]),(5,[]),(6,[])],[]⟩⟩]
def ED(s:List UInt8)(l k:Int):St:={tmps:=[(0,.str s),(5,.int .i64 l),(6,.int .i64 k)],blks:=[],next:=0}
end Go.Sx.Tryz
namespace Go.Sx.Tryz
open Go Go.Sx
set_option maxRecDepth 100000
theorem H9(J:Jump R0)(s:List UInt8):start E (aq []) mQ iK J [.str s] [] .ok=J 0 {tmps:=[(0,AV.str s),(5,Iz (↑(List.length s):Int)),(6,Iz 0)],blks:=[],next:=0}:=by kernel_rfl
theorem BA(J:Jump R0)(s:List UInt8)(l k:Int):resume E (aq []) (aS 0 iK 0) J [true,false,true,false,false] mQ.code 1 (ED s l k) (bX E 0 mQ.results .ok)=bif decide (k<l)then bif inI k (List.length s)then bif decide ((↑(UInt8.toNat (List.getD s (Int.toNat k) 0)):Int)<48)then Rs.ok (Out.ret (AV.bool false),[])else bif inI k (List.length s)then bif decide ((↑(UInt8.toNat (List.getD s (Int.toNat k) 0)):Int)>57)then Rs.ok (Out.ret (AV.bool false),[])else J 0 {tmps:=[(0,AV.str s),(5,Iz l),(6,Iz (IntKind.wrap IntKind.i64 (k+1)))],blks:=[],next:=0}else Rs.err 407 else Rs.err 402 else Rs.ok (Out.ret (AV.bool !s==[]),[]):=by kernel_rfl
theorem LC(J:Jump R0)(s:List UInt8):start E (aq pE) sD iK J [.str s] [] .ok=J 0 {tmps:=[(0,AV.str s),(5,Iz (↑(List.length s):Int)),(6,Iz 0)],blks:=[],next:=0}:=by kernel_rfl
theorem Eu(J:Jump R0)(s:List UInt8)(l k:Int):resume E (aq pE) (aS 0 iK 0) J [true,false,true,false,false] sD.code 1 (ED s l k) (bX E 0 sD.results .ok)=bif decide (k<l)then bif inI k (List.length s)then bif !isLet (↑(UInt8.toNat (List.getD s (Int.toNat k) 0)):Int)then bif k==0 then Rs.ok (Out.ret (AV.bool false),[])else bif inI k (List.length s)then bif !aH (↑(UInt8.toNat (List.getD s (Int.toNat k) 0)):Int)then Rs.ok (Out.ret (AV.bool false),[])else J 0 {tmps:=[(0,AV.str s),(5,Iz l),(6,Iz (IntKind.wrap IntKind.i64 (k+1)))],blks:=[],next:=0}else Rs.err 411 else J 0 {tmps:=[(0,AV.str s),(5,Iz l),(6,Iz (IntKind.wrap IntKind.i64 (k+1)))],blks:=[],next:=0}else Rs.err 402 else bif !s==[]then bif decide ((↑(List.length s):Int)≤64)then bif dT (s,())then Rs.ok (Out.ret (AV.bool !uf s),[])else Rs.err 3000103 else Rs.ok (Out.ret (AV.bool false),[])else Rs.ok (Out.ret (AV.bool false),[]):=by kernel_rfl
end Go.Sx.Tryz
namespace Go.Sx.Tryz
open Go Go.Sx Go.Proofs
set_option maxRecDepth 100000
variable{G:Nat→Obj→Prop}
theorem jh{s:List UInt8}:okS s=true↔(s.length:Int)≤1099511627776:=by simp only[okS,decide_eq_true_eq]
theorem KK(ht:iO G)(x:au cz)(hx:dT x=true):SAD Tryz.prog G 103 cz cT x (Nc x):=by
 obtain⟨s,⟨⟩⟩:=x
 have h1:(List.length s:Int)≤1099511627776:=jh.1 hx
 have key:∀s:List UInt8,(s.length:Int)≤1099511627776→body (R:=R0) E (aq fM) Bj [.str s] [] .ok=Rs.ok (qX (uf s)):=fun s h1=>by
  rw[LF]
  unfold uf
  cases (!s==[])
  ·rfl
  ·cases decide (ibS s 32<0)
   ·rfl
   ·simp only[cond_true,Bool.true_and]
    refine(mh ?_).trans ((mh ?_).trans rfl)
    ·show 1+s.length<_
     omega
    ·show([32]++s).length+1<_
     rw[List.length_append]
     show 1+s.length+1<_
     omega
 exact bT (aX []) (aP (vC ht)) Nr (key s h1)
theorem CT(c:Int):aH c=(!decide (c<48)&& !decide (c>57)):=by
 unfold aH
 congr 1
 ·rw[Bool.eq_iff_iff];simp
 ·rw[Bool.eq_iff_iff];simp
theorem uS{s:List UInt8}(hs:(s.length:Int)≤1099511627776):∀(r pre:List UInt8) (fuel:Nat),s=pre++r→r.length<fuel→pieces (R:=R0) E (aq []) mQ iK 0 .ok fuel 0 (ED s s.length pre.length)= .ok (qX ((r.all fun c=>aH c.toNat)&& !s==[]))
 |r,pre,0,_,hf=>by omega
 |[],pre,fuel+1,hp,_=>by
  refine(BA (pieces (R:=R0) E (aq []) mQ iK 0 .ok fuel) s s.length pre.length).trans ?_
  have h1:¬((pre.length:Int)<s.length):=by rw[hp,List.append_nil];omega
  simp only[h1,decide_false,cond_false]
  rfl
 |c::r,pre,fuel+1,hp,hf=>by
  have hlen:pre.length+1+r.length=s.length:=by rw[hp];simp;omega
  have ih:=uS hs r (pre++[c]) fuel (by simp[hp]) (by simpa using hf)
  refine(BA (pieces (R:=R0) E (aq []) mQ iK 0 .ok fuel) s s.length pre.length).trans ?_
  have h1:(pre.length:Int)<s.length:=by omega
  have h2:inI (pre.length:Int) s.length=true:=cB (by omega) (by omega)
  have h3:List.getD s pre.length 0=c:=by rw[hp];exact dK _ _ _
  have h4:IntKind.wrap .i64 ((pre.length:Int)+1)=(pre.length:Int)+1:=wrap64 (by omega) (by omega)
  have h5:(((pre++[c]).length:Nat):Int)=(pre.length:Int)+1:=by simp
  simp only[h1,h2,h3,h4,Int.toNat_natCast,decide_true,cond_true,List.all_cons,CT (c.toNat:Int)]
  cases decide ((c.toNat:Int)<48)
  ·cases decide ((c.toNat:Int)>57)
   ·rw[h5]at ih
    exact ih
   ·rfl
  ·rfl
theorem Bm(x:au cz)(hx:dT x=true):SAD Tryz.prog G 143 cz cT x (Fk x):=by
 obtain⟨s,⟨⟩⟩:=x
 have hs:(List.length s:Int)≤1099511627776:=jh.1 hx
 have h:=uS hs s [] (s.length+1) rfl (Nat.lt_succ_self _)
 exact bA (aX []) (aP .nil) MB (.inl cF) ((H9 (pieces (R:=R0) E (aq []) mQ iK 0 .ok (s.length+1)) s).trans h)
def ya(s:List UInt8):Bool:=(!s==[])&&(decide ((s.length:Int)≤64)&& !uf s)
theorem uj{s:List UInt8}(hs:(s.length:Int)≤1099511627776):∀(r pre:List UInt8) (fuel:Nat),s=pre++r→r.length<fuel→pieces (R:=R0) E (aq pE) sD iK 0 .ok fuel 0 (ED s s.length pre.length)= .ok (qX ((match r with|[]=>true|c::r=>kA (pre.length==0) c&&r.all (kA false))&&ya s))
 |r,pre,0,_,hf=>by omega
 |[],pre,fuel+1,hp,_=>by
  refine(Eu (pieces (R:=R0) E (aq pE) sD iK 0 .ok fuel) s s.length pre.length).trans ?_
  have h1:¬((pre.length:Int)<s.length):=by rw[hp,List.append_nil];omega
  have h2:dT (s,())=true:=jh.2 hs
  simp only[h1,decide_false,cond_false,h2,cond_true]
  unfold ya
  cases (!s==[])
  ·rfl
  ·cases decide ((s.length:Int)≤64)<;>rfl
 |c::r,pre,fuel+1,hp,hf=>by
  have hlen:pre.length+1+r.length=s.length:=by rw[hp];simp;omega
  have ih:=uj hs r (pre++[c]) fuel (by simp[hp]) (by simpa using hf)
  refine(Eu (pieces (R:=R0) E (aq pE) sD iK 0 .ok fuel) s s.length pre.length).trans ?_
  have h1:(pre.length:Int)<s.length:=by omega
  have h2:inI (pre.length:Int) s.length=true:=cB (by omega) (by omega)
  have h3:List.getD s pre.length 0=c:=by rw[hp];exact dK _ _ _
  have h4:IntKind.wrap .i64 ((pre.length:Int)+1)=(pre.length:Int)+1:=wrap64 (by omega) (by omega)
  have h5:(((pre++[c]).length:Nat):Int)=(pre.length:Int)+1:=by simp
  have h6:((pre++[c]).length==0)=false:=by simp
  have h7:((pre.length:Int)==0)=(pre.length==0):=by
   rw[Bool.eq_iff_iff]
   simp only[beq_iff_eq]
   omega
  have h8:(match r with|[]=>true|c::r=>kA ((pre++[c]).length==0) c&&r.all (kA false))=r.all (kA false):=by
   cases r with
   |nil=>rfl
   |cons d r=>simp
  have ih2:pieces (R:=R0) E (aq pE) sD iK 0 .ok fuel 0 (ED s s.length ((pre.length:Int)+1))= .ok (qX (r.all (kA false)&&ya s)):=by
   rw[h5]at ih
   refine ih.trans ?_
   cases r with
   |nil=>rfl
   |cons d r=>rw[h6];rfl
  simp only[h1,h2,h3,h4,h7,Int.toNat_natCast,decide_true,cond_true]
  show _=Rs.ok (qX ((isLet c.toNat||(!(pre.length==0)&&aH c.toNat))&&r.all (kA false)&&ya s))
  cases isLet (c.toNat:Int)
  ·cases pre.length==0
   ·cases aH (c.toNat:Int)
    ·rfl
    ·exact ih2
   ·rfl
  ·exact ih2
theorem HV(ht:iO G):bm Tryz.prog G pE:=.cons (aT fun x _=>zR x) (.cons (aT fun x _=>At x) (.cons (aT fun x h=>KK ht x h) .nil))
theorem Kg(ht:iO G)(x:au cz)(hx:dT x=true):SAD Tryz.prog G 91 cz cT x (Np x):=by
 obtain⟨s,⟨⟩⟩:=x
 have hs:(List.length s:Int)≤1099511627776:=jh.1 hx
 have h:=uj hs s [] (s.length+1) rfl (Nat.lt_succ_self _)
 have e:∀s:List UInt8,((match s with|[]=>true|c::r=>kA (([]:List UInt8).length==0) c&&r.all (kA false))&&ya s)=ca s:=fun s=>by
  cases s<;>rfl
 have h9:=h.trans (congrArg (fun b=>Rs.ok (qX b)) (e s))
 exact bA (aX []) (aP (HV ht)) SF (.inl cF) ((LC (pieces (R:=R0) E (aq pE) sD iK 0 .ok (s.length+1)) s).trans h9)
end Go.Sx.Tryz
namespace Go.Proofs
open Go.Shelf
def Tryz.lays169_ren:Go.Shelf.Ren:=⟨fun|169=>19|n=>n,fun|70=>45|9=>9|0=>0|72=>48|37=>46|127=>91|3=>3|5=>5|n=>n,fun|n=>n⟩
theorem Tryz.lays169:Go.Proofs.Lays.n169 Tryz.prog Tryz.lays169_ren:={
 mixed:=by kernel_rfl
 f169:=Tryz.func19.trans (congrArg some (by kernel_rfl))
 t0:=Tryz.underlying0
 a0:=Tryz.isAgg0
 z0:=Tryz.sizeOf0
 v0:=Tryz.zeroValue0
 t3:=Tryz.underlying3
 a3:=Tryz.isAgg3
 z3:=Tryz.sizeOf3
 v3:=Tryz.zeroValue3
 t9:=Tryz.underlying9
 a9:=Tryz.isAgg9
 z9:=Tryz.sizeOf9
 v9:=Tryz.zeroValue9
 t37:=Tryz.underlying46
 a37:=Tryz.isAgg46
 z37:=Tryz.sizeOf46
 v37:=Tryz.zeroValue46
 t70:=Tryz.underlying45
 a70:=Tryz.isAgg45
 z70:=Tryz.sizeOf45
 v70:=Tryz.zeroValue45
 t72:=Tryz.underlying48
 a72:=Tryz.isAgg48
 z72:=Tryz.sizeOf48
 v72:=Tryz.zeroValue48
 t127:=Tryz.underlying91
 a127:=Tryz.isAgg91
 z127:=Tryz.sizeOf91
 v127:=Tryz.zeroValue91}
theorem Tryz.Builder_Extra_169:Builder.Extra Tryz.prog Tryz.lays169_ren:={
 sizeBuilder:=by kernel_rfl
 liesBuilder:=by kernel_rfl
 t5:=Tryz.underlying5
 a5:=Tryz.isAgg5
 z5:=Tryz.sizeOf5
 v5:=Tryz.zeroValue5
 infoByte:=by kernel_rfl
 cellsByte:=by kernel_rfl
 sizeByte:=by kernel_rfl
 neB5:=by decide}
open Go.RowKit
set_option maxHeartbeats 1000000 in
set_option maxRecDepth 100000 in
theorem Tryz.cc_used(b:Nat)(w:World)(h0:w.cell? ⟨b,0,none⟩=some (.pointer (some ⟨b,0,none⟩))):
  Calls Tryz.prog 38 #[.pointer (some ⟨b,0,none⟩)] w fun e w'=>e= .returned (.tuple #[])∧w'=w:=by
 obtain⟨j,hj,_⟩:=Option.map_eq_some_iff.1 Tryz.Builder_Extra_169.sizeBuilder
 go_enter Tryz.func38,Tryz.ntmps38
 go_wp2
 rw[Lib.run_neq_ptr_same w _ Tryz.underlying45 hj]
 go_wp2
 go_end0
 exact⟨rfl,rfl⟩
set_option maxHeartbeats 1000000 in
set_option maxRecDepth 100000 in
theorem Tryz.cc_fresh(b:Nat)(w:World)(h0:w.cell? ⟨b,0,none⟩=some (.pointer none))(hsh:w.shape? b=some (48,2))(hfz:w.frozen? ⟨b,0,none⟩=false):
  Calls Tryz.prog 38 #[.pointer (some ⟨b,0,none⟩)] w fun e w'=>e= .returned (.tuple #[])∧w'=w.setCell ⟨b,0,none⟩ (.pointer (some ⟨b,0,none⟩)):=by
 obtain⟨j,hj,hjs⟩:=Option.map_eq_some_iff.1 Tryz.Builder_Extra_169.sizeBuilder
 go_enter Tryz.func38,Tryz.ntmps38
 go_wp2
 rw[Lib.run_to_unsafe w ⟨b,0,none⟩ Tryz.underlying45 Tryz.underlying118 hj (by rw[hjs];decide) hsh (Nat.zero_lt_succ 1)]
 simp only[Result.andThen]
 rw[Oper.upon_value]
 go_wp2
 rw[run_callFunc_extern Tryz.func66 (by kernel_rfl) (by kernel_rfl) (by kernel_rfl) (e:=Extern.AbiNoEscape.same) (by kernel_rfl)]
 rw[Lib.run_noEscape]
 simp only[Result.andThen]
 rw[Oper.upon_value]
 go_wp2
 rw[Lib.run_from_unsafe w ⟨b,0,none⟩ Tryz.underlying118 Tryz.underlying45 hj hsh Tryz.Builder_Extra_169.liesBuilder]
 simp only[Result.andThen]
 rw[Oper.upon_value]
 go_wp2
 go_end0
 exact⟨rfl,rfl⟩
end Go.Proofs
namespace Go.Sx.Tryz
open Go Go.Sx Go.Proofs
set_option maxRecDepth 100000
variable{G:Nat→Obj→Prop}
def bsB(s:List Int):List Blk:=[.cells 48 [.bself 0,.own 1 0],.list 5 (.int .u8) 0 false s]
theorem fc38:FIOK Tryz.prog 38 fi38:=⟨⟨Tryz.f38,Tryz.func38,rfl,rfl,rfl,by kernel_rfl⟩,by kernel_rfl⟩
theorem fc19:FIOK Tryz.prog 19 fi19:=⟨⟨Tryz.f19,Tryz.func19,rfl,rfl,rfl,by kernel_rfl⟩,by kernel_rfl⟩
theorem Ga:aQ Tryz.prog G 38 (ofT 38 (gd 48)):=by
 refine kz ?_ (wO 48)
 exact sX fc38 (fun b w h0 hsh hfz=>Tryz.cc_fresh b w h0 hsh hfz) (fun b w h0=>Tryz.cc_used b w h0)
theorem vT:aQ Tryz.prog G 19 (ofT 19 (jk 48 5)):=by
 refine kz ?_ (DN 48 5)
 exact Aj fc19 (fun b g o cap p l w h0 hcap h63 cur fz hbk hg hsz hcell=>xm Tryz.lays169 Tryz.Builder_Extra_169 b g o cap p l w h0 hcap h63 cur fz hbk hg hsz hcell)
   (fun b p w h=>w8 Tryz.lays169 Tryz.Builder_Extra_169 b p w h) (fun b g o p cur w h fz hg=>sH Tryz.lays169 Tryz.Builder_Extra_169 b g o p cur w h fz hg)
   (fun b g o cap p w hc h=>xU Tryz.lays169 Tryz.Builder_Extra_169 b g o cap p w hc h)
def ln:List (Nat×aV):=[(38,ofT 38 (gd 48))]
def app(s t:List Int):List Int:=s++t
theorem K3(s:List Int)(c:Int)(h:s.length+1<al):body (R:=R0) E (aq ln) L7 [.ref 0 0,.int .u8 c] (bsB s) .ok=
  .ok (.ret .nili,[.cells 48 [.bself 0,.own 1 1],.list 5 (.int .u8) 1 false (s++[c])]):=by
 have h1:body (R:=R0) E (aq ln) L7 [.ref 0 0,.int .u8 c] (bsB s) .ok=(bif decide (s.length+1<al)then .ok (.ret .nili,[.cells 48 [.bself 0,.own 1 1],.list 5 (.int .u8) 1 false (s++[c])])else .err 207):=by kernel_rfl
 rw[h1]
 simp only[h,decide_true,cond_true]
def wbC:aV:=fun R args bs k=>match args,bs with
 |[.ref 0 0,.int .u8 c],[.cells 48 [.bself 0,.own 1 0],.list 5 (.int .u8) 0 false s]=>(match decide (List.length s+1<al)with
  |true=>k (.ret .nili,[.cells 48 [.bself 0,.own 1 1],.list 5 (.int .u8) 1 false (app s [c])])
  |false=>.err 17)
 |_,_=>.err 17
theorem zt:aQ Tryz.prog G 17 wbC:=fun R args bs k r hr=>by
 unfold wbC at hr
 split at hr
 ·split at hr
  ·rename_i hd
   exact⟨_,hr,bT (aX []) (aP (.cons Ga .nil)) Wi (K3 _ _ (of_decide_eq_true hd))⟩
  ·cases hr
 ·cases hr
end Go.Sx.Tryz
