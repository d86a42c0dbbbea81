/- A part of the proof: see the row's text. -/
import Derived.Test.YtaklpoiaicepoaaGreatDoorZa10
import Derived.Shelf.LaysC
import Derived.Shelf.Strconv.ParseIntPublic10
import Derived.Test.YtaklpoiaicepoaaGreatDoorZa09
import Derived.Lib.LaidPrint
set_option linter.unusedVariables false
set_option linter.unusedSimpArgs false
noncomputable section
namespace Go.Sx.Tryz
open Go Go.Sx Go.Proofs
set_option maxRecDepth 100000
variable{G:Nat→Obj→Prop}
def nl(c:Int):Bool:=c !=10
theorem rO{r:List UInt8}(h:Lib.hasPrefix r [47,47]=true):∃r',r=47::r':=by
 cases r with
 |nil=>exact absurd h (by decide)
 |cons c r=>
  refine⟨r,?_⟩
  simp[Lib.hasPrefix,List.isPrefixOf]at h
  rw[h.1]
theorem G5(J:Jump R0){T:List UInt8}{K:List Tok}{a:Int}{c:UInt8}(h1:a<T.length)(h2:inI a T.length=true)(h3:List.getD T a.toNat 0=c)(h4:IntKind.wrap .i64 (a+1)=a+1)(hc:nl (c.toNat:Int)=true):
  resume E (au gf) (aT 2 gN 0) J [false,false,false,true,true,false,false] ir.code 1 (mkR T a K) (cv E 2 ir.results .ok)=J 1 (mkR T (a+1) K):=by
 unfold nl at hc
 rw[xh,decide_eq_true h1,h2,h3,hc,h4]
 rfl
theorem Jj(J:Jump R0){T:List UInt8}{K:List Tok}{a:Int}{c:UInt8}(h1:a<T.length)(h2:inI a T.length=true)(h3:List.getD T a.toNat 0=c)(hc:nl (c.toNat:Int)=false):
  resume E (au gf) (aT 2 gN 0) J [false,false,false,true,true,false,false] ir.code 1 (mkR T a K) (cv E 2 ir.results .ok)=J 0 (mkR T a K):=by
 unfold nl at hc
 rw[xh,decide_eq_true h1,h2,h3,hc]
 rfl
theorem H8(J:Jump R0){T:List UInt8}{K:List Tok}{a:Int}(h1:¬a<T.length):
  resume E (au gf) (aT 2 gN 0) J [false,false,false,true,true,false,false] ir.code 1 (mkR T a K) (cv E 2 ir.results .ok)=J 0 (mkR T a K):=by
 rw[xh,decide_eq_false h1]
 rfl
theorem Dd{T:List UInt8}{K:List Tok}(hT:(T.length:Int)≤1099511627776):∀(r pre:List UInt8) (fuel:Nat),T=pre++r→pieces (R:=R0) E (au gf) ir gN 2 .ok (fuel+(ax nl r+1)) 1 (mkR T pre.length K)=pieces (R:=R0) E (au gf) ir gN 2 .ok fuel 0 (mkR T ((pre.length:Int)+ax nl r) K)
 |[],pre,fuel,hp=>by
  rw[show ax nl []=0 from rfl]
  have h1:¬((pre.length:Int)<T.length):=by rw[hp,List.append_nil];omega
  refine((aU rfl).trans (H8 (pieces (R:=R0) E (au gf) ir gN 2 .ok fuel) h1)).trans ?_
  rw[show(pre.length:Int)+((0:Nat):Int)=pre.length by omega]
 |c::r,pre,fuel,hp=>by
  have hlen:pre.length+1+r.length=T.length:=by rw[hp];simp;omega
  have ih:=Dd (K:=K) hT r (pre++[c]) fuel (by simp[hp])
  have h1:(pre.length:Int)<T.length:=by omega
  have h2:inI (pre.length:Int) T.length=true:=by rw[hp];exact tE _ _ _
  have h3:List.getD T (pre.length:Int).toNat 0=c:=by rw[Int.toNat_natCast,hp];exact eu _ _ _
  have h4:IntKind.wrap .i64 ((pre.length:Int)+1)=(pre.length:Int)+1:=wrap64 (by omega) (by omega)
  have h5:(((pre++[c]).length:Nat):Int)=(pre.length:Int)+1:=by simp
  rw[fG]
  cases hc:nl (c.toNat:Int)
  ·rw[cond_false]
   refine((aU rfl).trans (Jj (pieces (R:=R0) E (au gf) ir gN 2 .ok fuel) h1 h2 h3 hc)).trans ?_
   rw[show(pre.length:Int)+((0:Nat):Int)=pre.length by omega]
  ·rw[cond_true]
   refine((aU rfl).trans (G5 (pieces (R:=R0) E (au gf) ir gN 2 .ok (fuel+(ax nl r+1))) h1 h2 h3 h4 hc)).trans ?_
   rw[h5]at ih
   refine ih.trans ?_
   rw[show(pre.length:Int)+1+ax nl r=(pre.length:Int)+((ax nl r+1:Nat):Int) by omega]
theorem cn(n:Nat)(s:List UInt8):jm (n+1) s=bif Lib.hasPrefix (s.drop (ax aG s)) [47,47]then ax aG s+ax nl (s.drop (ax aG s))+jm n (s.drop (ax aG s+ax nl (s.drop (ax aG s))))else ax aG s:=rfl
theorem zA{T:List UInt8}{K:List Tok}(hT:(T.length:Int)≤1099511627776):∀(n:Nat) (s pre:List UInt8),T=pre++s→s.length<n→∃fuel g,pieces (R:=R0) E (au gf) ir gN 2 .ok fuel 0 (mkR T pre.length K)= .ok (fZ g (.tup []) T ((pre.length:Int)+jm n s) K)
 |0,_,_,_,h=>absurd h (Nat.not_lt_zero _)
 |n+1,s,pre,hp,hn=>by
  have hr:aA T (pre.length:Int)=s:=Bc hp
  have hb:=eH aG s
  have hlen:pre.length+s.length=T.length:=by rw[hp];simp
  have hok:okA T (pre.length:Int)=true:=jK.2 ⟨by omega,by omega,hT⟩
  have hw:whI (pOf 60) T (pre.length:Int)=(pre.length:Int)+ax aG s:=by
   show(pre.length:Int)+ax aG (aA T _)=_
   rw[hr]
  have hib:inB ((pre.length:Int)+ax aG s) (T.length:Int) T.length=true:=nf (by omega) (by omega) (by omega)
  have hd:List.drop (Int.toNat ((pre.length:Int)+ax aG s)) (List.take (Int.toNat (T.length:Int)) T)=s.drop (ax aG s):=by
   rw[mw]
   have:((pre.length:Int)+ax aG s)=(((pre++s.take (ax aG s)).length:Nat):Int):=by simp;omega
   rw[this]
   exact Bc (by rw[List.append_assoc,List.take_append_drop];exact hp)
  rw[cn]
  cases hh:Lib.hasPrefix (s.drop (ax aG s)) [47,47]
  ·refine⟨1,2,?_⟩
   refine((aU rfl).trans (DO (pieces (R:=R0) E (au gf) ir gN 2 .ok 0) T pre.length K)).trans ?_
   rw[hok,hw,hib,hd,hh]
   rfl
  ·obtain⟨r',hr'⟩:=rO hh
   have hc:1≤ax nl (s.drop (ax aG s)):=by
    rw[hr',fG]
    show 1≤ax nl r'+1
    omega
   have hcl:=eH nl (s.drop (ax aG s))
   rw[List.length_drop]at hcl
   obtain⟨fuel,g,ih⟩:=zA (K:=K) hT n (s.drop (ax aG s+ax nl (s.drop (ax aG s)))) (pre++s.take (ax aG s+ax nl (s.drop (ax aG s)))) (by rw[List.append_assoc,List.take_append_drop];exact hp) (by rw[List.length_drop];omega)
   refine⟨fuel+(ax nl (s.drop (ax aG s))+1)+1,g,?_⟩
   refine((aU rfl).trans (DO (pieces (R:=R0) E (au gf) ir gN 2 .ok (fuel+(ax nl (s.drop (ax aG s))+1))) T pre.length K)).trans ?_
   rw[hok,hw,hib,hd,hh]
   have hs:=Dd (K:=K) hT (s.drop (ax aG s)) (pre++s.take (ax aG s)) fuel (by rw[List.append_assoc,List.take_append_drop];exact hp)
   have e1:(((pre++s.take (ax aG s)).length:Nat):Int)=(pre.length:Int)+ax aG s:=by simp;omega
   rw[e1]at hs
   refine hs.trans ?_
   have e2:(((pre++s.take (ax aG s+ax nl (s.drop (ax aG s)))).length:Nat):Int)=(pre.length:Int)+ax aG s+ax nl (s.drop (ax aG s)):=by simp;omega
   rw[e2]at ih
   refine ih.trans ?_
   congr 2
   show _=(pre.length:Int)+((ax aG s+ax nl (s.drop (ax aG s))+jm n (s.drop (ax aG s+ax nl (s.drop (ax aG s)))):Nat):Int)
   omega
theorem HB(h:bw Tryz.prog G gk):bw Tryz.prog G gf:=.cons (dX HO) h
theorem PA(h:bw Tryz.prog G gk)(T:List UInt8)(a:Int)(K:List Tok)(ha:okA T a=true):SA Tryz.prog G 36 [.ref 0 0] (bsR T a K) (.ret (du [] ()),uI T (cQ T a) K):=by
 obtain⟨a0,a1,a2⟩:=jK.1 ha
 obtain⟨pre,hp,hl⟩:=sr a0 a1
 obtain⟨fuel,g,hg⟩:=zA (K:=K) a2 _ (aA T a) pre hp (Nat.lt_succ_self _)
 rw[hl]at hg
 have h2:=(Mo (pieces (R:=R0) E (au gf) ir gN 2 .ok fuel) T a K).trans hg
 exact AP (bu (bb []) (aQ (HB h)) Su (.inl (qf T a K)) h2) (fun _=>rfl) rfl
end Go.Sx.Tryz
namespace Go.Sx.Tryz
open Go Go.Sx Go.Proofs
set_option maxRecDepth 100000
variable{G:Nat→Obj→Prop}
def sgB(s:List UInt8):Bool:=decide ((s.length:Int)>1)&&(Lib.contains fj (s.take 2++[32])&&(at8 s 0 !=32&&at8 s 1 !=32))
theorem DI(s:List UInt8):sI s=bif sgB s then(2,0)else bif decide (ibS tP (at8 s 0)≥0)then(1,0)else(0,60):=rfl
theorem FQ(J:Jump R0){T:List UInt8}{a:Int}{K:List Tok}(ha:lg T a=true):start E (au gk) zf AG J [.ref 0 0] (bsR T a K) .ok=J 0 (N9 T a K (aA T a) (sgB (aA T a))):=by
 obtain⟨a0,a1,a2⟩:=jj.1 ha
 refine(KQ J T a K).trans ?_
 rw[mw,nf a0 (by omega) (by omega),cond_true]
 have hl:=gY a0 (Int.le_of_lt a1)
 generalize aA T a=s at hl
 unfold sgB
 cases h1:decide ((s.length:Int)>1)
 ·rfl
 ·rw[decide_eq_true_eq]at h1
  have h2:inB 0 2 s.length=true:=nf (by omega) (by omega) (by omega)
  have h3:inI 0 s.length=true:=bZ (by omega) (by omega)
  have h4:inI 1 s.length=true:=bZ (by omega) (by omega)
  have h5:List.length (List.drop (Int.toNat 0) (List.take (Int.toNat 2) s))+List.length [(32:UInt8)]<2^62:=by
   show List.length (List.take 2 s)+1<_
   rw[List.length_take]
   omega
  rw[h2,h3,h4]
  simp only[cond_true,Bool.true_and]
  refine(mX h5).trans ?_
  show(bif Lib.contains fj (List.take 2 s++[32])then _ else _)=_
  cases Lib.contains fj (List.take 2 s++[32])
  ·rfl
  ·show(bif at8 s 0 !=32 then _ else _)=_
   cases at8 s 0 !=32
   ·rfl
   ·rfl
theorem Fx{T:List UInt8}{a:Int}{K:List Tok}(ha:lg T a=true):pieces (R:=R0) E (au gk) zf AG 2 .ok 1 0 (N9 T a K (aA T a) (sgB (aA T a)))= .ok (fZ 1 (.int .i64 (Gv T a)) T (GI T a) K):=by
 obtain⟨a0,a1,a2⟩:=jj.1 ha
 refine(Kf (pieces (R:=R0) E (au gk) zf AG 2 .ok 0) T a K _ _).trans ?_
 unfold Gv GI
 rw[DI]
 have hl:=gY a0 (Int.le_of_lt a1)
 generalize aA T a=s at hl
 have w1:IntKind.wrap .i64 (a+1)=a+1:=wrap64 (by omega) (by omega)
 have w2:IntKind.wrap .i64 (a+2)=a+2:=wrap64 (by omega) (by omega)
 rw[w1,w2,bZ (show(0:Int)≤0 by omega) (show(0:Int)<s.length by omega)]
 cases sgB s
 ·simp only[cond_false,cond_true]
  show(bif decide (ibS tP (at8 s 0)≥0)then _ else _)=_
  cases decide (ibS tP (at8 s 0)≥0)
  ·show _=Rs.ok (fZ 1 (.int .i64 60) T (a+0) K)
   rw[Int.add_zero]
   rfl
  ·rfl
 ·rfl
theorem OU(h:bw Tryz.prog G gk)(T:List UInt8)(a:Int)(K:List Tok)(ha:lg T a=true):SA Tryz.prog G 65 [.ref 0 0] (bsR T a K) (.ret (du iu (Gv T a,())),uI T (GI T a) K):=
 AP (bu (bb []) (aQ h) RP (.inl (qf T a K)) ((FQ _ ha).trans (Fx ha))) (fun _=>rfl) rfl
theorem tf{T:List UInt8}{K:List Tok}(hT:(T.length:Int)≤1099511627776):∀(n:Nat) (r pre:List UInt8),T=pre++r→r.length≤n→∃fuel,pieces (R:=R0) E (au gk) uM r9 2 .ok fuel 0 (mkR T pre.length K)= .ok (fZ 1 (.int .i64 (cG n r).2) T ((pre.length:Int)+(cG n r).1) K)
 |n,[],pre,hp,_=>by
  refine⟨1,(It (pieces (R:=R0) E (au gk) uM r9 2 .ok 0) T pre.length K).trans ?_⟩
  have h1:¬((pre.length:Int)<T.length):=by rw[hp,List.append_nil];omega
  have h2:cG n []=(0,61):=by cases n<;>rfl
  simp only[h1,decide_false,cond_false,h2]
  show _=Rs.ok (fZ 1 (.int .i64 61) T ((pre.length:Int)+0) K)
  rw[Int.add_zero]
  rfl
 |0,c::r,pre,hp,h=>by simp at h
 |n+1,c::r,pre,hp,hn=>by
  have hlen:pre.length+1+r.length=T.length:=by rw[hp];simp;omega
  simp only[List.length_cons]at hn
  have h1:(pre.length:Int)<T.length:=by omega
  have h2:inI (pre.length:Int) T.length=true:=by rw[hp];exact tE _ _ _
  have h3:List.getD T pre.length 0=c:=by rw[hp];exact eu _ _ _
  have h4:IntKind.wrap .i64 ((pre.length:Int)+1)=(pre.length:Int)+1:=wrap64 (by omega) (by omega)
  have h5:(((pre++[c]).length:Nat):Int)=(pre.length:Int)+1:=by simp
  have hq:cG (n+1) (c::r)=bif (c.toNat:Int)==34 then(1,0)else bif (c.toNat:Int)==10 then(0,61)else bif decide ((c.toNat:Int)<32)||decide ((c.toNat:Int)>126)then(0,60)
   else bif (c.toNat:Int)==92 then(match r with
    |[]=>(0,61)
    |d::r'=>bif decide (ibS sc (d.toNat:Int)<0)then(0,5)else((cG n r').1+2,(cG n r').2))
   else((cG n r).1+1,(cG n r).2):=rfl
  rw[hq]
  have one:∀{v:Int} {x:Nat×Int},x=(0,v)→Rs.ok (fZ 1 (.int .i64 v) T (pre.length:Int) K)=Rs.ok (fZ 1 (.int .i64 x.2) T ((pre.length:Int)+x.1) K):=fun h=>by
   rw[h]
   show _=Rs.ok (fZ 1 _ T ((pre.length:Int)+0) K)
   rw[Int.add_zero]
  have go:∀fuel,pieces (R:=R0) E (au gk) uM r9 2 .ok (fuel+1) 0 (mkR T pre.length K)=_:=fun fuel=>(It (pieces (R:=R0) E (au gk) uM r9 2 .ok fuel) T pre.length K)
  simp only[h1,h2,h3,h4,Int.toNat_natCast,decide_true,cond_true]at go
  cases e1:(c.toNat:Int)==34
  ·cases e2:(c.toNat:Int)==10
   ·cases e3:decide ((c.toNat:Int)<32)
    ·cases e4:decide ((c.toNat:Int)>126)
     ·cases e5:(c.toNat:Int)==92
      ·obtain⟨fuel,ih⟩:=tf (K:=K) hT n r (pre++[c]) (by simp[hp]) (by omega)
       rw[h5]at ih
       refine⟨fuel+1,(go fuel).trans ?_⟩
       simp only[e1,e2,e3,e4,e5,cond_false]
       refine ih.trans ?_
       congr 2
       show _=(pre.length:Int)+(((cG n r).1+1:Nat):Int)
       omega
      ·cases r with
       |nil=>
        refine⟨1,(go 0).trans ?_⟩
        simp only[List.length_nil]at hlen
        have h6:(pre.length:Int)+1≥T.length:=by omega
        simp only[e1,e2,e3,e4,e5,cond_false,cond_true,h6,decide_true]
        exact one rfl
       |cons d r'=>
        simp only[List.length_cons]at hlen hn
        have h6:¬((pre.length:Int)+1≥T.length):=by omega
        have h7:inI ((pre.length:Int)+1) T.length=true:=bZ (by omega) (by omega)
        have h8:List.getD T (Int.toNat ((pre.length:Int)+1)) 0=d:=by
         have:Int.toNat ((pre.length:Int)+1)=(pre++[c]).length:=by simp
         rw[this,hp,show pre++c::d::r'=(pre++[c])++d::r' by simp]
         exact eu _ _ _
        have h9:IntKind.wrap .i64 ((pre.length:Int)+1+1)=(pre.length:Int)+1+1:=wrap64 (by omega) (by omega)
        cases e6:decide (ibS sc (d.toNat:Int)<0)
        ·obtain⟨fuel,ih⟩:=tf (K:=K) hT n r' (pre++[c,d]) (by simp[hp]) (by omega)
         have h10:(((pre++[c,d]).length:Nat):Int)=(pre.length:Int)+1+1:=by simp;omega
         rw[h10]at ih
         refine⟨fuel+1,(go fuel).trans ?_⟩
         simp only[e1,e2,e3,e4,e5,cond_false,cond_true,h6,decide_false,h7,h8,h9]
         show(bif decide (ibS sc (d.toNat:Int)<0)then _ else _)=_
         rw[e6]
         refine ih.trans ?_
         congr 2
         show _=(pre.length:Int)+(((cG n r').1+2:Nat):Int)
         omega
        ·refine⟨1,(go 0).trans ?_⟩
         simp only[e1,e2,e3,e4,e5,cond_false,cond_true,h6,decide_false,h7,h8,h9]
         show(bif decide (ibS sc (d.toNat:Int)<0)then _ else _)=_
         rw[e6]
         exact one rfl
     ·refine⟨1,(go 0).trans ?_⟩
      simp only[e1,e2,e3,e4,cond_false,cond_true]
      exact one rfl
    ·refine⟨1,(go 0).trans ?_⟩
     simp only[e1,e2,e3,cond_false,cond_true]
     exact one rfl
   ·refine⟨1,(go 0).trans ?_⟩
    simp only[e1,e2,cond_false,cond_true]
    exact one rfl
  ·refine⟨1,(go 0).trans ?_⟩
   simp only[e1,cond_true]
   rfl
theorem I3(h:bw Tryz.prog G gk)(T:List UInt8)(a:Int)(K:List Tok)(ha:lg T a=true):SA Tryz.prog G 64 [.ref 0 0] (bsR T a K) (.ret (du iu (rp T a,())),uI T (ld T a) K):=by
 obtain⟨a0,a1,a2⟩:=jj.1 ha
 obtain⟨pre,hp,hl⟩:=sr a0 (Int.le_of_lt a1)
 have hlen:=gY a0 (Int.le_of_lt a1)
 obtain⟨fuel,hg⟩:=tf (K:=K) a2 (aA T a).length ((aA T a).drop 1) (pre++(aA T a).take 1) (by rw[List.append_assoc,List.take_append_drop];exact hp) (by rw[List.length_drop];omega)
 have h5:(((pre++(aA T a).take 1).length:Nat):Int)=a+1:=by
  rw[List.length_append,List.length_take]
  omega
 rw[h5]at hg
 have w1:IntKind.wrap .i64 (a+1)=a+1:=wrap64 (by omega) (by omega)
 have hs:=LU (pieces (R:=R0) E (au gk) uM r9 2 .ok fuel) T a K
 rw[w1]at hs
 have h2:=hs.trans hg
 have h3:a+1+((cG (aA T a).length ((aA T a).drop 1)).1:Int)=ld T a:=by
  unfold ld dL
  show _=a+(((cG (aA T a).length ((aA T a).drop 1)).1+1:Nat):Int)
  omega
 rw[h3]at h2
 exact AP (bu (bb []) (aQ h) Sz (.inl (qf T a K)) h2) (fun _=>rfl) rfl
end Go.Sx.Tryz
namespace Go.Sx.Tryz
open Go Go.Sx Go.Proofs
set_option maxRecDepth 100000
abbrev MW:Sig:=[(false,.int .i64),(false,.int .i64)]
def S8:aX:=rdC 64 iu lg (fun T a=>(rp T a,())) ld
def sgnC:aX:=rdC 65 iu lg (fun T a=>(Gv T a,())) GI
def Bn:List (Nat×aX):=(59,fA 59 whC)::(64,fA 64 S8)::(65,fA 65 sgnC)::nq
def CY:List Cut:=[⟨[true,true,false,false,true,true,true,false,true,true,true,false,false],some ⟨[(0,[]),(4,[]),(6,[])],[[],[]]⟩⟩]
def KH(T:List UInt8)(b:Int)(K:List Tok)(a k:Int):St:={tmps:=[(0,.ref 0 0),(4,.int .i64 a),(6,.int .i64 k)],blks:=[(0,.cells 86 [.str T,.int .i64 b,.own 1 1]),(1,.list 50 aK 1 false K)],next:=2}
def oneC:aX:=rdC 37 MW lg (fun T a=>(gx T a,fM T a,())) aL
def gapC:aX:=rdC 36 [] okA (fun _ _=>()) cQ
def zx:List (Nat×aX):=[(36,fA 36 gapC),(37,fA 37 oneC)]
def Ed:List Cut:=[⟨[true,true,true,false,false],some ⟨[(0,[]),(3,[]),(4,[])],[[],[.keep,.keep,.own 50 aK]]⟩⟩,⟨[true,true,true,false,true,false,false],some ⟨[(0,[]),(3,[]),(4,[])],[[],[],[]]⟩⟩]
def Mq(T:List UInt8)(a:Int)(K:List Tok):St:={tmps:=[(0,.str T),(3,.ref 0 0),(4,.ref 1 0)],blks:=[(0,.cells 28 [.int .i64 0,.int .i64 0]),(1,.cells 86 [.str T,.int .i64 a,.own 2 0]),(2,.list 50 aK 0 false K)],next:=3}
def tkn(k a b:Int):Tok:=(k,a,b,())
end Go.Sx.Tryz
namespace Go.Sx.Tryz
open Go Go.Sx
set_option maxRecDepth 100000
theorem LG(J:Jump R0)(T:List UInt8)(a:Int)(K:List Tok):start E (au Bn) CP CY J [.ref 0 0] (bsR T a K) .ok=bif inI a (List.length T)then bif isLet (↑(UInt8.toNat (List.getD T (Int.toNat a) 0)):Int)then bif (Nat.beq 62 60||(Nat.beq 62 62||Nat.beq 62 63))&&okA T a then bif decide (IntKind.wrap IntKind.i64 (whI (pOf 62) T a-a)>64)then Rs.ok (Out.ret (AV.tup [Iz 0,Iz (Int.ofNat 2)]),[Blk.cells 86 [AV.str T,Iz (whI (pOf 62) T a),AV.own 1 1],Blk.list 50 aK 1 false K])else Rs.ok (Out.ret (AV.tup [Iz (Int.ofNat 1),Iz 0]),[Blk.cells 86 [AV.str T,Iz (whI (pOf 62) T a),AV.own 1 1],Blk.list 50 aK 1 false K])else Rs.err 3000059 else bif aC (↑(UInt8.toNat (List.getD T (Int.toNat a) 0)):Int)then bif (Nat.beq 63 60||(Nat.beq 63 62||Nat.beq 63 63))&&okA T a then bif decide (IntKind.wrap IntKind.i64 (whI (pOf 63) T a+1)<(↑(List.length T):Int))then bif inI (whI (pOf 63) T a) (List.length T)then bif (↑(UInt8.toNat (List.getD T (Int.toNat (whI (pOf 63) T a)) 0)):Int)==46 then bif inI (IntKind.wrap IntKind.i64 (whI (pOf 63) T a+1)) (List.length T)then bif aC (↑(UInt8.toNat (List.getD T (Int.toNat (IntKind.wrap IntKind.i64 (whI (pOf 63) T a+1))) 0)):Int)then bif (Nat.beq 63 60||(Nat.beq 63 62||Nat.beq 63 63))&&okA T (IntKind.wrap IntKind.i64 (whI (pOf 63) T a+1))then J 0 {tmps:=[(0,AV.ref 0 0),(4,Iz a),(6,Iz (Int.ofNat 3))],blks:=[(0,Blk.cells 86 [AV.str T,Iz (whI (pOf 63) T (IntKind.wrap IntKind.i64 (whI (pOf 63) T a+1))),AV.own 1 1]),(1,Blk.list 50 aK 1 false K)],next:=2}else Rs.err 3000059 else J 0 {tmps:=[(0,AV.ref 0 0),(4,Iz a),(6,Iz (Int.ofNat 2))],blks:=[(0,Blk.cells 86 [AV.str T,Iz (whI (pOf 63) T a),AV.own 1 1]),(1,Blk.list 50 aK 1 false K)],next:=2}else Rs.err 1033 else J 0 {tmps:=[(0,AV.ref 0 0),(4,Iz a),(6,Iz (Int.ofNat 2))],blks:=[(0,Blk.cells 86 [AV.str T,Iz (whI (pOf 63) T a),AV.own 1 1]),(1,Blk.list 50 aK 1 false K)],next:=2}else Rs.err 1020 else J 0 {tmps:=[(0,AV.ref 0 0),(4,Iz a),(6,Iz (Int.ofNat 2))],blks:=[(0,Blk.cells 86 [AV.str T,Iz (whI (pOf 63) T a),AV.own 1 1]),(1,Blk.list 50 aK 1 false K)],next:=2}else Rs.err 3000059 else bif (↑(UInt8.toNat (List.getD T (Int.toNat a) 0)):Int)==34 then bif lg T a then bif rp T a==0 then bif decide (IntKind.wrap IntKind.i64 (ld T a-a)>256)then Rs.ok (Out.ret (AV.tup [Iz (Int.ofNat 4),Iz (Int.ofNat 2)]),[Blk.cells 86 [AV.str T,Iz (ld T a),AV.own 1 1],Blk.list 50 aK 1 false K])else Rs.ok (Out.ret (AV.tup [Iz (Int.ofNat 4),Iz (rp T a)]),[Blk.cells 86 [AV.str T,Iz (ld T a),AV.own 1 1],Blk.list 50 aK 1 false K])else Rs.ok (Out.ret (AV.tup [Iz (Int.ofNat 4),Iz (rp T a)]),[Blk.cells 86 [AV.str T,Iz (ld T a),AV.own 1 1],Blk.list 50 aK 1 false K])else Rs.err 3000064 else bif lg T a then Rs.ok (Out.ret (AV.tup [Iz (Int.ofNat 5),Iz (Gv T a)]),[Blk.cells 86 [AV.str T,Iz (GI T a),AV.own 1 1],Blk.list 50 aK 1 false K])else Rs.err 3000065 else Rs.err 112:=by kernel_rfl
theorem K6(J:Jump R0)(T:List UInt8)(b:Int)(K:List Tok)(a k:Int):resume E (au Bn) (aT 2 CY 0) J [true,true,false,false,true,true,true,false,true,true,true,false,false] CP.code 1 (KH T b K a k) (cv E 2 CP.results .ok)=bif decide (IntKind.wrap IntKind.i64 (b-a)>20)then Rs.ok (Out.ret (AV.tup [Iz 0,Iz (Int.ofNat 2)]),[Blk.cells 86 [AV.str T,Iz b,AV.own 1 1],Blk.list 50 aK 1 false K])else Rs.ok (Out.ret (AV.tup [Iz k,Iz 0]),[Blk.cells 86 [AV.str T,Iz b,AV.own 1 1],Blk.list 50 aK 1 false K]):=by kernel_rfl
theorem C7(J:Jump R0)(T:List UInt8):start E (au zx) AR Ed J [.str T] [] .ok=bif decide ((↑(List.length T):Int)>65536)then Rs.ok (Out.ret (AV.tup [AV.nils,AV.agg [Iz (Int.ofNat 2),Iz 0]]),[])else J 0 {tmps:=[(0,AV.str T),(3,AV.ref 0 0),(4,AV.ref 1 0)],blks:=[(0,Blk.cells 28 [Iz 0,Iz 0]),(1,Blk.cells 86 [AV.str T,Iz 0,AV.own 2 0]),(2,Blk.list 50 aK 0 false [])],next:=3}:=by kernel_rfl
theorem Ks(J:Jump R0)(T:List UInt8)(a:Int)(K:List Tok):resume E (au zx) (aT 0 Ed 0) J [true,true,true,false,false] AR.code 1 (Mq T a K) (cv E 0 AR.results .ok)=bif okA T a then J 1 {tmps:=[(0,AV.str T),(3,AV.ref 0 0),(4,AV.ref 1 0)],blks:=[(0,Blk.cells 28 [Iz 0,Iz 0]),(1,Blk.cells 86 [AV.str T,Iz (cQ T a),AV.own 2 0]),(2,Blk.list 50 aK 0 false K)],next:=3}else Rs.err 3000036:=by kernel_rfl
theorem OB(J:Jump R0)(T:List UInt8)(a:Int)(K:List Tok):resume E (au zx) (aT 0 Ed 0) J [true,true,true,false,true,false,false] AR.code 1 (Mq T a K) (cv E 0 AR.results .ok)=bif decide (a<(↑(List.length T):Int))then bif decide ((↑(List.length K):Int)≥16384)then Rs.ok (Out.ret (AV.tup [AV.nils,AV.agg [Iz (Int.ofNat 2),Iz a]]),[])else bif lg T a then bif fM T a !=0 then Rs.ok (Out.ret (AV.tup [AV.nils,AV.agg [Iz (fM T a),Iz a]]),[])else bif decide (List.length K+List.length [(tkn (gx T a) (a) (aL T a))]<ao)then bif okA T (aL T a)then J 1 {tmps:=[(0,AV.str T),(3,AV.ref 0 0),(4,AV.ref 1 0)],blks:=[(0,Blk.cells 28 [Iz 0,Iz 0]),(1,Blk.cells 86 [AV.str T,Iz (cQ T (aL T a)),AV.own 2 0]),(2,Blk.list 50 aK 0 false (K++[(tkn (gx T a) (a) (aL T a))]))],next:=3}else Rs.err 3000036 else Rs.err 1314 else Rs.err 3000037 else bif decide (List.length K+List.length [(tkn (0) ((↑(List.length T):Int)) ((↑(List.length T):Int)))]<ao)then Rs.ok (Out.ret (AV.tup [AV.own 0 1,AV.agg [Iz 0,Iz 0]]),[Blk.list 50 aK 1 false (K++[(tkn (0) ((↑(List.length T):Int)) ((↑(List.length T):Int)))])])else Rs.err 1411:=by kernel_rfl
theorem KJ(s:List UInt8):body (R:=R0) E (au gk) Eb [.str s] [] .ok=bif !s==[]then bif decide (ibS s 32<0)then bif decide (List.length [32]+List.length s<2^62)then bif decide (List.length ([32]++s)+List.length [32]<2^62)then Rs.ok (Out.ret (AV.bool (Lib.contains (List.append (List.append [32,99,108,97,115,115,32,101,120,116,101,110,100,115,32,105,110,105,116,32,105,110,116,32,98,111,111,108,32,100,111,117,98,108,101,32,115,116,114,32,118,111,105,100] [32,79,112,116,105,111,110,32,105,102,32,101,108,115,101,32,119,104,105,108,101,32,98,114,101,97,107,32,99,111,110,116,105,110,117,101,32,114,101,116,117,114,110,32,112]) (List.append [114,105,110,116,32,115,117,112,101,114,32,116,104,105,115,32,110,117,108,108,32,110,111,110,101,32,115,111,109,101,32,105,115,32,116,114,117,101,32,102,97,108,115,101,32] [110,101,119,32,99,97,115,116,32,116,111,105,110,116,32,116,111,100,111,117,98,108,101,32,105,110,112,117,116,32,97,115,107,32,108,101,110,103,116,104,32,118,97,108,32])) ([32]++s++[32]))),[])else Rs.err 110 else Rs.err 109 else Rs.ok (Out.ret (AV.bool false),[])else Rs.ok (Out.ret (AV.bool false),[]):=by kernel_rfl
end Go.Sx.Tryz
namespace Go.Sx.Tryz
open Go Go.Sx Go.Proofs
set_option maxRecDepth 100000
variable{G:Nat→Obj→Prop}
theorem HQ(h:bw Tryz.prog G gk):bw Tryz.prog G Bn:=
 .cons (dX HO) (.cons (dX (su fun T a K ha=>I3 h T a K ha)) (.cons (dX (su fun T a K ha=>OU h T a K ha)) DS))
abbrev FM(n:Nat):Jump R0:=pieces (R:=R0) E (au Bn) CP CY 2 .ok n
theorem M7{T:List UInt8}{b a k:Int}{K:List Tok}(h0:0≤a)(h1:a≤b)(h2:b≤1099511627776):FM 1 0 (KH T b K a k)=bif decide (b-a>20)then .ok (fZ 1 (.tup [.int .i64 0,.int .i64 2]) T b K)else .ok (fZ 1 (.tup [.int .i64 k,.int .i64 0]) T b K):=by
 refine(K6 (FM 0) T b K a k).trans ?_
 rw[wrap64 (show-9223372036854775808≤b-a by omega) (by omega)]
 rfl
theorem DZ{T:List UInt8}{a:Int}(h0:0≤a)(n:Nat):at8 (aA T a) n=(((T.getD (a+n).toNat 0).toNat:Nat):Int):=by
 unfold at8
 rw[G7 h0,show a.toNat+n=(a+n).toNat by omega]
theorem xu{p:Int→Bool}{s:List UInt8}(h:p (at8 s 0)=true)(hs:0<s.length):1≤ax p s:=by
 cases s with
 |nil=>simp at hs
 |cons c s=>
  rw[fG,show p (c.toNat:Int)=true from h]
  show 1≤ax p s+1
  omega
theorem Gy{T:List UInt8}{a:Int}(h0:0≤a)(n:Nat):aA T (a+n)=(aA T a).drop n:=by
 unfold aA
 rw[List.drop_drop,show(a+n).toNat=a.toNat+n by omega]
theorem x5:∀(n:Nat) (s:List UInt8),(cG n s).1≤s.length
 |n,[]=>by cases n<;>exact Nat.zero_le _
 |0,_::_=>Nat.zero_le _
 |n+1,c::r=>by
  have hq:cG (n+1) (c::r)=bif (c.toNat:Int)==34 then(1,0)else bif (c.toNat:Int)==10 then(0,61)else bif decide ((c.toNat:Int)<32)||decide ((c.toNat:Int)>126)then(0,60)
   else bif (c.toNat:Int)==92 then(match r with
    |[]=>(0,61)
    |d::r'=>bif decide (ibS sc (d.toNat:Int)<0)then(0,5)else((cG n r').1+2,(cG n r').2))
   else((cG n r).1+1,(cG n r).2):=rfl
  rw[hq]
  have ih:=x5 n r
  cases (c.toNat:Int)==34
  ·cases (c.toNat:Int)==10
   ·cases decide ((c.toNat:Int)<32)||decide ((c.toNat:Int)>126)
    ·cases (c.toNat:Int)==92
     ·show(cG n r).1+1≤r.length+1
      omega
     ·cases r with
      |nil=>exact Nat.zero_le _
      |cons d r'=>
       have ih2:=x5 n r'
       show(bif decide (ibS sc (d.toNat:Int)<0)then((0,5):Nat×Int)else((cG n r').1+2,(cG n r').2)).1≤r'.length+1+1
       cases decide (ibS sc (d.toNat:Int)<0)
       ·show(cG n r').1+2≤r'.length+1+1
        omega
       ·exact Nat.zero_le _
    ·exact Nat.zero_le _
   ·exact Nat.zero_le _
  ·show 1≤r.length+1
   omega
theorem DR{s:List UInt8}(h:0<s.length):(dL s).1≤s.length:=by
 have:=x5 s.length (s.drop 1)
 rw[List.length_drop]at this
 show(cG s.length (s.drop 1)).1+1≤s.length
 omega
theorem Kz{T:List UInt8}{a:Int}{K:List Tok}(ha:lg T a=true):∃n,start (R:=R0) E (au Bn) CP CY (FM n) [.ref 0 0] (bsR T a K) .ok= .ok (fZ 1 (.tup [.int .i64 (gx T a),.int .i64 (fM T a)]) T (aL T a) K):=by
 obtain⟨a0,a1,a2⟩:=jj.1 ha
 refine⟨1,(LG (FM 1) T a K).trans ?_⟩
 have hl:=gY a0 (Int.le_of_lt a1)
 have e0:(((T.getD a.toNat 0).toNat:Nat):Int)=at8 (aA T a) 0:=by
  rw[DZ a0,show a+((0:Nat):Int)=a by omega]
 have hok:okA T a=true:=jK.2 ⟨a0,Int.le_of_lt a1,a2⟩
 have q1:IntKind.wrap .i64 (ld T a-a)=ld T a-a:=by
  have:=DR (s:=aA T a) (by omega)
  exact wrap64 (by unfold ld;omega) (by unfold ld;omega)
 rw[bZ a0 a1,e0,hok,ha,q1]
 unfold gx fM aL whI rp ld Gv GI
 have r1:∀x:Nat,aA T (a+x)=(aA T a).drop x:=Gy a0
 have g1:∀x:Nat,(((T.getD (a+(x:Int)).toNat 0).toNat:Nat):Int)=at8 (aA T a) x:=fun x=>(DZ a0 x).symm
 show(bif isLet (at8 (aA T a) 0)then _ else _)=_
 unfold ed
 cases hL:isLet (at8 (aA T a) 0)
 ·cases hD:aC (at8 (aA T a) 0)
  ·show(bif at8 (aA T a) 0==34 then _ else _)=_
   cases hQ:at8 (aA T a) 0==34
   ·rfl
   ·simp only[cond_true,cond_false]
    have:a+((dL (aA T a)).1:Int)-a=((dL (aA T a)).1:Int):=by omega
    rw[this]
    cases (dL (aA T a)).2==0
    ·rfl
    ·show(bif decide (((dL (aA T a)).1:Int)>256)then _ else _)=_
     cases decide (((dL (aA T a)).1:Int)>256)<;>rfl
  ·have hn:=eH aC (aA T a)
   generalize hN:ax aC (aA T a)=n at hn
   have p63:ax (pOf 63) (aA T a)=n:=hN
   have w1:IntKind.wrap .i64 (a+(n:Int)+1)=a+((n+1:Nat):Int):=by rw[wrap64 (by omega) (by omega)];omega
   rw[p63,w1]
   simp only[cond_true,cond_false]
   have leaf:∀k:Int,FM 1 0 (KH T (a+n) K a k)=bif decide ((n:Int)>20)then .ok (fZ 1 (.tup [.int .i64 0,.int .i64 2]) T (a+n) K)else .ok (fZ 1 (.tup [.int .i64 k,.int .i64 0]) T (a+n) K):=fun k=>by
    rw[M7 a0 (by omega) (by omega),show a+(n:Int)-a=n by omega]
   have two:(bif decide ((n:Int)>20)then Rs.ok (fZ 1 (.tup [.int .i64 0,.int .i64 2]) T (a+n) K)else Rs.ok (fZ 1 (.tup [.int .i64 2,.int .i64 0]) T (a+n) K))=Rs.ok (fZ 1 (.tup [.int .i64 (bif decide ((n:Int)>20)then((0,2,n):Int×Int×Nat)else(2,0,n)).1,.int .i64 (bif decide ((n:Int)>20)then((0,2,n):Int×Int×Nat)else(2,0,n)).2.1]) T (a+(bif decide ((n:Int)>20)then((0,2,n):Int×Int×Nat)else(2,0,n)).2.2) K):=by
    cases decide ((n:Int)>20)<;>rfl
   show(bif decide (a+((n+1:Nat):Int)<T.length)then _ else _)=_
   have c1:decide (a+((n+1:Nat):Int)<T.length)=decide ((n:Int)+1<(aA T a).length):=by
    rw[decide_eq_decide]
    omega
   rw[c1]
   cases hc:decide ((n:Int)+1<(aA T a).length)
   ·exact(leaf 2).trans two
   ·rw[decide_eq_true_eq]at hc
    have i1:inI (a+(n:Int)) T.length=true:=bZ (by omega) (by omega)
    have i2:inI (a+((n+1:Nat):Int)) T.length=true:=bZ (by omega) (by omega)
    rw[i1,i2,g1 n,g1 (n+1)]
    show(bif at8 (aA T a) n==46 then _ else _)=_
    cases h46:at8 (aA T a) n==46
    ·exact(leaf 2).trans two
    ·show(bif aC (at8 (aA T a) (n+1))then _ else _)=_
     cases h47:aC (at8 (aA T a) (n+1))
     ·exact(leaf 2).trans two
     ·have ok2:okA T (a+((n+1:Nat):Int))=true:=jK.2 ⟨by omega,by omega,a2⟩
      rw[ok2,r1 (n+1)]
      simp only[cond_true,Bool.true_and,Bool.and_self]
      have hm:=eH aC ((aA T a).drop (n+1))
      rw[List.length_drop]at hm
      show FM 1 0 (KH T (a+((n+1:Nat):Int)+(ax aC ((aA T a).drop (n+1)):Int)) K a 3)=_
      rw[M7 a0 (by omega) (by omega)]
      have e1:a+((n+1:Nat):Int)+(ax aC ((aA T a).drop (n+1)):Int)=a+((n+1+ax aC ((aA T a).drop (n+1)):Nat):Int):=by omega
      rw[e1]
      generalize n+1+ax aC ((aA T a).drop (n+1))=m
      rw[show a+(m:Int)-a=m by omega]
      show _=Rs.ok (fZ 1 (.tup [.int .i64 (bif decide ((m:Int)>20)then((0,2,m):Int×Int×Nat)else(3,0,m)).1,.int .i64 (bif decide ((m:Int)>20)then((0,2,m):Int×Int×Nat)else(3,0,m)).2.1]) T (a+(bif decide ((m:Int)>20)then((0,2,m):Int×Int×Nat)else(3,0,m)).2.2) K)
      cases decide ((m:Int)>20)<;>rfl
 ·have hn:=eH fp (aA T a)
  generalize hN:ax fp (aA T a)=n at hn
  have p62:ax (pOf 62) (aA T a)=n:=hN
  rw[p62]
  simp only[cond_true]
  have w1:IntKind.wrap .i64 (a+(n:Int)-a)=n:=by rw[wrap64 (by omega) (by omega)];omega
  rw[w1]
  show(bif decide ((n:Int)>64)then _ else _)=_
  cases decide ((n:Int)>64)<;>rfl
theorem OJ(h:bw Tryz.prog G gk)(T:List UInt8)(a:Int)(K:List Tok)(ha:lg T a=true):SA Tryz.prog G 37 [.ref 0 0] (bsR T a K) (.ret (du MW (gx T a,fM T a,())),uI T (aL T a) K):=by
 obtain⟨n,hn⟩:=Kz (K:=K) ha
 exact AP (bu (bb []) (aQ (HQ h)) Tf (.inl (qf T a K)) hn) (fun _=>rfl) rfl
end Go.Sx.Tryz
namespace Go.Sx.Tryz
open Go Go.Sx Go.Proofs
set_option maxRecDepth 100000
variable{G:Nat→Obj→Prop}
theorem rQ:∀(n:Nat) (s:List UInt8),jm n s≤s.length
 |0,_=>Nat.zero_le _
 |n+1,s=>by
  rw[cn]
  have hb:=eH aG s
  have hc:=eH nl (s.drop (ax aG s))
  have ih:=rQ n (s.drop (ax aG s+ax nl (s.drop (ax aG s))))
  rw[List.length_drop]at hc ih
  cases Lib.hasPrefix (s.drop (ax aG s)) [47,47]
  ·exact hb
  ·show ax aG s+ax nl (s.drop (ax aG s))+jm n _≤s.length
   omega
theorem dI{T:List UInt8}{a:Int}(h0:0≤a)(h1:a≤T.length):a≤cQ T a∧cQ T a≤T.length:=by
 have h:=rQ ((aA T a).length+1) (aA T a)
 have hl:=gY h0 h1
 unfold cQ cz
 omega
theorem Ka{c:Int}(h:isLet c=true):fp c=true:=by unfold fp;rw[h];rfl
theorem LC{s:List UInt8}(h:sgB s=true):1<s.length:=by
 unfold sgB at h
 simp only[Bool.and_eq_true,decide_eq_true_eq]at h
 omega
theorem KR{s:List UInt8}(h:0<s.length):(sI s).1≤s.length∧((sI s).2=0→1≤(sI s).1):=by
 rw[DI]
 cases hb:sgB s
 ·cases decide (ibS tP (at8 s 0)≥0)
  ·exact⟨Nat.zero_le _,fun h=>absurd h (by decide)⟩
  ·exact⟨h,fun _=>Nat.le_refl 1⟩
 ·exact⟨LC hb,fun _=>Nat.le_succ 1⟩
theorem Kg{s:List UInt8}(h:0<s.length):(ed s).2.2≤s.length∧((ed s).2.1=0→1≤(ed s).2.2):=by
 unfold ed
 cases hL:isLet (at8 s 0)
 ·cases hD:aC (at8 s 0)
  ·cases hQ:at8 s 0==34
   ·exact KR h
   ·have hq:=DR h
    have h1:1≤(dL s).1:=Nat.succ_le_succ (Nat.zero_le _)
    simp only[cond_true,cond_false]
    cases ((dL s).2==0&&decide (((dL s).1:Int)>256))<;>exact⟨hq,fun _=>h1⟩
  ·have hn:=eH aC s
   have h1:=xu hD h
   simp only[cond_true,cond_false]
   cases hc:(decide (((ax aC s:Nat):Int)+1<s.length)&&(at8 s (ax aC s)==46&&aC (at8 s (ax aC s+1))))
   ·cases decide (((ax aC s:Nat):Int)>20)<;>exact⟨hn,fun _=>h1⟩
   ·simp only[Bool.and_eq_true,decide_eq_true_eq]at hc
    have hm:=eH aC (s.drop (ax aC s+1))
    rw[List.length_drop]at hm
    have:=hc.1
    simp only[cond_true]
    cases decide (((ax aC s+1+ax aC (s.drop (ax aC s+1)):Nat):Int)>20)
    ·exact⟨by show ax aC s+1+ax aC (s.drop (ax aC s+1))≤s.length;omega,fun _=>by show 1≤ax aC s+1+ax aC (s.drop (ax aC s+1));omega⟩
    ·exact⟨by show ax aC s+1+ax aC (s.drop (ax aC s+1))≤s.length;omega,fun _=>by show 1≤ax aC s+1+ax aC (s.drop (ax aC s+1));omega⟩
 ·have hn:=eH fp s
  have h1:=xu (Ka hL) h
  simp only[cond_true]
  cases decide (((ax fp s:Nat):Int)>64)<;>exact⟨hn,fun _=>h1⟩
theorem oK{T:List UInt8}{a:Int}(h0:0≤a)(h1:a<T.length):aL T a≤T.length∧(fM T a=0→a<aL T a):=by
 have hl:=gY h0 (Int.le_of_lt h1)
 obtain⟨x,y⟩:=Kg (s:=aA T a) (by omega)
 unfold aL fM
 exact⟨by omega,fun h=>by have:=y h;omega⟩
def gp:Nat→List UInt8→Int→Nat→Int×Int×List Tok
 |0,_,_,_=>(0,0,[])
 |n+1,T,a,k=>bif decide (a<T.length)then bif decide ((k:Int)≥16384)then(2,a,[])else bif fM T a !=0 then(fM T a,a,[])else
   ((gp n T (cQ T (aL T a)) (k+1)).1,(gp n T (cQ T (aL T a)) (k+1)).2.1,tkn (gx T a) a (aL T a)::(gp n T (cQ T (aL T a)) (k+1)).2.2)
  else(0,0,[tkn 0 T.length T.length])
def fD(T:List UInt8):Int×Int×List Tok:=bif decide ((T.length:Int)>65536)then(2,0,[])else gp (T.length+1) T (cQ T 0) 0
def FG(r:Int×Int×List Tok)(K:List Tok):R0:=bif r.1==0 then(.ret (.tup [.own 0 1,.agg [.int .i64 0,.int .i64 0]]),[.list 50 aK 1 false (K++r.2.2)])else(.ret (.tup [.nils,.agg [.int .i64 r.1,.int .i64 r.2.1]]),[])
abbrev Fb(n:Nat):Jump R0:=pieces (R:=R0) E (au zx) AR Ed 0 .ok n
theorem Aj{T:List UInt8}(hT:(T.length:Int)≤65536):∀(n:Nat) (a:Int) (K:List Tok),0≤a→a≤T.length→(T.length:Int)-a<n→(K.length:Int)≤16384→Fb n 1 (Mq T a K)= .ok (FG (gp n T a K.length) K)
 |0,a,K,h0,h1,h2,_=>by omega
 |n+1,a,K,h0,h1,h2,hK=>by
  refine(OB (Fb n) T a K).trans ?_
  unfold gp
  have hm:∀t:Tok,List.length K+List.length [t]<ao:=fun t=>by
   show List.length K+1<ao
   unfold ao
   omega
  cases ha:decide (a<(T.length:Int))
  ·exact mX (hm _)
  ·rw[decide_eq_true_eq]at ha
   simp only[cond_true]
   cases hk:decide ((K.length:Int)≥16384)
   ·have hok:lg T a=true:=jj.2 ⟨h0,ha,by omega⟩
    rw[hok]
    simp only[cond_true,cond_false]
    obtain⟨o1,o2⟩:=oK h0 ha
    cases he:fM T a !=0
    ·have he0:fM T a=0:=by simpa using he
     have o3:=o2 he0
     simp only[cond_false]
     refine(mX (hm _)).trans ?_
     have hok2:okA T (aL T a)=true:=jK.2 ⟨by omega,o1,by omega⟩
     rw[hok2]
     simp only[cond_true]
     obtain⟨g1,g2⟩:=dI (T:=T) (a:=aL T a) (by omega) o1
     rw[decide_eq_false_iff_not]at hk
     have hlen:(K++[tkn (gx T a) a (aL T a)]).length=K.length+1:=by simp
     have ih:=Aj hT n (cQ T (aL T a)) (K++[tkn (gx T a) a (aL T a)]) (by omega) g2 (by omega) (by rw[hlen];omega)
     rw[hlen]at ih
     refine Eq.trans ?_ (ih.trans ?_)
     ·rfl
     ·unfold FG
      rw[List.append_assoc]
      rfl
    ·have hz:(fM T a==0)=false:=by
      rw[bne,Bool.not_eq_true']at he
      exact he
     show _=Rs.ok (FG (fM T a,a,[]) K)
     unfold FG
     rw[hz]
     rfl
   ·rfl
theorem zi(h:bw Tryz.prog G gk):bw Tryz.prog G zx:=
 .cons (dX (su fun T a K ha=>PA h T a K ha)) (.cons (dX (su fun T a K ha=>OJ h T a K ha)) .nil)
theorem On(h:bw Tryz.prog G gk)(T:List UInt8):SA Tryz.prog G 15 [.str T] [] (FG (fD T) []):=by
 cases hb:decide ((T.length:Int)>65536)
 ·have hs:=C7 (Fb (T.length+2)) T
  rw[decide_eq_false_iff_not]at hb
  have hT:(T.length:Int)≤65536:=by omega
  have h1:Fb (T.length+2) 0 (Mq T 0 [])=_:=Ks (Fb (T.length+1)) T 0 []
  have hok:okA T 0=true:=jK.2 ⟨by omega,by omega,by omega⟩
  rw[hok]at h1
  obtain⟨g1,g2⟩:=dI (T:=T) (a:=0) (by omega) (by omega)
  have h2:=Aj hT (T.length+1) (cQ T 0) [] g1 g2 (by omega) (by simp)
  have h3:fD T=gp (T.length+1) T (cQ T 0) 0:=by
   unfold fD
   exact MG (decide_eq_false_iff_not.2 hb)
  rw[h3]
  refine bu (bb []) (aQ (zi h)) OR (.inl cN) (hs.trans ?_)
  rw[decide_eq_false_iff_not.2 hb]
  exact h1.trans h2
 ·have h3:fD T=(2,0,[]):=by
   unfold fD
   exact MB hb
  rw[h3]
  refine bu (bb []) (aQ (zi h)) OR (.inl cN) ((C7 (Fb 0) T).trans ?_)
  rw[hb]
  rfl
end Go.Sx.Tryz
namespace Go.Proofs
open Go.Shelf
def Tryz.lays137_ren:Go.Shelf.Ren:=⟨fun|137=>88|217=>84|266=>101|n=>n,fun|9=>9|5=>5|3=>3|n=>n,fun|n=>n⟩
theorem Tryz.lays137:Go.Proofs.Lays.n137 Tryz.prog Tryz.lays137_ren:={
 mixed:=by kernel_rfl
 f137:=Tryz.func88.trans (congrArg some (by kernel_rfl))
 f217:=Tryz.func84.trans (congrArg some (by kernel_rfl))
 f266:=Tryz.func101.trans (congrArg some (by kernel_rfl))
 t3:=Tryz.underlying3
 a3:=Tryz.isAgg3
 z3:=Tryz.sizeOf3
 v3:=Tryz.zeroValue3
 t5:=Tryz.underlying5
 a5:=Tryz.isAgg5
 z5:=Tryz.sizeOf5
 v5:=Tryz.zeroValue5
 t9:=Tryz.underlying9
 a9:=Tryz.isAgg9
 z9:=Tryz.sizeOf9
 v9:=Tryz.zeroValue9}
def Tryz.laysC174_ren:Go.Shelf.Ren:=⟨fun|174=>144|247=>149|245=>150|287=>155|279=>156|280=>157|281=>158|282=>159|321=>162|322=>163|316=>164|171=>166|205=>165|243=>172|246=>81|283=>96|284=>97|285=>98|286=>99|129=>109|317=>108|318=>110|319=>111|320=>112|337=>123|338=>124|n=>n,fun|9=>9|3=>3|2=>2|75=>52|85=>182|4=>4|167=>192|5=>5|53=>124|175=>193|46=>94|168=>195|37=>46|0=>0|210=>202|21=>21|127=>91|145=>210|143=>208|171=>141|173=>144|212=>155|51=>121|20=>20|213=>156|232=>172|233=>173|80=>58|n=>n,fun|15=>12|16=>13|17=>3|18=>9|19=>10|n=>n⟩
theorem Tryz.laysC174:Go.Proofs.LaysC.n174 Tryz.prog Tryz.laysC174_ren:={
 mixed:=by kernel_rfl
 f129:=Tryz.func109.trans (congrArg some (by kernel_rfl))
 f171:=Tryz.func166.trans (congrArg some (by kernel_rfl))
 f174:=Tryz.func144.trans (congrArg some (by kernel_rfl))
 f205:=Tryz.func165.trans (congrArg some (by kernel_rfl))
 f243:=Tryz.func172.trans (congrArg some (by kernel_rfl))
 f245:=Tryz.func150.trans (congrArg some (by kernel_rfl))
 f246:=Tryz.func81.trans (congrArg some (by kernel_rfl))
 f247:=Tryz.func149.trans (congrArg some (by kernel_rfl))
 f279:=Tryz.func156.trans (congrArg some (by kernel_rfl))
 f280:=Tryz.func157.trans (congrArg some (by kernel_rfl))
 f281:=Tryz.func158.trans (congrArg some (by kernel_rfl))
 f282:=Tryz.func159.trans (congrArg some (by kernel_rfl))
 f283:=Tryz.func96.trans (congrArg some (by kernel_rfl))
 f284:=Tryz.func97.trans (congrArg some (by kernel_rfl))
 f285:=Tryz.func98.trans (congrArg some (by kernel_rfl))
 f286:=Tryz.func99.trans (congrArg some (by kernel_rfl))
 f287:=Tryz.func155.trans (congrArg some (by kernel_rfl))
 f316:=Tryz.func164.trans (congrArg some (by kernel_rfl))
 f317:=Tryz.func108.trans (congrArg some (by kernel_rfl))
 f318:=Tryz.func110.trans (congrArg some (by kernel_rfl))
 f319:=Tryz.func111.trans (congrArg some (by kernel_rfl))
 f320:=Tryz.func112.trans (congrArg some (by kernel_rfl))
 f321:=Tryz.func162.trans (congrArg some (by kernel_rfl))
 f322:=Tryz.func163.trans (congrArg some (by kernel_rfl))
 f337:=Tryz.func123.trans (congrArg some (by kernel_rfl))
 f338:=Tryz.func124.trans (congrArg some (by kernel_rfl))
 t0:=Tryz.underlying0
 a0:=Tryz.isAgg0
 z0:=Tryz.sizeOf0
 v0:=Tryz.zeroValue0
 t2:=Tryz.underlying2
 a2:=Tryz.isAgg2
 z2:=Tryz.sizeOf2
 v2:=Tryz.zeroValue2
 t3:=Tryz.underlying3
 a3:=Tryz.isAgg3
 z3:=Tryz.sizeOf3
 v3:=Tryz.zeroValue3
 t4:=Tryz.underlying4
 a4:=Tryz.isAgg4
 z4:=Tryz.sizeOf4
 v4:=Tryz.zeroValue4
 t5:=Tryz.underlying5
 a5:=Tryz.isAgg5
 z5:=Tryz.sizeOf5
 v5:=Tryz.zeroValue5
 t9:=Tryz.underlying9
 a9:=Tryz.isAgg9
 z9:=Tryz.sizeOf9
 v9:=Tryz.zeroValue9
 t20:=Tryz.underlying20
 a20:=Tryz.isAgg20
 z20:=Tryz.sizeOf20
 v20:=Tryz.zeroValue20
 t21:=Tryz.underlying21
 a21:=Tryz.isAgg21
 z21:=Tryz.sizeOf21
 v21:=Tryz.zeroValue21
 t37:=Tryz.underlying46
 a37:=Tryz.isAgg46
 z37:=Tryz.sizeOf46
 v37:=Tryz.zeroValue46
 t46:=Tryz.underlying94
 a46:=Tryz.isAgg94
 z46:=Tryz.sizeOf94
 v46:=Tryz.zeroValue94
 t51:=Tryz.underlying121
 a51:=Tryz.isAgg121
 z51:=Tryz.sizeOf121
 v51:=Tryz.zeroValue121
 t53:=Tryz.underlying124
 a53:=Tryz.isAgg124
 z53:=Tryz.sizeOf124
 v53:=Tryz.zeroValue124
 t75:=Tryz.underlying52
 a75:=Tryz.isAgg52
 z75:=Tryz.sizeOf52
 v75:=Tryz.zeroValue52
 t85:=Tryz.underlying182
 a85:=Tryz.isAgg182
 z85:=Tryz.sizeOf182
 v85:=Tryz.zeroValue182
 t127:=Tryz.underlying91
 a127:=Tryz.isAgg91
 z127:=Tryz.sizeOf91
 v127:=Tryz.zeroValue91
 t143:=Tryz.underlying208
 a143:=Tryz.isAgg208
 z143:=Tryz.sizeOf208
 v143:=Tryz.zeroValue208
 t145:=Tryz.underlying210
 a145:=Tryz.isAgg210
 z145:=Tryz.sizeOf210
 v145:=Tryz.zeroValue210
 t167:=Tryz.underlying192
 a167:=Tryz.isAgg192
 z167:=Tryz.sizeOf192
 v167:=Tryz.zeroValue192
 t168:=Tryz.underlying195
 a168:=Tryz.isAgg195
 z168:=Tryz.sizeOf195
 v168:=Tryz.zeroValue195
 t171:=Tryz.underlying141
 a171:=Tryz.isAgg141
 z171:=Tryz.sizeOf141
 v171:=Tryz.zeroValue141
 t173:=Tryz.underlying144
 a173:=Tryz.isAgg144
 z173:=Tryz.sizeOf144
 v173:=Tryz.zeroValue144
 t175:=Tryz.underlying193
 a175:=Tryz.isAgg193
 z175:=Tryz.sizeOf193
 v175:=Tryz.zeroValue193
 t210:=Tryz.underlying202
 a210:=Tryz.isAgg202
 z210:=Tryz.sizeOf202
 v210:=Tryz.zeroValue202
 t212:=Tryz.underlying155
 a212:=Tryz.isAgg155
 z212:=Tryz.sizeOf155
 v212:=Tryz.zeroValue155
 t213:=Tryz.underlying156
 a213:=Tryz.isAgg156
 z213:=Tryz.sizeOf156
 t232:=Tryz.underlying172
 a232:=Tryz.isAgg172
 z232:=Tryz.sizeOf172
 v232:=Tryz.zeroValue172
 t233:=Tryz.underlying173
 a233:=Tryz.isAgg173
 z233:=Tryz.sizeOf173
 v233:=Tryz.zeroValue173
 g15:=by kernel_rfl
 g16:=by kernel_rfl
 g17:=by kernel_rfl
 g18:=by kernel_rfl
 g19:=by kernel_rfl
 t80:=Tryz.underlying58
 a80:=Tryz.isAgg58
 z80:=Tryz.sizeOf58
 v80:=Tryz.zeroValue58
 i0:=by kernel_rfl
 i2:=by kernel_rfl
 i3:=by kernel_rfl
 i4:=by kernel_rfl
 i5:=by kernel_rfl
 i9:=by kernel_rfl
 i20:=by kernel_rfl
 i21:=by kernel_rfl
 i37:=by kernel_rfl
 i46:=by kernel_rfl
 i51:=by kernel_rfl
 i53:=by kernel_rfl
 i75:=by kernel_rfl
 i80:=by kernel_rfl
 i85:=by kernel_rfl
 i127:=by kernel_rfl
 i143:=by kernel_rfl
 i145:=by kernel_rfl
 i167:=by kernel_rfl
 i168:=by kernel_rfl
 i171:=by kernel_rfl
 i173:=by kernel_rfl
 i175:=by kernel_rfl
 i210:=by kernel_rfl
 i212:=by kernel_rfl
 i232:=by kernel_rfl
 i233:=by kernel_rfl
 m15:=by kernel_rfl
 m16:=by kernel_rfl
 m17:=by kernel_rfl
 m18:=by kernel_rfl
 m19:=by kernel_rfl
 c0:=by kernel_rfl
 c2:=by kernel_rfl
 c3:=by kernel_rfl
 c4:=by kernel_rfl
 c5:=by kernel_rfl
 c9:=by kernel_rfl
 c20:=by kernel_rfl
 c21:=by kernel_rfl
 c37:=by kernel_rfl
 c46:=by kernel_rfl
 c51:=by kernel_rfl
 c53:=by kernel_rfl
 c75:=by kernel_rfl
 c80:=by kernel_rfl
 c85:=by kernel_rfl
 c127:=by kernel_rfl
 c143:=by kernel_rfl
 c145:=by kernel_rfl
 c167:=by kernel_rfl
 c168:=by kernel_rfl
 c171:=by kernel_rfl
 c173:=by kernel_rfl
 c175:=by kernel_rfl
 c210:=by kernel_rfl
 c212:=by kernel_rfl
 c213:=by kernel_rfl
 c232:=by kernel_rfl
 c233:=by kernel_rfl}
def Tryz.lays144_ren:Go.Shelf.Ren:=⟨fun|144=>14|143=>35|219=>58|217=>84|225=>85|224=>86|267=>87|266=>101|314=>102|n=>n,fun|9=>9|4=>4|3=>3|5=>5|46=>94|146=>122|51=>121|n=>n,fun|1=>0|n=>n⟩
theorem Tryz.lays144:Go.Proofs.Lays.n144 Tryz.prog Tryz.lays144_ren:={
 mixed:=by kernel_rfl
 f143:=Tryz.func35.trans (congrArg some (by kernel_rfl))
 f144:=Tryz.func14.trans (congrArg some (by kernel_rfl))
 f217:=Tryz.func84.trans (congrArg some (by kernel_rfl))
 f219:=Tryz.func58.trans (congrArg some (by kernel_rfl))
 f224:=Tryz.func86.trans (congrArg some (by kernel_rfl))
 f225:=Tryz.func85.trans (congrArg some (by kernel_rfl))
 f266:=Tryz.func101.trans (congrArg some (by kernel_rfl))
 f267:=Tryz.func87.trans (congrArg some (by kernel_rfl))
 f314:=Tryz.func102.trans (congrArg some (by kernel_rfl))
 t3:=Tryz.underlying3
 a3:=Tryz.isAgg3
 z3:=Tryz.sizeOf3
 v3:=Tryz.zeroValue3
 t4:=Tryz.underlying4
 a4:=Tryz.isAgg4
 z4:=Tryz.sizeOf4
 v4:=Tryz.zeroValue4
 t5:=Tryz.underlying5
 a5:=Tryz.isAgg5
 z5:=Tryz.sizeOf5
 v5:=Tryz.zeroValue5
 t9:=Tryz.underlying9
 a9:=Tryz.isAgg9
 z9:=Tryz.sizeOf9
 v9:=Tryz.zeroValue9
 t46:=Tryz.underlying94
 a46:=Tryz.isAgg94
 z46:=Tryz.sizeOf94
 v46:=Tryz.zeroValue94
 t51:=Tryz.underlying121
 a51:=Tryz.isAgg121
 z51:=Tryz.sizeOf121
 v51:=Tryz.zeroValue121
 t146:=Tryz.underlying122
 a146:=Tryz.isAgg122
 z146:=Tryz.sizeOf122
 v146:=Tryz.zeroValue122
 g1:=by kernel_rfl}
def Tryz.lays99_ren:Go.Shelf.Ren:=⟨fun|99=>12|206=>30|n=>n,fun|9=>9|4=>4|3=>3|n=>n,fun|n=>n⟩
theorem Tryz.lays99:Go.Proofs.Lays.n99 Tryz.prog Tryz.lays99_ren:={
 mixed:=by kernel_rfl
 f99:=Tryz.func12.trans (congrArg some (by kernel_rfl))
 f206:=Tryz.func30.trans (congrArg some (by kernel_rfl))
 t3:=Tryz.underlying3
 a3:=Tryz.isAgg3
 z3:=Tryz.sizeOf3
 v3:=Tryz.zeroValue3
 t4:=Tryz.underlying4
 a4:=Tryz.isAgg4
 z4:=Tryz.sizeOf4
 v4:=Tryz.zeroValue4
 t9:=Tryz.underlying9
 a9:=Tryz.isAgg9
 z9:=Tryz.sizeOf9
 v9:=Tryz.zeroValue9}
end Go.Proofs
namespace Go.Sx.Tryz
open Go Go.Sx Go.Proofs
set_option maxRecDepth 100000
variable{G:Nat→Obj→Prop}
structure TabsAt(w:World):Prop where
 mx:∃m,w.cell? ⟨0,0,none⟩=some (.int .i64 m)
 er:∃ev,w.cell? ⟨13,0,none⟩=some ev∧(ev= .nilIface∨∃te pe,ev= .iface te pe)
def jx(G:Nat→Obj→Prop):Prop:=∀D:Ctx,D.gl=G→SRel D→TabsAt D.w
theorem fc12:FIOK Tryz.prog 12 fi12:=⟨⟨Tryz.f12,Tryz.func12,rfl,rfl,rfl,by kernel_rfl⟩,by kernel_rfl⟩
theorem fc14:FIOK Tryz.prog 14 fi14:=⟨⟨Tryz.f14,Tryz.func14,rfl,rfl,rfl,by kernel_rfl⟩,by kernel_rfl⟩
theorem fc88:FIOK Tryz.prog 88 fi88:=⟨⟨Tryz.f88,Tryz.func88,rfl,rfl,rfl,by kernel_rfl⟩,by kernel_rfl⟩
theorem RF(x:an mq):SAD Tryz.prog G 12 mq dt x (hpX x):=by
 obtain⟨s,p,⟨⟩⟩:=x
 exact sX fc12 (us:=[.string ⟨⟨s⟩⟩,.string ⟨⟨p⟩⟩]) rfl (fun _=>rfl) rfl fun D hG hs=>Calls.mono (Any.strings_HasPrefix Tryz.lays99 ⟨⟨s⟩⟩ ⟨⟨p⟩⟩ D.w) fun e w' h=>⟨h.1,jb h.2 rfl⟩
theorem Ik(ht:jx G)(x:an mq)(hx:Pj x=true):SAD Tryz.prog G 14 mq dt x (Px x):=by
 obtain⟨s,p,⟨⟩⟩:=x
 refine sX fc14 (us:=[.string ⟨⟨s⟩⟩,.string ⟨⟨p⟩⟩]) rfl (fun _=>rfl) rfl fun D hG hs=>?_
 obtain⟨m,hm⟩:=(ht D hG hs).mx
 refine Calls.mono (Any.strings_Contains Tryz.lays144 ⟨⟨s⟩⟩ ⟨⟨p⟩⟩ m D.w ?_ hm) fun e w' h=>⟨h.1,jb h.2 rfl⟩
 have h1:s.length≤4000000000:=Nat.le_of_ble_eq_true hx
 show List.length s<_
 omega
theorem Rj(x:an Du):SAD Tryz.prog G 88 Du iu x (ibX x):=by
 obtain⟨s,c,⟨⟩⟩:=x
 exact sX fc88 (us:=[.string ⟨⟨s⟩⟩,.int .u8 c]) rfl (fun _=>rfl) rfl fun D hG hs=>Calls.mono (Any.strings_IndexByte Tryz.lays137 ⟨⟨s⟩⟩ c D.w) fun e w' h=>⟨h.1,jb h.2 rfl⟩
theorem yb(ht:jx G):bw Tryz.prog G gk:=.cons (aW fun x _=>RF x) (.cons (aW fun x h=>Ik ht x h) (.cons (aW fun x _=>Rj x) .nil))
end Go.Sx.Tryz
namespace Go.Sx.Tryz
open Go Go.Sx Go.Proofs
set_option maxRecDepth 100000
def RI:List UInt8:=List.append
          (List.append
           [32,99,108,97,115,115,32,101,120,116,101,110,100,115,32,105,110,105,116,32,105,110,116,32,98,111,111,108,32,100,111,117,98,
            108,101,32,115,116,114,32,118,111,105,100]
           [32,79,112,116,105,111,110,32,105,102,32,101,108,115,101,32,119,104,105,108,101,32,98,114,101,97,107,32,99,111,110,116,105,
            110,117,101,32,114,101,116,117,114,110,32,112])
          (List.append
           [114,105,110,116,32,115,117,112,101,114,32,116,104,105,115,32,110,117,108,108,32,110,111,110,101,32,115,111,109,101,32,105,
            115,32,116,114,117,101,32,102,97,108,115,101,32]
           [110,101,119,32,99,97,115,116,32,116,111,105,110,116,32,116,111,100,111,117,98,108,101,32,105,110,112,117,116,32,97,115,107,
            32,108,101,110,103,116,104,32,118,97,108,32])
def vt(s:List UInt8):Bool:=(!s==[])&&(decide (ibS s 32<0)&&Lib.contains RI ([32]++s++[32]))
def okS(s:List UInt8):Bool:=decide ((s.length:Int)≤1099511627776)
def Nu(x:an cZ):an dt:=(vt x.1,())
def ep(s:List UInt8):Bool:=(s.all fun c=>aC c.toNat)&& !s==[]
def G1(x:an cZ):an dt:=(ep x.1,())
def kR(first:Bool)(c:UInt8):Bool:=isLet c.toNat||(!first&&aC c.toNat)
def bW(s:List UInt8):Bool:=(match s with|[]=>true|c::r=>kR true c&&r.all (kR false))&&((!s==[])&&(decide ((s.length:Int)≤64)&& !vt s))
def MR(x:an cZ):an dt:=(bW x.1,())
def fR(x:an cZ):Bool:=okS x.1
def qF:List (Nat×aX):=[(61,cq 61 jr dt (fun _=>true) LW),(63,cq 63 jr dt (fun _=>true) Ml),(103,cq 103 cZ dt fR Nu)]
def jy:List Cut:=[⟨[true,false,true,false,false],some ⟨[(0,[]),(5,[]),(6,[])],[]⟩⟩]
def JK(s:List UInt8)(l k:Int):St:={tmps:=[(0,.str s),(5,.int .i64 l),(6,.int .i64 k)],blks:=[],next:=0}
end Go.Sx.Tryz
namespace Go.Sx.Tryz
open Go Go.Sx
set_option maxRecDepth 100000
theorem HU(J:Jump R0)(s:List UInt8):start E (au []) oC jy J [.str s] [] .ok=J 0 {tmps:=[(0,AV.str s),(5,Iz (↑(List.length s):Int)),(6,Iz 0)],blks:=[],next:=0}:=by kernel_rfl
theorem Dx(J:Jump R0)(s:List UInt8)(l k:Int):resume E (au []) (aT 0 jy 0) J [true,false,true,false,false] oC.code 1 (JK s l k) (cv E 0 oC.results .ok)=bif decide (k<l)then bif inI k (List.length s)then bif decide ((↑(UInt8.toNat (List.getD s (Int.toNat k) 0)):Int)<48)then Rs.ok (Out.ret (AV.bool false),[])else bif inI k (List.length s)then bif decide ((↑(UInt8.toNat (List.getD s (Int.toNat k) 0)):Int)>57)then Rs.ok (Out.ret (AV.bool false),[])else J 0 {tmps:=[(0,AV.str s),(5,Iz l),(6,Iz (IntKind.wrap IntKind.i64 (k+1)))],blks:=[],next:=0}else Rs.err 407 else Rs.err 402 else Rs.ok (Out.ret (AV.bool !s==[]),[]):=by kernel_rfl
theorem Lt(J:Jump R0)(s:List UInt8):start E (au qF) uE jy J [.str s] [] .ok=J 0 {tmps:=[(0,AV.str s),(5,Iz (↑(List.length s):Int)),(6,Iz 0)],blks:=[],next:=0}:=by kernel_rfl
theorem G8(J:Jump R0)(s:List UInt8)(l k:Int):resume E (au qF) (aT 0 jy 0) J [true,false,true,false,false] uE.code 1 (JK s l k) (cv E 0 uE.results .ok)=bif decide (k<l)then bif inI k (List.length s)then bif !isLet (↑(UInt8.toNat (List.getD s (Int.toNat k) 0)):Int)then bif k==0 then Rs.ok (Out.ret (AV.bool false),[])else bif inI k (List.length s)then bif !aC (↑(UInt8.toNat (List.getD s (Int.toNat k) 0)):Int)then Rs.ok (Out.ret (AV.bool false),[])else J 0 {tmps:=[(0,AV.str s),(5,Iz l),(6,Iz (IntKind.wrap IntKind.i64 (k+1)))],blks:=[],next:=0}else Rs.err 411 else J 0 {tmps:=[(0,AV.str s),(5,Iz l),(6,Iz (IntKind.wrap IntKind.i64 (k+1)))],blks:=[],next:=0}else Rs.err 402 else bif !s==[]then bif decide ((↑(List.length s):Int)≤64)then bif fR (s,())then Rs.ok (Out.ret (AV.bool !vt s),[])else Rs.err 3000103 else Rs.ok (Out.ret (AV.bool false),[])else Rs.ok (Out.ret (AV.bool false),[]):=by kernel_rfl
end Go.Sx.Tryz
namespace Go.Sx.Tryz
open Go Go.Sx Go.Proofs
set_option maxRecDepth 100000
variable{G:Nat→Obj→Prop}
theorem j8{s:List UInt8}:okS s=true↔(s.length:Int)≤1099511627776:=by simp only[okS,decide_eq_true_eq]
theorem KN(ht:jx G)(x:an cZ)(hx:fR x=true):SAD Tryz.prog G 103 cZ dt x (Nu x):=by
 obtain⟨s,⟨⟩⟩:=x
 have h1:(List.length s:Int)≤1099511627776:=j8.1 hx
 have key:∀s:List UInt8,(s.length:Int)≤1099511627776→body (R:=R0) E (au gk) Eb [.str s] [] .ok=Rs.ok (uC (vt s)):=fun s h1=>by
  rw[KJ]
  unfold vt
  cases (!s==[])
  ·rfl
  ·cases decide (ibS s 32<0)
   ·rfl
   ·simp only[cond_true,Bool.true_and]
    refine(mX ?_).trans ((mX ?_).trans rfl)
    ·show 1+s.length<_
     omega
    ·show([32]++s).length+1<_
     rw[List.length_append]
     show 1+s.length+1<_
     omega
 exact cg (bb []) (aQ (yb ht)) Nk (key s h1)
theorem Fa(c:Int):aC c=(!decide (c<48)&& !decide (c>57)):=by
 unfold aC
 congr 1
 ·rw[Bool.eq_iff_iff];simp
 ·rw[Bool.eq_iff_iff];simp
theorem vj{s:List UInt8}(hs:(s.length:Int)≤1099511627776):∀(r pre:List UInt8) (fuel:Nat),s=pre++r→r.length<fuel→pieces (R:=R0) E (au []) oC jy 0 .ok fuel 0 (JK s s.length pre.length)= .ok (uC ((r.all fun c=>aC c.toNat)&& !s==[]))
 |r,pre,0,_,hf=>by omega
 |[],pre,fuel+1,hp,_=>by
  refine(Dx (pieces (R:=R0) E (au []) oC jy 0 .ok fuel) s s.length pre.length).trans ?_
  have h1:¬((pre.length:Int)<s.length):=by rw[hp,List.append_nil];omega
  simp only[h1,decide_false,cond_false]
  rfl
 |c::r,pre,fuel+1,hp,hf=>by
  have hlen:pre.length+1+r.length=s.length:=by rw[hp];simp;omega
  have ih:=vj hs r (pre++[c]) fuel (by simp[hp]) (by simpa using hf)
  refine(Dx (pieces (R:=R0) E (au []) oC jy 0 .ok fuel) s s.length pre.length).trans ?_
  have h1:(pre.length:Int)<s.length:=by omega
  have h2:inI (pre.length:Int) s.length=true:=bZ (by omega) (by omega)
  have h3:List.getD s pre.length 0=c:=by rw[hp];exact eu _ _ _
  have h4:IntKind.wrap .i64 ((pre.length:Int)+1)=(pre.length:Int)+1:=wrap64 (by omega) (by omega)
  have h5:(((pre++[c]).length:Nat):Int)=(pre.length:Int)+1:=by simp
  simp only[h1,h2,h3,h4,Int.toNat_natCast,decide_true,cond_true,List.all_cons,Fa (c.toNat:Int)]
  cases decide ((c.toNat:Int)<48)
  ·cases decide ((c.toNat:Int)>57)
   ·rw[h5]at ih
    exact ih
   ·rfl
  ·rfl
theorem DP(x:an cZ)(hx:fR x=true):SAD Tryz.prog G 143 cZ dt x (G1 x):=by
 obtain⟨s,⟨⟩⟩:=x
 have hs:(List.length s:Int)≤1099511627776:=j8.1 hx
 have h:=vj hs s [] (s.length+1) rfl (Nat.lt_succ_self _)
 exact bu (bb []) (aQ .nil) MP (.inl cN) ((HU (pieces (R:=R0) E (au []) oC jy 0 .ok (s.length+1)) s).trans h)
def yX(s:List UInt8):Bool:=(!s==[])&&(decide ((s.length:Int)≤64)&& !vt s)
theorem wQ{s:List UInt8}(hs:(s.length:Int)≤1099511627776):∀(r pre:List UInt8) (fuel:Nat),s=pre++r→r.length<fuel→pieces (R:=R0) E (au qF) uE jy 0 .ok fuel 0 (JK s s.length pre.length)= .ok (uC ((match r with|[]=>true|c::r=>kR (pre.length==0) c&&r.all (kR false))&&yX s))
 |r,pre,0,_,hf=>by omega
 |[],pre,fuel+1,hp,_=>by
  refine(G8 (pieces (R:=R0) E (au qF) uE jy 0 .ok fuel) s s.length pre.length).trans ?_
  have h1:¬((pre.length:Int)<s.length):=by rw[hp,List.append_nil];omega
  have h2:fR (s,())=true:=j8.2 hs
  simp only[h1,decide_false,cond_false,h2,cond_true]
  unfold yX
  cases (!s==[])
  ·rfl
  ·cases decide ((s.length:Int)≤64)<;>rfl
 |c::r,pre,fuel+1,hp,hf=>by
  have hlen:pre.length+1+r.length=s.length:=by rw[hp];simp;omega
  have ih:=wQ hs r (pre++[c]) fuel (by simp[hp]) (by simpa using hf)
  refine(G8 (pieces (R:=R0) E (au qF) uE jy 0 .ok fuel) s s.length pre.length).trans ?_
  have h1:(pre.length:Int)<s.length:=by omega
  have h2:inI (pre.length:Int) s.length=true:=bZ (by omega) (by omega)
  have h3:List.getD s pre.length 0=c:=by rw[hp];exact eu _ _ _
  have h4:IntKind.wrap .i64 ((pre.length:Int)+1)=(pre.length:Int)+1:=wrap64 (by omega) (by omega)
  have h5:(((pre++[c]).length:Nat):Int)=(pre.length:Int)+1:=by simp
  have h6:((pre++[c]).length==0)=false:=by simp
  have h7:((pre.length:Int)==0)=(pre.length==0):=by
   rw[Bool.eq_iff_iff]
   simp only[beq_iff_eq]
   omega
  have h8:(match r with|[]=>true|c::r=>kR ((pre++[c]).length==0) c&&r.all (kR false))=r.all (kR false):=by
   cases r with
   |nil=>rfl
   |cons d r=>simp
  have ih2:pieces (R:=R0) E (au qF) uE jy 0 .ok fuel 0 (JK s s.length ((pre.length:Int)+1))= .ok (uC (r.all (kR false)&&yX s)):=by
   rw[h5]at ih
   refine ih.trans ?_
   cases r with
   |nil=>rfl
   |cons d r=>rw[h6];rfl
  simp only[h1,h2,h3,h4,h7,Int.toNat_natCast,decide_true,cond_true]
  show _=Rs.ok (uC ((isLet c.toNat||(!(pre.length==0)&&aC c.toNat))&&r.all (kR false)&&yX s))
  cases isLet (c.toNat:Int)
  ·cases pre.length==0
   ·cases aC (c.toNat:Int)
    ·rfl
    ·exact ih2
   ·rfl
  ·exact ih2
theorem H0(ht:jx G):bw Tryz.prog G qF:=.cons (aW fun x _=>Cl x) (.cons (aW fun x _=>CC x) (.cons (aW fun x h=>KN ht x h) .nil))
theorem Mi(ht:jx G)(x:an cZ)(hx:fR x=true):SAD Tryz.prog G 91 cZ dt x (MR x):=by
 obtain⟨s,⟨⟩⟩:=x
 have hs:(List.length s:Int)≤1099511627776:=j8.1 hx
 have h:=wQ hs s [] (s.length+1) rfl (Nat.lt_succ_self _)
 have e:∀s:List UInt8,((match s with|[]=>true|c::r=>kR (([]:List UInt8).length==0) c&&r.all (kR false))&&yX s)=bW s:=fun s=>by
  cases s<;>rfl
 have h9:=h.trans (congrArg (fun b=>Rs.ok (uC b)) (e s))
 exact bu (bb []) (aQ (H0 ht)) SN (.inl cN) ((Lt (pieces (R:=R0) E (au qF) uE jy 0 .ok (s.length+1)) s).trans h9)
end Go.Sx.Tryz
namespace Go.Proofs
open Go.Shelf
def Tryz.lays169_ren:Go.Shelf.Ren:=⟨fun|169=>19|n=>n,fun|70=>45|9=>9|0=>0|72=>48|37=>46|127=>91|3=>3|5=>5|n=>n,fun|n=>n⟩
theorem Tryz.lays169:Go.Proofs.Lays.n169 Tryz.prog Tryz.lays169_ren:={
 mixed:=by kernel_rfl
 f169:=Tryz.func19.trans (congrArg some (by kernel_rfl))
 t0:=Tryz.underlying0
 a0:=Tryz.isAgg0
 z0:=Tryz.sizeOf0
 v0:=Tryz.zeroValue0
 t3:=Tryz.underlying3
 a3:=Tryz.isAgg3
 z3:=Tryz.sizeOf3
 v3:=Tryz.zeroValue3
 t9:=Tryz.underlying9
 a9:=Tryz.isAgg9
 z9:=Tryz.sizeOf9
 v9:=Tryz.zeroValue9
 t37:=Tryz.underlying46
 a37:=Tryz.isAgg46
 z37:=Tryz.sizeOf46
 v37:=Tryz.zeroValue46
 t70:=Tryz.underlying45
 a70:=Tryz.isAgg45
 z70:=Tryz.sizeOf45
 v70:=Tryz.zeroValue45
 t72:=Tryz.underlying48
 a72:=Tryz.isAgg48
 z72:=Tryz.sizeOf48
 v72:=Tryz.zeroValue48
 t127:=Tryz.underlying91
 a127:=Tryz.isAgg91
 z127:=Tryz.sizeOf91
 v127:=Tryz.zeroValue91}
theorem Tryz.Builder_Extra_169:Builder.Extra Tryz.prog Tryz.lays169_ren:={
 sizeBuilder:=by kernel_rfl
 liesBuilder:=by kernel_rfl
 t5:=Tryz.underlying5
 a5:=Tryz.isAgg5
 z5:=Tryz.sizeOf5
 v5:=Tryz.zeroValue5
 infoByte:=by kernel_rfl
 cellsByte:=by kernel_rfl
 sizeByte:=by kernel_rfl
 neB5:=by decide}
open Go.RowKit
set_option maxHeartbeats 1000000 in
set_option maxRecDepth 100000 in
theorem Tryz.cc_used(b:Nat)(w:World)(h0:w.cell? ⟨b,0,none⟩=some (.pointer (some ⟨b,0,none⟩))):
  Calls Tryz.prog 38 #[.pointer (some ⟨b,0,none⟩)] w fun e w'=>e= .returned (.tuple #[])∧w'=w:=by
 obtain⟨j,hj,_⟩:=Option.map_eq_some_iff.1 Tryz.Builder_Extra_169.sizeBuilder
 go_enter Tryz.func38,Tryz.ntmps38
 go_wp2
 rw[Lib.run_neq_ptr_same w _ Tryz.underlying45 hj]
 go_wp2
 go_end0
 exact⟨rfl,rfl⟩
set_option maxHeartbeats 1000000 in
set_option maxRecDepth 100000 in
theorem Tryz.cc_fresh(b:Nat)(w:World)(h0:w.cell? ⟨b,0,none⟩=some (.pointer none))(hsh:w.shape? b=some (48,2))(hfz:w.frozen? ⟨b,0,none⟩=false):
  Calls Tryz.prog 38 #[.pointer (some ⟨b,0,none⟩)] w fun e w'=>e= .returned (.tuple #[])∧w'=w.setCell ⟨b,0,none⟩ (.pointer (some ⟨b,0,none⟩)):=by
 obtain⟨j,hj,hjs⟩:=Option.map_eq_some_iff.1 Tryz.Builder_Extra_169.sizeBuilder
 go_enter Tryz.func38,Tryz.ntmps38
 go_wp2
 rw[Lib.run_to_unsafe w ⟨b,0,none⟩ Tryz.underlying45 Tryz.underlying118 hj (by rw[hjs];decide) hsh (Nat.zero_lt_succ 1)]
 simp only[Result.andThen]
 rw[Oper.upon_value]
 go_wp2
 rw[run_callFunc_extern Tryz.func66 (by kernel_rfl) (by kernel_rfl) (by kernel_rfl) (e:=Extern.AbiNoEscape.same) (by kernel_rfl)]
 rw[Lib.run_noEscape]
 simp only[Result.andThen]
 rw[Oper.upon_value]
 go_wp2
 rw[Lib.run_from_unsafe w ⟨b,0,none⟩ Tryz.underlying118 Tryz.underlying45 hj hsh Tryz.Builder_Extra_169.liesBuilder]
 simp only[Result.andThen]
 rw[Oper.upon_value]
 go_wp2
 go_end0
 exact⟨rfl,rfl⟩
end Go.Proofs
namespace Go.Sx.Tryz
open Go Go.Sx Go.Proofs
set_option maxRecDepth 100000
variable{G:Nat→Obj→Prop}
def bsB(s:List Int):List Blk:=[.cells 48 [.bself 0,.own 1 0],.list 5 (.int .u8) 0 false s]
theorem fc38:FIOK Tryz.prog 38 fi38:=⟨⟨Tryz.f38,Tryz.func38,rfl,rfl,rfl,by kernel_rfl⟩,by kernel_rfl⟩
theorem fc19:FIOK Tryz.prog 19 fi19:=⟨⟨Tryz.f19,Tryz.func19,rfl,rfl,rfl,by kernel_rfl⟩,by kernel_rfl⟩
theorem G6:aP Tryz.prog G 38 (ofT 38 (gO 48)):=by
 refine lr ?_ (xg 48)
 exact uB fc38 (fun b w h0 hsh hfz=>Tryz.cc_fresh b w h0 hsh hfz) (fun b w h0=>Tryz.cc_used b w h0)
theorem Ck:aP Tryz.prog G 19 (ofT 19 (lX 48 5)):=by
 refine lr ?_ (E2 48 5)
 exact BR fc19 (fun b g o cap p l w h0 hcap h63 cur fz hbk hg hsz hcell=>Bl Tryz.lays169 Tryz.Builder_Extra_169 b g o cap p l w h0 hcap h63 cur fz hbk hg hsz hcell)
   (fun b p w h=>zP Tryz.lays169 Tryz.Builder_Extra_169 b p w h) (fun b g o p cur w h fz hg=>uL Tryz.lays169 Tryz.Builder_Extra_169 b g o p cur w h fz hg)
   (fun b g o cap p w hc h=>zq Tryz.lays169 Tryz.Builder_Extra_169 b g o cap p w hc h)
def ma:List (Nat×aX):=[(38,ofT 38 (gO 48))]
def app(s t:List Int):List Int:=s++t
theorem Lc(s:List Int)(c:Int)(h:s.length+1<ao):body (R:=R0) E (au ma) LF [.ref 0 0,.int .u8 c] (bsB s) .ok=
  .ok (.ret .nili,[.cells 48 [.bself 0,.own 1 1],.list 5 (.int .u8) 1 false (s++[c])]):=by
 have h1:body (R:=R0) E (au ma) LF [.ref 0 0,.int .u8 c] (bsB s) .ok=(bif decide (s.length+1<ao)then .ok (.ret .nili,[.cells 48 [.bself 0,.own 1 1],.list 5 (.int .u8) 1 false (s++[c])])else .err 207):=by kernel_rfl
 rw[h1]
 simp only[h,decide_true,cond_true]
def wbC:aX:=fun R args bs k=>match args,bs with
 |[.ref 0 0,.int .u8 c],[.cells 48 [.bself 0,.own 1 0],.list 5 (.int .u8) 0 false s]=>(match decide (List.length s+1<ao)with
  |true=>k (.ret .nili,[.cells 48 [.bself 0,.own 1 1],.list 5 (.int .u8) 1 false (app s [c])])
  |false=>.err 17)
 |_,_=>.err 17
theorem Ig:aP Tryz.prog G 17 wbC:=fun R args bs k r hr=>by
 unfold wbC at hr
 split at hr
 ·split at hr
  ·rename_i hd
   exact⟨_,hr,cg (bb []) (aQ (.cons G6 .nil)) Q5 (Lc _ _ (of_decide_eq_true hd))⟩
  ·cases hr
 ·cases hr
end Go.Sx.Tryz
