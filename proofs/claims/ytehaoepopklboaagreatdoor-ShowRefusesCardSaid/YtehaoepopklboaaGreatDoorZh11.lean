/- A part of the proof: see the row's text. -/
import Derived.Test.YtehaoepopklboaaGreatDoorZh10
import Derived.Shelf.LaysC
import Derived.Shelf.Strconv.ParseIntPublic10
set_option linter.unusedVariables false
set_option linter.unusedSimpArgs false
noncomputable section
namespace Go.Sx.Tryz
open Go Go.Sx Go.Proofs
set_option maxRecDepth 100000
variable{G:Nat→Obj→Prop}
theorem jN(T:List UInt8)(a:Int):List.drop (Int.toNat a) (List.take (Int.toNat (T.length:Int)) T)=aN T a:=by
 rw[Int.toNat_natCast,List.take_length]
 rfl
theorem uY{T pre r:List UInt8}(h:T=pre++r):aN T (pre.length:Int)=r:=by
 unfold aN
 rw[h,Int.toNat_natCast,List.drop_left]
theorem gk{T:List UInt8}{a:Int}(h0:0≤a)(h1:a≤T.length):((aN T a).length:Int)=T.length-a:=by
 unfold aN
 rw[List.length_drop]
 omega
theorem DN{T:List UInt8}{a:Int}(h0:0≤a)(i:Nat):(aN T a).getD i 0=T.getD (a.toNat+i) 0:=by
 unfold aN
 simp[List.getD,List.getElem?_drop]
theorem oX(pre:List UInt8)(c:UInt8)(r:List UInt8):inI (pre.length:Int) (pre++c::r).length=true:=by
 simp only[inI,List.length_append,List.length_cons,Bool.and_eq_true,decide_eq_true_eq]
 omega
theorem KG(x:ai fZ):SAD Tryz.prog G 74 fZ cd x (Mv x):=by
 obtain⟨c,⟨⟩⟩:=x
 have key:∀c:Int,body (R:=R0) E (an []) E7 [.int .u8 c] [] .ok=Rs.ok (pT (bt c)):=fun c=>by
  rw[IS]
  unfold bt
  cases (c==(32:Int))<;>cases (c==(9:Int))<;>cases (c==(10:Int))<;>rfl
 exact bb (aS []) (aE .nil) L7 (key c)
theorem xk(x:ai fZ):SAD Tryz.prog G 37 fZ cd x (EE x):=by
 obtain⟨c,⟨⟩⟩:=x
 have key:∀c:Int,body (R:=R0) E (an []) Gs [.int .u8 c] [] .ok=Rs.ok (pT (isLet c)):=fun c=>by
  rw[Jt]
  unfold isLet
  cases decide (c≥97)<;>cases decide (c≤122)<;>cases decide (c≥65)<;>cases decide (c≤90)<;>rfl
 exact bb (aS []) (aE .nil) M1 (key c)
theorem xn(x:ai fZ):SAD Tryz.prog G 38 fZ cd x (EF x):=by
 obtain⟨c,⟨⟩⟩:=x
 have key:∀c:Int,body (R:=R0) E (an []) Ff [.int .u8 c] [] .ok=Rs.ok (pT (aM c)):=fun c=>by
  rw[J8]
  unfold aM
  cases decide (c≥48)<;>cases decide (c≤57)<;>rfl
 exact bb (aS []) (aE .nil) Li (key c)
def GM:List (Nat×aQ):=[(37,bg 37 fZ cd (fun _=>true) EE),(38,bg 38 fZ cd (fun _=>true) EF)]
theorem Gr(c:Int):body (R:=R0) E (an GM) EZ [.int .u8 c] [] .ok=bif isLet c then Rs.ok (Out.ret (AV.bool true),[])else Rs.ok (Out.ret (AV.bool (aM c)),[]):=by kernel_rfl
theorem Ip(x:ai fZ):SAD Tryz.prog G 75 fZ cd x (NR x):=by
 obtain⟨c,⟨⟩⟩:=x
 have key:∀c:Int,body (R:=R0) E (an GM) EZ [.int .u8 c] [] .ok=Rs.ok (pT (fu c)):=fun c=>by
  rw[Gr]
  unfold fu
  cases isLet c<;>rfl
 exact bb (aS []) (aE (.cons (aD fun x _=>xk x) (.cons (aD fun x _=>xn x) .nil))) L4 (key c)
theorem yI:aT Tryz.prog G jS:=.cons (aD fun x _=>KG x) (.cons (aD fun x _=>xk x) (.cons (aD fun x _=>Ip x) (.cons (aD fun x _=>xn x) .nil)))
def ed(g:Nat)(v:AV)(T:List UInt8)(a:Int)(K:List Tok):R0:=(.ret v,[.cells 89 [.str T,.int .i64 a,.own 1 g],.list 46 aH g false K])
theorem lL(T:List UInt8)(a:Int)(K:List Tok):xq (bsR T a K):=fun ee tt gg sh l hm=>by
 simp only[bsR,List.mem_cons,List.not_mem_nil,or_false,reduceCtorEq,false_or]at hm
 cases hm
 rfl
theorem uR{f g:Nat}{args:List AV}{v:AV}{T:List UInt8}{a a':Int}{K K':List Tok}(h:SA Tryz.prog G f args (bsR T a K) (ed g v T a' K'))(hv:∀get,gV get (fun _=>1) v=some v)(hp:bz v=true):
  SA Tryz.prog G f args (bsR T a K) (.ret v,pX T a' K'):=by
 refine SA.bump (q:=fun _=>1) h (lL T a K) (fun _ _=>Nat.le_refl _) (hv _) ?_ (by rw[hp];rfl)
 simp[gBs,gB,cZ,gA,aq,aC,pX]
theorem nW{f:Nat}{rs:Sig}{p:List UInt8→Int→Bool}{F:List UInt8→Int→ai rs}{A:List UInt8→Int→Int}
  (h:∀(T:List UInt8) (a:Int) (K:List Tok),p T a=true→SA Tryz.prog G f [.ref 0 0] (bsR T a K) (.ret (cr rs (F T a)),pX T (A T a) K)):aK Tryz.prog G f (rdC f rs p F A):=fun R args bs k r hr=>by
 unfold rdC at hr
 split at hr
 ·split at hr
  ·rename_i K' hc
   split at hr
   ·rename_i hd
    obtain⟨e,hK⟩:=fb hc
    subst e
    subst hK
    exact⟨_,hr,h _ _ _ hd⟩
   ·cases hr
  ·cases hr
 ·cases hr
theorem gm(p:Int→Bool)(c:UInt8)(r:List UInt8):aP p (c::r)=bif p c.toNat then aP p r+1 else 0:=by
 unfold aP
 rw[List.takeWhile_cons]
 cases p (c.toNat:Int)<;>rfl
theorem dD(p:Int→Bool):∀s:List UInt8,aP p s≤s.length
 |[]=>Nat.le_refl _
 |c::s=>by
  rw[gm]
  have:=dD p s
  cases p (c.toNat:Int)<;>simp<;>omega
theorem yu{f:Nat}{p:Int→Bool}(heq:∀(J:Jump R0) (T:List UInt8) (a:Int) (K:List Tok),resume E (an jS) (aR 2 gb 0) J [false,false] fQ.code 1 (sU T a K f) (bX E 2 fQ.results .ok)=
  bif decide (a<(T.length:Int))then bif inI a T.length then bif p ((List.getD T (Int.toNat a) 0).toNat:Int)then J 0 (sU T (IntKind.wrap .i64 (a+1)) K f)else .ok (ed 1 (.tup []) T a K)else .err 20 else .ok (ed 1 (.tup []) T a K))
  {T:List UInt8} {K:List Tok} (hT:(T.length:Int)≤1099511627776):∀(r pre:List UInt8) (fuel:Nat),T=pre++r→r.length<fuel→pieces (R:=R0) E (an jS) fQ gb 2 .ok fuel 0 (sU T pre.length K f)= .ok (ed 1 (.tup []) T ((pre.length:Int)+aP p r) K)
 |r,pre,0,_,hf=>by omega
 |[],pre,fuel+1,hp,_=>by
  refine(heq (pieces (R:=R0) E (an jS) fQ gb 2 .ok fuel) T pre.length K).trans ?_
  have h1:¬((pre.length:Int)<T.length):=by rw[hp,List.append_nil];omega
  simp only[h1,decide_false,cond_false]
  show _=Rs.ok (ed 1 (.tup []) T ((pre.length:Int)+0) K)
  rw[Int.add_zero]
 |c::r,pre,fuel+1,hp,hf=>by
  have hlen:pre.length+1+r.length=T.length:=by rw[hp];simp;omega
  have ih:=yu (K:=K) heq hT r (pre++[c]) fuel (by simp[hp]) (by simpa using hf)
  refine(heq (pieces (R:=R0) E (an jS) fQ gb 2 .ok fuel) T pre.length K).trans ?_
  have h1:(pre.length:Int)<T.length:=by omega
  have h2:inI (pre.length:Int) T.length=true:=by rw[hp];exact oX _ _ _
  have h3:List.getD T pre.length 0=c:=by rw[hp];exact cV _ _ _
  have h4:IntKind.wrap .i64 ((pre.length:Int)+1)=(pre.length:Int)+1:=wrap64 (by omega) (by omega)
  have h5:(((pre++[c]).length:Nat):Int)=(pre.length:Int)+1:=by simp
  simp only[h1,h2,h3,h4,Int.toNat_natCast,decide_true,cond_true]
  rw[gm]
  cases p (c.toNat:Int)
  ·simp only[cond_false]
   show _=Rs.ok (ed 1 (.tup []) T ((pre.length:Int)+0) K)
   rw[Int.add_zero]
  ·simp only[cond_true]
   rw[h5]at ih
   rw[ih]
   congr 2
   omega
theorem oq{T:List UInt8}{a:Int}(h0:0≤a)(h1:a≤T.length):∃pre,T=pre++aN T a∧(pre.length:Int)=a:=by
 refine⟨T.take a.toNat,?_,?_⟩
 ·unfold aN
  rw[List.take_append_drop]
 ·rw[List.length_take];omega
theorem gW{T:List UInt8}{a:Int}:okA T a=true↔0≤a∧a≤T.length∧(T.length:Int)≤1099511627776:=by simp only[okA,Bool.and_eq_true,decide_eq_true_eq]
theorem fV{T:List UInt8}{a:Int}:iC T a=true↔0≤a∧a<T.length∧(T.length:Int)≤1099511627776:=by simp only[iC,Bool.and_eq_true,decide_eq_true_eq]
theorem Bq:aK Tryz.prog G 73 whC:=fun R args bs k r hr=>by
 unfold whC at hr
 split at hr
 ·rename_i f T a tK K
  split at hr
  ·rename_i K' hc
   split at hr
   ·rename_i hd
    obtain⟨e,hK⟩:=fb hc
    subst e
    subst hK
    simp only[Bool.and_eq_true,Bool.or_eq_true]at hd
    obtain⟨hf,ha⟩:=hd
    obtain⟨a0,a1,a2⟩:=gW.1 ha
    obtain⟨pre,hp,hl⟩:=oq a0 a1
    refine⟨_,hr,?_⟩
    have fin:∀{f:Nat} {p:Int→Bool},pOf f=p→(∀(J:Jump R0) (T:List UInt8) (a:Int) (K:List Tok),start E (an jS) fQ gb J [.ref 0 0,.fn f []] (bsR T a K) .ok=J 0 (sU T a K f))→(∀(J:Jump R0) (T:List UInt8) (a:Int) (K:List Tok),resume E (an jS) (aR 2 gb 0) J [false,false] fQ.code 1 (sU T a K f) (bX E 2 fQ.results .ok)=
      bif decide (a<(T.length:Int))then bif inI a T.length then bif p ((List.getD T (Int.toNat a) 0).toNat:Int)then J 0 (sU T (IntKind.wrap .i64 (a+1)) K f)else .ok (ed 1 (.tup []) T a K)else .err 20 else .ok (ed 1 (.tup []) T a K))→
      SA Tryz.prog G 73 [.ref 0 0,.fn f []] (bsR T a K) (.ret (.tup []),pX T (whI (pOf f) T a) K):=fun{f p} hpf hs hl0=>by
     have h:=yu (K:=K) hl0 a2 (aN T a) pre ((aN T a).length+1) hp (by omega)
     rw[hl]at h
     have h2:=(hs (pieces (R:=R0) E (an jS) fQ gb 2 .ok ((aN T a).length+1)) T a K).trans h
     rw[←hpf]at h2
     exact uR (bh (aS []) (aE yI) MU (.inl (lL T a K)) h2) (fun _=>rfl) rfl
    rcases hf with hf|hf|hf
    ·have:=beq_eq hf
     subst this
     exact fin (p:=bt) rfl BV F7
    ·have:=beq_eq hf
     subst this
     exact fin (p:=fu) rfl D9 E3
    ·have:=beq_eq hf
     subst this
     exact fin (p:=aM) rfl Cf FD
   ·cases hr
  ·cases hr
 ·cases hr
end Go.Sx.Tryz
namespace Go.Sx.Tryz
open Go Go.Sx Go.Proofs
set_option maxRecDepth 100000
variable{G:Nat→Obj→Prop}
def nl(c:Int):Bool:=c !=10
theorem FG{r:List UInt8}(h:Lib.hasPrefix r [47,47]=true):∃r',r=47::r':=by
 cases r with
 |nil=>exact absurd h (by decide)
 |cons c r=>
  refine⟨r,?_⟩
  simp[Lib.hasPrefix,List.isPrefixOf]at h
  rw[h.1]
theorem Dw(J:Jump R0){T:List UInt8}{K:List Tok}{a:Int}{c:UInt8}(h1:a<T.length)(h2:inI a T.length=true)(h3:List.getD T a.toNat 0=c)(h4:IntKind.wrap .i64 (a+1)=a+1)(hc:nl (c.toNat:Int)=true):
  resume E (an ek) (aR 2 eV 0) J [false,false,false,true,true,false,false] fh.code 1 (mkR T a K) (bX E 2 fh.results .ok)=J 1 (mkR T (a+1) K):=by
 unfold nl at hc
 rw[rS,decide_eq_true h1,h2,h3,hc,h4]
 rfl
theorem DP(J:Jump R0){T:List UInt8}{K:List Tok}{a:Int}{c:UInt8}(h1:a<T.length)(h2:inI a T.length=true)(h3:List.getD T a.toNat 0=c)(hc:nl (c.toNat:Int)=false):
  resume E (an ek) (aR 2 eV 0) J [false,false,false,true,true,false,false] fh.code 1 (mkR T a K) (bX E 2 fh.results .ok)=J 0 (mkR T a K):=by
 unfold nl at hc
 rw[rS,decide_eq_true h1,h2,h3,hc]
 rfl
theorem B6(J:Jump R0){T:List UInt8}{K:List Tok}{a:Int}(h1:¬a<T.length):
  resume E (an ek) (aR 2 eV 0) J [false,false,false,true,true,false,false] fh.code 1 (mkR T a K) (bX E 2 fh.results .ok)=J 0 (mkR T a K):=by
 rw[rS,decide_eq_false h1]
 rfl
theorem yy{T:List UInt8}{K:List Tok}(hT:(T.length:Int)≤1099511627776):∀(r pre:List UInt8) (fuel:Nat),T=pre++r→pieces (R:=R0) E (an ek) fh eV 2 .ok (fuel+(aP nl r+1)) 1 (mkR T pre.length K)=pieces (R:=R0) E (an ek) fh eV 2 .ok fuel 0 (mkR T ((pre.length:Int)+aP nl r) K)
 |[],pre,fuel,hp=>by
  rw[show aP nl []=0 from rfl]
  have h1:¬((pre.length:Int)<T.length):=by rw[hp,List.append_nil];omega
  refine((aW rfl).trans (B6 (pieces (R:=R0) E (an ek) fh eV 2 .ok fuel) h1)).trans ?_
  rw[show(pre.length:Int)+((0:Nat):Int)=pre.length by omega]
 |c::r,pre,fuel,hp=>by
  have hlen:pre.length+1+r.length=T.length:=by rw[hp];simp;omega
  have ih:=yy (K:=K) hT r (pre++[c]) fuel (by simp[hp])
  have h1:(pre.length:Int)<T.length:=by omega
  have h2:inI (pre.length:Int) T.length=true:=by rw[hp];exact oX _ _ _
  have h3:List.getD T (pre.length:Int).toNat 0=c:=by rw[Int.toNat_natCast,hp];exact cV _ _ _
  have h4:IntKind.wrap .i64 ((pre.length:Int)+1)=(pre.length:Int)+1:=wrap64 (by omega) (by omega)
  have h5:(((pre++[c]).length:Nat):Int)=(pre.length:Int)+1:=by simp
  rw[gm]
  cases hc:nl (c.toNat:Int)
  ·rw[cond_false]
   refine((aW rfl).trans (DP (pieces (R:=R0) E (an ek) fh eV 2 .ok fuel) h1 h2 h3 hc)).trans ?_
   rw[show(pre.length:Int)+((0:Nat):Int)=pre.length by omega]
  ·rw[cond_true]
   refine((aW rfl).trans (Dw (pieces (R:=R0) E (an ek) fh eV 2 .ok (fuel+(aP nl r+1))) h1 h2 h3 h4 hc)).trans ?_
   rw[h5]at ih
   refine ih.trans ?_
   rw[show(pre.length:Int)+1+aP nl r=(pre.length:Int)+((aP nl r+1:Nat):Int) by omega]
theorem qL(n:Nat)(s:List UInt8):vF (n+1) s=bif Lib.hasPrefix (s.drop (aP bt s)) [47,47]then aP bt s+aP nl (s.drop (aP bt s))+vF n (s.drop (aP bt s+aP nl (s.drop (aP bt s))))else aP bt s:=rfl
theorem vm{T:List UInt8}{K:List Tok}(hT:(T.length:Int)≤1099511627776):∀(n:Nat) (s pre:List UInt8),T=pre++s→s.length<n→∃fuel g,pieces (R:=R0) E (an ek) fh eV 2 .ok fuel 0 (mkR T pre.length K)= .ok (ed g (.tup []) T ((pre.length:Int)+vF n s) K)
 |0,_,_,_,h=>absurd h (Nat.not_lt_zero _)
 |n+1,s,pre,hp,hn=>by
  have hr:aN T (pre.length:Int)=s:=uY hp
  have hb:=dD bt s
  have hlen:pre.length+s.length=T.length:=by rw[hp];simp
  have hok:okA T (pre.length:Int)=true:=gW.2 ⟨by omega,by omega,hT⟩
  have hw:whI (pOf 74) T (pre.length:Int)=(pre.length:Int)+aP bt s:=by
   show(pre.length:Int)+aP bt (aN T _)=_
   rw[hr]
  have hib:inB ((pre.length:Int)+aP bt s) (T.length:Int) T.length=true:=iR (by omega) (by omega) (by omega)
  have hd:List.drop (Int.toNat ((pre.length:Int)+aP bt s)) (List.take (Int.toNat (T.length:Int)) T)=s.drop (aP bt s):=by
   rw[jN]
   have:((pre.length:Int)+aP bt s)=(((pre++s.take (aP bt s)).length:Nat):Int):=by simp;omega
   rw[this]
   exact uY (by rw[List.append_assoc,List.take_append_drop];exact hp)
  rw[qL]
  cases hh:Lib.hasPrefix (s.drop (aP bt s)) [47,47]
  ·refine⟨1,2,?_⟩
   refine((aW rfl).trans (y0 (pieces (R:=R0) E (an ek) fh eV 2 .ok 0) T pre.length K)).trans ?_
   rw[hok,hw,hib,hd,hh]
   rfl
  ·obtain⟨r',hr'⟩:=FG hh
   have hc:1≤aP nl (s.drop (aP bt s)):=by
    rw[hr',gm]
    show 1≤aP nl r'+1
    omega
   have hcl:=dD nl (s.drop (aP bt s))
   rw[List.length_drop]at hcl
   obtain⟨fuel,g,ih⟩:=vm (K:=K) hT n (s.drop (aP bt s+aP nl (s.drop (aP bt s)))) (pre++s.take (aP bt s+aP nl (s.drop (aP bt s)))) (by rw[List.append_assoc,List.take_append_drop];exact hp) (by rw[List.length_drop];omega)
   refine⟨fuel+(aP nl (s.drop (aP bt s))+1)+1,g,?_⟩
   refine((aW rfl).trans (y0 (pieces (R:=R0) E (an ek) fh eV 2 .ok (fuel+(aP nl (s.drop (aP bt s))+1))) T pre.length K)).trans ?_
   rw[hok,hw,hib,hd,hh]
   have hs:=yy (K:=K) hT (s.drop (aP bt s)) (pre++s.take (aP bt s)) fuel (by rw[List.append_assoc,List.take_append_drop];exact hp)
   have e1:(((pre++s.take (aP bt s)).length:Nat):Int)=(pre.length:Int)+aP bt s:=by simp;omega
   rw[e1]at hs
   refine hs.trans ?_
   have e2:(((pre++s.take (aP bt s+aP nl (s.drop (aP bt s)))).length:Nat):Int)=(pre.length:Int)+aP bt s+aP nl (s.drop (aP bt s)):=by simp;omega
   rw[e2]at ih
   refine ih.trans ?_
   congr 2
   show _=(pre.length:Int)+((aP bt s+aP nl (s.drop (aP bt s))+vF n (s.drop (aP bt s+aP nl (s.drop (aP bt s)))):Nat):Int)
   omega
theorem BG(h:aT Tryz.prog G eD):aT Tryz.prog G ek:=.cons (cS Bq) h
theorem J0(h:aT Tryz.prog G eD)(T:List UInt8)(a:Int)(K:List Tok)(ha:okA T a=true):SA Tryz.prog G 42 [.ref 0 0] (bsR T a K) (.ret (cr [] ()),pX T (jC T a) K):=by
 obtain⟨a0,a1,a2⟩:=gW.1 ha
 obtain⟨pre,hp,hl⟩:=oq a0 a1
 obtain⟨fuel,g,hg⟩:=vm (K:=K) a2 _ (aN T a) pre hp (Nat.lt_succ_self _)
 rw[hl]at hg
 have h2:=(EO (pieces (R:=R0) E (an ek) fh eV 2 .ok fuel) T a K).trans hg
 exact uR (bh (aS []) (aE (BG h)) Lo (.inl (lL T a K)) h2) (fun _=>rfl) rfl
end Go.Sx.Tryz
namespace Go.Sx.Tryz
open Go Go.Sx Go.Proofs
set_option maxRecDepth 100000
variable{G:Nat→Obj→Prop}
def sgB(s:List UInt8):Bool:=decide ((s.length:Int)>1)&&(Lib.contains yE (s.take 2++[32])&&(at8 s 0 !=32&&at8 s 1 !=32))
theorem x5(s:List UInt8):xA s=bif sgB s then(2,0)else bif decide (ibS uS (at8 s 0)≥0)then(1,0)else(0,60):=rfl
theorem Be(J:Jump R0){T:List UInt8}{a:Int}{K:List Tok}(ha:iC T a=true):start E (an eD) uG uO J [.ref 0 0] (bsR T a K) .ok=J 0 (Ja T a K (aN T a) (sgB (aN T a))):=by
 obtain⟨a0,a1,a2⟩:=fV.1 ha
 refine(FY J T a K).trans ?_
 rw[jN,iR a0 (by omega) (by omega),cond_true]
 have hl:=gk a0 (Int.le_of_lt a1)
 generalize aN T a=s at hl
 unfold sgB
 cases h1:decide ((s.length:Int)>1)
 ·rfl
 ·rw[decide_eq_true_eq]at h1
  have h2:inB 0 2 s.length=true:=iR (by omega) (by omega) (by omega)
  have h3:inI 0 s.length=true:=cq (by omega) (by omega)
  have h4:inI 1 s.length=true:=cq (by omega) (by omega)
  have h5:List.length (List.drop (Int.toNat 0) (List.take (Int.toNat 2) s))+List.length [(32:UInt8)]<2^62:=by
   show List.length (List.take 2 s)+1<_
   rw[List.length_take]
   omega
  rw[h2,h3,h4]
  simp only[cond_true,Bool.true_and]
  refine(eL h5).trans ?_
  show(bif Lib.contains yE (List.take 2 s++[32])then _ else _)=_
  cases Lib.contains yE (List.take 2 s++[32])
  ·rfl
  ·show(bif at8 s 0 !=32 then _ else _)=_
   cases at8 s 0 !=32
   ·rfl
   ·rfl
theorem AX{T:List UInt8}{a:Int}{K:List Tok}(ha:iC T a=true):pieces (R:=R0) E (an eD) uG uO 2 .ok 1 0 (Ja T a K (aN T a) (sgB (aN T a)))= .ok (ed 1 (.int .i64 (As T a)) T (Av T a) K):=by
 obtain⟨a0,a1,a2⟩:=fV.1 ha
 refine(FQ (pieces (R:=R0) E (an eD) uG uO 2 .ok 0) T a K _ _).trans ?_
 unfold As Av
 rw[x5]
 have hl:=gk a0 (Int.le_of_lt a1)
 generalize aN T a=s at hl
 have w1:IntKind.wrap .i64 (a+1)=a+1:=wrap64 (by omega) (by omega)
 have w2:IntKind.wrap .i64 (a+2)=a+2:=wrap64 (by omega) (by omega)
 rw[w1,w2,cq (show(0:Int)≤0 by omega) (show(0:Int)<s.length by omega)]
 cases sgB s
 ·simp only[cond_false,cond_true]
  show(bif decide (ibS uS (at8 s 0)≥0)then _ else _)=_
  cases decide (ibS uS (at8 s 0)≥0)
  ·show _=Rs.ok (ed 1 (.int .i64 60) T (a+0) K)
   rw[Int.add_zero]
   rfl
  ·rfl
 ·rfl
theorem I8(h:aT Tryz.prog G eD)(T:List UInt8)(a:Int)(K:List Tok)(ha:iC T a=true):SA Tryz.prog G 77 [.ref 0 0] (bsR T a K) (.ret (cr bP (As T a,())),pX T (Av T a) K):=
 uR (bh (aS []) (aE h) Lc (.inl (lL T a K)) ((Be _ ha).trans (AX ha))) (fun _=>rfl) rfl
theorem nR{T:List UInt8}{K:List Tok}(hT:(T.length:Int)≤1099511627776):∀(n:Nat) (r pre:List UInt8),T=pre++r→r.length≤n→∃fuel,pieces (R:=R0) E (an eD) pL pb 2 .ok fuel 0 (mkR T pre.length K)= .ok (ed 1 (.int .i64 (dT n r).2) T ((pre.length:Int)+(dT n r).1) K)
 |n,[],pre,hp,_=>by
  refine⟨1,(Bv (pieces (R:=R0) E (an eD) pL pb 2 .ok 0) T pre.length K).trans ?_⟩
  have h1:¬((pre.length:Int)<T.length):=by rw[hp,List.append_nil];omega
  have h2:dT n []=(0,61):=by cases n<;>rfl
  simp only[h1,decide_false,cond_false,h2]
  show _=Rs.ok (ed 1 (.int .i64 61) T ((pre.length:Int)+0) K)
  rw[Int.add_zero]
  rfl
 |0,c::r,pre,hp,h=>by simp at h
 |n+1,c::r,pre,hp,hn=>by
  have hlen:pre.length+1+r.length=T.length:=by rw[hp];simp;omega
  simp only[List.length_cons]at hn
  have h1:(pre.length:Int)<T.length:=by omega
  have h2:inI (pre.length:Int) T.length=true:=by rw[hp];exact oX _ _ _
  have h3:List.getD T pre.length 0=c:=by rw[hp];exact cV _ _ _
  have h4:IntKind.wrap .i64 ((pre.length:Int)+1)=(pre.length:Int)+1:=wrap64 (by omega) (by omega)
  have h5:(((pre++[c]).length:Nat):Int)=(pre.length:Int)+1:=by simp
  have hq:dT (n+1) (c::r)=bif (c.toNat:Int)==34 then(1,0)else bif (c.toNat:Int)==10 then(0,61)else bif decide ((c.toNat:Int)<32)||decide ((c.toNat:Int)>126)then(0,60)
   else bif (c.toNat:Int)==92 then(match r with
    |[]=>(0,61)
    |d::r'=>bif decide (ibS vo (d.toNat:Int)<0)then(0,5)else((dT n r').1+2,(dT n r').2))
   else((dT n r).1+1,(dT n r).2):=rfl
  rw[hq]
  have one:∀{v:Int} {x:Nat×Int},x=(0,v)→Rs.ok (ed 1 (.int .i64 v) T (pre.length:Int) K)=Rs.ok (ed 1 (.int .i64 x.2) T ((pre.length:Int)+x.1) K):=fun h=>by
   rw[h]
   show _=Rs.ok (ed 1 _ T ((pre.length:Int)+0) K)
   rw[Int.add_zero]
  have go:∀fuel,pieces (R:=R0) E (an eD) pL pb 2 .ok (fuel+1) 0 (mkR T pre.length K)=_:=fun fuel=>(Bv (pieces (R:=R0) E (an eD) pL pb 2 .ok fuel) T pre.length K)
  simp only[h1,h2,h3,h4,Int.toNat_natCast,decide_true,cond_true]at go
  cases e1:(c.toNat:Int)==34
  ·cases e2:(c.toNat:Int)==10
   ·cases e3:decide ((c.toNat:Int)<32)
    ·cases e4:decide ((c.toNat:Int)>126)
     ·cases e5:(c.toNat:Int)==92
      ·obtain⟨fuel,ih⟩:=nR (K:=K) hT n r (pre++[c]) (by simp[hp]) (by omega)
       rw[h5]at ih
       refine⟨fuel+1,(go fuel).trans ?_⟩
       simp only[e1,e2,e3,e4,e5,cond_false]
       refine ih.trans ?_
       congr 2
       show _=(pre.length:Int)+(((dT n r).1+1:Nat):Int)
       omega
      ·cases r with
       |nil=>
        refine⟨1,(go 0).trans ?_⟩
        simp only[List.length_nil]at hlen
        have h6:(pre.length:Int)+1≥T.length:=by omega
        simp only[e1,e2,e3,e4,e5,cond_false,cond_true,h6,decide_true]
        exact one rfl
       |cons d r'=>
        simp only[List.length_cons]at hlen hn
        have h6:¬((pre.length:Int)+1≥T.length):=by omega
        have h7:inI ((pre.length:Int)+1) T.length=true:=cq (by omega) (by omega)
        have h8:List.getD T (Int.toNat ((pre.length:Int)+1)) 0=d:=by
         have:Int.toNat ((pre.length:Int)+1)=(pre++[c]).length:=by simp
         rw[this,hp,show pre++c::d::r'=(pre++[c])++d::r' by simp]
         exact cV _ _ _
        have h9:IntKind.wrap .i64 ((pre.length:Int)+1+1)=(pre.length:Int)+1+1:=wrap64 (by omega) (by omega)
        cases e6:decide (ibS vo (d.toNat:Int)<0)
        ·obtain⟨fuel,ih⟩:=nR (K:=K) hT n r' (pre++[c,d]) (by simp[hp]) (by omega)
         have h10:(((pre++[c,d]).length:Nat):Int)=(pre.length:Int)+1+1:=by simp;omega
         rw[h10]at ih
         refine⟨fuel+1,(go fuel).trans ?_⟩
         simp only[e1,e2,e3,e4,e5,cond_false,cond_true,h6,decide_false,h7,h8,h9]
         show(bif decide (ibS vo (d.toNat:Int)<0)then _ else _)=_
         rw[e6]
         refine ih.trans ?_
         congr 2
         show _=(pre.length:Int)+(((dT n r').1+2:Nat):Int)
         omega
        ·refine⟨1,(go 0).trans ?_⟩
         simp only[e1,e2,e3,e4,e5,cond_false,cond_true,h6,decide_false,h7,h8,h9]
         show(bif decide (ibS vo (d.toNat:Int)<0)then _ else _)=_
         rw[e6]
         exact one rfl
     ·refine⟨1,(go 0).trans ?_⟩
      simp only[e1,e2,e3,e4,cond_false,cond_true]
      exact one rfl
    ·refine⟨1,(go 0).trans ?_⟩
     simp only[e1,e2,e3,cond_false,cond_true]
     exact one rfl
   ·refine⟨1,(go 0).trans ?_⟩
    simp only[e1,e2,cond_false,cond_true]
    exact one rfl
  ·refine⟨1,(go 0).trans ?_⟩
   simp only[e1,cond_true]
   rfl
theorem DS(h:aT Tryz.prog G eD)(T:List UInt8)(a:Int)(K:List Tok)(ha:iC T a=true):SA Tryz.prog G 76 [.ref 0 0] (bsR T a K) (.ret (cr bP (pz T a,())),pX T (jA T a) K):=by
 obtain⟨a0,a1,a2⟩:=fV.1 ha
 obtain⟨pre,hp,hl⟩:=oq a0 (Int.le_of_lt a1)
 have hlen:=gk a0 (Int.le_of_lt a1)
 obtain⟨fuel,hg⟩:=nR (K:=K) a2 (aN T a).length ((aN T a).drop 1) (pre++(aN T a).take 1) (by rw[List.append_assoc,List.take_append_drop];exact hp) (by rw[List.length_drop];omega)
 have h5:(((pre++(aN T a).take 1).length:Nat):Int)=a+1:=by
  rw[List.length_append,List.length_take]
  omega
 rw[h5]at hg
 have w1:IntKind.wrap .i64 (a+1)=a+1:=wrap64 (by omega) (by omega)
 have hs:=Gu (pieces (R:=R0) E (an eD) pL pb 2 .ok fuel) T a K
 rw[w1]at hs
 have h2:=hs.trans hg
 have h3:a+1+((dT (aN T a).length ((aN T a).drop 1)).1:Int)=jA T a:=by
  unfold jA jY
  show _=a+(((dT (aN T a).length ((aN T a).drop 1)).1+1:Nat):Int)
  omega
 rw[h3]at h2
 exact uR (bh (aS []) (aE h) Mi (.inl (lL T a K)) h2) (fun _=>rfl) rfl
end Go.Sx.Tryz
namespace Go.Sx.Tryz
open Go Go.Sx Go.Proofs
set_option maxRecDepth 100000
abbrev cz:Sig:=[(false,.int .i64),(false,.int .i64)]
def Ld:aQ:=rdC 76 bP iC (fun T a=>(pz T a,())) jA
def sgnC:aQ:=rdC 77 bP iC (fun T a=>(As T a,())) Av
def vE:List (Nat×aQ):=(73,dL 73 whC)::(76,dL 76 Ld)::(77,dL 77 sgnC)::jS
def xO:List Cut:=[⟨[true,true,false,false,true,true,true,false,true,true,true,false,false],some ⟨[(0,[]),(4,[]),(6,[])],[[],[]]⟩⟩]
def EB(T:List UInt8)(b:Int)(K:List Tok)(a k:Int):St:={tmps:=[(0,.ref 0 0),(4,.int .i64 a),(6,.int .i64 k)],blks:=[(0,.cells 89 [.str T,.int .i64 b,.own 1 1]),(1,.list 46 aH 1 false K)],next:=2}
def oneC:aQ:=rdC 43 cz iC (fun T a=>(pI T a,jy T a,())) cK
def gapC:aQ:=rdC 42 [] okA (fun _ _=>()) jC
def uH:List (Nat×aQ):=[(42,dL 42 gapC),(43,dL 43 oneC)]
def xI:List Cut:=[⟨[true,true,true,false,false],some ⟨[(0,[]),(3,[]),(4,[])],[[],[.keep,.keep,.own 46 aH]]⟩⟩,⟨[true,true,true,false,true,false,false],some ⟨[(0,[]),(3,[]),(4,[])],[[],[],[]]⟩⟩]
def FV(T:List UInt8)(a:Int)(K:List Tok):St:={tmps:=[(0,.str T),(3,.ref 0 0),(4,.ref 1 0)],blks:=[(0,.cells 35 [.int .i64 0,.int .i64 0]),(1,.cells 89 [.str T,.int .i64 a,.own 2 0]),(2,.list 46 aH 0 false K)],next:=3}
def tkn(k a b:Int):Tok:=(k,a,b,())
end Go.Sx.Tryz
namespace Go.Sx.Tryz
open Go Go.Sx
set_option maxRecDepth 100000
theorem E4(J:Jump R0)(T:List UInt8)(a:Int)(K:List Tok):start E (an vE) wR xO J [.ref 0 0] (bsR T a K) .ok=bif inI a (List.length T)then bif isLet (↑(UInt8.toNat (List.getD T (Int.toNat a) 0)):Int)then bif (Nat.beq 62 60||(Nat.beq 62 62||Nat.beq 62 63))&&okA T a then bif decide (IntKind.wrap IntKind.i64 (whI (pOf 75) T a-a)>64)then Rs.ok (Out.ret (AV.tup [Iz 0,Iz (Int.ofNat 2)]),[Blk.cells 89 [AV.str T,Iz (whI (pOf 75) T a),AV.own 1 1],Blk.list 46 aH 1 false K])else Rs.ok (Out.ret (AV.tup [Iz (Int.ofNat 1),Iz 0]),[Blk.cells 89 [AV.str T,Iz (whI (pOf 75) T a),AV.own 1 1],Blk.list 46 aH 1 false K])else Rs.err 3000073 else bif aM (↑(UInt8.toNat (List.getD T (Int.toNat a) 0)):Int)then bif (Nat.beq 63 60||(Nat.beq 63 62||Nat.beq 63 63))&&okA T a then bif decide (IntKind.wrap IntKind.i64 (whI (pOf 38) T a+1)<(↑(List.length T):Int))then bif inI (whI (pOf 38) T a) (List.length T)then bif (↑(UInt8.toNat (List.getD T (Int.toNat (whI (pOf 38) T a)) 0)):Int)==46 then bif inI (IntKind.wrap IntKind.i64 (whI (pOf 38) T a+1)) (List.length T)then bif aM (↑(UInt8.toNat (List.getD T (Int.toNat (IntKind.wrap IntKind.i64 (whI (pOf 38) T a+1))) 0)):Int)then bif (Nat.beq 63 60||(Nat.beq 63 62||Nat.beq 63 63))&&okA T (IntKind.wrap IntKind.i64 (whI (pOf 38) T a+1))then J 0 {tmps:=[(0,AV.ref 0 0),(4,Iz a),(6,Iz (Int.ofNat 3))],blks:=[(0,Blk.cells 89 [AV.str T,Iz (whI (pOf 38) T (IntKind.wrap IntKind.i64 (whI (pOf 38) T a+1))),AV.own 1 1]),(1,Blk.list 46 aH 1 false K)],next:=2}else Rs.err 3000073 else J 0 {tmps:=[(0,AV.ref 0 0),(4,Iz a),(6,Iz (Int.ofNat 2))],blks:=[(0,Blk.cells 89 [AV.str T,Iz (whI (pOf 38) T a),AV.own 1 1]),(1,Blk.list 46 aH 1 false K)],next:=2}else Rs.err 1033 else J 0 {tmps:=[(0,AV.ref 0 0),(4,Iz a),(6,Iz (Int.ofNat 2))],blks:=[(0,Blk.cells 89 [AV.str T,Iz (whI (pOf 38) T a),AV.own 1 1]),(1,Blk.list 46 aH 1 false K)],next:=2}else Rs.err 1020 else J 0 {tmps:=[(0,AV.ref 0 0),(4,Iz a),(6,Iz (Int.ofNat 2))],blks:=[(0,Blk.cells 89 [AV.str T,Iz (whI (pOf 38) T a),AV.own 1 1]),(1,Blk.list 46 aH 1 false K)],next:=2}else Rs.err 3000073 else bif (↑(UInt8.toNat (List.getD T (Int.toNat a) 0)):Int)==34 then bif iC T a then bif pz T a==0 then bif decide (IntKind.wrap IntKind.i64 (jA T a-a)>256)then Rs.ok (Out.ret (AV.tup [Iz (Int.ofNat 4),Iz (Int.ofNat 2)]),[Blk.cells 89 [AV.str T,Iz (jA T a),AV.own 1 1],Blk.list 46 aH 1 false K])else Rs.ok (Out.ret (AV.tup [Iz (Int.ofNat 4),Iz (pz T a)]),[Blk.cells 89 [AV.str T,Iz (jA T a),AV.own 1 1],Blk.list 46 aH 1 false K])else Rs.ok (Out.ret (AV.tup [Iz (Int.ofNat 4),Iz (pz T a)]),[Blk.cells 89 [AV.str T,Iz (jA T a),AV.own 1 1],Blk.list 46 aH 1 false K])else Rs.err 3000076 else bif iC T a then Rs.ok (Out.ret (AV.tup [Iz (Int.ofNat 5),Iz (As T a)]),[Blk.cells 89 [AV.str T,Iz (Av T a),AV.own 1 1],Blk.list 46 aH 1 false K])else Rs.err 3000077 else Rs.err 112:=by kernel_rfl
theorem FP(J:Jump R0)(T:List UInt8)(b:Int)(K:List Tok)(a k:Int):resume E (an vE) (aR 2 xO 0) J [true,true,false,false,true,true,true,false,true,true,true,false,false] wR.code 1 (EB T b K a k) (bX E 2 wR.results .ok)=bif decide (IntKind.wrap IntKind.i64 (b-a)>20)then Rs.ok (Out.ret (AV.tup [Iz 0,Iz (Int.ofNat 2)]),[Blk.cells 89 [AV.str T,Iz b,AV.own 1 1],Blk.list 46 aH 1 false K])else Rs.ok (Out.ret (AV.tup [Iz k,Iz 0]),[Blk.cells 89 [AV.str T,Iz b,AV.own 1 1],Blk.list 46 aH 1 false K]):=by kernel_rfl
theorem yR(J:Jump R0)(T:List UInt8):start E (an uH) u4 xI J [.str T] [] .ok=bif decide ((↑(List.length T):Int)>65536)then Rs.ok (Out.ret (AV.tup [AV.nils,AV.agg [Iz (Int.ofNat 2),Iz 0]]),[])else J 0 {tmps:=[(0,AV.str T),(3,AV.ref 0 0),(4,AV.ref 1 0)],blks:=[(0,Blk.cells 35 [Iz 0,Iz 0]),(1,Blk.cells 89 [AV.str T,Iz 0,AV.own 2 0]),(2,Blk.list 46 aH 0 false [])],next:=3}:=by kernel_rfl
theorem F6(J:Jump R0)(T:List UInt8)(a:Int)(K:List Tok):resume E (an uH) (aR 0 xI 0) J [true,true,true,false,false] u4.code 1 (FV T a K) (bX E 0 u4.results .ok)=bif okA T a then J 1 {tmps:=[(0,AV.str T),(3,AV.ref 0 0),(4,AV.ref 1 0)],blks:=[(0,Blk.cells 35 [Iz 0,Iz 0]),(1,Blk.cells 89 [AV.str T,Iz (jC T a),AV.own 2 0]),(2,Blk.list 46 aH 0 false K)],next:=3}else Rs.err 3000042:=by kernel_rfl
theorem Kb(J:Jump R0)(T:List UInt8)(a:Int)(K:List Tok):resume E (an uH) (aR 0 xI 0) J [true,true,true,false,true,false,false] u4.code 1 (FV T a K) (bX E 0 u4.results .ok)=bif decide (a<(↑(List.length T):Int))then bif decide ((↑(List.length K):Int)≥16384)then Rs.ok (Out.ret (AV.tup [AV.nils,AV.agg [Iz (Int.ofNat 2),Iz a]]),[])else bif iC T a then bif jy T a !=0 then Rs.ok (Out.ret (AV.tup [AV.nils,AV.agg [Iz (jy T a),Iz a]]),[])else bif decide (List.length K+List.length [(tkn (pI T a) (a) (cK T a))]<ar)then bif okA T (cK T a)then J 1 {tmps:=[(0,AV.str T),(3,AV.ref 0 0),(4,AV.ref 1 0)],blks:=[(0,Blk.cells 35 [Iz 0,Iz 0]),(1,Blk.cells 89 [AV.str T,Iz (jC T (cK T a)),AV.own 2 0]),(2,Blk.list 46 aH 0 false (K++[(tkn (pI T a) (a) (cK T a))]))],next:=3}else Rs.err 3000042 else Rs.err 1314 else Rs.err 3000043 else bif decide (List.length K+List.length [(tkn (0) ((↑(List.length T):Int)) ((↑(List.length T):Int)))]<ar)then Rs.ok (Out.ret (AV.tup [AV.own 0 1,AV.agg [Iz 0,Iz 0]]),[Blk.list 46 aH 1 false (K++[(tkn (0) ((↑(List.length T):Int)) ((↑(List.length T):Int)))])])else Rs.err 1411:=by kernel_rfl
theorem Et(s:List UInt8):body (R:=R0) E (an eD) E5 [.str s] [] .ok=bif !s==[]then bif decide (ibS s 32<0)then bif decide (List.length [32]+List.length s<2^62)then bif decide (List.length ([32]++s)+List.length [32]<2^62)then Rs.ok (Out.ret (AV.bool (Lib.contains (List.append (List.append [32,99,108,97,115,115,32,101,120,116,101,110,100,115,32,105,110,105,116,32,105,110,116,32,98,111,111,108,32,100,111,117,98,108,101,32,115,116,114,32,118,111,105,100] [32,79,112,116,105,111,110,32,105,102,32,101,108,115,101,32,119,104,105,108,101,32,98,114,101,97,107,32,99,111,110,116,105,110,117,101,32,114,101,116,117,114,110,32,112]) (List.append [114,105,110,116,32,115,117,112,101,114,32,116,104,105,115,32,110,117,108,108,32,110,111,110,101,32,115,111,109,101,32,105,115,32,116,114,117,101,32,102,97,108,115,101,32] [110,101,119,32,99,97,115,116,32,116,111,105,110,116,32,116,111,100,111,117,98,108,101,32,105,110,112,117,116,32,97,115,107,32,108,101,110,103,116,104,32,118,97,108,32])) ([32]++s++[32]))),[])else Rs.err 110 else Rs.err 109 else Rs.ok (Out.ret (AV.bool false),[])else Rs.ok (Out.ret (AV.bool false),[]):=by kernel_rfl
end Go.Sx.Tryz
namespace Go.Sx.Tryz
open Go Go.Sx Go.Proofs
set_option maxRecDepth 100000
variable{G:Nat→Obj→Prop}
theorem CO(h:aT Tryz.prog G eD):aT Tryz.prog G vE:=
 .cons (cS Bq) (.cons (cS (nW fun T a K ha=>DS h T a K ha)) (.cons (cS (nW fun T a K ha=>I8 h T a K ha)) yI))
abbrev AD(n:Nat):Jump R0:=pieces (R:=R0) E (an vE) wR xO 2 .ok n
theorem GR{T:List UInt8}{b a k:Int}{K:List Tok}(h0:0≤a)(h1:a≤b)(h2:b≤1099511627776):AD 1 0 (EB T b K a k)=bif decide (b-a>20)then .ok (ed 1 (.tup [.int .i64 0,.int .i64 2]) T b K)else .ok (ed 1 (.tup [.int .i64 k,.int .i64 0]) T b K):=by
 refine(FP (AD 0) T b K a k).trans ?_
 rw[wrap64 (show-9223372036854775808≤b-a by omega) (by omega)]
 rfl
theorem x9{T:List UInt8}{a:Int}(h0:0≤a)(n:Nat):at8 (aN T a) n=(((T.getD (a+n).toNat 0).toNat:Nat):Int):=by
 unfold at8
 rw[DN h0,show a.toNat+n=(a+n).toNat by omega]
theorem xJ{p:Int→Bool}{s:List UInt8}(h:p (at8 s 0)=true)(hs:0<s.length):1≤aP p s:=by
 cases s with
 |nil=>simp at hs
 |cons c s=>
  rw[gm,show p (c.toNat:Int)=true from h]
  show 1≤aP p s+1
  omega
theorem Aw{T:List UInt8}{a:Int}(h0:0≤a)(n:Nat):aN T (a+n)=(aN T a).drop n:=by
 unfold aN
 rw[List.drop_drop,show(a+n).toNat=a.toNat+n by omega]
theorem sA:∀(n:Nat) (s:List UInt8),(dT n s).1≤s.length
 |n,[]=>by cases n<;>exact Nat.zero_le _
 |0,_::_=>Nat.zero_le _
 |n+1,c::r=>by
  have hq:dT (n+1) (c::r)=bif (c.toNat:Int)==34 then(1,0)else bif (c.toNat:Int)==10 then(0,61)else bif decide ((c.toNat:Int)<32)||decide ((c.toNat:Int)>126)then(0,60)
   else bif (c.toNat:Int)==92 then(match r with
    |[]=>(0,61)
    |d::r'=>bif decide (ibS vo (d.toNat:Int)<0)then(0,5)else((dT n r').1+2,(dT n r').2))
   else((dT n r).1+1,(dT n r).2):=rfl
  rw[hq]
  have ih:=sA n r
  cases (c.toNat:Int)==34
  ·cases (c.toNat:Int)==10
   ·cases decide ((c.toNat:Int)<32)||decide ((c.toNat:Int)>126)
    ·cases (c.toNat:Int)==92
     ·show(dT n r).1+1≤r.length+1
      omega
     ·cases r with
      |nil=>exact Nat.zero_le _
      |cons d r'=>
       have ih2:=sA n r'
       show(bif decide (ibS vo (d.toNat:Int)<0)then((0,5):Nat×Int)else((dT n r').1+2,(dT n r').2)).1≤r'.length+1+1
       cases decide (ibS vo (d.toNat:Int)<0)
       ·show(dT n r').1+2≤r'.length+1+1
        omega
       ·exact Nat.zero_le _
    ·exact Nat.zero_le _
   ·exact Nat.zero_le _
  ·show 1≤r.length+1
   omega
theorem yV{s:List UInt8}(h:0<s.length):(jY s).1≤s.length:=by
 have:=sA s.length (s.drop 1)
 rw[List.length_drop]at this
 show(dT s.length (s.drop 1)).1+1≤s.length
 omega
theorem F0{T:List UInt8}{a:Int}{K:List Tok}(ha:iC T a=true):∃n,start (R:=R0) E (an vE) wR xO (AD n) [.ref 0 0] (bsR T a K) .ok= .ok (ed 1 (.tup [.int .i64 (pI T a),.int .i64 (jy T a)]) T (cK T a) K):=by
 obtain⟨a0,a1,a2⟩:=fV.1 ha
 refine⟨1,(E4 (AD 1) T a K).trans ?_⟩
 have hl:=gk a0 (Int.le_of_lt a1)
 have e0:(((T.getD a.toNat 0).toNat:Nat):Int)=at8 (aN T a) 0:=by
  rw[x9 a0,show a+((0:Nat):Int)=a by omega]
 have hok:okA T a=true:=gW.2 ⟨a0,Int.le_of_lt a1,a2⟩
 have q1:IntKind.wrap .i64 (jA T a-a)=jA T a-a:=by
  have:=yV (s:=aN T a) (by omega)
  exact wrap64 (by unfold jA;omega) (by unfold jA;omega)
 rw[cq a0 a1,e0,hok,ha,q1]
 unfold pI jy cK whI pz jA As Av
 have r1:∀x:Nat,aN T (a+x)=(aN T a).drop x:=Aw a0
 have g1:∀x:Nat,(((T.getD (a+(x:Int)).toNat 0).toNat:Nat):Int)=at8 (aN T a) x:=fun x=>(x9 a0 x).symm
 show(bif isLet (at8 (aN T a) 0)then _ else _)=_
 unfold nK
 cases hL:isLet (at8 (aN T a) 0)
 ·cases hD:aM (at8 (aN T a) 0)
  ·show(bif at8 (aN T a) 0==34 then _ else _)=_
   cases hQ:at8 (aN T a) 0==34
   ·rfl
   ·simp only[cond_true,cond_false]
    have:a+((jY (aN T a)).1:Int)-a=((jY (aN T a)).1:Int):=by omega
    rw[this]
    cases (jY (aN T a)).2==0
    ·rfl
    ·show(bif decide (((jY (aN T a)).1:Int)>256)then _ else _)=_
     cases decide (((jY (aN T a)).1:Int)>256)<;>rfl
  ·have hn:=dD aM (aN T a)
   generalize hN:aP aM (aN T a)=n at hn
   have p63:aP (pOf 38) (aN T a)=n:=hN
   have w1:IntKind.wrap .i64 (a+(n:Int)+1)=a+((n+1:Nat):Int):=by rw[wrap64 (by omega) (by omega)];omega
   rw[p63,w1]
   simp only[cond_true,cond_false]
   have leaf:∀k:Int,AD 1 0 (EB T (a+n) K a k)=bif decide ((n:Int)>20)then .ok (ed 1 (.tup [.int .i64 0,.int .i64 2]) T (a+n) K)else .ok (ed 1 (.tup [.int .i64 k,.int .i64 0]) T (a+n) K):=fun k=>by
    rw[GR a0 (by omega) (by omega),show a+(n:Int)-a=n by omega]
   have two:(bif decide ((n:Int)>20)then Rs.ok (ed 1 (.tup [.int .i64 0,.int .i64 2]) T (a+n) K)else Rs.ok (ed 1 (.tup [.int .i64 2,.int .i64 0]) T (a+n) K))=Rs.ok (ed 1 (.tup [.int .i64 (bif decide ((n:Int)>20)then((0,2,n):Int×Int×Nat)else(2,0,n)).1,.int .i64 (bif decide ((n:Int)>20)then((0,2,n):Int×Int×Nat)else(2,0,n)).2.1]) T (a+(bif decide ((n:Int)>20)then((0,2,n):Int×Int×Nat)else(2,0,n)).2.2) K):=by
    cases decide ((n:Int)>20)<;>rfl
   show(bif decide (a+((n+1:Nat):Int)<T.length)then _ else _)=_
   have c1:decide (a+((n+1:Nat):Int)<T.length)=decide ((n:Int)+1<(aN T a).length):=by
    rw[decide_eq_decide]
    omega
   rw[c1]
   cases hc:decide ((n:Int)+1<(aN T a).length)
   ·exact(leaf 2).trans two
   ·rw[decide_eq_true_eq]at hc
    have i1:inI (a+(n:Int)) T.length=true:=cq (by omega) (by omega)
    have i2:inI (a+((n+1:Nat):Int)) T.length=true:=cq (by omega) (by omega)
    rw[i1,i2,g1 n,g1 (n+1)]
    show(bif at8 (aN T a) n==46 then _ else _)=_
    cases h46:at8 (aN T a) n==46
    ·exact(leaf 2).trans two
    ·show(bif aM (at8 (aN T a) (n+1))then _ else _)=_
     cases h47:aM (at8 (aN T a) (n+1))
     ·exact(leaf 2).trans two
     ·have ok2:okA T (a+((n+1:Nat):Int))=true:=gW.2 ⟨by omega,by omega,a2⟩
      rw[ok2,r1 (n+1)]
      simp only[cond_true,Bool.true_and,Bool.and_self]
      have hm:=dD aM ((aN T a).drop (n+1))
      rw[List.length_drop]at hm
      show AD 1 0 (EB T (a+((n+1:Nat):Int)+(aP aM ((aN T a).drop (n+1)):Int)) K a 3)=_
      rw[GR a0 (by omega) (by omega)]
      have e1:a+((n+1:Nat):Int)+(aP aM ((aN T a).drop (n+1)):Int)=a+((n+1+aP aM ((aN T a).drop (n+1)):Nat):Int):=by omega
      rw[e1]
      generalize n+1+aP aM ((aN T a).drop (n+1))=m
      rw[show a+(m:Int)-a=m by omega]
      show _=Rs.ok (ed 1 (.tup [.int .i64 (bif decide ((m:Int)>20)then((0,2,m):Int×Int×Nat)else(3,0,m)).1,.int .i64 (bif decide ((m:Int)>20)then((0,2,m):Int×Int×Nat)else(3,0,m)).2.1]) T (a+(bif decide ((m:Int)>20)then((0,2,m):Int×Int×Nat)else(3,0,m)).2.2) K)
      cases decide ((m:Int)>20)<;>rfl
 ·have hn:=dD fu (aN T a)
  generalize hN:aP fu (aN T a)=n at hn
  have p62:aP (pOf 75) (aN T a)=n:=hN
  rw[p62]
  simp only[cond_true]
  have w1:IntKind.wrap .i64 (a+(n:Int)-a)=n:=by rw[wrap64 (by omega) (by omega)];omega
  rw[w1]
  show(bif decide ((n:Int)>64)then _ else _)=_
  cases decide ((n:Int)>64)<;>rfl
theorem Ko(h:aT Tryz.prog G eD)(T:List UInt8)(a:Int)(K:List Tok)(ha:iC T a=true):SA Tryz.prog G 43 [.ref 0 0] (bsR T a K) (.ret (cr cz (pI T a,jy T a,())),pX T (cK T a) K):=by
 obtain⟨n,hn⟩:=F0 (K:=K) ha
 exact uR (bh (aS []) (aE (CO h)) Nq (.inl (lL T a K)) hn) (fun _=>rfl) rfl
end Go.Sx.Tryz
namespace Go.Sx.Tryz
open Go Go.Sx Go.Proofs
set_option maxRecDepth 100000
variable{G:Nat→Obj→Prop}
theorem ze:∀(n:Nat) (s:List UInt8),vF n s≤s.length
 |0,_=>Nat.zero_le _
 |n+1,s=>by
  rw[qL]
  have hb:=dD bt s
  have hc:=dD nl (s.drop (aP bt s))
  have ih:=ze n (s.drop (aP bt s+aP nl (s.drop (aP bt s))))
  rw[List.length_drop]at hc ih
  cases Lib.hasPrefix (s.drop (aP bt s)) [47,47]
  ·exact hb
  ·show aP bt s+aP nl (s.drop (aP bt s))+vF n _≤s.length
   omega
theorem nk{T:List UInt8}{a:Int}(h0:0≤a)(h1:a≤T.length):a≤jC T a∧jC T a≤T.length:=by
 have h:=ze ((aN T a).length+1) (aN T a)
 have hl:=gk h0 h1
 unfold jC Lu
 omega
theorem EY{c:Int}(h:isLet c=true):fu c=true:=by unfold fu;rw[h];rfl
theorem F2{s:List UInt8}(h:sgB s=true):1<s.length:=by
 unfold sgB at h
 simp only[Bool.and_eq_true,decide_eq_true_eq]at h
 omega
theorem EM{s:List UInt8}(h:0<s.length):(xA s).1≤s.length∧((xA s).2=0→1≤(xA s).1):=by
 rw[x5]
 cases hb:sgB s
 ·cases decide (ibS uS (at8 s 0)≥0)
  ·exact⟨Nat.zero_le _,fun h=>absurd h (by decide)⟩
  ·exact⟨h,fun _=>Nat.le_refl 1⟩
 ·exact⟨F2 hb,fun _=>Nat.le_succ 1⟩
theorem E8{s:List UInt8}(h:0<s.length):(nK s).2.2≤s.length∧((nK s).2.1=0→1≤(nK s).2.2):=by
 unfold nK
 cases hL:isLet (at8 s 0)
 ·cases hD:aM (at8 s 0)
  ·cases hQ:at8 s 0==34
   ·exact EM h
   ·have hq:=yV h
    have h1:1≤(jY s).1:=Nat.succ_le_succ (Nat.zero_le _)
    simp only[cond_true,cond_false]
    cases ((jY s).2==0&&decide (((jY s).1:Int)>256))<;>exact⟨hq,fun _=>h1⟩
  ·have hn:=dD aM s
   have h1:=xJ hD h
   simp only[cond_true,cond_false]
   cases hc:(decide (((aP aM s:Nat):Int)+1<s.length)&&(at8 s (aP aM s)==46&&aM (at8 s (aP aM s+1))))
   ·cases decide (((aP aM s:Nat):Int)>20)<;>exact⟨hn,fun _=>h1⟩
   ·simp only[Bool.and_eq_true,decide_eq_true_eq]at hc
    have hm:=dD aM (s.drop (aP aM s+1))
    rw[List.length_drop]at hm
    have:=hc.1
    simp only[cond_true]
    cases decide (((aP aM s+1+aP aM (s.drop (aP aM s+1)):Nat):Int)>20)
    ·exact⟨by show aP aM s+1+aP aM (s.drop (aP aM s+1))≤s.length;omega,fun _=>by show 1≤aP aM s+1+aP aM (s.drop (aP aM s+1));omega⟩
    ·exact⟨by show aP aM s+1+aP aM (s.drop (aP aM s+1))≤s.length;omega,fun _=>by show 1≤aP aM s+1+aP aM (s.drop (aP aM s+1));omega⟩
 ·have hn:=dD fu s
  have h1:=xJ (EY hL) h
  simp only[cond_true]
  cases decide (((aP fu s:Nat):Int)>64)<;>exact⟨hn,fun _=>h1⟩
theorem x3{T:List UInt8}{a:Int}(h0:0≤a)(h1:a<T.length):cK T a≤T.length∧(jy T a=0→a<cK T a):=by
 have hl:=gk h0 (Int.le_of_lt h1)
 obtain⟨x,y⟩:=E8 (s:=aN T a) (by omega)
 unfold cK jy
 exact⟨by omega,fun h=>by have:=y h;omega⟩
def pF:Nat→List UInt8→Int→Nat→Int×Int×List Tok
 |0,_,_,_=>(0,0,[])
 |n+1,T,a,k=>bif decide (a<T.length)then bif decide ((k:Int)≥16384)then(2,a,[])else bif jy T a !=0 then(jy T a,a,[])else
   ((pF n T (jC T (cK T a)) (k+1)).1,(pF n T (jC T (cK T a)) (k+1)).2.1,tkn (pI T a) a (cK T a)::(pF n T (jC T (cK T a)) (k+1)).2.2)
  else(0,0,[tkn 0 T.length T.length])
def fk(T:List UInt8):Int×Int×List Tok:=bif decide ((T.length:Int)>65536)then(2,0,[])else pF (T.length+1) T (jC T 0) 0
def zL(r:Int×Int×List Tok)(K:List Tok):R0:=bif r.1==0 then(.ret (.tup [.own 0 1,.agg [.int .i64 0,.int .i64 0]]),[.list 46 aH 1 false (K++r.2.2)])else(.ret (.tup [.nils,.agg [.int .i64 r.1,.int .i64 r.2.1]]),[])
abbrev z7(n:Nat):Jump R0:=pieces (R:=R0) E (an uH) u4 xI 0 .ok n
theorem vJ{T:List UInt8}(hT:(T.length:Int)≤65536):∀(n:Nat) (a:Int) (K:List Tok),0≤a→a≤T.length→(T.length:Int)-a<n→(K.length:Int)≤16384→z7 n 1 (FV T a K)= .ok (zL (pF n T a K.length) K)
 |0,a,K,h0,h1,h2,_=>by omega
 |n+1,a,K,h0,h1,h2,hK=>by
  refine(Kb (z7 n) T a K).trans ?_
  unfold pF
  have hm:∀t:Tok,List.length K+List.length [t]<ar:=fun t=>by
   show List.length K+1<ar
   unfold ar
   omega
  cases ha:decide (a<(T.length:Int))
  ·exact eL (hm _)
  ·rw[decide_eq_true_eq]at ha
   simp only[cond_true]
   cases hk:decide ((K.length:Int)≥16384)
   ·have hok:iC T a=true:=fV.2 ⟨h0,ha,by omega⟩
    rw[hok]
    simp only[cond_true,cond_false]
    obtain⟨o1,o2⟩:=x3 h0 ha
    cases he:jy T a !=0
    ·have he0:jy T a=0:=by simpa using he
     have o3:=o2 he0
     simp only[cond_false]
     refine(eL (hm _)).trans ?_
     have hok2:okA T (cK T a)=true:=gW.2 ⟨by omega,o1,by omega⟩
     rw[hok2]
     simp only[cond_true]
     obtain⟨g1,g2⟩:=nk (T:=T) (a:=cK T a) (by omega) o1
     rw[decide_eq_false_iff_not]at hk
     have hlen:(K++[tkn (pI T a) a (cK T a)]).length=K.length+1:=by simp
     have ih:=vJ hT n (jC T (cK T a)) (K++[tkn (pI T a) a (cK T a)]) (by omega) g2 (by omega) (by rw[hlen];omega)
     rw[hlen]at ih
     refine Eq.trans ?_ (ih.trans ?_)
     ·rfl
     ·unfold zL
      rw[List.append_assoc]
      rfl
    ·have hz:(jy T a==0)=false:=by
      rw[bne,Bool.not_eq_true']at he
      exact he
     show _=Rs.ok (zL (jy T a,a,[]) K)
     unfold zL
     rw[hz]
     rfl
   ·rfl
theorem uB(h:aT Tryz.prog G eD):aT Tryz.prog G uH:=
 .cons (cS (nW fun T a K ha=>J0 h T a K ha)) (.cons (cS (nW fun T a K ha=>Ko h T a K ha)) .nil)
theorem Iu(h:aT Tryz.prog G eD)(T:List UInt8):SA Tryz.prog G 17 [.str T] [] (zL (fk T) []):=by
 cases hb:decide ((T.length:Int)>65536)
 ·have hs:=yR (z7 (T.length+2)) T
  rw[decide_eq_false_iff_not]at hb
  have hT:(T.length:Int)≤65536:=by omega
  have h1:z7 (T.length+2) 0 (FV T 0 [])=_:=F6 (z7 (T.length+1)) T 0 []
  have hok:okA T 0=true:=gW.2 ⟨by omega,by omega,by omega⟩
  rw[hok]at h1
  obtain⟨g1,g2⟩:=nk (T:=T) (a:=0) (by omega) (by omega)
  have h2:=vJ hT (T.length+1) (jC T 0) [] g1 g2 (by omega) (by simp)
  have h3:fk T=pF (T.length+1) T (jC T 0) 0:=by
   unfold fk
   exact HJ (decide_eq_false_iff_not.2 hb)
  rw[h3]
  refine bh (aS []) (aE (uB h)) JY (.inl cb) (hs.trans ?_)
  rw[decide_eq_false_iff_not.2 hb]
  exact h1.trans h2
 ·have h3:fk T=(2,0,[]):=by
   unfold fk
   exact Hb hb
  rw[h3]
  refine bh (aS []) (aE (uB h)) JY (.inl cb) ((yR (z7 0) T).trans ?_)
  rw[hb]
  rfl
end Go.Sx.Tryz
namespace Go.Proofs
open Go.Shelf
def Tryz.lays137_ren:Go.Shelf.Ren:=⟨fun|137=>68|217=>96|266=>121|n=>n,fun|9=>9|5=>5|3=>3|n=>n,fun|n=>n⟩
theorem Tryz.lays137:Go.Proofs.Lays.n137 Tryz.prog Tryz.lays137_ren:={
 mixed:=by kernel_rfl
 f137:=Tryz.func68.trans (congrArg some (by kernel_rfl))
 f217:=Tryz.func96.trans (congrArg some (by kernel_rfl))
 f266:=Tryz.func121.trans (congrArg some (by kernel_rfl))
 t3:=Tryz.underlying3
 a3:=Tryz.isAgg3
 z3:=Tryz.sizeOf3
 v3:=Tryz.zeroValue3
 t5:=Tryz.underlying5
 a5:=Tryz.isAgg5
 z5:=Tryz.sizeOf5
 v5:=Tryz.zeroValue5
 t9:=Tryz.underlying9
 a9:=Tryz.isAgg9
 z9:=Tryz.sizeOf9
 v9:=Tryz.zeroValue9}
def Tryz.laysC174_ren:Go.Shelf.Ren:=⟨fun|174=>238|247=>242|245=>160|287=>243|279=>178|280=>179|281=>180|282=>181|321=>220|322=>221|316=>194|171=>196|205=>195|243=>214|246=>131|283=>141|284=>142|285=>143|286=>144|129=>165|317=>164|318=>166|319=>167|320=>168|337=>186|338=>187|n=>n,fun|9=>9|3=>3|2=>2|75=>69|85=>266|4=>4|167=>192|5=>5|53=>129|175=>273|46=>96|168=>193|37=>63|0=>0|210=>205|21=>21|127=>108|145=>239|143=>237|171=>162|173=>165|212=>183|51=>126|20=>20|213=>184|232=>212|233=>213|80=>73|n=>n,fun|15=>5|16=>6|17=>4|18=>12|19=>13|n=>n⟩
theorem Tryz.laysC174:Go.Proofs.LaysC.n174 Tryz.prog Tryz.laysC174_ren:={
 mixed:=by kernel_rfl
 f129:=Tryz.func165.trans (congrArg some (by kernel_rfl))
 f171:=Tryz.func196.trans (congrArg some (by kernel_rfl))
 f174:=Tryz.func238.trans (congrArg some (by kernel_rfl))
 f205:=Tryz.func195.trans (congrArg some (by kernel_rfl))
 f243:=Tryz.func214.trans (congrArg some (by kernel_rfl))
 f245:=Tryz.func160.trans (congrArg some (by kernel_rfl))
 f246:=Tryz.func131.trans (congrArg some (by kernel_rfl))
 f247:=Tryz.func242.trans (congrArg some (by kernel_rfl))
 f279:=Tryz.func178.trans (congrArg some (by kernel_rfl))
 f280:=Tryz.func179.trans (congrArg some (by kernel_rfl))
 f281:=Tryz.func180.trans (congrArg some (by kernel_rfl))
 f282:=Tryz.func181.trans (congrArg some (by kernel_rfl))
 f283:=Tryz.func141.trans (congrArg some (by kernel_rfl))
 f284:=Tryz.func142.trans (congrArg some (by kernel_rfl))
 f285:=Tryz.func143.trans (congrArg some (by kernel_rfl))
 f286:=Tryz.func144.trans (congrArg some (by kernel_rfl))
 f287:=Tryz.func243.trans (congrArg some (by kernel_rfl))
 f316:=Tryz.func194.trans (congrArg some (by kernel_rfl))
 f317:=Tryz.func164.trans (congrArg some (by kernel_rfl))
 f318:=Tryz.func166.trans (congrArg some (by kernel_rfl))
 f319:=Tryz.func167.trans (congrArg some (by kernel_rfl))
 f320:=Tryz.func168.trans (congrArg some (by kernel_rfl))
 f321:=Tryz.func220.trans (congrArg some (by kernel_rfl))
 f322:=Tryz.func221.trans (congrArg some (by kernel_rfl))
 f337:=Tryz.func186.trans (congrArg some (by kernel_rfl))
 f338:=Tryz.func187.trans (congrArg some (by kernel_rfl))
 t0:=Tryz.underlying0
 a0:=Tryz.isAgg0
 z0:=Tryz.sizeOf0
 v0:=Tryz.zeroValue0
 t2:=Tryz.underlying2
 a2:=Tryz.isAgg2
 z2:=Tryz.sizeOf2
 v2:=Tryz.zeroValue2
 t3:=Tryz.underlying3
 a3:=Tryz.isAgg3
 z3:=Tryz.sizeOf3
 v3:=Tryz.zeroValue3
 t4:=Tryz.underlying4
 a4:=Tryz.isAgg4
 z4:=Tryz.sizeOf4
 v4:=Tryz.zeroValue4
 t5:=Tryz.underlying5
 a5:=Tryz.isAgg5
 z5:=Tryz.sizeOf5
 v5:=Tryz.zeroValue5
 t9:=Tryz.underlying9
 a9:=Tryz.isAgg9
 z9:=Tryz.sizeOf9
 v9:=Tryz.zeroValue9
 t20:=Tryz.underlying20
 a20:=Tryz.isAgg20
 z20:=Tryz.sizeOf20
 v20:=Tryz.zeroValue20
 t21:=Tryz.underlying21
 a21:=Tryz.isAgg21
 z21:=Tryz.sizeOf21
 v21:=Tryz.zeroValue21
 t37:=Tryz.underlying63
 a37:=Tryz.isAgg63
 z37:=Tryz.sizeOf63
 v37:=Tryz.zeroValue63
 t46:=Tryz.underlying96
 a46:=Tryz.isAgg96
 z46:=Tryz.sizeOf96
 v46:=Tryz.zeroValue96
 t51:=Tryz.underlying126
 a51:=Tryz.isAgg126
 z51:=Tryz.sizeOf126
 v51:=Tryz.zeroValue126
 t53:=Tryz.underlying129
 a53:=Tryz.isAgg129
 z53:=Tryz.sizeOf129
 v53:=Tryz.zeroValue129
 t75:=Tryz.underlying69
 a75:=Tryz.isAgg69
 z75:=Tryz.sizeOf69
 v75:=Tryz.zeroValue69
 t85:=Tryz.underlying266
 a85:=Tryz.isAgg266
 z85:=Tryz.sizeOf266
 v85:=Tryz.zeroValue266
 t127:=Tryz.underlying108
 a127:=Tryz.isAgg108
 z127:=Tryz.sizeOf108
 v127:=Tryz.zeroValue108
 t143:=Tryz.underlying237
 a143:=Tryz.isAgg237
 z143:=Tryz.sizeOf237
 v143:=Tryz.zeroValue237
 t145:=Tryz.underlying239
 a145:=Tryz.isAgg239
 z145:=Tryz.sizeOf239
 v145:=Tryz.zeroValue239
 t167:=Tryz.underlying192
 a167:=Tryz.isAgg192
 z167:=Tryz.sizeOf192
 v167:=Tryz.zeroValue192
 t168:=Tryz.underlying193
 a168:=Tryz.isAgg193
 z168:=Tryz.sizeOf193
 v168:=Tryz.zeroValue193
 t171:=Tryz.underlying162
 a171:=Tryz.isAgg162
 z171:=Tryz.sizeOf162
 v171:=Tryz.zeroValue162
 t173:=Tryz.underlying165
 a173:=Tryz.isAgg165
 z173:=Tryz.sizeOf165
 v173:=Tryz.zeroValue165
 t175:=Tryz.underlying273
 a175:=Tryz.isAgg273
 z175:=Tryz.sizeOf273
 v175:=Tryz.zeroValue273
 t210:=Tryz.underlying205
 a210:=Tryz.isAgg205
 z210:=Tryz.sizeOf205
 v210:=Tryz.zeroValue205
 t212:=Tryz.underlying183
 a212:=Tryz.isAgg183
 z212:=Tryz.sizeOf183
 v212:=Tryz.zeroValue183
 t213:=Tryz.underlying184
 a213:=Tryz.isAgg184
 z213:=Tryz.sizeOf184
 t232:=Tryz.underlying212
 a232:=Tryz.isAgg212
 z232:=Tryz.sizeOf212
 v232:=Tryz.zeroValue212
 t233:=Tryz.underlying213
 a233:=Tryz.isAgg213
 z233:=Tryz.sizeOf213
 v233:=Tryz.zeroValue213
 g15:=by kernel_rfl
 g16:=by kernel_rfl
 g17:=by kernel_rfl
 g18:=by kernel_rfl
 g19:=by kernel_rfl
 t80:=Tryz.underlying73
 a80:=Tryz.isAgg73
 z80:=Tryz.sizeOf73
 v80:=Tryz.zeroValue73
 i0:=by kernel_rfl
 i2:=by kernel_rfl
 i3:=by kernel_rfl
 i4:=by kernel_rfl
 i5:=by kernel_rfl
 i9:=by kernel_rfl
 i20:=by kernel_rfl
 i21:=by kernel_rfl
 i37:=by kernel_rfl
 i46:=by kernel_rfl
 i51:=by kernel_rfl
 i53:=by kernel_rfl
 i75:=by kernel_rfl
 i80:=by kernel_rfl
 i85:=by kernel_rfl
 i127:=by kernel_rfl
 i143:=by kernel_rfl
 i145:=by kernel_rfl
 i167:=by kernel_rfl
 i168:=by kernel_rfl
 i171:=by kernel_rfl
 i173:=by kernel_rfl
 i175:=by kernel_rfl
 i210:=by kernel_rfl
 i212:=by kernel_rfl
 i232:=by kernel_rfl
 i233:=by kernel_rfl
 m15:=by kernel_rfl
 m16:=by kernel_rfl
 m17:=by kernel_rfl
 m18:=by kernel_rfl
 m19:=by kernel_rfl
 c0:=by kernel_rfl
 c2:=by kernel_rfl
 c3:=by kernel_rfl
 c4:=by kernel_rfl
 c5:=by kernel_rfl
 c9:=by kernel_rfl
 c20:=by kernel_rfl
 c21:=by kernel_rfl
 c37:=by kernel_rfl
 c46:=by kernel_rfl
 c51:=by kernel_rfl
 c53:=by kernel_rfl
 c75:=by kernel_rfl
 c80:=by kernel_rfl
 c85:=by kernel_rfl
 c127:=by kernel_rfl
 c143:=by kernel_rfl
 c145:=by kernel_rfl
 c167:=by kernel_rfl
 c168:=by kernel_rfl
 c171:=by kernel_rfl
 c173:=by kernel_rfl
 c175:=by kernel_rfl
 c210:=by kernel_rfl
 c212:=by kernel_rfl
 c213:=by kernel_rfl
 c232:=by kernel_rfl
 c233:=by kernel_rfl}
def Tryz.lays144_ren:Go.Shelf.Ren:=⟨fun|144=>20|143=>52|219=>87|217=>96|225=>111|224=>112|267=>113|266=>121|314=>129|n=>n,fun|9=>9|4=>4|3=>3|5=>5|46=>96|146=>127|51=>126|n=>n,fun|1=>0|n=>n⟩
theorem Tryz.lays144:Go.Proofs.Lays.n144 Tryz.prog Tryz.lays144_ren:={
 mixed:=by kernel_rfl
 f143:=Tryz.func52.trans (congrArg some (by kernel_rfl))
 f144:=Tryz.func20.trans (congrArg some (by kernel_rfl))
 f217:=Tryz.func96.trans (congrArg some (by kernel_rfl))
 f219:=Tryz.func87.trans (congrArg some (by kernel_rfl))
 f224:=Tryz.func112.trans (congrArg some (by kernel_rfl))
 f225:=Tryz.func111.trans (congrArg some (by kernel_rfl))
 f266:=Tryz.func121.trans (congrArg some (by kernel_rfl))
 f267:=Tryz.func113.trans (congrArg some (by kernel_rfl))
 f314:=Tryz.func129.trans (congrArg some (by kernel_rfl))
 t3:=Tryz.underlying3
 a3:=Tryz.isAgg3
 z3:=Tryz.sizeOf3
 v3:=Tryz.zeroValue3
 t4:=Tryz.underlying4
 a4:=Tryz.isAgg4
 z4:=Tryz.sizeOf4
 v4:=Tryz.zeroValue4
 t5:=Tryz.underlying5
 a5:=Tryz.isAgg5
 z5:=Tryz.sizeOf5
 v5:=Tryz.zeroValue5
 t9:=Tryz.underlying9
 a9:=Tryz.isAgg9
 z9:=Tryz.sizeOf9
 v9:=Tryz.zeroValue9
 t46:=Tryz.underlying96
 a46:=Tryz.isAgg96
 z46:=Tryz.sizeOf96
 v46:=Tryz.zeroValue96
 t51:=Tryz.underlying126
 a51:=Tryz.isAgg126
 z51:=Tryz.sizeOf126
 v51:=Tryz.zeroValue126
 t146:=Tryz.underlying127
 a146:=Tryz.isAgg127
 z146:=Tryz.sizeOf127
 v146:=Tryz.zeroValue127
 g1:=by kernel_rfl}
def Tryz.lays99_ren:Go.Shelf.Ren:=⟨fun|99=>26|206=>60|n=>n,fun|9=>9|4=>4|3=>3|n=>n,fun|n=>n⟩
theorem Tryz.lays99:Go.Proofs.Lays.n99 Tryz.prog Tryz.lays99_ren:={
 mixed:=by kernel_rfl
 f99:=Tryz.func26.trans (congrArg some (by kernel_rfl))
 f206:=Tryz.func60.trans (congrArg some (by kernel_rfl))
 t3:=Tryz.underlying3
 a3:=Tryz.isAgg3
 z3:=Tryz.sizeOf3
 v3:=Tryz.zeroValue3
 t4:=Tryz.underlying4
 a4:=Tryz.isAgg4
 z4:=Tryz.sizeOf4
 v4:=Tryz.zeroValue4
 t9:=Tryz.underlying9
 a9:=Tryz.isAgg9
 z9:=Tryz.sizeOf9
 v9:=Tryz.zeroValue9}
end Go.Proofs
namespace Go.Sx.Tryz
open Go Go.Sx Go.Proofs
set_option maxRecDepth 100000
variable{G:Nat→Obj→Prop}
structure TabsAt(w:World):Prop where
 mx:∃m,w.cell? ⟨0,0,none⟩=some (.int .i64 m)
 er:∃ev,w.cell? ⟨6,0,none⟩=some ev∧(ev= .nilIface∨∃te pe,ev= .iface te pe)
def fX(G:Nat→Obj→Prop):Prop:=∀D:Ctx,D.gl=G→SRel D→TabsAt D.w
theorem fc26:FIOK Tryz.prog 26 fi26:=⟨⟨Tryz.f26,Tryz.func26,rfl,rfl,rfl,by kernel_rfl⟩,by kernel_rfl⟩
theorem fc20:FIOK Tryz.prog 20 fi20:=⟨⟨Tryz.f20,Tryz.func20,rfl,rfl,rfl,by kernel_rfl⟩,by kernel_rfl⟩
theorem fc68:FIOK Tryz.prog 68 fi68:=⟨⟨Tryz.f68,Tryz.func68,rfl,rfl,rfl,by kernel_rfl⟩,by kernel_rfl⟩
theorem HR(x:ai iJ):SAD Tryz.prog G 26 iJ cd x (hpX x):=by
 obtain⟨s,p,⟨⟩⟩:=x
 exact oe fc26 (us:=[.string ⟨⟨s⟩⟩,.string ⟨⟨p⟩⟩]) rfl (fun _=>rfl) rfl fun D hG hs=>Calls.mono (Any.strings_HasPrefix Tryz.lays99 ⟨⟨s⟩⟩ ⟨⟨p⟩⟩ D.w) fun e w' h=>⟨h.1,gj h.2 rfl⟩
theorem C6(ht:fX G)(x:ai iJ)(hx:Ks x=true):SAD Tryz.prog G 20 iJ cd x (IE x):=by
 obtain⟨s,p,⟨⟩⟩:=x
 refine oe fc20 (us:=[.string ⟨⟨s⟩⟩,.string ⟨⟨p⟩⟩]) rfl (fun _=>rfl) rfl fun D hG hs=>?_
 obtain⟨m,hm⟩:=(ht D hG hs).mx
 refine Calls.mono (Any.strings_Contains Tryz.lays144 ⟨⟨s⟩⟩ ⟨⟨p⟩⟩ m D.w ?_ hm) fun e w' h=>⟨h.1,gj h.2 rfl⟩
 have h1:s.length≤4000000000:=Nat.le_of_ble_eq_true hx
 show List.length s<_
 omega
theorem La(x:ai x6):SAD Tryz.prog G 68 x6 bP x (ibX x):=by
 obtain⟨s,c,⟨⟩⟩:=x
 exact oe fc68 (us:=[.string ⟨⟨s⟩⟩,.int .u8 c]) rfl (fun _=>rfl) rfl fun D hG hs=>Calls.mono (Any.strings_IndexByte Tryz.lays137 ⟨⟨s⟩⟩ c D.w) fun e w' h=>⟨h.1,gj h.2 rfl⟩
theorem tO(ht:fX G):aT Tryz.prog G eD:=.cons (aD fun x _=>HR x) (.cons (aD fun x h=>C6 ht x h) (.cons (aD fun x _=>La x) .nil))
end Go.Sx.Tryz
namespace Go.Sx.Tryz
open Go Go.Sx Go.Proofs
set_option maxRecDepth 100000
def MT:List UInt8:=List.append
          (List.append
           [32,99,108,97,115,115,32,101,120,116,101,110,100,115,32,105,110,105,116,32,105,110,116,32,98,111,111,108,32,100,111,117,98,
            108,101,32,115,116,114,32,118,111,105,100]
           [32,79,112,116,105,111,110,32,105,102,32,101,108,115,101,32,119,104,105,108,101,32,98,114,101,97,107,32,99,111,110,116,105,
            110,117,101,32,114,101,116,117,114,110,32,112])
          (List.append
           [114,105,110,116,32,115,117,112,101,114,32,116,104,105,115,32,110,117,108,108,32,110,111,110,101,32,115,111,109,101,32,105,
            115,32,116,114,117,101,32,102,97,108,115,101,32]
           [110,101,119,32,99,97,115,116,32,116,111,105,110,116,32,116,111,100,111,117,98,108,101,32,105,110,112,117,116,32,97,115,107,
            32,108,101,110,103,116,104,32,118,97,108,32])
def qs(s:List UInt8):Bool:=(!s==[])&&(decide (ibS s 32<0)&&Lib.contains MT ([32]++s++[32]))
def okS(s:List UInt8):Bool:=decide ((s.length:Int)≤1099511627776)
def HV(x:ai bB):ai cd:=(qs x.1,())
def dt(s:List UInt8):Bool:=(s.all fun c=>aM c.toNat)&& !s==[]
def D5(x:ai bB):ai cd:=(dt x.1,())
def ir(first:Bool)(c:UInt8):Bool:=isLet c.toNat||(!first&&aM c.toNat)
def bT(s:List UInt8):Bool:=(match s with|[]=>true|c::r=>ir true c&&r.all (ir false))&&((!s==[])&&(decide ((s.length:Int)≤64)&& !qs s))
def xY(x:ai bB):ai cd:=(bT x.1,())
def cW(x:ai bB):Bool:=okS x.1
def mi:List (Nat×aQ):=[(37,bg 37 fZ cd (fun _=>true) EE),(38,bg 38 fZ cd (fun _=>true) EF),(39,bg 39 bB cd cW HV)]
def fW:List Cut:=[⟨[true,false,true,false,false],some ⟨[(0,[]),(5,[]),(6,[])],[]⟩⟩]
def DG(s:List UInt8)(l k:Int):St:={tmps:=[(0,.str s),(5,.int .i64 l),(6,.int .i64 k)],blks:=[],next:=0}
end Go.Sx.Tryz
namespace Go.Sx.Tryz
open Go Go.Sx
set_option maxRecDepth 100000
theorem Ca(J:Jump R0)(s:List UInt8):start E (an []) kv fW J [.str s] [] .ok=J 0 {tmps:=[(0,AV.str s),(5,Iz (↑(List.length s):Int)),(6,Iz 0)],blks:=[],next:=0}:=by kernel_rfl
theorem yT(J:Jump R0)(s:List UInt8)(l k:Int):resume E (an []) (aR 0 fW 0) J [true,false,true,false,false] kv.code 1 (DG s l k) (bX E 0 kv.results .ok)=bif decide (k<l)then bif inI k (List.length s)then bif decide ((↑(UInt8.toNat (List.getD s (Int.toNat k) 0)):Int)<48)then Rs.ok (Out.ret (AV.bool false),[])else bif inI k (List.length s)then bif decide ((↑(UInt8.toNat (List.getD s (Int.toNat k) 0)):Int)>57)then Rs.ok (Out.ret (AV.bool false),[])else J 0 {tmps:=[(0,AV.str s),(5,Iz l),(6,Iz (IntKind.wrap IntKind.i64 (k+1)))],blks:=[],next:=0}else Rs.err 407 else Rs.err 402 else Rs.ok (Out.ret (AV.bool !s==[]),[]):=by kernel_rfl
theorem Gn(J:Jump R0)(s:List UInt8):start E (an mi) pM fW J [.str s] [] .ok=J 0 {tmps:=[(0,AV.str s),(5,Iz (↑(List.length s):Int)),(6,Iz 0)],blks:=[],next:=0}:=by kernel_rfl
theorem CF(J:Jump R0)(s:List UInt8)(l k:Int):resume E (an mi) (aR 0 fW 0) J [true,false,true,false,false] pM.code 1 (DG s l k) (bX E 0 pM.results .ok)=bif decide (k<l)then bif inI k (List.length s)then bif !isLet (↑(UInt8.toNat (List.getD s (Int.toNat k) 0)):Int)then bif k==0 then Rs.ok (Out.ret (AV.bool false),[])else bif inI k (List.length s)then bif !aM (↑(UInt8.toNat (List.getD s (Int.toNat k) 0)):Int)then Rs.ok (Out.ret (AV.bool false),[])else J 0 {tmps:=[(0,AV.str s),(5,Iz l),(6,Iz (IntKind.wrap IntKind.i64 (k+1)))],blks:=[],next:=0}else Rs.err 411 else J 0 {tmps:=[(0,AV.str s),(5,Iz l),(6,Iz (IntKind.wrap IntKind.i64 (k+1)))],blks:=[],next:=0}else Rs.err 402 else bif !s==[]then bif decide ((↑(List.length s):Int)≤64)then bif cW (s,())then Rs.ok (Out.ret (AV.bool !qs s),[])else Rs.err 3000039 else Rs.ok (Out.ret (AV.bool false),[])else Rs.ok (Out.ret (AV.bool false),[]):=by kernel_rfl
end Go.Sx.Tryz
