/- A part of the proof: see the row's text. -/
import Derived.Test.YtaklpoiaicepoaaGreatDoorZa27
import Derived.Lib.ItoaLen
set_option linter.unusedVariables false
set_option linter.unusedSimpArgs false
noncomputable section
namespace Go.Sx.Tryz
open Go Go.Sx Go.Proofs
set_option maxRecDepth 100000
theorem AD{L:List Nd}{r n:Int}{us:List Bool}{o:R0}(hu:(us.length:Int)=n)(hn:n≤9000)(hr:r=n-1):∀(d:Nat) (i:Int),0≤i→i+d=n→o=xL (nc ((((us.map toI).drop i.toNat).take (d-1))))→wT 2 (Cw L r us n i) o
 |0,i,h0,hd,h=>by
  refine⟨1,(qe (pieces (R:=R0) E (ao dJ) fy ep 0 .ok 0) L r us n i).trans ?_⟩
  have h1:¬i<n:=by omega
  simp only[h1,decide_false,cond_false,h]
  rfl
 |d+1,i,h0,hd,h=>by
  have h1:i<n:=by omega
  have h2:inI i us.length=true:=cv h0 (by omega)
  have h5:IntKind.wrap .i64 (i+1)=i+1:=wrap64 (by omega) (by omega)
  have hlt:i.toNat<(us.map toI).length:=by simp;omega
  have hg:us.getD i.toNat (Ty.dflt Ty.bool)=us.getD i.toNat false:=rfl
  cases d with
  |zero=>
   have hir:(i !=r)=false:=by simp;omega
   obtain⟨fuel,ih⟩:=AD (o:=o) hu hn hr 0 (i+1) (by omega) (by omega) (by rw[h];rfl)
   refine⟨fuel+1,(qe (pieces (R:=R0) E (ao dJ) fy ep 0 .ok fuel) L r us n i).trans ?_⟩
   simp only[h1,h2,h5,hir,decide_true,cond_true,cond_false]
   cases (us.getD i.toNat (Ty.dflt Ty.bool))<;>exact ih
  |succ d=>
   have hir:(i !=r)=true:=by simp;omega
   have e:((us.map toI).drop i.toNat).take (d+1+1-1)=b9 (us.map toI) i.toNat::((us.map toI).drop (i+1).toNat).take (d+1-1):=by
    show((us.map toI).drop i.toNat).take (d+1)=_::((us.map toI).drop (i+1).toNat).take d
    rw[List.drop_eq_getElem_cons hlt,List.take_succ_cons]
    have:i.toNat+1=(i+1).toNat:=by omega
    rw[this]
    congr 1
    rw[b9,List.getD,List.getElem?_eq_getElem hlt]
    rfl
   rw[e,y5]at h
   cases e1:us.getD i.toNat false
   ·refine⟨1,(qe (pieces (R:=R0) E (ao dJ) fy ep 0 .ok 0) L r us n i).trans ?_⟩
    rw[e1]at h
    have h:o=xL 3:=h
    simp only[h1,h2,hg,e1,hir,Bool.not_false,decide_true,cond_true,h]
    rfl
   ·have e2:(toI true==0)=false:=rfl
    rw[e1]at h
    simp only[nc,List.any_cons,e2,Bool.false_or]at h
    obtain⟨fuel,ih⟩:=AD hu hn hr (d+1) (i+1) (by omega) (by omega) h
    refine⟨fuel+1,(qe (pieces (R:=R0) E (ao dJ) fy ep 0 .ok fuel) L r us n i).trans ?_⟩
    simp only[h1,h2,h5,hg,e1,Bool.not_true,decide_true,cond_true,cond_false]
    exact ih
theorem IT{L:List Nd}{r:Int}{o:R0}(hL:L.length≤9000):∀(xs pre:List Nd) (us:List Bool),L=pre++xs→xs.all fB=true→us.length=L.length→
  (match cn pre.length xs (us.map toI)with| .inl c=>o=xL c| .inr u'=>∀us':List Bool,u'=us'.map toI→us'.length=L.length→wT 2 (Cw L r us' L.length 0) o)→wT 0 (vc L r us L.length pre.length) o
 |[],pre,us,hp,_,hu,h=>by
  obtain⟨fuel,h⟩:wT 2 (Cw L r us L.length 0) o:=h us rfl hu
  refine⟨fuel+1,(Be (pieces (R:=R0) E (ao dJ) fy ep 0 .ok fuel) L r us L.length pre.length).trans ?_⟩
  have h1:¬((pre.length:Int)<L.length):=by rw[hp,List.append_nil];omega
  simp only[h1,decide_false,cond_false]
  rw[←hu]at h
  exact h
 |x::xs,pre,us,hp,hs,hu,h=>by
  have hlen:pre.length+1+xs.length=L.length:=by rw[hp];simp;omega
  have h1:(pre.length:Int)<L.length:=by omega
  have h2:inI (pre.length:Int) L.length=true:=by rw[hp];exact xe _ _ _
  have h3:ag L (Int.toNat (pre.length:Int))=x:=by rw[hp,Int.toNat_natCast];exact yh _ _ _
  have h5:(((pre++[x]).length:Nat):Int)=(pre.length:Int)+1:=by simp
  simp only[List.all_cons,Bool.and_eq_true]at hs
  have hsx:=hs.1
  simp only[fB,Bool.and_eq_true,decide_eq_true_eq]at hsx
  have hk:(aj x).length≤20000:=hsx.1
  simp only[cn]at h
  cases e:(dF x !=0)
  ·simp only[e,cond_false]at h
   have key:wT 1 (Bc L r us L.length pre.length pre.length (aj x) (aj x).length 0) o:=Hs hk (by omega) (by omega) (aj x) [] us rfl (by omega) (by
    cases e2:ef (pre.length:Int) (aj x) (us.map toI)with
    |inl c=>rw[e2]at h;exact h
    |inr u'=>
     rw[e2]at h
     intro us' hus' hl'
     have:=IT (r:=r) (o:=o) hL xs (pre++[x]) us' (by simp[hp]) hs.2 (by omega) (by rw[h5,←hus'];exact h)
     rw[h5]at this
     exact this)
   obtain⟨fuel,hf⟩:=key
   refine⟨fuel+1,(xo (pieces (R:=R0) E (ao dJ) fy ep 0 .ok fuel) h1 h2 h3).trans ?_⟩
   rw[e]
   exact hf
  ·simp only[e,cond_true]at h
   refine⟨1,(xo (pieces (R:=R0) E (ao dJ) fy ep 0 .ok 0) h1 h2 h3).trans ?_⟩
   rw[e,h]
   rfl
theorem sL(L:List Nd)(r:Int)(hs:jJ L=true):∃fuel,start (R:=R0) E (ao dJ) fy ep (pieces (R:=R0) E (ao dJ) fy ep 0 .ok fuel) [.agg (trC L r)] [] .ok= .ok (xL (dH L r)):=by
 simp only[jJ,Bool.and_eq_true,decide_eq_true_eq]at hs
 obtain⟨hL,hs⟩:=hs
 have h0:¬((L.length:Int)>16384):=by omega
 have hw:IntKind.wrap .i64 ((L.length:Int)-1)=(L.length:Int)-1:=wrap64 (by omega) (by omega)
 unfold dH
 by_cases h1:(L.length:Int)=0
 ·exact⟨0,by rw[qt];simp only[h0,h1,decide_false,cond_false,cond_true,beq_self_eq_true];rfl⟩
 have h1':((L.length:Int)==0)=false:=by simpa using h1
 cases e2:(r !=(L.length:Int)-1)
 ·have hr:r=(L.length:Int)-1:=by simpa using e2
  have hin:inI r L.length=true:=cv (by omega) (by omega)
  cases e3:(ak (ag L r.toNat) !=1)
  ·have hrep:(List.replicate L.length false).map toI=List.replicate L.length 0:=by simp[toI]
   obtain⟨fuel,hf⟩:wT 0 (vc L r (List.replicate L.length false) L.length 0) (xL (match cn 0 L (List.replicate L.length 0)with| .inl c=>c| .inr u=>nc (u.take (L.length-1)))):=by
    have:=IT (r:=r) (o:=xL (match cn 0 L (List.replicate L.length 0)with| .inl c=>c| .inr u=>nc (u.take (L.length-1)))) hL L [] (List.replicate L.length false) rfl hs (by simp) (by
     rw[hrep]
     simp only[List.length_nil,Int.natCast_zero]
     cases e4:cn 0 L (List.replicate L.length 0)with
     |inl c=>rfl
     |inr u=>
      intro us hus hl
      exact AD (by omega) (by omega) hr L.length 0 (by omega) (by omega) (by rw[hus];rfl))
    exact this
   refine⟨fuel,?_⟩
   rw[qt,hw]
   have h5:inR (L.length:Int)=true:=by
    have hm:aq=68719476736:=rfl
    simp only[inR,Bool.and_eq_true,decide_eq_true_eq,hm]
    omega
   simp only[h0,h1',e2,e3,hin,h5,beq_self_eq_true,Bool.and_self,decide_false,cond_false,cond_true]
   exact hf
  ·refine⟨0,?_⟩
   rw[qt,hw]
   simp only[h0,h1',e2,e3,hin,decide_false,cond_false,cond_true]
   rfl
 ·refine⟨0,?_⟩
  rw[qt,hw]
  simp only[h0,h1',e2,decide_false,cond_false,cond_true]
  rfl
end Go.Sx.Tryz
namespace Go.Sx.Tryz
open Go Go.Sx Go.Proofs
set_option maxRecDepth 100000
def wz:List (List UInt8×Int×Int×Bool×Bool×Unit):=[([],0,0,false,false,()),([112,114,111,103,114,97,109],0,-1,false,false,()),([99,108,97,115,115],0,-1,true,false,()),([101,120,116,101,110,100,115],0,0,true,false,()),([102,105,101,108,100],0,0,true,true,()),([105,110,105,116],1,-1,false,false,()),([109,101,116,104,111,100],1,-1,true,true,()),([112,97,114,97,109],0,0,true,true,()),([98,108,111,99,107],0,-1,false,false,()),([100,101,99,108],0,1,true,true,()),([97,115,115,105,103,110],2,2,false,false,()),([105,102],2,3,false,false,()),([119,104,105,108,101],2,2,false,false,()),([98,114,101,97,107],0,0,false,false,()),([99,111,110,116,105,110,117,101],0,0,false,false,()),([114,101,116,117,114,110],0,1,false,false,()),([112,114,105,110,116],1,1,false,false,()),([115,117,112,101,114],0,-1,false,false,()),([101,120,112,114],1,1,false,false,()),([105,110,116],0,0,false,false,()),([100,111,117,98,108,101],0,0,true,false,()),([98,111,111,108],0,0,false,false,()),([115,116,114],0,0,true,false,()),([110,117,108,108],0,0,false,false,()),([116,104,105,115],0,0,false,false,()),([118,97,114],0,0,true,false,()),([103,101,116],1,1,true,false,()),([105,110,100,101,120],2,2,false,false,()),([108,101,110,103,116,104],1,1,false,false,()),([99,97,108,108],1,-1,true,false,()),([110,101,119],0,-1,false,true,()),([97,114,114,97,121],1,1,false,true,()),([110,101,103],1,1,false,false,()),([110,111,116],1,1,false,false,()),([98,105,110,97,114,121],2,2,true,false,()),([99,97,115,116],1,1,false,true,()),([116,111,105,110,116],1,1,false,false,()),([116,111,100,111,117,98,108,101],1,1,false,false,()),([105,110,112,117,116],0,0,false,false,()),([97,115,107],1,1,false,false,()),([103,117,97,114,100],1,1,false,false,()),([115,111,109,101],1,1,false,false,()),([110,111,110,101],0,0,false,false,()),([105,115,115,111,109,101],1,1,false,false,()),([105,115,110,111,110,101],1,1,false,false,()),([118,97,108],1,1,false,false,())]
def shT(k:Int):List UInt8×Int×Int×Bool×Bool×Unit:=(cA k,mD k,oz k,lE k,fp k,())
def sh0:List UInt8×Int×Int×Bool×Bool×Unit:=([],0,0,false,false,())
def shC(x:List UInt8×Int×Int×Bool×Bool×Unit):List AV:=[.str x.1,.int .i64 x.2.1,.int .i64 x.2.2.1,.bool x.2.2.2.1,.bool x.2.2.2.2.1]
theorem O4(k:Int):body (R:=R0) E (Dc E0 (kg 64 ly) cl 1000 10) L4 [.int .i64 k] [] .ok=bif decide (k<0)then .ok (.ret (.agg (shC sh0)),[])else bif decide (k≥46)then .ok (.ret (.agg (shC sh0)),[])else bif inI k 46 then .ok (.ret (.agg (shC (wz.getD k.toNat sh0))),[])else .err 302:=by kernel_rfl
theorem CX:wz=(List.range 46).map (fun i:Nat=>shT i):=by kernel_rfl
theorem Ln(k:Int):body (R:=R0) E (Dc E0 (kg 64 ly) cl 1000 10) L4 [.int .i64 k] [] .ok= .ok (.ret (.agg (shC (shT k))),[]):=by
 rw[O4]
 have out:inK k=false→cA k=[]→shT k=sh0:=fun h hn=>by
  unfold shT mD oz lE fp
  rw[h,hn]
  rfl
 by_cases h0:k<0
 ·have h1:inK k=false:=by simp[inK];omega
  have h2:cA k=[]:=by
   have:k<1:=by omega
   simp[cA,this]
  rw[out h1 h2]
  simp only[h0,decide_true,cond_true]
 ·by_cases h46:k≥46
  ·have h1:inK k=false:=by simp[inK];omega
   have h2:cA k=[]:=by
    have:¬k<1:=by omega
    have h3:(46:Int)≤k:=h46
    simp[cA,this,h3]
   rw[out h1 h2]
   simp only[h0,h46,decide_true,decide_false,cond_true,cond_false]
  ·have h1:inI k 46=true:=cv (by omega) (by omega)
   have h2:wz.getD k.toNat sh0=shT k:=by
    rw[CX]
    have h3:k.toNat<46:=by omega
    have h4:((k.toNat:Nat):Int)=k:=Int.toNat_of_nonneg (by omega)
    rw[List.getD,List.getElem?_map,List.getElem?_range h3]
    show shT (k.toNat:Int)=shT k
    rw[h4]
   simp only[h0,h46,h1,h2,decide_false,cond_true,cond_false]
theorem Mr{w0:World}(t:TabsW w0)(x:aA jI):SAD Tryz.prog (GW w0) 50 jI xZ x (shX x):=by
 obtain⟨k,⟨⟩⟩:=x
 exact b7 (bo []) (vS (bo []) (qz t).ok UR 10) RB (Ln k)
theorem II{w0:World}(t:TabsW w0):bu Tryz.prog (GW w0) dJ:=.cons (aZ fun x _=>Mr t x) (.cons (aZ fun x _=>yP t x) .nil)
theorem zQ{w0:World}(t:TabsW w0)(x:aA gZ)(h:qC x=true):SAD Tryz.prog (GW w0) 28 gZ jI x (He x):=by
 obtain⟨⟨L,r,⟨⟩⟩,⟨⟩⟩:=x
 obtain⟨fuel,hf⟩:=sL L r h
 exact bA (bo []) (aV (II t)) T5 (.inl cH) hf
end Go.Sx.Tryz
namespace Go.Sx.Tryz
open Go Go.Sx Go.Proofs
set_option maxRecDepth 100000
theorem JW(s:List Int)(t:List UInt8)(h:s.length+(aX t).length<aq):body (R:=R0) E (ao ly) K1 [.ref 0 0,.str t] (bsB s) .ok=
  .ok (.ret (.tup [.int .i64 t.length,.nili]),[.cells 48 [.bself 0,.own 1 1],.list 5 (.int .u8) 1 false (s++aX t)]):=by
 have h1:body (R:=R0) E (ao ly) K1 [.ref 0 0,.str t] (bsB s) .ok=(bif decide (s.length+(aX t).length<aq)then .ok (.ret (.tup [.int .i64 t.length,.nili]),[.cells 48 [.bself 0,.own 1 1],.list 5 (.int .u8) 1 false (s++aX t)])else .err 206):=by kernel_rfl
 rw[h1]
 simp only[h,decide_true,cond_true]
def wsC:aY:=fun R args bs k=>match args,bs with
 |[.ref 0 0,.str t],[.cells 48 [.bself 0,.own 1 0],.list 5 (.int .u8) 0 false s]=>(match decide (List.length s+(aX t).length<aq)with
  |true=>k (.ret (.tup [.int .i64 t.length,.nili]),[.cells 48 [.bself 0,.own 1 1],.list 5 (.int .u8) 1 false (app s (aX t))])
  |false=>.err 51)
 |_,_=>.err 51
theorem P4{w0:World}(t:TabsW w0):aR Tryz.prog (GW w0) 16 wsC:=fun R args bs k r hr=>by
 unfold wsC at hr
 split at hr
 ·split at hr
  ·rename_i hd
   exact⟨_,hr,b7 (bo []) (EJ t) Wg (JW _ _ (of_decide_eq_true hd))⟩
  ·cases hr
 ·cases hr
end Go.Sx.Tryz
namespace Go.Sx.Tryz
open Go Go.Sx Go.Proofs
set_option maxRecDepth 100000
def tyS(x:Nd):List UInt8:=bif bq (al x) (au x) (ah x) (af x)then eD (al x) (au x) (ah x) (af x)else []
def hdS(x:Nd):List UInt8:=[40]++cA (ak x)++(bif lE (ak x)then [32]++cZ (aH x)else [])++(bif fp (ak x)then [32]++tyS x else [])++(bif ak x==19||ak x==21 then [32]++Lib.itoa (nN x)else [])
def mL(L:List Nd):Nat→Nat→List UInt8
 |0,_=>[]
 |f+1,i=>hdS (ag L i)++(aj (ag L i)).flatMap (fun k=>[32]++mL L f k.toNat)++[41]
def cy(L:List Nd)(i:Nat):List UInt8:=mL L (i+1) i
def pN:List Cut:=[⟨[true,true,true,true,true,true,true,false,true,false,false],some ⟨[(0,[]),(4,[]),(54,[.sl (.int .i64)]),(55,[]),(56,[])],[[],[],[]]⟩⟩]
def KQ(L:List Nd)(r:Int)(s:List Int)(K:List Int)(l k:Int):St:={tmps:=[(0,.ref 0 0),(4,.ref 2 0),(54,.sl (.int .i64) K),(55,.int .i64 l),(56,.int .i64 k)],blks:=[(0,.cells 48 [.bself 0,.own 1 1]),(1,.list 5 (.int .u8) 1 false s),(2,.cells 25 (trC L r))],next:=3}
end Go.Sx.Tryz
namespace Go.Sx.Tryz
open Go Go.Sx Go.Proofs
set_option maxRecDepth 100000
def dR(x:Nd):Bool:=decide (-9223372036854775808≤nN x)&&decide (nN x≤9223372036854775807)
def zk(N:Int)(L:List Nd)(r a:Int)(s:List Int):Bool:=Fl L r&&(L.all dR&&(inI a L.length&&(decide (a<N)&&decide (s.length+(cy L a.toNat).length<aq))))
def sn(N:Int):aY:=fun R args bs k=>match args,bs with
 |[.ref 0 0,.agg [.sl tL L,.int .i64 r],.int .i64 a],[.cells 48 [.bself 0,.own 1 0],.list 5 (.int .u8) 0 false s]=>(match dK tL aE L with
  |some L=>(match zk N L r a s with
   |true=>k (.ret (.tup []),[.cells 48 [.bself 0,.own 1 2],.list 5 (.int .u8) 2 false (app s (aX (cy L a.toNat)))])
   |false=>.err 43)
  |none=>.err 43)
 |_,_=>.err 43
def mH(N:Int):List (Nat×aY):=[(50,cm 50 jI xZ (fun _=>true) shX),(52,ofT 52 sr),(54,ofT 54 nX),(53,cm 53 tc cK l5 Mv),(16,mu 16 wsC),(17,mu 17 wbC),(29,mu 29 (sn N))]
end Go.Sx.Tryz
namespace Go.Sx.Tryz
open Go Go.Sx Go.Proofs
set_option maxRecDepth 100000
theorem JT(J:Jump R0)(N:Int)(L:List Nd)(r a:Int)(s:List Int):start E (ao (mH N)) qO pN J [.ref 0 0,.agg (trC L r),.int .i64 a] (bsB s) .ok=bif inI a (List.length L)then bif decide (List.length [40]+List.length (cA (ak (ag L (Int.toNat a))))<2^62)then bif decide (List.length s+List.length (aX ([40]++cA (ak (ag L (Int.toNat a)))))<aq)then bif lE (ak (ag L (Int.toNat a)))then bif Nat.ble (List.length (aH (ag L (Int.toNat a)))) 1099511627776 then bif decide (List.length [32]+List.length (cZ (aH (ag L (Int.toNat a))))<2^62)then bif decide (List.length (app s (aX ([40]++cA (ak (ag L (Int.toNat a))))))+List.length (aX ([32]++cZ (aH (ag L (Int.toNat a)))))<aq)then bif fp (ak (ag L (Int.toNat a)))then bif l5 ((al (ag L (Int.toNat a)),au (ag L (Int.toNat a)),ah (ag L (Int.toNat a)),af (ag L (Int.toNat a)),()),())then bif decide (List.length [32]+List.length (bif bq (al (ag L (Int.toNat a))) (au (ag L (Int.toNat a))) (ah (ag L (Int.toNat a))) (af (ag L (Int.toNat a)))then eD (al (ag L (Int.toNat a))) (au (ag L (Int.toNat a))) (ah (ag L (Int.toNat a))) (af (ag L (Int.toNat a)))else [])<2^62)then bif decide (List.length (app (app s (aX ([40]++cA (ak (ag L (Int.toNat a)))))) (aX ([32]++cZ (aH (ag L (Int.toNat a))))))+List.length (aX ([32]++bif bq (al (ag L (Int.toNat a))) (au (ag L (Int.toNat a))) (ah (ag L (Int.toNat a))) (af (ag L (Int.toNat a)))then eD (al (ag L (Int.toNat a))) (au (ag L (Int.toNat a))) (ah (ag L (Int.toNat a))) (af (ag L (Int.toNat a)))else []))<aq)then bif ak (ag L (Int.toNat a))==19 then bif decide (10=10)&&(decide (-9223372036854775808≤nN (ag L (Int.toNat a)))&&decide (nN (ag L (Int.toNat a))≤9223372036854775807))then bif decide (List.length [32]+List.length (Lib.itoa (nN (ag L (Int.toNat a))))<2^62)then bif decide (List.length (app (app (app s (aX ([40]++cA (ak (ag L (Int.toNat a)))))) (aX ([32]++cZ (aH (ag L (Int.toNat a)))))) (aX ([32]++bif bq (al (ag L (Int.toNat a))) (au (ag L (Int.toNat a))) (ah (ag L (Int.toNat a))) (af (ag L (Int.toNat a)))then eD (al (ag L (Int.toNat a))) (au (ag L (Int.toNat a))) (ah (ag L (Int.toNat a))) (af (ag L (Int.toNat a)))else [])))+List.length (aX ([32]++Lib.itoa (nN (ag L (Int.toNat a)))))<aq)then J 0 {tmps:=[(0,AV.ref 0 0),(4,AV.ref 2 0),(54,AV.sl (Ty.int IntKind.i64) (aj (ag L (Int.toNat a)))),(55,AV.int IntKind.i64 (↑(List.length (aj (ag L (Int.toNat a)))):Int)),(56,AV.int IntKind.i64 0)],blks:=[(0,Blk.cells 48 [AV.bself 0,AV.own 1 1]),(1,Blk.list 5 (Ty.int IntKind.u8) 1 false (app (app (app (app s (aX ([40]++cA (ak (ag L (Int.toNat a)))))) (aX ([32]++cZ (aH (ag L (Int.toNat a)))))) (aX ([32]++bif bq (al (ag L (Int.toNat a))) (au (ag L (Int.toNat a))) (ah (ag L (Int.toNat a))) (af (ag L (Int.toNat a)))then eD (al (ag L (Int.toNat a))) (au (ag L (Int.toNat a))) (ah (ag L (Int.toNat a))) (af (ag L (Int.toNat a)))else []))) (aX ([32]++Lib.itoa (nN (ag L (Int.toNat a))))))),(2,Blk.cells 25 [AV.sl aE L,AV.int IntKind.i64 r])],next:=3}else Rs.err 51 else Rs.err 904 else Rs.err 1000054 else bif ak (ag L (Int.toNat a))==21 then bif decide (10=10)&&(decide (-9223372036854775808≤nN (ag L (Int.toNat a)))&&decide (nN (ag L (Int.toNat a))≤9223372036854775807))then bif decide (List.length [32]+List.length (Lib.itoa (nN (ag L (Int.toNat a))))<2^62)then bif decide (List.length (app (app (app s (aX ([40]++cA (ak (ag L (Int.toNat a)))))) (aX ([32]++cZ (aH (ag L (Int.toNat a)))))) (aX ([32]++bif bq (al (ag L (Int.toNat a))) (au (ag L (Int.toNat a))) (ah (ag L (Int.toNat a))) (af (ag L (Int.toNat a)))then eD (al (ag L (Int.toNat a))) (au (ag L (Int.toNat a))) (ah (ag L (Int.toNat a))) (af (ag L (Int.toNat a)))else [])))+List.length (aX ([32]++Lib.itoa (nN (ag L (Int.toNat a)))))<aq)then J 0 {tmps:=[(0,AV.ref 0 0),(4,AV.ref 2 0),(54,AV.sl (Ty.int IntKind.i64) (aj (ag L (Int.toNat a)))),(55,AV.int IntKind.i64 (↑(List.length (aj (ag L (Int.toNat a)))):Int)),(56,AV.int IntKind.i64 0)],blks:=[(0,Blk.cells 48 [AV.bself 0,AV.own 1 1]),(1,Blk.list 5 (Ty.int IntKind.u8) 1 false (app (app (app (app s (aX ([40]++cA (ak (ag L (Int.toNat a)))))) (aX ([32]++cZ (aH (ag L (Int.toNat a)))))) (aX ([32]++bif bq (al (ag L (Int.toNat a))) (au (ag L (Int.toNat a))) (ah (ag L (Int.toNat a))) (af (ag L (Int.toNat a)))then eD (al (ag L (Int.toNat a))) (au (ag L (Int.toNat a))) (ah (ag L (Int.toNat a))) (af (ag L (Int.toNat a)))else []))) (aX ([32]++Lib.itoa (nN (ag L (Int.toNat a))))))),(2,Blk.cells 25 [AV.sl aE L,AV.int IntKind.i64 r])],next:=3}else Rs.err 51 else Rs.err 904 else Rs.err 1000054 else J 0 {tmps:=[(0,AV.ref 0 0),(4,AV.ref 2 0),(54,AV.sl (Ty.int IntKind.i64) (aj (ag L (Int.toNat a)))),(55,AV.int IntKind.i64 (↑(List.length (aj (ag L (Int.toNat a)))):Int)),(56,AV.int IntKind.i64 0)],blks:=[(0,Blk.cells 48 [AV.bself 0,AV.own 1 1]),(1,Blk.list 5 (Ty.int IntKind.u8) 1 false (app (app (app s (aX ([40]++cA (ak (ag L (Int.toNat a)))))) (aX ([32]++cZ (aH (ag L (Int.toNat a)))))) (aX ([32]++bif bq (al (ag L (Int.toNat a))) (au (ag L (Int.toNat a))) (ah (ag L (Int.toNat a))) (af (ag L (Int.toNat a)))then eD (al (ag L (Int.toNat a))) (au (ag L (Int.toNat a))) (ah (ag L (Int.toNat a))) (af (ag L (Int.toNat a)))else [])))),(2,Blk.cells 25 [AV.sl aE L,AV.int IntKind.i64 r])],next:=3}else Rs.err 51 else Rs.err 704 else Rs.err 3000053 else bif ak (ag L (Int.toNat a))==19 then bif decide (10=10)&&(decide (-9223372036854775808≤nN (ag L (Int.toNat a)))&&decide (nN (ag L (Int.toNat a))≤9223372036854775807))then bif decide (List.length [32]+List.length (Lib.itoa (nN (ag L (Int.toNat a))))<2^62)then bif decide (List.length (app (app s (aX ([40]++cA (ak (ag L (Int.toNat a)))))) (aX ([32]++cZ (aH (ag L (Int.toNat a))))))+List.length (aX ([32]++Lib.itoa (nN (ag L (Int.toNat a)))))<aq)then J 0 {tmps:=[(0,AV.ref 0 0),(4,AV.ref 2 0),(54,AV.sl (Ty.int IntKind.i64) (aj (ag L (Int.toNat a)))),(55,AV.int IntKind.i64 (↑(List.length (aj (ag L (Int.toNat a)))):Int)),(56,AV.int IntKind.i64 0)],blks:=[(0,Blk.cells 48 [AV.bself 0,AV.own 1 1]),(1,Blk.list 5 (Ty.int IntKind.u8) 1 false (app (app (app s (aX ([40]++cA (ak (ag L (Int.toNat a)))))) (aX ([32]++cZ (aH (ag L (Int.toNat a)))))) (aX ([32]++Lib.itoa (nN (ag L (Int.toNat a))))))),(2,Blk.cells 25 [AV.sl aE L,AV.int IntKind.i64 r])],next:=3}else Rs.err 51 else Rs.err 904 else Rs.err 1000054 else bif ak (ag L (Int.toNat a))==21 then bif decide (10=10)&&(decide (-9223372036854775808≤nN (ag L (Int.toNat a)))&&decide (nN (ag L (Int.toNat a))≤9223372036854775807))then bif decide (List.length [32]+List.length (Lib.itoa (nN (ag L (Int.toNat a))))<2^62)then bif decide (List.length (app (app s (aX ([40]++cA (ak (ag L (Int.toNat a)))))) (aX ([32]++cZ (aH (ag L (Int.toNat a))))))+List.length (aX ([32]++Lib.itoa (nN (ag L (Int.toNat a)))))<aq)then J 0 {tmps:=[(0,AV.ref 0 0),(4,AV.ref 2 0),(54,AV.sl (Ty.int IntKind.i64) (aj (ag L (Int.toNat a)))),(55,AV.int IntKind.i64 (↑(List.length (aj (ag L (Int.toNat a)))):Int)),(56,AV.int IntKind.i64 0)],blks:=[(0,Blk.cells 48 [AV.bself 0,AV.own 1 1]),(1,Blk.list 5 (Ty.int IntKind.u8) 1 false (app (app (app s (aX ([40]++cA (ak (ag L (Int.toNat a)))))) (aX ([32]++cZ (aH (ag L (Int.toNat a)))))) (aX ([32]++Lib.itoa (nN (ag L (Int.toNat a))))))),(2,Blk.cells 25 [AV.sl aE L,AV.int IntKind.i64 r])],next:=3}else Rs.err 51 else Rs.err 904 else Rs.err 1000054 else J 0 {tmps:=[(0,AV.ref 0 0),(4,AV.ref 2 0),(54,AV.sl (Ty.int IntKind.i64) (aj (ag L (Int.toNat a)))),(55,AV.int IntKind.i64 (↑(List.length (aj (ag L (Int.toNat a)))):Int)),(56,AV.int IntKind.i64 0)],blks:=[(0,Blk.cells 48 [AV.bself 0,AV.own 1 1]),(1,Blk.list 5 (Ty.int IntKind.u8) 1 false (app (app s (aX ([40]++cA (ak (ag L (Int.toNat a)))))) (aX ([32]++cZ (aH (ag L (Int.toNat a))))))),(2,Blk.cells 25 [AV.sl aE L,AV.int IntKind.i64 r])],next:=3}else Rs.err 51 else Rs.err 504 else Rs.err 1000052 else bif fp (ak (ag L (Int.toNat a)))then bif l5 ((al (ag L (Int.toNat a)),au (ag L (Int.toNat a)),ah (ag L (Int.toNat a)),af (ag L (Int.toNat a)),()),())then bif decide (List.length [32]+List.length (bif bq (al (ag L (Int.toNat a))) (au (ag L (Int.toNat a))) (ah (ag L (Int.toNat a))) (af (ag L (Int.toNat a)))then eD (al (ag L (Int.toNat a))) (au (ag L (Int.toNat a))) (ah (ag L (Int.toNat a))) (af (ag L (Int.toNat a)))else [])<2^62)then bif decide (List.length (app s (aX ([40]++cA (ak (ag L (Int.toNat a))))))+List.length (aX ([32]++bif bq (al (ag L (Int.toNat a))) (au (ag L (Int.toNat a))) (ah (ag L (Int.toNat a))) (af (ag L (Int.toNat a)))then eD (al (ag L (Int.toNat a))) (au (ag L (Int.toNat a))) (ah (ag L (Int.toNat a))) (af (ag L (Int.toNat a)))else []))<aq)then bif ak (ag L (Int.toNat a))==19 then bif decide (10=10)&&(decide (-9223372036854775808≤nN (ag L (Int.toNat a)))&&decide (nN (ag L (Int.toNat a))≤9223372036854775807))then bif decide (List.length [32]+List.length (Lib.itoa (nN (ag L (Int.toNat a))))<2^62)then bif decide (List.length (app (app s (aX ([40]++cA (ak (ag L (Int.toNat a)))))) (aX ([32]++bif bq (al (ag L (Int.toNat a))) (au (ag L (Int.toNat a))) (ah (ag L (Int.toNat a))) (af (ag L (Int.toNat a)))then eD (al (ag L (Int.toNat a))) (au (ag L (Int.toNat a))) (ah (ag L (Int.toNat a))) (af (ag L (Int.toNat a)))else [])))+List.length (aX ([32]++Lib.itoa (nN (ag L (Int.toNat a)))))<aq)then J 0 {tmps:=[(0,AV.ref 0 0),(4,AV.ref 2 0),(54,AV.sl (Ty.int IntKind.i64) (aj (ag L (Int.toNat a)))),(55,AV.int IntKind.i64 (↑(List.length (aj (ag L (Int.toNat a)))):Int)),(56,AV.int IntKind.i64 0)],blks:=[(0,Blk.cells 48 [AV.bself 0,AV.own 1 1]),(1,Blk.list 5 (Ty.int IntKind.u8) 1 false (app (app (app s (aX ([40]++cA (ak (ag L (Int.toNat a)))))) (aX ([32]++bif bq (al (ag L (Int.toNat a))) (au (ag L (Int.toNat a))) (ah (ag L (Int.toNat a))) (af (ag L (Int.toNat a)))then eD (al (ag L (Int.toNat a))) (au (ag L (Int.toNat a))) (ah (ag L (Int.toNat a))) (af (ag L (Int.toNat a)))else []))) (aX ([32]++Lib.itoa (nN (ag L (Int.toNat a))))))),(2,Blk.cells 25 [AV.sl aE L,AV.int IntKind.i64 r])],next:=3}else Rs.err 51 else Rs.err 904 else Rs.err 1000054 else bif ak (ag L (Int.toNat a))==21 then bif decide (10=10)&&(decide (-9223372036854775808≤nN (ag L (Int.toNat a)))&&decide (nN (ag L (Int.toNat a))≤9223372036854775807))then bif decide (List.length [32]+List.length (Lib.itoa (nN (ag L (Int.toNat a))))<2^62)then bif decide (List.length (app (app s (aX ([40]++cA (ak (ag L (Int.toNat a)))))) (aX ([32]++bif bq (al (ag L (Int.toNat a))) (au (ag L (Int.toNat a))) (ah (ag L (Int.toNat a))) (af (ag L (Int.toNat a)))then eD (al (ag L (Int.toNat a))) (au (ag L (Int.toNat a))) (ah (ag L (Int.toNat a))) (af (ag L (Int.toNat a)))else [])))+List.length (aX ([32]++Lib.itoa (nN (ag L (Int.toNat a)))))<aq)then J 0 {tmps:=[(0,AV.ref 0 0),(4,AV.ref 2 0),(54,AV.sl (Ty.int IntKind.i64) (aj (ag L (Int.toNat a)))),(55,AV.int IntKind.i64 (↑(List.length (aj (ag L (Int.toNat a)))):Int)),(56,AV.int IntKind.i64 0)],blks:=[(0,Blk.cells 48 [AV.bself 0,AV.own 1 1]),(1,Blk.list 5 (Ty.int IntKind.u8) 1 false (app (app (app s (aX ([40]++cA (ak (ag L (Int.toNat a)))))) (aX ([32]++bif bq (al (ag L (Int.toNat a))) (au (ag L (Int.toNat a))) (ah (ag L (Int.toNat a))) (af (ag L (Int.toNat a)))then eD (al (ag L (Int.toNat a))) (au (ag L (Int.toNat a))) (ah (ag L (Int.toNat a))) (af (ag L (Int.toNat a)))else []))) (aX ([32]++Lib.itoa (nN (ag L (Int.toNat a))))))),(2,Blk.cells 25 [AV.sl aE L,AV.int IntKind.i64 r])],next:=3}else Rs.err 51 else Rs.err 904 else Rs.err 1000054 else J 0 {tmps:=[(0,AV.ref 0 0),(4,AV.ref 2 0),(54,AV.sl (Ty.int IntKind.i64) (aj (ag L (Int.toNat a)))),(55,AV.int IntKind.i64 (↑(List.length (aj (ag L (Int.toNat a)))):Int)),(56,AV.int IntKind.i64 0)],blks:=[(0,Blk.cells 48 [AV.bself 0,AV.own 1 1]),(1,Blk.list 5 (Ty.int IntKind.u8) 1 false (app (app s (aX ([40]++cA (ak (ag L (Int.toNat a)))))) (aX ([32]++bif bq (al (ag L (Int.toNat a))) (au (ag L (Int.toNat a))) (ah (ag L (Int.toNat a))) (af (ag L (Int.toNat a)))then eD (al (ag L (Int.toNat a))) (au (ag L (Int.toNat a))) (ah (ag L (Int.toNat a))) (af (ag L (Int.toNat a)))else [])))),(2,Blk.cells 25 [AV.sl aE L,AV.int IntKind.i64 r])],next:=3}else Rs.err 51 else Rs.err 704 else Rs.err 3000053 else bif ak (ag L (Int.toNat a))==19 then bif decide (10=10)&&(decide (-9223372036854775808≤nN (ag L (Int.toNat a)))&&decide (nN (ag L (Int.toNat a))≤9223372036854775807))then bif decide (List.length [32]+List.length (Lib.itoa (nN (ag L (Int.toNat a))))<2^62)then bif decide (List.length (app s (aX ([40]++cA (ak (ag L (Int.toNat a))))))+List.length (aX ([32]++Lib.itoa (nN (ag L (Int.toNat a)))))<aq)then J 0 {tmps:=[(0,AV.ref 0 0),(4,AV.ref 2 0),(54,AV.sl (Ty.int IntKind.i64) (aj (ag L (Int.toNat a)))),(55,AV.int IntKind.i64 (↑(List.length (aj (ag L (Int.toNat a)))):Int)),(56,AV.int IntKind.i64 0)],blks:=[(0,Blk.cells 48 [AV.bself 0,AV.own 1 1]),(1,Blk.list 5 (Ty.int IntKind.u8) 1 false (app (app s (aX ([40]++cA (ak (ag L (Int.toNat a)))))) (aX ([32]++Lib.itoa (nN (ag L (Int.toNat a))))))),(2,Blk.cells 25 [AV.sl aE L,AV.int IntKind.i64 r])],next:=3}else Rs.err 51 else Rs.err 904 else Rs.err 1000054 else bif ak (ag L (Int.toNat a))==21 then bif decide (10=10)&&(decide (-9223372036854775808≤nN (ag L (Int.toNat a)))&&decide (nN (ag L (Int.toNat a))≤9223372036854775807))then bif decide (List.length [32]+List.length (Lib.itoa (nN (ag L (Int.toNat a))))<2^62)then bif decide (List.length (app s (aX ([40]++cA (ak (ag L (Int.toNat a))))))+List.length (aX ([32]++Lib.itoa (nN (ag L (Int.toNat a)))))<aq)then J 0 {tmps:=[(0,AV.ref 0 0),(4,AV.ref 2 0),(54,AV.sl (Ty.int IntKind.i64) (aj (ag L (Int.toNat a)))),(55,AV.int IntKind.i64 (↑(List.length (aj (ag L (Int.toNat a)))):Int)),(56,AV.int IntKind.i64 0)],blks:=[(0,Blk.cells 48 [AV.bself 0,AV.own 1 1]),(1,Blk.list 5 (Ty.int IntKind.u8) 1 false (app (app s (aX ([40]++cA (ak (ag L (Int.toNat a)))))) (aX ([32]++Lib.itoa (nN (ag L (Int.toNat a))))))),(2,Blk.cells 25 [AV.sl aE L,AV.int IntKind.i64 r])],next:=3}else Rs.err 51 else Rs.err 904 else Rs.err 1000054 else J 0 {tmps:=[(0,AV.ref 0 0),(4,AV.ref 2 0),(54,AV.sl (Ty.int IntKind.i64) (aj (ag L (Int.toNat a)))),(55,AV.int IntKind.i64 (↑(List.length (aj (ag L (Int.toNat a)))):Int)),(56,AV.int IntKind.i64 0)],blks:=[(0,Blk.cells 48 [AV.bself 0,AV.own 1 1]),(1,Blk.list 5 (Ty.int IntKind.u8) 1 false (app s (aX ([40]++cA (ak (ag L (Int.toNat a))))))),(2,Blk.cells 25 [AV.sl aE L,AV.int IntKind.i64 r])],next:=3}else Rs.err 51 else Rs.err 303 else Rs.err 103:=by kernel_rfl
theorem HH(J:Jump R0)(N:Int)(L:List Nd)(r:Int)(s:List Int)(K:List Int)(l k:Int):resume E (ao (mH N)) (aT 2 pN 0) J [true,true,true,true,true,true,true,false,true,false,false] qO.code 1 (KQ L r s K l k) (bY E 2 qO.results .ok)=bif decide (k<l)then bif inI k (List.length K)then bif decide (List.length s+1<aq)then bif zk N L r (b9 K (Int.toNat k)) (app s [32])then J 0 {tmps:=[(0,AV.ref 0 0),(4,AV.ref 2 0),(54,AV.sl (Ty.int IntKind.i64) K),(55,AV.int IntKind.i64 l),(56,AV.int IntKind.i64 (IntKind.wrap IntKind.i64 (k+1)))],blks:=[(0,Blk.cells 48 [AV.bself 0,AV.own 1 1]),(1,Blk.list 5 (Ty.int IntKind.u8) 1 false (app (app s [32]) (aX (cy L (Int.toNat (b9 K (Int.toNat k))))))),(2,Blk.cells 25 [AV.sl aE L,AV.int IntKind.i64 r])],next:=3}else Rs.err 43 else Rs.err 17 else Rs.err 1200 else bif decide (List.length s+1<aq)then Rs.ok (Out.ret (AV.tup []),[Blk.cells 48 [AV.bself 0,AV.own 1 2],Blk.list 5 (Ty.int IntKind.u8) 2 false (app s [41])])else Rs.err 17:=by kernel_rfl
end Go.Sx.Tryz
namespace Go.Sx.Tryz
open Go Go.Sx Go.Proofs
set_option maxRecDepth 100000
theorem ke{L:List Nd}{r:Int}(g:GoodT L r):∀(n i f:Nat),i<n→i<L.length→i+1≤f→mL L f i=cy L i
 |0,i,f,h,_,_=>by omega
 |n+1,i,0,_,_,h=>by omega
 |n+1,i,f+1,hn,hi,hf=>by
  simp only[mL,cy]
  refine congrArg (fun z=>hdS (ag L i)++z++[41]) (ki fun k hk=>?_)
  obtain⟨_,_,h3⟩:=g.kid hi hk
  rw[ke g n k.toNat f (by omega) (by omega) (by omega),ke g n k.toNat i (by omega) (by omega) (by omega)]
theorem yS{L:List Nd}{r:Int}(g:GoodT L r){i:Nat}(hi:i<L.length):cy L i=hdS (ag L i)++(aj (ag L i)).flatMap (fun k=>[32]++cy L k.toNat)++[41]:=by
 show hdS (ag L i)++_++[41]=_
 refine congrArg (fun z=>hdS (ag L i)++z++[41]) (ki fun k hk=>?_)
 obtain⟨_,_,h3⟩:=g.kid hi hk
 rw[ke g (k.toNat+1) k.toNat i (by omega) (by omega) (by omega)]
theorem jU(a b:List UInt8):aX (a++b)=aX a++aX b:=by simp[aX]
theorem je(a b:List Int):(app a b).length=a.length+b.length:=by simp[app]
def FinF(N:Int)(st:St)(o:R0):Prop:=∃fuel,pieces (R:=R0) E (ao (mH N)) qO pN 2 .ok fuel 0 st= .ok o
def LN(s:List Int):R0:=(.ret (.tup []),[.cells 48 [.bself 0,.own 1 2],.list 5 (.int .u8) 2 false s])
theorem I9(J:Jump R0)(N:Int)(L:List Nd)(r:Int)(i:Nat)(s:List Int)(hi:i<L.length)(hb:s.length+(hdS (ag L i)).length<aq)(ht:(aH (ag L i)).length≤70000)
  (hn:(au (ag L i)).length≤1000) (hm:(af (ag L i)).length≤1000) (hf:dR (ag L i)=true):
  start E (ao (mH N)) qO pN J [.ref 0 0,.agg (trC L r),.int .i64 i] (bsB s) .ok=J 0 (KQ L r (app s (aX (hdS (ag L i)))) (aj (ag L i)) (aj (ag L i)).length 0):=by
 refine(JT J N L r i s).trans ?_
 rw[Int.toNat_natCast]
 generalize hx:ag L i=x at*
 have h1:inI (i:Int) L.length=true:=cv (by omega) (by omega)
 have h2:Nat.ble (aH x).length 1099511627776=true:=Nat.ble_eq_true_of_le (by omega)
 have h3:l5 ((al x,au x,ah x,af x,()),())=true:=by
  simp only[l5,Bool.and_eq_true,decide_eq_true_eq]
  exact⟨hn,hm⟩
 have h4:=hf
 simp only[dR,Bool.and_eq_true]at h4
 obtain⟨h4,h5⟩:=h4
 have hmr:aq=68719476736:=rfl
 simp only[h1,h2,h3,cond_true]
 unfold hdS at hb⊢
 unfold tyS at hb⊢
 cases e1:lE (ak x)<;>cases e2:fp (ak x)<;>cases e3:(ak x==19)<;>cases e4:(ak x==21)
 all_goals
  simp only[e1,e2,e3,e4,h4,h5,decide_true,Bool.and_self,cond_true,cond_false,Bool.or_true,Bool.or_false,Bool.true_or]at hb⊢
  repeat refine Eq.trans (mf (by simp only[je,ek,List.length_append,List.length_cons,List.length_nil,hmr]at hb⊢;omega)) ?_
  simp only[KQ,trC,app,jU,List.append_assoc,List.append_nil]
end Go.Sx.Tryz
namespace Go.Sx.Tryz
open Go Go.Sx Go.Proofs
set_option maxRecDepth 100000
def mI(L:List Nd)(ks:List Int):List UInt8:=ks.flatMap fun k=>[32]++cy L k.toNat
theorem q7(L:List Nd)(k:Int)(ks:List Int):mI L (k::ks)=[32]++cy L k.toNat++mI L ks:=rfl
theorem qB(N:Int)(L:List Nd)(r a:Int)(s:List Int):zk N L r a s=(Fl L r&&(L.all dR&&(inI a L.length&&(decide (a<N)&&decide (s.length+(cy L a.toNat).length<aq))))):=rfl
theorem SD{L:List Nd}{r:Int}{N:Int}(g:GoodT L r)(hok:Fl L r=true)(hfine:L.all dR=true){i:Nat}(hi:i<L.length)(hL:L.length≤9000)(hN:(i:Int)≤N)(hK:(aj (ag L i)).length≤20000):∀(ks pre:List Int) (s:List Int),aj (ag L i)=pre++ks→
  s.length+(mI L ks).length+1<aq→FinF N (KQ L r s (aj (ag L i)) (aj (ag L i)).length pre.length) (LN (app s (aX (mI L ks++[41]))))
 |[],pre,s,hp,hb=>by
  refine⟨1,(HH (pieces (R:=R0) E (ao (mH N)) qO pN 2 .ok 0) N L r s (aj (ag L i)) (aj (ag L i)).length pre.length).trans ?_⟩
  have h1:¬((pre.length:Int)<(aj (ag L i)).length):=by rw[hp,List.append_nil];omega
  have h2:s.length+1<aq:=by simp only[mI,List.flatMap_nil,List.length_nil]at hb;omega
  simp only[h1,h2,decide_false,decide_true,cond_true,cond_false]
  rfl
 |k::ks,pre,s,hp,hb=>by
  have hlen:pre.length+1+ks.length=(aj (ag L i)).length:=by rw[hp];simp;omega
  obtain⟨k0,k1,k2⟩:=g.kid hi (k:=k) (by rw[hp];simp)
  have h5:(((pre++[k]).length:Nat):Int)=(pre.length:Int)+1:=by simp
  rw[q7,List.length_append,List.length_append,List.length_singleton]at hb
  obtain⟨fuel,ih⟩:=SD g hok hfine hi hL hN hK ks (pre++[k]) (app (app s [32]) (aX (cy L k.toNat))) (by simp[hp]) (by simp only[je,ek,List.length_singleton];omega)
  refine⟨fuel+1,(HH (pieces (R:=R0) E (ao (mH N)) qO pN 2 .ok fuel) N L r s (aj (ag L i)) (aj (ag L i)).length pre.length).trans ?_⟩
  have h1:(pre.length:Int)<(aj (ag L i)).length:=by omega
  have h3:inI (pre.length:Int) (aj (ag L i)).length=true:=by rw[hp];exact yD _ _ _
  have h4:b9 (aj (ag L i)) pre.length=k:=by rw[hp];exact xx _ _ _
  have h6:IntKind.wrap .i64 ((pre.length:Int)+1)=(pre.length:Int)+1:=wrap64 (by omega) (by omega)
  have h2:s.length+1<aq:=by omega
  have h7:zk N L r k (app s [32])=true:=by
   have h8:inI k L.length=true:=cv k0 (by omega)
   have h9:decide (k<N)=true:=decide_eq_true (by omega)
   have h10:decide ((app s [32]).length+(cy L k.toNat).length<aq)=true:=decide_eq_true (by simp only[je,List.length_singleton];omega)
   rw[qB,hok,hfine,h8,h9,h10]
   rfl
  simp only[h1,h2,h3,h4,h6,h7,Int.toNat_natCast,decide_true,cond_true]
  rw[h5]at ih
  rw[q7]
  have e:app s (aX ([32]++cy L k.toNat++mI L ks++[41]))=app (app (app s [32]) (aX (cy L k.toNat))) (aX (mI L ks++[41])):=by
   simp only[app,jU,List.append_assoc]
   rfl
  rw[e]
  exact ih
theorem G3{w0:World}(t:TabsW w0){N:Int}(h:aR Tryz.prog (GW w0) 29 (sn N)):bu Tryz.prog (GW w0) (mH N):=by
 have h1:=qz t
 refine .cons (aZ fun x _=>Mr t x) (.cons ?_ (.cons ?_ (.cons (aZ fun x h=>JQ t x h) (.cons (iQ (P4 t)) (.cons (iQ F5) (.cons (iQ h) .nil))))))
 ·exact kb (tw WD fun D hG hs s hlen=>Any.strconv_Quote Tryz.lays177 (by kernel_rfl) Lib.goPrintTabs s D.w hlen (t.at hG hs).pt (t.at hG hs).u8) yz
 ·exact kb (qT RI fun D hG hs n h0 h1=>Calls.mono (Any.strconv_FormatInt_10 Tryz.laysM173 n h0 h1 D.w (t.at hG hs).p10) fun e w' ⟨e1,k,os,e2⟩=>⟨e1,by rw[e2];exact rY _ _ _⟩) ve
theorem Dl{w0:World}(t:TabsW w0)(N:Nat)(ih:aR Tryz.prog (GW w0) 29 (sn N))(L:List Nd)(r a:Int)(s:List Int)(h:zk ((N+1:Nat):Int) L r a s=true):
  SA Tryz.prog (GW w0) 29 [.ref 0 0,.agg (trC L r),.int .i64 a] (bsB s) (LN (app s (aX (cy L a.toNat)))):=by
 rw[qB]at h
 simp only[Bool.and_eq_true,decide_eq_true_eq]at h
 obtain⟨hok,hfine,hin,hN,hb⟩:=h
 have hin':=hin
 simp only[inI,Bool.and_eq_true,decide_eq_true_eq]at hin'
 have hok':=hok
 simp only[Fl,Bool.and_eq_true,beq_iff_eq]at hok'
 have g:=BM hok'.2
 obtain⟨hL,hK⟩:=uI hok'.1
 obtain⟨i,rfl⟩:∃i:Nat,a=(i:Int):=⟨a.toNat,by omega⟩
 have hi:i<L.length:=by omega
 rw[Int.toNat_natCast]at hb⊢
 have e:cy L i=hdS (ag L i)++mI L (aj (ag L i))++[41]:=yS g hi
 rw[e]at hb⊢
 rw[List.length_append,List.length_append,List.length_singleton]at hb
 obtain⟨fuel,hf⟩:=SD (N:=N) g hok hfine hi hL (by omega) (hK i hi) (aj (ag L i)) [] (app s (aX (hdS (ag L i)))) rfl (by simp only[je,ek];omega)
 have hsm:fB (ag L i)=true:=by
  have:=hok'.1
  simp only[jJ,Bool.and_eq_true]at this
  exact List.all_eq_true.1 this.2 _ (List.mem_of_getElem? (fq hi))
 simp only[fB,Bool.and_eq_true,decide_eq_true_eq]at hsm
 have hfn:=List.all_eq_true.1 hfine _ (List.mem_of_getElem? (fq hi))
 have hs:start (R:=R0) E (ao (mH N)) qO pN (pieces (R:=R0) E (ao (mH N)) qO pN 2 .ok fuel) [.ref 0 0,.agg (trC L r),.int .i64 i] (bsB s) .ok= .ok (LN (app s (aX (hdS (ag L i)++mI L (aj (ag L i))++[41])))):=by
  refine(I9 _ N L r i s hi (by omega) (by omega) (by omega) (by omega) hfn).trans ?_
  refine hf.trans ?_
  simp only[app,jU,List.append_assoc]
 exact bA (bo []) (aV (G3 t ih)) RF (.inl fun ee tt gg sh l hm=>by
  simp only[bsB,List.mem_cons,List.not_mem_nil,or_false,reduceCtorEq,false_or]at hm
  cases hm
  rfl) hs
theorem xE{w0:World}{N:Int}(h:∀(L:List Nd) (r a:Int) (s:List Int),zk N L r a s=true→SA Tryz.prog (GW w0) 29 [.ref 0 0,.agg (trC L r),.int .i64 a] (bsB s) (LN (app s (aX (cy L a.toNat))))):aR Tryz.prog (GW w0) 29 (sn N):=fun R args bs k r hr=>by
 unfold sn at hr
 split at hr
 ·split at hr
  ·rename_i L' hc
   split at hr
   ·rename_i hd
    obtain⟨e,hL⟩:=gF hc
    subst e
    subst hL
    exact⟨_,hr,h _ _ _ _ hd⟩
   ·cases hr
  ·cases hr
 ·cases hr
theorem CI{w0:World}(t:TabsW w0):∀N:Nat,aR Tryz.prog (GW w0) 29 (sn N)
 |0=>xE fun L r a s h=>by
  rw[qB]at h
  simp only[Bool.and_eq_true,decide_eq_true_eq,inI]at h
  omega
 |N+1=>xE fun L r a s h=>Dl t N (CI t N) L r a s h
end Go.Sx.Tryz
namespace Go.Sx.Tryz
open Go Go.Sx Go.Proofs
set_option maxRecDepth 100000
theorem Hq(k:Int):(cA k).length≤10:=by
 unfold cA
 cases decide (k<1)
 ·cases decide (k≥46)
  ·have h:wo.all (fun l=>decide (l.length≤10))=true:=by kernel_rfl
   simp only[cond_false]
   by_cases hk:k.toNat<wo.length
   ·have:=List.all_eq_true.1 h (wo[k.toNat]) (List.getElem_mem hk)
    simpa [List.getD,List.getElem?_eq_getElem hk]using this
   ·simp[List.getD,List.getElem?_eq_none (Nat.le_of_not_lt hk)]
  ·simp
 ·simp
theorem Ab(s:List UInt8):(cZ s).length≤10*s.length+2:=by
 have:=Lib.quoteZ_length_le Lib.goPrintTabs ⟨⟨s⟩⟩
 simp only[cZ,List.length_map]
 exact this
theorem vg:∀(m s:List UInt8) (i:Int),(pI s i m).length≤s.length+10*m.length
 |[],s,i=>by simp[pI]
 |c::m,s,i=>by
  have h1:=vg m (stepT s i c) (i+1)
  have h2:=ui s i c
  simp only[pI,List.length_cons]
  omega
theorem JR{x:Nd}(h:fB x=true):(tyS x).length≤1500:=by
 simp only[fB,Bool.and_eq_true,decide_eq_true_eq]at h
 unfold tyS eD
 cases bq (al x) (au x) (ah x) (af x)
 ·simp
 ·have h1:=vg (af x) (tz (al x) (au x)) 0
  have h2:=uv (b:=al x) (n:=au x) (by omega)
  simp only[cond_true]
  omega
theorem vp{α:Type}{c:Bool}{x:List α}{n:Nat}(h:x.length≤n):(bif c then x else []).length≤n:=by cases c<;>simp[h]
theorem K2{x:Nd}(h:fB x=true)(hf:dR x=true):(hdS x).length≤702000:=by
 have h1:=JR h
 have h2:=Hq (ak x)
 have h3:=Ab (aH x)
 simp only[dR,Bool.and_eq_true,decide_eq_true_eq]at hf
 have h4:=Lib.itoa_length_le (nN x) hf.1 hf.2
 simp only[fB,Bool.and_eq_true,decide_eq_true_eq]at h
 unfold hdS
 simp only[List.length_append,List.length_singleton]
 have h5:(bif lE (ak x)then [32]++cZ (aH x)else []).length≤700020:=vp (by simp only[List.length_append,List.length_singleton];omega)
 have h6:(bif fp (ak x)then [32]++tyS x else []).length≤1510:=vp (by simp only[List.length_append,List.length_singleton];omega)
 have h7:(bif ak x==19||ak x==21 then [32]++Lib.itoa (nN x)else []).length≤30:=vp (by simp only[List.length_append,List.length_singleton];omega)
 omega
theorem yJ{L:List Nd}{r:Int}(g:GoodT L r)(hs:L.all fB=true)(hf:L.all dR=true):∀(n i:Nat),i<n→i<L.length→(cy L i).length+1≤702010*(lu L i).length
 |0,i,h,_=>by omega
 |n+1,i,hn,hi=>by
  rw[yS g hi,nu g hi]
  have hm:=List.mem_of_getElem? (fq hi)
  have h1:=K2 (List.all_eq_true.1 hs _ hm) (List.all_eq_true.1 hf _ hm)
  have h2:∀ks:List Int,(∀k∈ks,k∈aj (ag L i))→(ks.flatMap fun k=>[32]++cy L k.toNat).length≤702010*(ks.flatMap fun k=>lu L k.toNat).length:=by
   intro ks
   induction ks with
   |nil=>intro _;simp
   |cons k ks ih=>
    intro hk
    have h3:=ih fun x hx=>hk x (by simp[hx])
    obtain⟨k0,k1,k2⟩:=g.kid hi (hk k (by simp))
    have h4:=yJ g hs hf n k.toNat (by omega) (by omega)
    rw[List.flatMap_cons,List.flatMap_cons,List.length_append,List.length_append,List.length_append,List.length_singleton]
    omega
  have h3:=h2 _ fun k hk=>hk
  simp only[List.length_append,List.length_singleton,List.length_cons,List.length_nil]
  omega
theorem DH{L:List Nd}{r:Int}(g:GoodT L r)(hm:jJ L=true)(hf:L.all dR=true){i:Nat}(hi:i<L.length):(cy L i).length<aq:=by
 have hs:=hm
 simp only[jJ,Bool.and_eq_true,decide_eq_true_eq]at hs
 have h1:=yJ g hs.2 hf (i+1) i (by omega) hi
 have h2:=AG g hi
 have hmr:aq=68719476736:=rfl
 omega
end Go.Sx.Tryz
namespace Go.Sx.Tryz
open Go Go.Sx Go.Proofs
set_option maxRecDepth 100000
def na(L:List Nd)(r a:Int):List UInt8:=bif inI a L.length&&dH L r==0 then cy L a.toNat else []
def zT(x:aA yT):Bool:=jJ x.1.1&&x.1.1.all dR
def Ni(x:aA yT):aA cK:=(na x.1.1 x.1.2.1 x.2.1,())
def Hy:List (Nat×aY):=[(28,cm 28 gZ jI qC He),(29,IF 29 [[.bself,.own 5 (.int .u8)]] (mu 29 (sn 1000000))),(19,ofT 19 (lg 48 5))]
end Go.Sx.Tryz
namespace Go.Sx.Tryz
open Go Go.Sx Go.Proofs
set_option maxRecDepth 100000
theorem Q2(L:List Nd)(r a:Int):body (R:=R0) E (ao Hy) LU [.agg (trC L r),.int .i64 a] [] .ok=bif decide (a<0)then Rs.ok (Out.ret (AV.str []),[])else bif decide (a≥(↑(List.length L):Int))then Rs.ok (Out.ret (AV.str []),[])else bif qC ((L,r,()),())then bif dH L r !=0 then Rs.ok (Out.ret (AV.str []),[])else bif zk 1000000 L r a []then bif List.all (app [] (aX (cy L (Int.toNat a)))) isByte&&Nat.ble (List.length (app [] (aX (cy L (Int.toNat a))))) 9223372036854775807 then Rs.ok (Out.ret (AV.str (c7 (app [] (aX (cy L (Int.toNat a)))))),[])else Rs.err 1000019 else Rs.err 43 else Rs.err 3000028:=by kernel_rfl
end Go.Sx.Tryz
namespace Go.Sx.Tryz
open Go Go.Sx Go.Proofs
set_option maxRecDepth 100000
abbrev outS(s:List UInt8):R0:=(.ret (.str s),[])
theorem Er{w0:World}(t:TabsW w0):bu Tryz.prog (GW w0) Hy:=by
 refine .cons (aZ fun x h=>zQ t x h) (.cons (G0 (iQ (CI t 1000000))) (.cons ?_ .nil))
 exact Ac
theorem DI(L:List Nd)(r a:Int)(hm:jJ L=true)(hf:L.all dR=true):body (R:=R0) E (ao Hy) LU [.agg (trC L r),.int .i64 a] [] .ok= .ok (outS (na L r a)):=by
 refine(Q2 L r a).trans ?_
 have h1:qC ((L,r,()),())=true:=hm
 unfold na
 rw[h1]
 by_cases n1:a<0
 ·have e:inI a L.length=false:=by
   cases h:inI a L.length
   ·rfl
   ·have:=qi.1 h;omega
  simp only[n1,e,decide_true,cond_true,Bool.false_and,cond_false]
 ·by_cases n2:a≥(L.length:Int)
  ·have e:inI a L.length=false:=by
    cases h:inI a L.length
    ·rfl
    ·have:=qi.1 h;omega
   simp only[n1,n2,e,decide_true,decide_false,cond_true,Bool.false_and,cond_false]
  ·have e:inI a L.length=true:=qi.2 ⟨by omega,by omega⟩
   cases hc:(dH L r !=0)
   ·have hc0:dH L r=0:=by simpa using hc
    have hc1:(dH L r==0)=true:=by simpa using hc0
    have g:=BM hc0
    obtain⟨i,rfl⟩:∃i:Nat,a=(i:Int):=⟨a.toNat,by omega⟩
    have hi:i<L.length:=by omega
    have hL:=(uI hm).1
    have hroom:=DH g hm hf hi
    rw[Int.toNat_natCast]
    have h2:zk 1000000 L r i []=true:=by
     have h9:decide ((i:Int)<1000000)=true:=decide_eq_true (by omega)
     have h10:decide (([]:List Int).length+(cy L i).length<aq)=true:=decide_eq_true (by simpa using hroom)
     have h11:Fl L r=true:=by
      show(jJ L&&dH L r==0)=true
      rw[hm,hc1];rfl
     rw[qB,Int.toNat_natCast,h11,hf,e,h9,h10]
     rfl
    have h3:(List.all (app [] (aX (cy L i))) isByte&&Nat.ble (List.length (app [] (aX (cy L i)))) 9223372036854775807)=true:=by
     have e1:app [] (aX (cy L i))=aX (cy L i):=rfl
     rw[e1,uT,ek,Bool.true_and]
     have hmr:aq=68719476736:=rfl
     exact Nat.ble_eq_true_of_le (by omega)
    have h4:c7 (app [] (aX (cy L i)))=cy L i:=r5 _
    simp only[n1,n2,e,h2,h3,h4,hc1,decide_false,cond_true,cond_false,Bool.and_self]
   ·have hc1:(dH L r==0)=false:=by simpa [bne]using hc
    simp only[n1,n2,hc1,decide_false,cond_true,cond_false,Bool.and_false]
theorem KX{w0:World}(t:TabsW w0)(x:aA yT)(h:zT x=true):SAD Tryz.prog (GW w0) 11 yT cK x (Ni x):=by
 obtain⟨⟨L,r,⟨⟩⟩,a,⟨⟩⟩:=x
 have h:(jJ L&&L.all dR)=true:=h
 simp only[Bool.and_eq_true]at h
 exact b7 (bo []) (aV (Er t)) Sr (DI L r a h.1 h.2)
end Go.Sx.Tryz
namespace Go.Sx.Tryz
open Go Go.Sx Go.Proofs
set_option maxRecDepth 100000
def DE:List (Nat×aY):=[(9,lz 9 g9),(10,Ap),(11,cm 11 yT cK zT Ni)]
def HO:List Cut:=[⟨[true,true,true,true,true,true,true,true,true,true,true,true,false,true,false,false],some ⟨[(5,[]),(7,[]),(9,[]),(11,[]),(105,[.sl (.int .i64)]),(106,[]),(107,[])],[[],[],[]]⟩⟩]
def trA(L:List Nd)(r:Int):List AV:=[.sl aE L,.int .i64 r]
def mk3(LA LB LC:List Nd)(rA rB rC n:Int)(K:List Int)(l i:Int):St:={tmps:=[(5,.ref 0 0),(7,.ref 1 0),(9,.ref 2 0),(11,.int .i64 n),(105,.sl (.int .i64) K),(106,.int .i64 l),(107,.int .i64 i)],blks:=[(0,.cells 25 (trA LA rA)),(1,.cells 25 (trA LB rB)),(2,.cells 25 (trA LC rC))],next:=3}
def ndL(T:List UInt8):List Nd:=(fC T).1.1
def ndR(T:List UInt8):Int:=(fC T).1.2.1
def ndE(T:List UInt8):Int:=(fC T).2.1.1
def kdR(T:List UInt8):List Int:=aj (ag (ndL T) (ndR T).toNat)
theorem sE(J:Jump R0)(A B:List UInt8):start (R:=R0) E (ao DE) fi3 HO J [.str A,.str B] [] .ok=bif decide ((A.length:Int)>1500)then .ok (.ret (.bool true),[])else bif decide ((B.length:Int)>1500)then .ok (.ret (.bool true),[])else bif ndE A !=0 then .ok (.ret (.bool true),[])else bif ndE B !=0 then .ok (.ret (.bool true),[])else bif decide (A.length+List.length [(10:UInt8)]<2^62)then bif decide (List.length (A++[10])+B.length<2^62)then bif inI (ndR A) (ndL A).length then bif inI (ndR B) (ndL B).length then bif decide (IntKind.wrap .i64 (((kdR A).length:Int)+((kdR B).length:Int))>64)then .ok (.ret (.bool (ndE (A++[10]++B)==2)),[])else bif ndE (A++[10]++B) !=0 then bif ndE (A++[10]++B)==2 then .ok (.ret (.bool (decide (IntKind.wrap .i64 (((ndL A).length:Int)+((ndL B).length:Int))>8192))),[])else .ok (.ret (.bool false),[])else bif inI (ndR (A++[10]++B)) (ndL (A++[10]++B)).length then bif ((kdR (A++[10]++B)).length:Int) !=IntKind.wrap .i64 (((kdR A).length:Int)+((kdR B).length:Int))then .ok (.ret (.bool false),[])else J 0 (mk3 (ndL A) (ndL B) (ndL (A++[10]++B)) (ndR A) (ndR B) (ndR (A++[10]++B)) ((kdR A).length:Int) (kdR (A++[10]++B)) (kdR (A++[10]++B)).length 0)else .err 1504 else .err 1012 else .err 1004 else .err 903 else .err 901:=by kernel_rfl
theorem MV(J:Jump R0)(LA LB LC:List Nd)(rA rB rC n:Int)(K:List Int)(l i:Int):resume (R:=R0) E (ao DE) (aT 0 HO 0) J [true,true,true,true,true,true,true,true,true,true,true,true,false,true,false,false] fi3.code 1 (mk3 LA LB LC rA rB rC n K l i) (bY E 0 fi3.results .ok)=bif decide (i<l)then bif inI i K.length then bif decide (i<n)then bif inI rA LA.length then bif inI i (aj (ag LA rA.toNat)).length then bif zT ((LA,rA,()),b9 (aj (ag LA rA.toNat)) i.toNat,())then bif zT ((LC,rC,()),b9 K i.toNat,())then bif !na LC rC (b9 K i.toNat)==na LA rA (b9 (aj (ag LA rA.toNat)) i.toNat)then .ok (.ret (.bool false),[])else J 0 (mk3 LA LB LC rA rB rC n K l (IntKind.wrap .i64 (i+1)))else .err 3000011 else .err 3000011 else .err 2309 else .err 2305 else bif inI rB LB.length then bif inI (IntKind.wrap .i64 (i-n)) (aj (ag LB rB.toNat)).length then bif zT ((LB,rB,()),b9 (aj (ag LB rB.toNat)) (IntKind.wrap .i64 (i-n)).toNat,())then bif zT ((LC,rC,()),b9 K i.toNat,())then bif !na LC rC (b9 K i.toNat)==na LB rB (b9 (aj (ag LB rB.toNat)) (IntKind.wrap .i64 (i-n)).toNat)then .ok (.ret (.bool false),[])else J 0 (mk3 LA LB LC rA rB rC n K l (IntKind.wrap .i64 (i+1)))else .err 3000011 else .err 3000011 else .err 2411 else .err 2405 else .err 2001 else .ok (.ret (.bool true),[]):=by kernel_rfl
end Go.Sx.Tryz
namespace Go.Sx.Tryz
open Go Go.Sx Go.Proofs
set_option maxRecDepth 100000
abbrev Tk:Type:=Int×List UInt8
inductive Lx:List UInt8→List Tk→Prop
 |nil:Lx [] []
 |cons {w r:List UInt8} {k:Int} {ts:List Tk} (h:gH (w++r)=(k,0,w.length)) (hw:0<w.length) (ht:Lx (r.drop (df r)) ts):Lx (w++r) ((k,w)::ts)
def cB(T:List UInt8)(K:List Tok):List Tk:=K.map fun t=>(ai t,say T t)
theorem Bt{T pre s:List UInt8}(h:T=pre++s):aK T (pre.length:Int)=s:=by
 unfold aK
 rw[h,Int.toNat_natCast]
 simp
theorem Kx{T:List UInt8}{s:List UInt8}{ts:List Tk}(hl:Lx s ts):∀(n k:Nat) (pre:List UInt8),T=pre++s→s.length<n→k+ts.length<16384→
  (jM n T pre.length k).1=0∧cB T (jM n T pre.length k).2.2=ts++[(0,[])]:=by
 induction hl with
 |nil=>
  intro n k pre hT hn hk
  cases n with
  |zero=>exact absurd hn (Nat.not_lt_zero _)
  |succ n=>
   unfold jM
   have h1:decide ((pre.length:Int)<T.length)=false:=decide_eq_false (by rw[hT];simp)
   rw[h1]
   refine⟨rfl,?_⟩
   show [((0:Int),say T (tkn 0 T.length T.length))]=_
   have:say T (tkn 0 T.length T.length)=[]:=by
    show List.drop (Int.toNat (T.length:Int)) (List.take (Int.toNat (T.length:Int)) T)=[]
    simp
   rw[this]
   rfl
 | @cons w r k ts h hw ht ih=>
  intro n kk pre hT hn hk
  cases n with
  |zero=>exact absurd hn (Nat.not_lt_zero _)
  |succ n=>
   unfold jM
   have hlen:T.length=pre.length+(w.length+r.length):=by rw[hT];simp
   have h1:decide ((pre.length:Int)<T.length)=true:=decide_eq_true (by omega)
   simp only[List.length_cons]at hk
   have h2:decide ((kk:Int)≥16384)=false:=decide_eq_false (by omega)
   have hr:=Bt hT
   have h3:ic T pre.length=0:=by unfold ic;rw[hr,h]
   have h4:jN T pre.length=k:=by unfold jN;rw[hr,h]
   have h5:bN T pre.length=((pre++w).length:Nat):=by unfold bN;rw[hr,h];simp
   have hr2:aK T ((pre++w).length:Nat)=r:=Bt (by rw[hT];simp)
   have hg:=kR (r.length+1) r
   have h6:fh T ((pre++w).length:Nat)=((pre++w++r.take (df r)).length:Nat):=by
    unfold fh
    rw[hr2]
    unfold df
    simp only[List.length_append,List.length_take]
    omega
   have hT2:T=(pre++w++r.take (df r))++r.drop (df r):=by rw[hT];simp
   rw[h1,h2,h3,h4,h5,h6]
   have:=ih n (kk+1) _ hT2 (by
    simp only[List.length_append,List.length_drop]at hn⊢
    omega) (by omega)
   refine⟨this.1,?_⟩
   show(k,say T (tkn k pre.length ((pre++w).length:Nat)))::cB T _=_
   rw[this.2]
   have:say T (tkn k pre.length ((pre++w).length:Nat))=w:=by
    show List.drop (Int.toNat (pre.length:Int)) (List.take (Int.toNat ((pre++w).length:Int)) T)=w
    rw[Int.toNat_natCast,Int.toNat_natCast,hT,←List.append_assoc]
    rw[List.take_left' rfl]
    simp
   rw[this]
   rfl
end Go.Sx.Tryz
namespace Go.Sx.Tryz
open Go Go.Sx Go.Proofs
set_option maxRecDepth 100000
def nb(d:UInt8):Bool:= !aU d.toNat&& !(d==47)
end Go.Sx.Tryz
