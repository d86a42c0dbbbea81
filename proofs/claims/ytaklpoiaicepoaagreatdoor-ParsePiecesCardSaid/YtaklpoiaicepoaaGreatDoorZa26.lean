/- A part of the proof: see the row's text. -/
import Derived.Test.YtaklpoiaicepoaaGreatDoorZa25
import Derived.Lib.ItoaLen
set_option linter.unusedVariables false
set_option linter.unusedSimpArgs false
noncomputable section
namespace Go.Sx.Tryz
open Go Go.Sx Go.Proofs
set_option maxRecDepth 100000
theorem BG{L:List Nd}{r n:Int}{us:List Bool}{o:R0}(hu:(us.length:Int)=n)(hn:n≤9000)(hr:r=n-1):∀(d:Nat) (i:Int),0≤i→i+d=n→o=zU (nK ((((us.map toI).drop i.toNat).take (d-1))))→xN 2 (Dt L r us n i) o
 |0,i,h0,hd,h=>by
  refine⟨1,(rN (pieces (R:=R0) E (au eo) fT fc 0 .ok 0) L r us n i).trans ?_⟩
  have h1:¬i<n:=by omega
  simp only[h1,decide_false,cond_false,h]
  rfl
 |d+1,i,h0,hd,h=>by
  have h1:i<n:=by omega
  have h2:inI i us.length=true:=bZ h0 (by omega)
  have h5:IntKind.wrap .i64 (i+1)=i+1:=wrap64 (by omega) (by omega)
  have hlt:i.toNat<(us.map toI).length:=by simp;omega
  have hg:us.getD i.toNat (Ty.dflt Ty.bool)=us.getD i.toNat false:=rfl
  cases d with
  |zero=>
   have hir:(i !=r)=false:=by simp;omega
   obtain⟨fuel,ih⟩:=BG (o:=o) hu hn hr 0 (i+1) (by omega) (by omega) (by rw[h];rfl)
   refine⟨fuel+1,(rN (pieces (R:=R0) E (au eo) fT fc 0 .ok fuel) L r us n i).trans ?_⟩
   simp only[h1,h2,h5,hir,decide_true,cond_true,cond_false]
   cases (us.getD i.toNat (Ty.dflt Ty.bool))<;>exact ih
  |succ d=>
   have hir:(i !=r)=true:=by simp;omega
   have e:((us.map toI).drop i.toNat).take (d+1+1-1)=bE (us.map toI) i.toNat::((us.map toI).drop (i+1).toNat).take (d+1-1):=by
    show((us.map toI).drop i.toNat).take (d+1)=_::((us.map toI).drop (i+1).toNat).take d
    rw[List.drop_eq_getElem_cons hlt,List.take_succ_cons]
    have:i.toNat+1=(i+1).toNat:=by omega
    rw[this]
    congr 1
    rw[bE,List.getD,List.getElem?_eq_getElem hlt]
    rfl
   rw[e,zj]at h
   cases e1:us.getD i.toNat false
   ·refine⟨1,(rN (pieces (R:=R0) E (au eo) fT fc 0 .ok 0) L r us n i).trans ?_⟩
    rw[e1]at h
    have h:o=zU 3:=h
    simp only[h1,h2,hg,e1,hir,Bool.not_false,decide_true,cond_true,h]
    rfl
   ·have e2:(toI true==0)=false:=rfl
    rw[e1]at h
    simp only[nK,List.any_cons,e2,Bool.false_or]at h
    obtain⟨fuel,ih⟩:=BG hu hn hr (d+1) (i+1) (by omega) (by omega) h
    refine⟨fuel+1,(rN (pieces (R:=R0) E (au eo) fT fc 0 .ok fuel) L r us n i).trans ?_⟩
    simp only[h1,h2,h5,hg,e1,Bool.not_true,decide_true,cond_true,cond_false]
    exact ih
theorem IQ{L:List Nd}{r:Int}{o:R0}(hL:L.length≤9000):∀(xs pre:List Nd) (us:List Bool),L=pre++xs→xs.all fV=true→us.length=L.length→
  (match cD pre.length xs (us.map toI)with| .inl c=>o=zU c| .inr u'=>∀us':List Bool,u'=us'.map toI→us'.length=L.length→xN 2 (Dt L r us' L.length 0) o)→xN 0 (vP L r us L.length pre.length) o
 |[],pre,us,hp,_,hu,h=>by
  obtain⟨fuel,h⟩:xN 2 (Dt L r us L.length 0) o:=h us rfl hu
  refine⟨fuel+1,(Er (pieces (R:=R0) E (au eo) fT fc 0 .ok fuel) L r us L.length pre.length).trans ?_⟩
  have h1:¬((pre.length:Int)<L.length):=by rw[hp,List.append_nil];omega
  simp only[h1,decide_false,cond_false]
  rw[←hu]at h
  exact h
 |x::xs,pre,us,hp,hs,hu,h=>by
  have hlen:pre.length+1+xs.length=L.length:=by rw[hp];simp;omega
  have h1:(pre.length:Int)<L.length:=by omega
  have h2:inI (pre.length:Int) L.length=true:=by rw[hp];exact AZ _ _ _
  have h3:af L (Int.toNat (pre.length:Int))=x:=by rw[hp,Int.toNat_natCast];exact Ap _ _ _
  have h5:(((pre++[x]).length:Nat):Int)=(pre.length:Int)+1:=by simp
  simp only[List.all_cons,Bool.and_eq_true]at hs
  have hsx:=hs.1
  simp only[fV,Bool.and_eq_true,decide_eq_true_eq]at hsx
  have hk:(ai x).length≤20000:=hsx.1
  simp only[cD]at h
  cases e:(ec x !=0)
  ·simp only[e,cond_false]at h
   have key:xN 1 (C8 L r us L.length pre.length pre.length (ai x) (ai x).length 0) o:=Hd hk (by omega) (by omega) (ai x) [] us rfl (by omega) (by
    cases e2:eZ (pre.length:Int) (ai x) (us.map toI)with
    |inl c=>rw[e2]at h;exact h
    |inr u'=>
     rw[e2]at h
     intro us' hus' hl'
     have:=IQ (r:=r) (o:=o) hL xs (pre++[x]) us' (by simp[hp]) hs.2 (by omega) (by rw[h5,←hus'];exact h)
     rw[h5]at this
     exact this)
   obtain⟨fuel,hf⟩:=key
   refine⟨fuel+1,(Ac (pieces (R:=R0) E (au eo) fT fc 0 .ok fuel) h1 h2 h3).trans ?_⟩
   rw[e]
   exact hf
  ·simp only[e,cond_true]at h
   refine⟨1,(Ac (pieces (R:=R0) E (au eo) fT fc 0 .ok 0) h1 h2 h3).trans ?_⟩
   rw[e,h]
   rfl
theorem uW(L:List Nd)(r:Int)(hs:jg L=true):∃fuel,start (R:=R0) E (au eo) fT fc (pieces (R:=R0) E (au eo) fT fc 0 .ok fuel) [.agg (trC L r)] [] .ok= .ok (zU (dC L r)):=by
 simp only[jg,Bool.and_eq_true,decide_eq_true_eq]at hs
 obtain⟨hL,hs⟩:=hs
 have h0:¬((L.length:Int)>16384):=by omega
 have hw:IntKind.wrap .i64 ((L.length:Int)-1)=(L.length:Int)-1:=wrap64 (by omega) (by omega)
 unfold dC
 by_cases h1:(L.length:Int)=0
 ·exact⟨0,by rw[rS];simp only[h0,h1,decide_false,cond_false,cond_true,beq_self_eq_true];rfl⟩
 have h1':((L.length:Int)==0)=false:=by simpa using h1
 cases e2:(r !=(L.length:Int)-1)
 ·have hr:r=(L.length:Int)-1:=by simpa using e2
  have hin:inI r L.length=true:=bZ (by omega) (by omega)
  cases e3:(aj (af L r.toNat) !=1)
  ·have hrep:(List.replicate L.length false).map toI=List.replicate L.length 0:=by simp[toI]
   obtain⟨fuel,hf⟩:xN 0 (vP L r (List.replicate L.length false) L.length 0) (zU (match cD 0 L (List.replicate L.length 0)with| .inl c=>c| .inr u=>nK (u.take (L.length-1)))):=by
    have:=IQ (r:=r) (o:=zU (match cD 0 L (List.replicate L.length 0)with| .inl c=>c| .inr u=>nK (u.take (L.length-1)))) hL L [] (List.replicate L.length false) rfl hs (by simp) (by
     rw[hrep]
     simp only[List.length_nil,Int.natCast_zero]
     cases e4:cD 0 L (List.replicate L.length 0)with
     |inl c=>rfl
     |inr u=>
      intro us hus hl
      exact BG (by omega) (by omega) hr L.length 0 (by omega) (by omega) (by rw[hus];rfl))
    exact this
   refine⟨fuel,?_⟩
   rw[rS,hw]
   have h5:inR (L.length:Int)=true:=by
    have hm:ao=68719476736:=rfl
    simp only[inR,Bool.and_eq_true,decide_eq_true_eq,hm]
    omega
   simp only[h0,h1',e2,e3,hin,h5,beq_self_eq_true,Bool.and_self,decide_false,cond_false,cond_true]
   exact hf
  ·refine⟨0,?_⟩
   rw[rS,hw]
   simp only[h0,h1',e2,e3,hin,decide_false,cond_false,cond_true]
   rfl
 ·refine⟨0,?_⟩
  rw[rS,hw]
  simp only[h0,h1',e2,decide_false,cond_false,cond_true]
  rfl
end Go.Sx.Tryz
namespace Go.Sx.Tryz
open Go Go.Sx Go.Proofs
set_option maxRecDepth 100000
def xm:List (List UInt8×Int×Int×Bool×Bool×Unit):=[([],0,0,false,false,()),([112,114,111,103,114,97,109],0,-1,false,false,()),([99,108,97,115,115],0,-1,true,false,()),([101,120,116,101,110,100,115],0,0,true,false,()),([102,105,101,108,100],0,0,true,true,()),([105,110,105,116],1,-1,false,false,()),([109,101,116,104,111,100],1,-1,true,true,()),([112,97,114,97,109],0,0,true,true,()),([98,108,111,99,107],0,-1,false,false,()),([100,101,99,108],0,1,true,true,()),([97,115,115,105,103,110],2,2,false,false,()),([105,102],2,3,false,false,()),([119,104,105,108,101],2,2,false,false,()),([98,114,101,97,107],0,0,false,false,()),([99,111,110,116,105,110,117,101],0,0,false,false,()),([114,101,116,117,114,110],0,1,false,false,()),([112,114,105,110,116],1,1,false,false,()),([115,117,112,101,114],0,-1,false,false,()),([101,120,112,114],1,1,false,false,()),([105,110,116],0,0,false,false,()),([100,111,117,98,108,101],0,0,true,false,()),([98,111,111,108],0,0,false,false,()),([115,116,114],0,0,true,false,()),([110,117,108,108],0,0,false,false,()),([116,104,105,115],0,0,false,false,()),([118,97,114],0,0,true,false,()),([103,101,116],1,1,true,false,()),([105,110,100,101,120],2,2,false,false,()),([108,101,110,103,116,104],1,1,false,false,()),([99,97,108,108],1,-1,true,false,()),([110,101,119],0,-1,false,true,()),([97,114,114,97,121],1,1,false,true,()),([110,101,103],1,1,false,false,()),([110,111,116],1,1,false,false,()),([98,105,110,97,114,121],2,2,true,false,()),([99,97,115,116],1,1,false,true,()),([116,111,105,110,116],1,1,false,false,()),([116,111,100,111,117,98,108,101],1,1,false,false,()),([105,110,112,117,116],0,0,false,false,()),([97,115,107],1,1,false,false,()),([103,117,97,114,100],1,1,false,false,()),([115,111,109,101],1,1,false,false,()),([110,111,110,101],0,0,false,false,()),([105,115,115,111,109,101],1,1,false,false,()),([105,115,110,111,110,101],1,1,false,false,()),([118,97,108],1,1,false,false,())]
def shT(k:Int):List UInt8×Int×Int×Bool×Bool×Unit:=(cM k,nU k,pA k,mv k,fO k,())
def sh0:List UInt8×Int×Int×Bool×Bool×Unit:=([],0,0,false,false,())
def shC(x:List UInt8×Int×Int×Bool×Bool×Unit):List AV:=[.str x.1,.int .i64 x.2.1,.int .i64 x.2.2.1,.bool x.2.2.2.1,.bool x.2.2.2.2.1]
theorem NZ(k:Int):body (R:=R0) E (FJ E0 (kQ 64 ma) cl 1000 10) L8 [.int .i64 k] [] .ok=bif decide (k<0)then .ok (.ret (.agg (shC sh0)),[])else bif decide (k≥46)then .ok (.ret (.agg (shC sh0)),[])else bif inI k 46 then .ok (.ret (.agg (shC (xm.getD k.toNat sh0))),[])else .err 302:=by kernel_rfl
theorem E9:xm=(List.range 46).map (fun i:Nat=>shT i):=by kernel_rfl
theorem LD(k:Int):body (R:=R0) E (FJ E0 (kQ 64 ma) cl 1000 10) L8 [.int .i64 k] [] .ok= .ok (.ret (.agg (shC (shT k))),[]):=by
 rw[NZ]
 have out:inK k=false→cM k=[]→shT k=sh0:=fun h hn=>by
  unfold shT nU pA mv fO
  rw[h,hn]
  rfl
 by_cases h0:k<0
 ·have h1:inK k=false:=by simp[inK];omega
  have h2:cM k=[]:=by
   have:k<1:=by omega
   simp[cM,this]
  rw[out h1 h2]
  simp only[h0,decide_true,cond_true]
 ·by_cases h46:k≥46
  ·have h1:inK k=false:=by simp[inK];omega
   have h2:cM k=[]:=by
    have:¬k<1:=by omega
    have h3:(46:Int)≤k:=h46
    simp[cM,this,h3]
   rw[out h1 h2]
   simp only[h0,h46,decide_true,decide_false,cond_true,cond_false]
  ·have h1:inI k 46=true:=bZ (by omega) (by omega)
   have h2:xm.getD k.toNat sh0=shT k:=by
    rw[E9]
    have h3:k.toNat<46:=by omega
    have h4:((k.toNat:Nat):Int)=k:=Int.toNat_of_nonneg (by omega)
    rw[List.getD,List.getElem?_map,List.getElem?_range h3]
    show shT (k.toNat:Int)=shT k
    rw[h4]
   simp only[h0,h46,h1,h2,decide_false,cond_true,cond_false]
theorem MJ{w0:World}(t:TabsW w0)(x:an iu):SAD Tryz.prog (GW w0) 50 iu y9 x (shX x):=by
 obtain⟨k,⟨⟩⟩:=x
 exact cg (bb []) (x7 (bb []) (rU t).ok TE 10) Rv (LD k)
theorem JE{w0:World}(t:TabsW w0):bw Tryz.prog (GW w0) eo:=.cons (aW fun x _=>MJ t x) (.cons (aW fun x _=>zH t x) .nil)
theorem BS{w0:World}(t:TabsW w0)(x:an iF)(h:rW x=true):SAD Tryz.prog (GW w0) 28 iF iu x (Je x):=by
 obtain⟨⟨L,r,⟨⟩⟩,⟨⟩⟩:=x
 obtain⟨fuel,hf⟩:=uW L r h
 exact bu (bb []) (aQ (JE t)) TA (.inl cN) hf
end Go.Sx.Tryz
namespace Go.Sx.Tryz
open Go Go.Sx Go.Proofs
set_option maxRecDepth 100000
theorem Lj(s:List Int)(t:List UInt8)(h:s.length+(aS t).length<ao):body (R:=R0) E (au ma) Mt [.ref 0 0,.str t] (bsB s) .ok=
  .ok (.ret (.tup [.int .i64 t.length,.nili]),[.cells 48 [.bself 0,.own 1 1],.list 5 (.int .u8) 1 false (s++aS t)]):=by
 have h1:body (R:=R0) E (au ma) Mt [.ref 0 0,.str t] (bsB s) .ok=(bif decide (s.length+(aS t).length<ao)then .ok (.ret (.tup [.int .i64 t.length,.nili]),[.cells 48 [.bself 0,.own 1 1],.list 5 (.int .u8) 1 false (s++aS t)])else .err 206):=by kernel_rfl
 rw[h1]
 simp only[h,decide_true,cond_true]
def wsC:aX:=fun R args bs k=>match args,bs with
 |[.ref 0 0,.str t],[.cells 48 [.bself 0,.own 1 0],.list 5 (.int .u8) 0 false s]=>(match decide (List.length s+(aS t).length<ao)with
  |true=>k (.ret (.tup [.int .i64 t.length,.nili]),[.cells 48 [.bself 0,.own 1 1],.list 5 (.int .u8) 1 false (app s (aS t))])
  |false=>.err 51)
 |_,_=>.err 51
theorem Pr{w0:World}(t:TabsW w0):aP Tryz.prog (GW w0) 16 wsC:=fun R args bs k r hr=>by
 unfold wsC at hr
 split at hr
 ·split at hr
  ·rename_i hd
   exact⟨_,hr,cg (bb []) (Jt t) S3 (Lj _ _ (of_decide_eq_true hd))⟩
  ·cases hr
 ·cases hr
end Go.Sx.Tryz
namespace Go.Sx.Tryz
open Go Go.Sx Go.Proofs
set_option maxRecDepth 100000
def tyS(x:Nd):List UInt8:=bif bq (ar x) (aB x) (ah x) (ag x)then fh (ar x) (aB x) (ah x) (ag x)else []
def hdS(x:Nd):List UInt8:=[40]++cM (aj x)++(bif mv (aj x)then [32]++dx (aF x)else [])++(bif fO (aj x)then [32]++tyS x else [])++(bif aj x==19||aj x==21 then [32]++Lib.itoa (nN x)else [])
def nV(L:List Nd):Nat→Nat→List UInt8
 |0,_=>[]
 |f+1,i=>hdS (af L i)++(ai (af L i)).flatMap (fun k=>[32]++nV L f k.toNat)++[41]
def cK(L:List Nd)(i:Nat):List UInt8:=nV L (i+1) i
def qU:List Cut:=[⟨[true,true,true,true,true,true,true,false,true,false,false],some ⟨[(0,[]),(4,[]),(54,[.sl (.int .i64)]),(55,[]),(56,[])],[[],[],[]]⟩⟩]
def KG(L:List Nd)(r:Int)(s:List Int)(K:List Int)(l k:Int):St:={tmps:=[(0,.ref 0 0),(4,.ref 2 0),(54,.sl (.int .i64) K),(55,.int .i64 l),(56,.int .i64 k)],blks:=[(0,.cells 48 [.bself 0,.own 1 1]),(1,.list 5 (.int .u8) 1 false s),(2,.cells 25 (trC L r))],next:=3}
end Go.Sx.Tryz
namespace Go.Sx.Tryz
open Go Go.Sx Go.Proofs
set_option maxRecDepth 100000
def eD(x:Nd):Bool:=decide (-9223372036854775808≤nN x)&&decide (nN x≤9223372036854775807)
def Bk(N:Int)(L:List Nd)(r a:Int)(s:List Int):Bool:=GR L r&&(L.all eD&&(inI a L.length&&(decide (a<N)&&decide (s.length+(cK L a.toNat).length<ao))))
def tV(N:Int):aX:=fun R args bs k=>match args,bs with
 |[.ref 0 0,.agg [.sl tL L,.int .i64 r],.int .i64 a],[.cells 48 [.bself 0,.own 1 0],.list 5 (.int .u8) 0 false s]=>(match ey tL aD L with
  |some L=>(match Bk N L r a s with
   |true=>k (.ret (.tup []),[.cells 48 [.bself 0,.own 1 2],.list 5 (.int .u8) 2 false (app s (aS (cK L a.toNat)))])
   |false=>.err 43)
  |none=>.err 43)
 |_,_=>.err 43
def ox(N:Int):List (Nat×aX):=[(50,cq 50 iu y9 (fun _=>true) shX),(52,ofT 52 tW),(54,ofT 54 pf),(53,cq 53 uQ cZ nt Nv),(16,mU 16 wsC),(17,mU 17 wbC),(29,mU 29 (tV N))]
end Go.Sx.Tryz
namespace Go.Sx.Tryz
open Go Go.Sx Go.Proofs
set_option maxRecDepth 100000
theorem KW(J:Jump R0)(N:Int)(L:List Nd)(r a:Int)(s:List Int):start E (au (ox N)) sQ qU J [.ref 0 0,.agg (trC L r),.int .i64 a] (bsB s) .ok=bif inI a (List.length L)then bif decide (List.length [40]+List.length (cM (aj (af L (Int.toNat a))))<2^62)then bif decide (List.length s+List.length (aS ([40]++cM (aj (af L (Int.toNat a)))))<ao)then bif mv (aj (af L (Int.toNat a)))then bif Nat.ble (List.length (aF (af L (Int.toNat a)))) 1099511627776 then bif decide (List.length [32]+List.length (dx (aF (af L (Int.toNat a))))<2^62)then bif decide (List.length (app s (aS ([40]++cM (aj (af L (Int.toNat a))))))+List.length (aS ([32]++dx (aF (af L (Int.toNat a)))))<ao)then bif fO (aj (af L (Int.toNat a)))then bif nt ((ar (af L (Int.toNat a)),aB (af L (Int.toNat a)),ah (af L (Int.toNat a)),ag (af L (Int.toNat a)),()),())then bif decide (List.length [32]+List.length (bif bq (ar (af L (Int.toNat a))) (aB (af L (Int.toNat a))) (ah (af L (Int.toNat a))) (ag (af L (Int.toNat a)))then fh (ar (af L (Int.toNat a))) (aB (af L (Int.toNat a))) (ah (af L (Int.toNat a))) (ag (af L (Int.toNat a)))else [])<2^62)then bif decide (List.length (app (app s (aS ([40]++cM (aj (af L (Int.toNat a)))))) (aS ([32]++dx (aF (af L (Int.toNat a))))))+List.length (aS ([32]++bif bq (ar (af L (Int.toNat a))) (aB (af L (Int.toNat a))) (ah (af L (Int.toNat a))) (ag (af L (Int.toNat a)))then fh (ar (af L (Int.toNat a))) (aB (af L (Int.toNat a))) (ah (af L (Int.toNat a))) (ag (af L (Int.toNat a)))else []))<ao)then bif aj (af L (Int.toNat a))==19 then bif decide (10=10)&&(decide (-9223372036854775808≤nN (af L (Int.toNat a)))&&decide (nN (af L (Int.toNat a))≤9223372036854775807))then bif decide (List.length [32]+List.length (Lib.itoa (nN (af L (Int.toNat a))))<2^62)then bif decide (List.length (app (app (app s (aS ([40]++cM (aj (af L (Int.toNat a)))))) (aS ([32]++dx (aF (af L (Int.toNat a)))))) (aS ([32]++bif bq (ar (af L (Int.toNat a))) (aB (af L (Int.toNat a))) (ah (af L (Int.toNat a))) (ag (af L (Int.toNat a)))then fh (ar (af L (Int.toNat a))) (aB (af L (Int.toNat a))) (ah (af L (Int.toNat a))) (ag (af L (Int.toNat a)))else [])))+List.length (aS ([32]++Lib.itoa (nN (af L (Int.toNat a)))))<ao)then J 0 {tmps:=[(0,AV.ref 0 0),(4,AV.ref 2 0),(54,AV.sl (Ty.int IntKind.i64) (ai (af L (Int.toNat a)))),(55,AV.int IntKind.i64 (↑(List.length (ai (af L (Int.toNat a)))):Int)),(56,AV.int IntKind.i64 0)],blks:=[(0,Blk.cells 48 [AV.bself 0,AV.own 1 1]),(1,Blk.list 5 (Ty.int IntKind.u8) 1 false (app (app (app (app s (aS ([40]++cM (aj (af L (Int.toNat a)))))) (aS ([32]++dx (aF (af L (Int.toNat a)))))) (aS ([32]++bif bq (ar (af L (Int.toNat a))) (aB (af L (Int.toNat a))) (ah (af L (Int.toNat a))) (ag (af L (Int.toNat a)))then fh (ar (af L (Int.toNat a))) (aB (af L (Int.toNat a))) (ah (af L (Int.toNat a))) (ag (af L (Int.toNat a)))else []))) (aS ([32]++Lib.itoa (nN (af L (Int.toNat a))))))),(2,Blk.cells 25 [AV.sl aD L,AV.int IntKind.i64 r])],next:=3}else Rs.err 51 else Rs.err 904 else Rs.err 1000054 else bif aj (af L (Int.toNat a))==21 then bif decide (10=10)&&(decide (-9223372036854775808≤nN (af L (Int.toNat a)))&&decide (nN (af L (Int.toNat a))≤9223372036854775807))then bif decide (List.length [32]+List.length (Lib.itoa (nN (af L (Int.toNat a))))<2^62)then bif decide (List.length (app (app (app s (aS ([40]++cM (aj (af L (Int.toNat a)))))) (aS ([32]++dx (aF (af L (Int.toNat a)))))) (aS ([32]++bif bq (ar (af L (Int.toNat a))) (aB (af L (Int.toNat a))) (ah (af L (Int.toNat a))) (ag (af L (Int.toNat a)))then fh (ar (af L (Int.toNat a))) (aB (af L (Int.toNat a))) (ah (af L (Int.toNat a))) (ag (af L (Int.toNat a)))else [])))+List.length (aS ([32]++Lib.itoa (nN (af L (Int.toNat a)))))<ao)then J 0 {tmps:=[(0,AV.ref 0 0),(4,AV.ref 2 0),(54,AV.sl (Ty.int IntKind.i64) (ai (af L (Int.toNat a)))),(55,AV.int IntKind.i64 (↑(List.length (ai (af L (Int.toNat a)))):Int)),(56,AV.int IntKind.i64 0)],blks:=[(0,Blk.cells 48 [AV.bself 0,AV.own 1 1]),(1,Blk.list 5 (Ty.int IntKind.u8) 1 false (app (app (app (app s (aS ([40]++cM (aj (af L (Int.toNat a)))))) (aS ([32]++dx (aF (af L (Int.toNat a)))))) (aS ([32]++bif bq (ar (af L (Int.toNat a))) (aB (af L (Int.toNat a))) (ah (af L (Int.toNat a))) (ag (af L (Int.toNat a)))then fh (ar (af L (Int.toNat a))) (aB (af L (Int.toNat a))) (ah (af L (Int.toNat a))) (ag (af L (Int.toNat a)))else []))) (aS ([32]++Lib.itoa (nN (af L (Int.toNat a))))))),(2,Blk.cells 25 [AV.sl aD L,AV.int IntKind.i64 r])],next:=3}else Rs.err 51 else Rs.err 904 else Rs.err 1000054 else J 0 {tmps:=[(0,AV.ref 0 0),(4,AV.ref 2 0),(54,AV.sl (Ty.int IntKind.i64) (ai (af L (Int.toNat a)))),(55,AV.int IntKind.i64 (↑(List.length (ai (af L (Int.toNat a)))):Int)),(56,AV.int IntKind.i64 0)],blks:=[(0,Blk.cells 48 [AV.bself 0,AV.own 1 1]),(1,Blk.list 5 (Ty.int IntKind.u8) 1 false (app (app (app s (aS ([40]++cM (aj (af L (Int.toNat a)))))) (aS ([32]++dx (aF (af L (Int.toNat a)))))) (aS ([32]++bif bq (ar (af L (Int.toNat a))) (aB (af L (Int.toNat a))) (ah (af L (Int.toNat a))) (ag (af L (Int.toNat a)))then fh (ar (af L (Int.toNat a))) (aB (af L (Int.toNat a))) (ah (af L (Int.toNat a))) (ag (af L (Int.toNat a)))else [])))),(2,Blk.cells 25 [AV.sl aD L,AV.int IntKind.i64 r])],next:=3}else Rs.err 51 else Rs.err 704 else Rs.err 3000053 else bif aj (af L (Int.toNat a))==19 then bif decide (10=10)&&(decide (-9223372036854775808≤nN (af L (Int.toNat a)))&&decide (nN (af L (Int.toNat a))≤9223372036854775807))then bif decide (List.length [32]+List.length (Lib.itoa (nN (af L (Int.toNat a))))<2^62)then bif decide (List.length (app (app s (aS ([40]++cM (aj (af L (Int.toNat a)))))) (aS ([32]++dx (aF (af L (Int.toNat a))))))+List.length (aS ([32]++Lib.itoa (nN (af L (Int.toNat a)))))<ao)then J 0 {tmps:=[(0,AV.ref 0 0),(4,AV.ref 2 0),(54,AV.sl (Ty.int IntKind.i64) (ai (af L (Int.toNat a)))),(55,AV.int IntKind.i64 (↑(List.length (ai (af L (Int.toNat a)))):Int)),(56,AV.int IntKind.i64 0)],blks:=[(0,Blk.cells 48 [AV.bself 0,AV.own 1 1]),(1,Blk.list 5 (Ty.int IntKind.u8) 1 false (app (app (app s (aS ([40]++cM (aj (af L (Int.toNat a)))))) (aS ([32]++dx (aF (af L (Int.toNat a)))))) (aS ([32]++Lib.itoa (nN (af L (Int.toNat a))))))),(2,Blk.cells 25 [AV.sl aD L,AV.int IntKind.i64 r])],next:=3}else Rs.err 51 else Rs.err 904 else Rs.err 1000054 else bif aj (af L (Int.toNat a))==21 then bif decide (10=10)&&(decide (-9223372036854775808≤nN (af L (Int.toNat a)))&&decide (nN (af L (Int.toNat a))≤9223372036854775807))then bif decide (List.length [32]+List.length (Lib.itoa (nN (af L (Int.toNat a))))<2^62)then bif decide (List.length (app (app s (aS ([40]++cM (aj (af L (Int.toNat a)))))) (aS ([32]++dx (aF (af L (Int.toNat a))))))+List.length (aS ([32]++Lib.itoa (nN (af L (Int.toNat a)))))<ao)then J 0 {tmps:=[(0,AV.ref 0 0),(4,AV.ref 2 0),(54,AV.sl (Ty.int IntKind.i64) (ai (af L (Int.toNat a)))),(55,AV.int IntKind.i64 (↑(List.length (ai (af L (Int.toNat a)))):Int)),(56,AV.int IntKind.i64 0)],blks:=[(0,Blk.cells 48 [AV.bself 0,AV.own 1 1]),(1,Blk.list 5 (Ty.int IntKind.u8) 1 false (app (app (app s (aS ([40]++cM (aj (af L (Int.toNat a)))))) (aS ([32]++dx (aF (af L (Int.toNat a)))))) (aS ([32]++Lib.itoa (nN (af L (Int.toNat a))))))),(2,Blk.cells 25 [AV.sl aD L,AV.int IntKind.i64 r])],next:=3}else Rs.err 51 else Rs.err 904 else Rs.err 1000054 else J 0 {tmps:=[(0,AV.ref 0 0),(4,AV.ref 2 0),(54,AV.sl (Ty.int IntKind.i64) (ai (af L (Int.toNat a)))),(55,AV.int IntKind.i64 (↑(List.length (ai (af L (Int.toNat a)))):Int)),(56,AV.int IntKind.i64 0)],blks:=[(0,Blk.cells 48 [AV.bself 0,AV.own 1 1]),(1,Blk.list 5 (Ty.int IntKind.u8) 1 false (app (app s (aS ([40]++cM (aj (af L (Int.toNat a)))))) (aS ([32]++dx (aF (af L (Int.toNat a))))))),(2,Blk.cells 25 [AV.sl aD L,AV.int IntKind.i64 r])],next:=3}else Rs.err 51 else Rs.err 504 else Rs.err 1000052 else bif fO (aj (af L (Int.toNat a)))then bif nt ((ar (af L (Int.toNat a)),aB (af L (Int.toNat a)),ah (af L (Int.toNat a)),ag (af L (Int.toNat a)),()),())then bif decide (List.length [32]+List.length (bif bq (ar (af L (Int.toNat a))) (aB (af L (Int.toNat a))) (ah (af L (Int.toNat a))) (ag (af L (Int.toNat a)))then fh (ar (af L (Int.toNat a))) (aB (af L (Int.toNat a))) (ah (af L (Int.toNat a))) (ag (af L (Int.toNat a)))else [])<2^62)then bif decide (List.length (app s (aS ([40]++cM (aj (af L (Int.toNat a))))))+List.length (aS ([32]++bif bq (ar (af L (Int.toNat a))) (aB (af L (Int.toNat a))) (ah (af L (Int.toNat a))) (ag (af L (Int.toNat a)))then fh (ar (af L (Int.toNat a))) (aB (af L (Int.toNat a))) (ah (af L (Int.toNat a))) (ag (af L (Int.toNat a)))else []))<ao)then bif aj (af L (Int.toNat a))==19 then bif decide (10=10)&&(decide (-9223372036854775808≤nN (af L (Int.toNat a)))&&decide (nN (af L (Int.toNat a))≤9223372036854775807))then bif decide (List.length [32]+List.length (Lib.itoa (nN (af L (Int.toNat a))))<2^62)then bif decide (List.length (app (app s (aS ([40]++cM (aj (af L (Int.toNat a)))))) (aS ([32]++bif bq (ar (af L (Int.toNat a))) (aB (af L (Int.toNat a))) (ah (af L (Int.toNat a))) (ag (af L (Int.toNat a)))then fh (ar (af L (Int.toNat a))) (aB (af L (Int.toNat a))) (ah (af L (Int.toNat a))) (ag (af L (Int.toNat a)))else [])))+List.length (aS ([32]++Lib.itoa (nN (af L (Int.toNat a)))))<ao)then J 0 {tmps:=[(0,AV.ref 0 0),(4,AV.ref 2 0),(54,AV.sl (Ty.int IntKind.i64) (ai (af L (Int.toNat a)))),(55,AV.int IntKind.i64 (↑(List.length (ai (af L (Int.toNat a)))):Int)),(56,AV.int IntKind.i64 0)],blks:=[(0,Blk.cells 48 [AV.bself 0,AV.own 1 1]),(1,Blk.list 5 (Ty.int IntKind.u8) 1 false (app (app (app s (aS ([40]++cM (aj (af L (Int.toNat a)))))) (aS ([32]++bif bq (ar (af L (Int.toNat a))) (aB (af L (Int.toNat a))) (ah (af L (Int.toNat a))) (ag (af L (Int.toNat a)))then fh (ar (af L (Int.toNat a))) (aB (af L (Int.toNat a))) (ah (af L (Int.toNat a))) (ag (af L (Int.toNat a)))else []))) (aS ([32]++Lib.itoa (nN (af L (Int.toNat a))))))),(2,Blk.cells 25 [AV.sl aD L,AV.int IntKind.i64 r])],next:=3}else Rs.err 51 else Rs.err 904 else Rs.err 1000054 else bif aj (af L (Int.toNat a))==21 then bif decide (10=10)&&(decide (-9223372036854775808≤nN (af L (Int.toNat a)))&&decide (nN (af L (Int.toNat a))≤9223372036854775807))then bif decide (List.length [32]+List.length (Lib.itoa (nN (af L (Int.toNat a))))<2^62)then bif decide (List.length (app (app s (aS ([40]++cM (aj (af L (Int.toNat a)))))) (aS ([32]++bif bq (ar (af L (Int.toNat a))) (aB (af L (Int.toNat a))) (ah (af L (Int.toNat a))) (ag (af L (Int.toNat a)))then fh (ar (af L (Int.toNat a))) (aB (af L (Int.toNat a))) (ah (af L (Int.toNat a))) (ag (af L (Int.toNat a)))else [])))+List.length (aS ([32]++Lib.itoa (nN (af L (Int.toNat a)))))<ao)then J 0 {tmps:=[(0,AV.ref 0 0),(4,AV.ref 2 0),(54,AV.sl (Ty.int IntKind.i64) (ai (af L (Int.toNat a)))),(55,AV.int IntKind.i64 (↑(List.length (ai (af L (Int.toNat a)))):Int)),(56,AV.int IntKind.i64 0)],blks:=[(0,Blk.cells 48 [AV.bself 0,AV.own 1 1]),(1,Blk.list 5 (Ty.int IntKind.u8) 1 false (app (app (app s (aS ([40]++cM (aj (af L (Int.toNat a)))))) (aS ([32]++bif bq (ar (af L (Int.toNat a))) (aB (af L (Int.toNat a))) (ah (af L (Int.toNat a))) (ag (af L (Int.toNat a)))then fh (ar (af L (Int.toNat a))) (aB (af L (Int.toNat a))) (ah (af L (Int.toNat a))) (ag (af L (Int.toNat a)))else []))) (aS ([32]++Lib.itoa (nN (af L (Int.toNat a))))))),(2,Blk.cells 25 [AV.sl aD L,AV.int IntKind.i64 r])],next:=3}else Rs.err 51 else Rs.err 904 else Rs.err 1000054 else J 0 {tmps:=[(0,AV.ref 0 0),(4,AV.ref 2 0),(54,AV.sl (Ty.int IntKind.i64) (ai (af L (Int.toNat a)))),(55,AV.int IntKind.i64 (↑(List.length (ai (af L (Int.toNat a)))):Int)),(56,AV.int IntKind.i64 0)],blks:=[(0,Blk.cells 48 [AV.bself 0,AV.own 1 1]),(1,Blk.list 5 (Ty.int IntKind.u8) 1 false (app (app s (aS ([40]++cM (aj (af L (Int.toNat a)))))) (aS ([32]++bif bq (ar (af L (Int.toNat a))) (aB (af L (Int.toNat a))) (ah (af L (Int.toNat a))) (ag (af L (Int.toNat a)))then fh (ar (af L (Int.toNat a))) (aB (af L (Int.toNat a))) (ah (af L (Int.toNat a))) (ag (af L (Int.toNat a)))else [])))),(2,Blk.cells 25 [AV.sl aD L,AV.int IntKind.i64 r])],next:=3}else Rs.err 51 else Rs.err 704 else Rs.err 3000053 else bif aj (af L (Int.toNat a))==19 then bif decide (10=10)&&(decide (-9223372036854775808≤nN (af L (Int.toNat a)))&&decide (nN (af L (Int.toNat a))≤9223372036854775807))then bif decide (List.length [32]+List.length (Lib.itoa (nN (af L (Int.toNat a))))<2^62)then bif decide (List.length (app s (aS ([40]++cM (aj (af L (Int.toNat a))))))+List.length (aS ([32]++Lib.itoa (nN (af L (Int.toNat a)))))<ao)then J 0 {tmps:=[(0,AV.ref 0 0),(4,AV.ref 2 0),(54,AV.sl (Ty.int IntKind.i64) (ai (af L (Int.toNat a)))),(55,AV.int IntKind.i64 (↑(List.length (ai (af L (Int.toNat a)))):Int)),(56,AV.int IntKind.i64 0)],blks:=[(0,Blk.cells 48 [AV.bself 0,AV.own 1 1]),(1,Blk.list 5 (Ty.int IntKind.u8) 1 false (app (app s (aS ([40]++cM (aj (af L (Int.toNat a)))))) (aS ([32]++Lib.itoa (nN (af L (Int.toNat a))))))),(2,Blk.cells 25 [AV.sl aD L,AV.int IntKind.i64 r])],next:=3}else Rs.err 51 else Rs.err 904 else Rs.err 1000054 else bif aj (af L (Int.toNat a))==21 then bif decide (10=10)&&(decide (-9223372036854775808≤nN (af L (Int.toNat a)))&&decide (nN (af L (Int.toNat a))≤9223372036854775807))then bif decide (List.length [32]+List.length (Lib.itoa (nN (af L (Int.toNat a))))<2^62)then bif decide (List.length (app s (aS ([40]++cM (aj (af L (Int.toNat a))))))+List.length (aS ([32]++Lib.itoa (nN (af L (Int.toNat a)))))<ao)then J 0 {tmps:=[(0,AV.ref 0 0),(4,AV.ref 2 0),(54,AV.sl (Ty.int IntKind.i64) (ai (af L (Int.toNat a)))),(55,AV.int IntKind.i64 (↑(List.length (ai (af L (Int.toNat a)))):Int)),(56,AV.int IntKind.i64 0)],blks:=[(0,Blk.cells 48 [AV.bself 0,AV.own 1 1]),(1,Blk.list 5 (Ty.int IntKind.u8) 1 false (app (app s (aS ([40]++cM (aj (af L (Int.toNat a)))))) (aS ([32]++Lib.itoa (nN (af L (Int.toNat a))))))),(2,Blk.cells 25 [AV.sl aD L,AV.int IntKind.i64 r])],next:=3}else Rs.err 51 else Rs.err 904 else Rs.err 1000054 else J 0 {tmps:=[(0,AV.ref 0 0),(4,AV.ref 2 0),(54,AV.sl (Ty.int IntKind.i64) (ai (af L (Int.toNat a)))),(55,AV.int IntKind.i64 (↑(List.length (ai (af L (Int.toNat a)))):Int)),(56,AV.int IntKind.i64 0)],blks:=[(0,Blk.cells 48 [AV.bself 0,AV.own 1 1]),(1,Blk.list 5 (Ty.int IntKind.u8) 1 false (app s (aS ([40]++cM (aj (af L (Int.toNat a))))))),(2,Blk.cells 25 [AV.sl aD L,AV.int IntKind.i64 r])],next:=3}else Rs.err 51 else Rs.err 303 else Rs.err 103:=by kernel_rfl
theorem H3(J:Jump R0)(N:Int)(L:List Nd)(r:Int)(s:List Int)(K:List Int)(l k:Int):resume E (au (ox N)) (aT 2 qU 0) J [true,true,true,true,true,true,true,false,true,false,false] sQ.code 1 (KG L r s K l k) (cv E 2 sQ.results .ok)=bif decide (k<l)then bif inI k (List.length K)then bif decide (List.length s+1<ao)then bif Bk N L r (bE K (Int.toNat k)) (app s [32])then J 0 {tmps:=[(0,AV.ref 0 0),(4,AV.ref 2 0),(54,AV.sl (Ty.int IntKind.i64) K),(55,AV.int IntKind.i64 l),(56,AV.int IntKind.i64 (IntKind.wrap IntKind.i64 (k+1)))],blks:=[(0,Blk.cells 48 [AV.bself 0,AV.own 1 1]),(1,Blk.list 5 (Ty.int IntKind.u8) 1 false (app (app s [32]) (aS (cK L (Int.toNat (bE K (Int.toNat k))))))),(2,Blk.cells 25 [AV.sl aD L,AV.int IntKind.i64 r])],next:=3}else Rs.err 43 else Rs.err 17 else Rs.err 1200 else bif decide (List.length s+1<ao)then Rs.ok (Out.ret (AV.tup []),[Blk.cells 48 [AV.bself 0,AV.own 1 2],Blk.list 5 (Ty.int IntKind.u8) 2 false (app s [41])])else Rs.err 17:=by kernel_rfl
end Go.Sx.Tryz
namespace Go.Sx.Tryz
open Go Go.Sx Go.Proofs
set_option maxRecDepth 100000
theorem kS{L:List Nd}{r:Int}(g:GoodT L r):∀(n i f:Nat),i<n→i<L.length→i+1≤f→nV L f i=cK L i
 |0,i,f,h,_,_=>by omega
 |n+1,i,0,_,_,h=>by omega
 |n+1,i,f+1,hn,hi,hf=>by
  simp only[nV,cK]
  refine congrArg (fun z=>hdS (af L i)++z++[41]) (lh fun k hk=>?_)
  obtain⟨_,_,h3⟩:=g.kid hi hk
  rw[kS g n k.toNat f (by omega) (by omega) (by omega),kS g n k.toNat i (by omega) (by omega) (by omega)]
theorem zZ{L:List Nd}{r:Int}(g:GoodT L r){i:Nat}(hi:i<L.length):cK L i=hdS (af L i)++(ai (af L i)).flatMap (fun k=>[32]++cK L k.toNat)++[41]:=by
 show hdS (af L i)++_++[41]=_
 refine congrArg (fun z=>hdS (af L i)++z++[41]) (lh fun k hk=>?_)
 obtain⟨_,_,h3⟩:=g.kid hi hk
 rw[kS g (k.toNat+1) k.toNat i (by omega) (by omega) (by omega)]
theorem lq(a b:List UInt8):aS (a++b)=aS a++aS b:=by simp[aS]
theorem jO(a b:List Int):(app a b).length=a.length+b.length:=by simp[app]
def FinF(N:Int)(st:St)(o:R0):Prop:=∃fuel,pieces (R:=R0) E (au (ox N)) sQ qU 2 .ok fuel 0 st= .ok o
def KV(s:List Int):R0:=(.ret (.tup []),[.cells 48 [.bself 0,.own 1 2],.list 5 (.int .u8) 2 false s])
theorem Jf(J:Jump R0)(N:Int)(L:List Nd)(r:Int)(i:Nat)(s:List Int)(hi:i<L.length)(hb:s.length+(hdS (af L i)).length<ao)(ht:(aF (af L i)).length≤70000)
  (hn:(aB (af L i)).length≤1000) (hm:(ag (af L i)).length≤1000) (hf:eD (af L i)=true):
  start E (au (ox N)) sQ qU J [.ref 0 0,.agg (trC L r),.int .i64 i] (bsB s) .ok=J 0 (KG L r (app s (aS (hdS (af L i)))) (ai (af L i)) (ai (af L i)).length 0):=by
 refine(KW J N L r i s).trans ?_
 rw[Int.toNat_natCast]
 generalize hx:af L i=x at*
 have h1:inI (i:Int) L.length=true:=bZ (by omega) (by omega)
 have h2:Nat.ble (aF x).length 1099511627776=true:=Nat.ble_eq_true_of_le (by omega)
 have h3:nt ((ar x,aB x,ah x,ag x,()),())=true:=by
  simp only[nt,Bool.and_eq_true,decide_eq_true_eq]
  exact⟨hn,hm⟩
 have h4:=hf
 simp only[eD,Bool.and_eq_true]at h4
 obtain⟨h4,h5⟩:=h4
 have hmr:ao=68719476736:=rfl
 simp only[h1,h2,h3,cond_true]
 unfold hdS at hb⊢
 unfold tyS at hb⊢
 cases e1:mv (aj x)<;>cases e2:fO (aj x)<;>cases e3:(aj x==19)<;>cases e4:(aj x==21)
 all_goals
  simp only[e1,e2,e3,e4,h4,h5,decide_true,Bool.and_self,cond_true,cond_false,Bool.or_true,Bool.or_false,Bool.true_or]at hb⊢
  repeat refine Eq.trans (mX (by simp only[jO,eY,List.length_append,List.length_cons,List.length_nil,hmr]at hb⊢;omega)) ?_
  simp only[KG,trC,app,lq,List.append_assoc,List.append_nil]
end Go.Sx.Tryz
namespace Go.Sx.Tryz
open Go Go.Sx Go.Proofs
set_option maxRecDepth 100000
def o9(L:List Nd)(ks:List Int):List UInt8:=ks.flatMap fun k=>[32]++cK L k.toNat
theorem tD(L:List Nd)(k:Int)(ks:List Int):o9 L (k::ks)=[32]++cK L k.toNat++o9 L ks:=rfl
theorem ry(N:Int)(L:List Nd)(r a:Int)(s:List Int):Bk N L r a s=(GR L r&&(L.all eD&&(inI a L.length&&(decide (a<N)&&decide (s.length+(cK L a.toNat).length<ao))))):=rfl
theorem TJ{L:List Nd}{r:Int}{N:Int}(g:GoodT L r)(hok:GR L r=true)(hfine:L.all eD=true){i:Nat}(hi:i<L.length)(hL:L.length≤9000)(hN:(i:Int)≤N)(hK:(ai (af L i)).length≤20000):∀(ks pre:List Int) (s:List Int),ai (af L i)=pre++ks→
  s.length+(o9 L ks).length+1<ao→FinF N (KG L r s (ai (af L i)) (ai (af L i)).length pre.length) (KV (app s (aS (o9 L ks++[41]))))
 |[],pre,s,hp,hb=>by
  refine⟨1,(H3 (pieces (R:=R0) E (au (ox N)) sQ qU 2 .ok 0) N L r s (ai (af L i)) (ai (af L i)).length pre.length).trans ?_⟩
  have h1:¬((pre.length:Int)<(ai (af L i)).length):=by rw[hp,List.append_nil];omega
  have h2:s.length+1<ao:=by simp only[o9,List.flatMap_nil,List.length_nil]at hb;omega
  simp only[h1,h2,decide_false,decide_true,cond_true,cond_false]
  rfl
 |k::ks,pre,s,hp,hb=>by
  have hlen:pre.length+1+ks.length=(ai (af L i)).length:=by rw[hp];simp;omega
  obtain⟨k0,k1,k2⟩:=g.kid hi (k:=k) (by rw[hp];simp)
  have h5:(((pre++[k]).length:Nat):Int)=(pre.length:Int)+1:=by simp
  rw[tD,List.length_append,List.length_append,List.length_singleton]at hb
  obtain⟨fuel,ih⟩:=TJ g hok hfine hi hL hN hK ks (pre++[k]) (app (app s [32]) (aS (cK L k.toNat))) (by simp[hp]) (by simp only[jO,eY,List.length_singleton];omega)
  refine⟨fuel+1,(H3 (pieces (R:=R0) E (au (ox N)) sQ qU 2 .ok fuel) N L r s (ai (af L i)) (ai (af L i)).length pre.length).trans ?_⟩
  have h1:(pre.length:Int)<(ai (af L i)).length:=by omega
  have h3:inI (pre.length:Int) (ai (af L i)).length=true:=by rw[hp];exact Ah _ _ _
  have h4:bE (ai (af L i)) pre.length=k:=by rw[hp];exact sU _ _ _
  have h6:IntKind.wrap .i64 ((pre.length:Int)+1)=(pre.length:Int)+1:=wrap64 (by omega) (by omega)
  have h2:s.length+1<ao:=by omega
  have h7:Bk N L r k (app s [32])=true:=by
   have h8:inI k L.length=true:=bZ k0 (by omega)
   have h9:decide (k<N)=true:=decide_eq_true (by omega)
   have h10:decide ((app s [32]).length+(cK L k.toNat).length<ao)=true:=decide_eq_true (by simp only[jO,List.length_singleton];omega)
   rw[ry,hok,hfine,h8,h9,h10]
   rfl
  simp only[h1,h2,h3,h4,h6,h7,Int.toNat_natCast,decide_true,cond_true]
  rw[h5]at ih
  rw[tD]
  have e:app s (aS ([32]++cK L k.toNat++o9 L ks++[41]))=app (app (app s [32]) (aS (cK L k.toNat))) (aS (o9 L ks++[41])):=by
   simp only[app,lq,List.append_assoc]
   rfl
  rw[e]
  exact ih
theorem Iu{w0:World}(t:TabsW w0){N:Int}(h:aP Tryz.prog (GW w0) 29 (tV N)):bw Tryz.prog (GW w0) (ox N):=by
 have h1:=rU t
 refine .cons (aW fun x _=>MJ t x) (.cons ?_ (.cons ?_ (.cons (aW fun x h=>Lr t x h) (.cons (je (Pr t)) (.cons (je Ig) (.cons (je h) .nil))))))
 ·exact lr (vf Rr fun D hG hs s hlen=>Any.strconv_Quote Tryz.lays177 (by kernel_rfl) Lib.goPrintTabs s D.w hlen (t.at hG hs).pt (t.at hG hs).u8) z6
 ·exact lr (uj Ta fun D hG hs n h0 h1=>Calls.mono (Any.strconv_FormatInt_10 Tryz.laysM173 n h0 h1 D.w (t.at hG hs).p10) fun e w' ⟨e1,k,os,e2⟩=>⟨e1,by rw[e2];exact r7 _ _ _⟩) wo
theorem FT{w0:World}(t:TabsW w0)(N:Nat)(ih:aP Tryz.prog (GW w0) 29 (tV N))(L:List Nd)(r a:Int)(s:List Int)(h:Bk ((N+1:Nat):Int) L r a s=true):
  SA Tryz.prog (GW w0) 29 [.ref 0 0,.agg (trC L r),.int .i64 a] (bsB s) (KV (app s (aS (cK L a.toNat)))):=by
 rw[ry]at h
 simp only[Bool.and_eq_true,decide_eq_true_eq]at h
 obtain⟨hok,hfine,hin,hN,hb⟩:=h
 have hin':=hin
 simp only[inI,Bool.and_eq_true,decide_eq_true_eq]at hin'
 have hok':=hok
 simp only[GR,Bool.and_eq_true,beq_iff_eq]at hok'
 have g:=rE hok'.2
 obtain⟨hL,hK⟩:=lM hok'.1
 obtain⟨i,rfl⟩:∃i:Nat,a=(i:Int):=⟨a.toNat,by omega⟩
 have hi:i<L.length:=by omega
 rw[Int.toNat_natCast]at hb⊢
 have e:cK L i=hdS (af L i)++o9 L (ai (af L i))++[41]:=zZ g hi
 rw[e]at hb⊢
 rw[List.length_append,List.length_append,List.length_singleton]at hb
 obtain⟨fuel,hf⟩:=TJ (N:=N) g hok hfine hi hL (by omega) (hK i hi) (ai (af L i)) [] (app s (aS (hdS (af L i)))) rfl (by simp only[jO,eY];omega)
 have hsm:fV (af L i)=true:=by
  have:=hok'.1
  simp only[jg,Bool.and_eq_true]at this
  exact List.all_eq_true.1 this.2 _ (List.mem_of_getElem? (fP hi))
 simp only[fV,Bool.and_eq_true,decide_eq_true_eq]at hsm
 have hfn:=List.all_eq_true.1 hfine _ (List.mem_of_getElem? (fP hi))
 have hs:start (R:=R0) E (au (ox N)) sQ qU (pieces (R:=R0) E (au (ox N)) sQ qU 2 .ok fuel) [.ref 0 0,.agg (trC L r),.int .i64 i] (bsB s) .ok= .ok (KV (app s (aS (hdS (af L i)++o9 L (ai (af L i))++[41])))):=by
  refine(Jf _ N L r i s hi (by omega) (by omega) (by omega) (by omega) hfn).trans ?_
  refine hf.trans ?_
  simp only[app,lq,List.append_assoc]
 exact bu (bb []) (aQ (Iu t ih)) SU (.inl fun ee tt gg sh l hm=>by
  simp only[bsB,List.mem_cons,List.not_mem_nil,or_false,reduceCtorEq,false_or]at hm
  cases hm
  rfl) hs
theorem yP{w0:World}{N:Int}(h:∀(L:List Nd) (r a:Int) (s:List Int),Bk N L r a s=true→SA Tryz.prog (GW w0) 29 [.ref 0 0,.agg (trC L r),.int .i64 a] (bsB s) (KV (app s (aS (cK L a.toNat))))):aP Tryz.prog (GW w0) 29 (tV N):=fun R args bs k r hr=>by
 unfold tV at hr
 split at hr
 ·split at hr
  ·rename_i L' hc
   split at hr
   ·rename_i hd
    obtain⟨e,hL⟩:=ik hc
    subst e
    subst hL
    exact⟨_,hr,h _ _ _ _ hd⟩
   ·cases hr
  ·cases hr
 ·cases hr
theorem CW{w0:World}(t:TabsW w0):∀N:Nat,aP Tryz.prog (GW w0) 29 (tV N)
 |0=>yP fun L r a s h=>by
  rw[ry]at h
  simp only[Bool.and_eq_true,decide_eq_true_eq,inI]at h
  omega
 |N+1=>yP fun L r a s h=>FT t N (CW t N) L r a s h
end Go.Sx.Tryz
namespace Go.Sx.Tryz
open Go Go.Sx Go.Proofs
set_option maxRecDepth 100000
theorem Ha(k:Int):(cM k).length≤10:=by
 unfold cM
 cases decide (k<1)
 ·cases decide (k≥46)
  ·have h:yh.all (fun l=>decide (l.length≤10))=true:=by kernel_rfl
   simp only[cond_false]
   by_cases hk:k.toNat<yh.length
   ·have:=List.all_eq_true.1 h (yh[k.toNat]) (List.getElem_mem hk)
    simpa [List.getD,List.getElem?_eq_getElem hk]using this
   ·simp[List.getD,List.getElem?_eq_none (Nat.le_of_not_lt hk)]
  ·simp
 ·simp
theorem Cr(s:List UInt8):(dx s).length≤10*s.length+2:=by
 have:=Lib.quoteZ_length_le Lib.goPrintTabs ⟨⟨s⟩⟩
 simp only[dx,List.length_map]
 exact this
theorem vq:∀(m s:List UInt8) (i:Int),(qC s i m).length≤s.length+10*m.length
 |[],s,i=>by simp[qC]
 |c::m,s,i=>by
  have h1:=vq m (stepT s i c) (i+1)
  have h2:=v8 s i c
  simp only[qC,List.length_cons]
  omega
theorem Lp{x:Nd}(h:fV x=true):(tyS x).length≤1500:=by
 simp only[fV,Bool.and_eq_true,decide_eq_true_eq]at h
 unfold tyS fh
 cases bq (ar x) (aB x) (ah x) (ag x)
 ·simp
 ·have h1:=vq (ag x) (vp (ar x) (aB x)) 0
  have h2:=vn (b:=ar x) (n:=aB x) (by omega)
  simp only[cond_true]
  omega
theorem yz{α:Type}{c:Bool}{x:List α}{n:Nat}(h:x.length≤n):(bif c then x else []).length≤n:=by cases c<;>simp[h]
theorem LY{x:Nd}(h:fV x=true)(hf:eD x=true):(hdS x).length≤702000:=by
 have h1:=Lp h
 have h2:=Ha (aj x)
 have h3:=Cr (aF x)
 simp only[eD,Bool.and_eq_true,decide_eq_true_eq]at hf
 have h4:=Lib.itoa_length_le (nN x) hf.1 hf.2
 simp only[fV,Bool.and_eq_true,decide_eq_true_eq]at h
 unfold hdS
 simp only[List.length_append,List.length_singleton]
 have h5:(bif mv (aj x)then [32]++dx (aF x)else []).length≤700020:=yz (by simp only[List.length_append,List.length_singleton];omega)
 have h6:(bif fO (aj x)then [32]++tyS x else []).length≤1510:=yz (by simp only[List.length_append,List.length_singleton];omega)
 have h7:(bif aj x==19||aj x==21 then [32]++Lib.itoa (nN x)else []).length≤30:=yz (by simp only[List.length_append,List.length_singleton];omega)
 omega
theorem zR{L:List Nd}{r:Int}(g:GoodT L r)(hs:L.all fV=true)(hf:L.all eD=true):∀(n i:Nat),i<n→i<L.length→(cK L i).length+1≤702010*(fx L i).length
 |0,i,h,_=>by omega
 |n+1,i,hn,hi=>by
  rw[zZ g hi,iC g hi]
  have hm:=List.mem_of_getElem? (fP hi)
  have h1:=LY (List.all_eq_true.1 hs _ hm) (List.all_eq_true.1 hf _ hm)
  have h2:∀ks:List Int,(∀k∈ks,k∈ai (af L i))→(ks.flatMap fun k=>[32]++cK L k.toNat).length≤702010*(ks.flatMap fun k=>fx L k.toNat).length:=by
   intro ks
   induction ks with
   |nil=>intro _;simp
   |cons k ks ih=>
    intro hk
    have h3:=ih fun x hx=>hk x (by simp[hx])
    obtain⟨k0,k1,k2⟩:=g.kid hi (hk k (by simp))
    have h4:=zR g hs hf n k.toNat (by omega) (by omega)
    rw[List.flatMap_cons,List.flatMap_cons,List.length_append,List.length_append,List.length_append,List.length_singleton]
    omega
  have h3:=h2 _ fun k hk=>hk
  simp only[List.length_append,List.length_singleton,List.length_cons,List.length_nil]
  omega
theorem Fu{L:List Nd}{r:Int}(g:GoodT L r)(hm:jg L=true)(hf:L.all eD=true){i:Nat}(hi:i<L.length):(cK L i).length<ao:=by
 have hs:=hm
 simp only[jg,Bool.and_eq_true,decide_eq_true_eq]at hs
 have h1:=zR g hs.2 hf (i+1) i (by omega) hi
 have h2:=na g hi
 have hmr:ao=68719476736:=rfl
 omega
end Go.Sx.Tryz
namespace Go.Sx.Tryz
open Go Go.Sx Go.Proofs
set_option maxRecDepth 100000
def kO(L:List Nd)(r a:Int):List UInt8:=bif inI a L.length&&dC L r==0 then cK L a.toNat else []
def Bu(x:an mE):Bool:=jg x.1.1&&x.1.1.all eD
def MN(x:an mE):an cZ:=(kO x.1.1 x.1.2.1 x.2.1,())
def Jg:List (Nat×aX):=[(28,cq 28 iF iu rW Je),(29,G2 29 [[.bself,.own 5 (.int .u8)]] (mU 29 (tV 1000000))),(19,ofT 19 (lX 48 5))]
end Go.Sx.Tryz
namespace Go.Sx.Tryz
open Go Go.Sx Go.Proofs
set_option maxRecDepth 100000
theorem Pg(L:List Nd)(r a:Int):body (R:=R0) E (au Jg) Kk [.agg (trC L r),.int .i64 a] [] .ok=bif decide (a<0)then Rs.ok (Out.ret (AV.str []),[])else bif decide (a≥(↑(List.length L):Int))then Rs.ok (Out.ret (AV.str []),[])else bif rW ((L,r,()),())then bif dC L r !=0 then Rs.ok (Out.ret (AV.str []),[])else bif Bk 1000000 L r a []then bif List.all (app [] (aS (cK L (Int.toNat a)))) isByte&&Nat.ble (List.length (app [] (aS (cK L (Int.toNat a))))) 9223372036854775807 then Rs.ok (Out.ret (AV.str (dz (app [] (aS (cK L (Int.toNat a)))))),[])else Rs.err 1000019 else Rs.err 43 else Rs.err 3000028:=by kernel_rfl
end Go.Sx.Tryz
namespace Go.Sx.Tryz
open Go Go.Sx Go.Proofs
set_option maxRecDepth 100000
abbrev outS(s:List UInt8):R0:=(.ret (.str s),[])
theorem G4{w0:World}(t:TabsW w0):bw Tryz.prog (GW w0) Jg:=by
 refine .cons (aW fun x h=>BS t x h) (.cons (IF (je (CW t 1000000))) (.cons ?_ .nil))
 exact Ck
theorem Gr(L:List Nd)(r a:Int)(hm:jg L=true)(hf:L.all eD=true):body (R:=R0) E (au Jg) Kk [.agg (trC L r),.int .i64 a] [] .ok= .ok (outS (kO L r a)):=by
 refine(Pg L r a).trans ?_
 have h1:rW ((L,r,()),())=true:=hm
 unfold kO
 rw[h1]
 by_cases n1:a<0
 ·have e:inI a L.length=false:=by
   cases h:inI a L.length
   ·rfl
   ·have:=rR.1 h;omega
  simp only[n1,e,decide_true,cond_true,Bool.false_and,cond_false]
 ·by_cases n2:a≥(L.length:Int)
  ·have e:inI a L.length=false:=by
    cases h:inI a L.length
    ·rfl
    ·have:=rR.1 h;omega
   simp only[n1,n2,e,decide_true,decide_false,cond_true,Bool.false_and,cond_false]
  ·have e:inI a L.length=true:=rR.2 ⟨by omega,by omega⟩
   cases hc:(dC L r !=0)
   ·have hc0:dC L r=0:=by simpa using hc
    have hc1:(dC L r==0)=true:=by simpa using hc0
    have g:=rE hc0
    obtain⟨i,rfl⟩:∃i:Nat,a=(i:Int):=⟨a.toNat,by omega⟩
    have hi:i<L.length:=by omega
    have hL:=(lM hm).1
    have hroom:=Fu g hm hf hi
    rw[Int.toNat_natCast]
    have h2:Bk 1000000 L r i []=true:=by
     have h9:decide ((i:Int)<1000000)=true:=decide_eq_true (by omega)
     have h10:decide (([]:List Int).length+(cK L i).length<ao)=true:=decide_eq_true (by simpa using hroom)
     have h11:GR L r=true:=by
      show(jg L&&dC L r==0)=true
      rw[hm,hc1];rfl
     rw[ry,Int.toNat_natCast,h11,hf,e,h9,h10]
     rfl
    have h3:(List.all (app [] (aS (cK L i))) isByte&&Nat.ble (List.length (app [] (aS (cK L i)))) 9223372036854775807)=true:=by
     have e1:app [] (aS (cK L i))=aS (cK L i):=rfl
     rw[e1,vz,eY,Bool.true_and]
     have hmr:ao=68719476736:=rfl
     exact Nat.ble_eq_true_of_le (by omega)
    have h4:dz (app [] (aS (cK L i)))=cK L i:=tU _
    simp only[n1,n2,e,h2,h3,h4,hc1,decide_false,cond_true,cond_false,Bool.and_self]
   ·have hc1:(dC L r==0)=false:=by simpa [bne]using hc
    simp only[n1,n2,hc1,decide_false,cond_true,cond_false,Bool.and_false]
theorem LX{w0:World}(t:TabsW w0)(x:an mE)(h:Bu x=true):SAD Tryz.prog (GW w0) 11 mE cZ x (MN x):=by
 obtain⟨⟨L,r,⟨⟩⟩,a,⟨⟩⟩:=x
 have h:(jg L&&L.all eD)=true:=h
 simp only[Bool.and_eq_true]at h
 exact cg (bb []) (aQ (G4 t)) SI (Gr L r a h.1 h.2)
end Go.Sx.Tryz
namespace Go.Sx.Tryz
open Go Go.Sx Go.Proofs
set_option maxRecDepth 100000
def trA(L:List Nd)(r:Int):List AV:=[.sl aD L,.int .i64 r]
def ndL(T:List UInt8):List Nd:=(fX T).1.1
def ndR(T:List UInt8):Int:=(fX T).1.2.1
def ndE(T:List UInt8):Int:=(fX T).2.1.1
end Go.Sx.Tryz
namespace Go.Sx.Tryz
open Go Go.Sx Go.Proofs
set_option maxRecDepth 100000
abbrev Tk:Type:=Int×List UInt8
inductive Lx:List UInt8→List Tk→Prop
 |nil:Lx [] []
 |cons {w r:List UInt8} {k:Int} {ts:List Tk} (h:ed (w++r)=(k,0,w.length)) (hw:0<w.length) (ht:Lx (r.drop (cz r)) ts):Lx (w++r) ((k,w)::ts)
theorem Lx.one{w r:List UInt8}{k:Int}{ts:List Tk}(h:ed (w++r)=(k,0,w.length))(hw:0<w.length)(hg:cz r=0)(ht:Lx r ts):Lx (w++r) ((k,w)::ts):=.cons h hw (by rw[hg];exact ht)
def bH(T:List UInt8)(K:List Tok):List Tk:=K.map fun t=>(ak t,say T t)
theorem Dj{T pre s:List UInt8}(h:T=pre++s):aA T (pre.length:Int)=s:=by
 unfold aA
 rw[h,Int.toNat_natCast]
 simp
theorem Ln{T:List UInt8}{s:List UInt8}{ts:List Tk}(hl:Lx s ts):∀(n k:Nat) (pre:List UInt8),T=pre++s→s.length<n→k+ts.length<16384→
  (gp n T pre.length k).1=0∧bH T (gp n T pre.length k).2.2=ts++[(0,[])]:=by
 induction hl with
 |nil=>
  intro n k pre hT hn hk
  cases n with
  |zero=>exact absurd hn (Nat.not_lt_zero _)
  |succ n=>
   unfold gp
   have h1:decide ((pre.length:Int)<T.length)=false:=decide_eq_false (by rw[hT];simp)
   rw[h1]
   refine⟨rfl,?_⟩
   show [((0:Int),say T (tkn 0 T.length T.length))]=_
   have:say T (tkn 0 T.length T.length)=[]:=by
    show List.drop (Int.toNat (T.length:Int)) (List.take (Int.toNat (T.length:Int)) T)=[]
    simp
   rw[this]
   rfl
 | @cons w r k ts h hw ht ih=>
  intro n kk pre hT hn hk
  cases n with
  |zero=>exact absurd hn (Nat.not_lt_zero _)
  |succ n=>
   unfold gp
   have hlen:T.length=pre.length+(w.length+r.length):=by rw[hT];simp
   have h1:decide ((pre.length:Int)<T.length)=true:=decide_eq_true (by omega)
   simp only[List.length_cons]at hk
   have h2:decide ((kk:Int)≥16384)=false:=decide_eq_false (by omega)
   have hr:=Dj hT
   have h3:fM T pre.length=0:=by unfold fM;rw[hr,h]
   have h4:gx T pre.length=k:=by unfold gx;rw[hr,h]
   have h5:aL T pre.length=((pre++w).length:Nat):=by unfold aL;rw[hr,h];simp
   have hr2:aA T ((pre++w).length:Nat)=r:=Dj (by rw[hT];simp)
   have hg:=rQ (r.length+1) r
   have h6:cQ T ((pre++w).length:Nat)=((pre++w++r.take (cz r)).length:Nat):=by
    unfold cQ
    rw[hr2]
    unfold cz
    simp only[List.length_append,List.length_take]
    omega
   have hT2:T=(pre++w++r.take (cz r))++r.drop (cz r):=by rw[hT];simp
   rw[h1,h2,h3,h4,h5,h6]
   have:=ih n (kk+1) _ hT2 (by
    simp only[List.length_append,List.length_drop]at hn⊢
    omega) (by omega)
   refine⟨this.1,?_⟩
   show(k,say T (tkn k pre.length ((pre++w).length:Nat)))::bH T _=_
   rw[this.2]
   have:say T (tkn k pre.length ((pre++w).length:Nat))=w:=by
    show List.drop (Int.toNat (pre.length:Int)) (List.take (Int.toNat ((pre++w).length:Int)) T)=w
    rw[Int.toNat_natCast,Int.toNat_natCast,hT,←List.append_assoc]
    rw[List.take_left' rfl]
    simp
   rw[this]
   rfl
theorem Qi{T:List UInt8}{ts:List Tk}(hT:T.length≤65536)(hg:cz T=0)(hl:Lx T ts)(hk:ts.length<16384):de T=0∧bH T (bL T)=ts++[(0,[])]:=by
 have h:=Ln hl (T.length+1) 0 [] rfl (Nat.lt_succ_self _) (by omega)
 have h0:cQ T 0=(([]:List UInt8).length:Nat):=by
  unfold cQ aA
  show 0+((cz (List.drop 0 T):Nat):Int)=0
  rw[List.drop_zero,hg]
  rfl
 have hS:fD T=gp (T.length+1) T (([]:List UInt8).length:Nat) 0:=by
  unfold fD
  rw[show decide ((T.length:Int)>65536)=false from decide_eq_false (by omega),h0]
  rfl
 have hC:de T=0:=by rw[lE,hS];exact h.1
 exact⟨hC,by rw[oH hC,hS];exact h.2⟩
end Go.Sx.Tryz
namespace Go.Sx.Tryz
open Go Go.Sx Go.Proofs
set_option maxRecDepth 100000
def sy1(c d:UInt8):Bool:= !isLet c.toNat&&(!aC c.toNat&&(!((c.toNat:Int)==34)&&(!Lib.contains fj [c,d,32]&&decide (Lib.indexByte tP (c.toNat:Int).toNat.toUInt8≥0))))
theorem J0{c d:UInt8}{r:List UInt8}(h:sy1 c d=true):ed (c::d::r)=(5,0,1):=by
 unfold sy1 at h
 simp only[Bool.and_eq_true,Bool.not_eq_true']at h
 obtain⟨h1,h2,h3,h4,h5⟩:=h
 have e0:at8 (c::d::r) 0=(c.toNat:Int):=rfl
 have e1:((c::d::r).take 2++[32])=[c,d,32]:=rfl
 unfold ed sI
 rw[e0,e1,h1,h2,h3,h4,h5]
 simp only[Bool.false_and,Bool.and_false,cond_true,cond_false]
def nb(d:UInt8):Bool:= !aG d.toNat&& !(d==47)
theorem Bx{d:UInt8}{r:List UInt8}(h:nb d=true):cz (d::r)=0:=by
 unfold nb at h
 simp only[Bool.and_eq_true,Bool.not_eq_true']at h
 have h0:ax aG (d::r)=0:=by
  unfold ax
  rw[List.takeWhile_cons,h.1]
  rfl
 unfold cz
 rw[cn,h0,List.drop_zero]
 have:Lib.hasPrefix (d::r) [47,47]=false:=by
  cases hp:Lib.hasPrefix (d::r) [47,47]with
  |false=>rfl
  |true=>
   have hd:(d==47)=true:=by
    cases r with
    |nil=>simp[Lib.hasPrefix]at hp
    |cons e r=>
     simp[Lib.hasPrefix]at hp
     simp[hp.1]
   rw[hd]at h
   exact absurd h.2 (by decide)
 rw[this]
 rfl
theorem Lx.sy{c d:UInt8}{r:List UInt8}{ts:List Tk}(h:sy1 c d=true)(hn:nb d=true)(ht:Lx (d::r) ts):Lx (c::d::r) ((5,[c])::ts):=
 Lx.one (w:=[c]) (r:=d::r) (J0 h) (Nat.zero_lt_one) (Bx hn) ht
def KZ:List UInt8:=[99,108,97,115,115,32,65,123,105,110,116,32,102,40,41,123,120,61]
def Ns:List Tk:=[(1,[99,108,97,115,115]),(1,[65]),(5,[123]),(1,[105,110,116]),(1,[102]),(5,[40]),(5,[41])]
def AU:List Tk:=Ns++[(5,[123]),(1,[120]),(5,[61])]
theorem Lx.head{r:List UInt8}{ts:List Tk}(ht:Lx (123::r) ts):Lx ([99,108,97,115,115,32,65,123,105,110,116,32,102,40,41]++123::r) (Ns++ts):=by
 refine Lx.cons (w:=[99,108,97,115,115]) (r:=32::65::123::105::110::116::32::102::40::41::123::r) rfl (by decide) ?_
 refine Lx.cons (w:=[65]) (r:=123::105::110::116::32::102::40::41::123::r) rfl (by decide) ?_
 refine Lx.sy (c:=123) (d:=105) (by decide) (by decide) ?_
 refine Lx.cons (w:=[105,110,116]) (r:=32::102::40::41::123::r) rfl (by decide) ?_
 refine Lx.cons (w:=[102]) (r:=40::41::123::r) rfl (by decide) ?_
 refine Lx.sy (c:=40) (d:=41) (by decide) (by decide) ?_
 exact Lx.sy (c:=41) (d:=123) (by decide) (by decide) ht
theorem Lx.pre{d:UInt8}{r:List UInt8}{ts:List Tk}(hd:sy1 61 d=true)(hn:nb d=true)(ht:Lx (d::r) ts):Lx (KZ++d::r) (AU++ts):=by
 refine Lx.head (r:=120::61::d::r) ?_
 refine Lx.sy (c:=123) (d:=120) (by decide) (by decide) ?_
 refine Lx.cons (w:=[120]) (r:=61::d::r) rfl (by decide) ?_
 exact Lx.sy hd hn ht
theorem Lx.fin:Lx [59,125,125] [(5,[59]),(5,[125]),(5,[125])]:=by
 refine Lx.sy (c:=59) (d:=125) (by decide) (by decide) ?_
 refine Lx.sy (c:=125) (d:=125) (by decide) (by decide) ?_
 exact Lx.one (w:=[125]) (r:=[]) rfl (by decide) rfl .nil
end Go.Sx.Tryz
