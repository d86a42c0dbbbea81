/- A part of the proof: see the row's text. -/
import Derived.Test.YtaklpoiaicepoaaGreatDoorZa27
import Derived.Lib.ItoaLen
set_option linter.unusedVariables false
set_option linter.unusedSimpArgs false
noncomputable section
namespace Go.Sx.Tryz
open Go Go.Sx Go.Proofs
set_option maxRecDepth 100000
theorem AG{L:List Nd}{r n:Int}{us:List Bool}{o:R0}(hu:(us.length:Int)=n)(hn:n≤9000)(hr:r=n-1):∀(d:Nat) (i:Int),0≤i→i+d=n→o=xd (nC ((((us.map toI).drop i.toNat).take (d-1))))→vZ 2 (AX L r us n i) o
 |0,i,h0,hd,h=>by
  refine⟨1,(qq (pieces (R:=R0) E (aq dG) fj dX 0 .ok 0) L r us n i).trans ?_⟩
  have h1:¬i<n:=by omega
  simp only[h1,decide_false,cond_false,h]
  rfl
 |d+1,i,h0,hd,h=>by
  have h1:i<n:=by omega
  have h2:inI i us.length=true:=cB h0 (by omega)
  have h5:IntKind.wrap .i64 (i+1)=i+1:=wrap64 (by omega) (by omega)
  have hlt:i.toNat<(us.map toI).length:=by simp;omega
  have hg:us.getD i.toNat (Ty.dflt Ty.bool)=us.getD i.toNat false:=rfl
  cases d with
  |zero=>
   have hir:(i !=r)=false:=by simp;omega
   obtain⟨fuel,ih⟩:=AG (o:=o) hu hn hr 0 (i+1) (by omega) (by omega) (by rw[h];rfl)
   refine⟨fuel+1,(qq (pieces (R:=R0) E (aq dG) fj dX 0 .ok fuel) L r us n i).trans ?_⟩
   simp only[h1,h2,h5,hir,decide_true,cond_true,cond_false]
   cases (us.getD i.toNat (Ty.dflt Ty.bool))<;>exact ih
  |succ d=>
   have hir:(i !=r)=true:=by simp;omega
   have e:((us.map toI).drop i.toNat).take (d+1+1-1)=bW (us.map toI) i.toNat::((us.map toI).drop (i+1).toNat).take (d+1-1):=by
    show((us.map toI).drop i.toNat).take (d+1)=_::((us.map toI).drop (i+1).toNat).take d
    rw[List.drop_eq_getElem_cons hlt,List.take_succ_cons]
    have:i.toNat+1=(i+1).toNat:=by omega
    rw[this]
    congr 1
    rw[bW,List.getD,List.getElem?_eq_getElem hlt]
    rfl
   rw[e,xL]at h
   cases e1:us.getD i.toNat false
   ·refine⟨1,(qq (pieces (R:=R0) E (aq dG) fj dX 0 .ok 0) L r us n i).trans ?_⟩
    rw[e1]at h
    have h:o=xd 3:=h
    simp only[h1,h2,hg,e1,hir,Bool.not_false,decide_true,cond_true,h]
    rfl
   ·have e2:(toI true==0)=false:=rfl
    rw[e1]at h
    simp only[nC,List.any_cons,e2,Bool.false_or]at h
    obtain⟨fuel,ih⟩:=AG hu hn hr (d+1) (i+1) (by omega) (by omega) h
    refine⟨fuel+1,(qq (pieces (R:=R0) E (aq dG) fj dX 0 .ok fuel) L r us n i).trans ?_⟩
    simp only[h1,h2,h5,hg,e1,Bool.not_true,decide_true,cond_true,cond_false]
    exact ih
theorem Eg{L:List Nd}{r:Int}{o:R0}(hL:L.length≤9000):∀(xs pre:List Nd) (us:List Bool),L=pre++xs→xs.all fu=true→us.length=L.length→
  (match ct pre.length xs (us.map toI)with| .inl c=>o=xd c| .inr u'=>∀us':List Bool,u'=us'.map toI→us'.length=L.length→vZ 2 (AX L r us' L.length 0) o)→vZ 0 (uX L r us L.length pre.length) o
 |[],pre,us,hp,_,hu,h=>by
  obtain⟨fuel,h⟩:vZ 2 (AX L r us L.length 0) o:=h us rfl hu
  refine⟨fuel+1,(BG (pieces (R:=R0) E (aq dG) fj dX 0 .ok fuel) L r us L.length pre.length).trans ?_⟩
  have h1:¬((pre.length:Int)<L.length):=by rw[hp,List.append_nil];omega
  simp only[h1,decide_false,cond_false]
  rw[←hu]at h
  exact h
 |x::xs,pre,us,hp,hs,hu,h=>by
  have hlen:pre.length+1+xs.length=L.length:=by rw[hp];simp;omega
  have h1:(pre.length:Int)<L.length:=by omega
  have h2:inI (pre.length:Int) L.length=true:=by rw[hp];exact xc _ _ _
  have h3:ag L (Int.toNat (pre.length:Int))=x:=by rw[hp,Int.toNat_natCast];exact xR _ _ _
  have h5:(((pre++[x]).length:Nat):Int)=(pre.length:Int)+1:=by simp
  simp only[List.all_cons,Bool.and_eq_true]at hs
  have hsx:=hs.1
  simp only[fu,Bool.and_eq_true,decide_eq_true_eq]at hsx
  have hk:(ai x).length≤20000:=hsx.1
  simp only[ct]at h
  cases e:(dC x !=0)
  ·simp only[e,cond_false]at h
   have key:vZ 1 (CC L r us L.length pre.length pre.length (ai x) (ai x).length 0) o:=Gf hk (by omega) (by omega) (ai x) [] us rfl (by omega) (by
    cases e2:dW (pre.length:Int) (ai x) (us.map toI)with
    |inl c=>rw[e2]at h;exact h
    |inr u'=>
     rw[e2]at h
     intro us' hus' hl'
     have:=Eg (r:=r) (o:=o) hL xs (pre++[x]) us' (by simp[hp]) hs.2 (by omega) (by rw[h5,←hus'];exact h)
     rw[h5]at this
     exact this)
   obtain⟨fuel,hf⟩:=key
   refine⟨fuel+1,(xK (pieces (R:=R0) E (aq dG) fj dX 0 .ok fuel) h1 h2 h3).trans ?_⟩
   rw[e]
   exact hf
  ·simp only[e,cond_true]at h
   refine⟨1,(xK (pieces (R:=R0) E (aq dG) fj dX 0 .ok 0) h1 h2 h3).trans ?_⟩
   rw[e,h]
   rfl
theorem sB(L:List Nd)(r:Int)(hs:fN L=true):∃fuel,start (R:=R0) E (aq dG) fj dX (pieces (R:=R0) E (aq dG) fj dX 0 .ok fuel) [.agg (trC L r)] [] .ok= .ok (xd (dS L r)):=by
 simp only[fN,Bool.and_eq_true,decide_eq_true_eq]at hs
 obtain⟨hL,hs⟩:=hs
 have h0:¬((L.length:Int)>16384):=by omega
 have hw:IntKind.wrap .i64 ((L.length:Int)-1)=(L.length:Int)-1:=wrap64 (by omega) (by omega)
 unfold dS
 by_cases h1:(L.length:Int)=0
 ·exact⟨0,by rw[qi];simp only[h0,h1,decide_false,cond_false,cond_true,beq_self_eq_true];rfl⟩
 have h1':((L.length:Int)==0)=false:=by simpa using h1
 cases e2:(r !=(L.length:Int)-1)
 ·have hr:r=(L.length:Int)-1:=by simpa using e2
  have hin:inI r L.length=true:=cB (by omega) (by omega)
  cases e3:(aj (ag L r.toNat) !=1)
  ·have hrep:(List.replicate L.length false).map toI=List.replicate L.length 0:=by simp[toI]
   obtain⟨fuel,hf⟩:vZ 0 (uX L r (List.replicate L.length false) L.length 0) (xd (match ct 0 L (List.replicate L.length 0)with| .inl c=>c| .inr u=>nC (u.take (L.length-1)))):=by
    have:=Eg (r:=r) (o:=xd (match ct 0 L (List.replicate L.length 0)with| .inl c=>c| .inr u=>nC (u.take (L.length-1)))) hL L [] (List.replicate L.length false) rfl hs (by simp) (by
     rw[hrep]
     simp only[List.length_nil,Int.natCast_zero]
     cases e4:ct 0 L (List.replicate L.length 0)with
     |inl c=>rfl
     |inr u=>
      intro us hus hl
      exact AG (by omega) (by omega) hr L.length 0 (by omega) (by omega) (by rw[hus];rfl))
    exact this
   refine⟨fuel,?_⟩
   rw[qi,hw]
   have h5:inR (L.length:Int)=true:=by
    have hm:al=68719476736:=rfl
    simp only[inR,Bool.and_eq_true,decide_eq_true_eq,hm]
    omega
   simp only[h0,h1',e2,e3,hin,h5,beq_self_eq_true,Bool.and_self,decide_false,cond_false,cond_true]
   exact hf
  ·refine⟨0,?_⟩
   rw[qi,hw]
   simp only[h0,h1',e2,e3,hin,decide_false,cond_false,cond_true]
   rfl
 ·refine⟨0,?_⟩
  rw[qi,hw]
  simp only[h0,h1',e2,decide_false,cond_false,cond_true]
  rfl
end Go.Sx.Tryz
namespace Go.Sx.Tryz
open Go Go.Sx Go.Proofs
set_option maxRecDepth 100000
def vR:List (List UInt8×Int×Int×Bool×Bool×Unit):=[([],0,0,false,false,()),([112,114,111,103,114,97,109],0,-1,false,false,()),([99,108,97,115,115],0,-1,true,false,()),([101,120,116,101,110,100,115],0,0,true,false,()),([102,105,101,108,100],0,0,true,true,()),([105,110,105,116],1,-1,false,false,()),([109,101,116,104,111,100],1,-1,true,true,()),([112,97,114,97,109],0,0,true,true,()),([98,108,111,99,107],0,-1,false,false,()),([100,101,99,108],0,1,true,true,()),([97,115,115,105,103,110],2,2,false,false,()),([105,102],2,3,false,false,()),([119,104,105,108,101],2,2,false,false,()),([98,114,101,97,107],0,0,false,false,()),([99,111,110,116,105,110,117,101],0,0,false,false,()),([114,101,116,117,114,110],0,1,false,false,()),([112,114,105,110,116],1,1,false,false,()),([115,117,112,101,114],0,-1,false,false,()),([101,120,112,114],1,1,false,false,()),([105,110,116],0,0,false,false,()),([100,111,117,98,108,101],0,0,true,false,()),([98,111,111,108],0,0,false,false,()),([115,116,114],0,0,true,false,()),([110,117,108,108],0,0,false,false,()),([116,104,105,115],0,0,false,false,()),([118,97,114],0,0,true,false,()),([103,101,116],1,1,true,false,()),([105,110,100,101,120],2,2,false,false,()),([108,101,110,103,116,104],1,1,false,false,()),([99,97,108,108],1,-1,true,false,()),([110,101,119],0,-1,false,true,()),([97,114,114,97,121],1,1,false,true,()),([110,101,103],1,1,false,false,()),([110,111,116],1,1,false,false,()),([98,105,110,97,114,121],2,2,true,false,()),([99,97,115,116],1,1,false,true,()),([116,111,105,110,116],1,1,false,false,()),([116,111,100,111,117,98,108,101],1,1,false,false,()),([105,110,112,117,116],0,0,false,false,()),([97,115,107],1,1,false,false,()),([103,117,97,114,100],1,1,false,false,()),([115,111,109,101],1,1,false,false,()),([110,111,110,101],0,0,false,false,()),([105,115,115,111,109,101],1,1,false,false,()),([105,115,110,111,110,101],1,1,false,false,()),([118,97,108],1,1,false,false,())]
def shT(k:Int):List UInt8×Int×Int×Bool×Bool×Unit:=(cA k,ny k,oF k,lL k,fg k,())
def sh0:List UInt8×Int×Int×Bool×Bool×Unit:=([],0,0,false,false,())
def shC(x:List UInt8×Int×Int×Bool×Bool×Unit):List AV:=[.str x.1,.int .i64 x.2.1,.int .i64 x.2.2.1,.bool x.2.2.2.1,.bool x.2.2.2.2.1]
theorem Q2(k:Int):body (R:=R0) E (Dw E0 (kc 64 ln) cl 1000 10) Lk [.int .i64 k] [] .ok=bif decide (k<0)then .ok (.ret (.agg (shC sh0)),[])else bif decide (k≥46)then .ok (.ret (.agg (shC sh0)),[])else bif inI k 46 then .ok (.ret (.agg (shC (vR.getD k.toNat sh0))),[])else .err 302:=by kernel_rfl
theorem Da:vR=(List.range 46).map (fun i:Nat=>shT i):=by kernel_rfl
theorem J4(k:Int):body (R:=R0) E (Dw E0 (kc 64 ln) cl 1000 10) Lk [.int .i64 k] [] .ok= .ok (.ret (.agg (shC (shT k))),[]):=by
 rw[Q2]
 have out:inK k=false→cA k=[]→shT k=sh0:=fun h hn=>by
  unfold shT ny oF lL fg
  rw[h,hn]
  rfl
 by_cases h0:k<0
 ·have h1:inK k=false:=by simp[inK];omega
  have h2:cA k=[]:=by
   have:k<1:=by omega
   simp[cA,this]
  rw[out h1 h2]
  simp only[h0,decide_true,cond_true]
 ·by_cases h46:k≥46
  ·have h1:inK k=false:=by simp[inK];omega
   have h2:cA k=[]:=by
    have:¬k<1:=by omega
    have h3:(46:Int)≤k:=h46
    simp[cA,this,h3]
   rw[out h1 h2]
   simp only[h0,h46,decide_true,decide_false,cond_true,cond_false]
  ·have h1:inI k 46=true:=cB (by omega) (by omega)
   have h2:vR.getD k.toNat sh0=shT k:=by
    rw[Da]
    have h3:k.toNat<46:=by omega
    have h4:((k.toNat:Nat):Int)=k:=Int.toNat_of_nonneg (by omega)
    rw[List.getD,List.getElem?_map,List.getElem?_range h3]
    show shT (k.toNat:Int)=shT k
    rw[h4]
   simp only[h0,h46,h1,h2,decide_false,cond_true,cond_false]
theorem MZ{w0:World}(t:TabsW w0)(x:au jJ):SAD Tryz.prog (GW w0) 50 jJ xy x (shX x):=by
 obtain⟨k,⟨⟩⟩:=x
 exact bT (aX []) (vM (aX []) (qn t).ok RL 10) RG (J4 k)
theorem EY{w0:World}(t:TabsW w0):bm Tryz.prog (GW w0) dG:=.cons (aT fun x _=>MZ t x) (.cons (aT fun x _=>yR t x) .nil)
theorem zM{w0:World}(t:TabsW w0)(x:au gJ)(h:qc x=true):SAD Tryz.prog (GW w0) 28 gJ jJ x (H6 x):=by
 obtain⟨⟨L,r,⟨⟩⟩,⟨⟩⟩:=x
 obtain⟨fuel,hf⟩:=sB L r h
 exact bA (aX []) (aP (EY t)) Vl (.inl cF) hf
end Go.Sx.Tryz
namespace Go.Sx.Tryz
open Go Go.Sx Go.Proofs
set_option maxRecDepth 100000
theorem Ls(s:List Int)(t:List UInt8)(h:s.length+(aL t).length<al):body (R:=R0) E (aq ln) KV [.ref 0 0,.str t] (bsB s) .ok=
  .ok (.ret (.tup [.int .i64 t.length,.nili]),[.cells 48 [.bself 0,.own 1 1],.list 5 (.int .u8) 1 false (s++aL t)]):=by
 have h1:body (R:=R0) E (aq ln) KV [.ref 0 0,.str t] (bsB s) .ok=(bif decide (s.length+(aL t).length<al)then .ok (.ret (.tup [.int .i64 t.length,.nili]),[.cells 48 [.bself 0,.own 1 1],.list 5 (.int .u8) 1 false (s++aL t)])else .err 206):=by kernel_rfl
 rw[h1]
 simp only[h,decide_true,cond_true]
def wsC:aV:=fun R args bs k=>match args,bs with
 |[.ref 0 0,.str t],[.cells 48 [.bself 0,.own 1 0],.list 5 (.int .u8) 0 false s]=>(match decide (List.length s+(aL t).length<al)with
  |true=>k (.ret (.tup [.int .i64 t.length,.nili]),[.cells 48 [.bself 0,.own 1 1],.list 5 (.int .u8) 1 false (app s (aL t))])
  |false=>.err 51)
 |_,_=>.err 51
theorem Gw{w0:World}(t:TabsW w0):aQ Tryz.prog (GW w0) 16 wsC:=fun R args bs k r hr=>by
 unfold wsC at hr
 split at hr
 ·split at hr
  ·rename_i hd
   exact⟨_,hr,bT (aX []) (FC t) U9 (Ls _ _ (of_decide_eq_true hd))⟩
  ·cases hr
 ·cases hr
end Go.Sx.Tryz
namespace Go.Sx.Tryz
open Go Go.Sx Go.Proofs
set_option maxRecDepth 100000
def tyS(x:Nd):List UInt8:=bif bh (ak x) (aw x) (ah x) (af x)then eC (ak x) (aw x) (ah x) (af x)else []
def hdS(x:Nd):List UInt8:=[40]++cA (aj x)++(bif lL (aj x)then [32]++c7 (aD x)else [])++(bif fg (aj x)then [32]++tyS x else [])++(bif aj x==19||aj x==21 then [32]++Lib.itoa (nN x)else [])
def nL(L:List Nd):Nat→Nat→List UInt8
 |0,_=>[]
 |f+1,i=>hdS (ag L i)++(ai (ag L i)).flatMap (fun k=>[32]++nL L f k.toNat)++[41]
def cu(L:List Nd)(i:Nat):List UInt8:=nL L (i+1) i
def oY:List Cut:=[⟨[true,true,true,true,true,true,true,false,true,false,false],some ⟨[(0,[]),(4,[]),(54,[.sl (.int .i64)]),(55,[]),(56,[])],[[],[],[]]⟩⟩]
def Lg(L:List Nd)(r:Int)(s:List Int)(K:List Int)(l k:Int):St:={tmps:=[(0,.ref 0 0),(4,.ref 2 0),(54,.sl (.int .i64) K),(55,.int .i64 l),(56,.int .i64 k)],blks:=[(0,.cells 48 [.bself 0,.own 1 1]),(1,.list 5 (.int .u8) 1 false s),(2,.cells 25 (trC L r))],next:=3}
end Go.Sx.Tryz
namespace Go.Sx.Tryz
open Go Go.Sx Go.Proofs
set_option maxRecDepth 100000
def cN(x:Nd):Bool:=decide (-9223372036854775808≤nN x)&&decide (nN x≤9223372036854775807)
def yb(N:Int)(L:List Nd)(r a:Int)(s:List Int):Bool:=Hj L r&&(L.all cN&&(inI a L.length&&(decide (a<N)&&decide (s.length+(cu L a.toNat).length<al))))
def qy(N:Int):aV:=fun R args bs k=>match args,bs with
 |[.ref 0 0,.agg [.sl tL L,.int .i64 r],.int .i64 a],[.cells 48 [.bself 0,.own 1 0],.list 5 (.int .u8) 0 false s]=>(match dI tL aB L with
  |some L=>(match yb N L r a s with
   |true=>k (.ret (.tup []),[.cells 48 [.bself 0,.own 1 2],.list 5 (.int .u8) 2 false (app s (aL (cu L a.toNat)))])
   |false=>.err 43)
  |none=>.err 43)
 |_,_=>.err 43
def mw(N:Int):List (Nat×aV):=[(50,b8 50 jJ xy (fun _=>true) shX),(52,ofT 52 rC),(54,ofT 54 mv),(53,b8 53 sV cz lM Mg),(16,jr 16 wsC),(17,jr 17 wbC),(29,jr 29 (qy N))]
end Go.Sx.Tryz
namespace Go.Sx.Tryz
open Go Go.Sx Go.Proofs
set_option maxRecDepth 100000
theorem KL(J:Jump R0)(N:Int)(L:List Nd)(r a:Int)(s:List Int):start E (aq (mw N)) qD oY J [.ref 0 0,.agg (trC L r),.int .i64 a] (bsB s) .ok=bif inI a (List.length L)then bif decide (List.length [40]+List.length (cA (aj (ag L (Int.toNat a))))<2^62)then bif decide (List.length s+List.length (aL ([40]++cA (aj (ag L (Int.toNat a)))))<al)then bif lL (aj (ag L (Int.toNat a)))then bif Nat.ble (List.length (aD (ag L (Int.toNat a)))) 1099511627776 then bif decide (List.length [32]+List.length (c7 (aD (ag L (Int.toNat a))))<2^62)then bif decide (List.length (app s (aL ([40]++cA (aj (ag L (Int.toNat a))))))+List.length (aL ([32]++c7 (aD (ag L (Int.toNat a)))))<al)then bif fg (aj (ag L (Int.toNat a)))then bif lM ((ak (ag L (Int.toNat a)),aw (ag L (Int.toNat a)),ah (ag L (Int.toNat a)),af (ag L (Int.toNat a)),()),())then bif decide (List.length [32]+List.length (bif bh (ak (ag L (Int.toNat a))) (aw (ag L (Int.toNat a))) (ah (ag L (Int.toNat a))) (af (ag L (Int.toNat a)))then eC (ak (ag L (Int.toNat a))) (aw (ag L (Int.toNat a))) (ah (ag L (Int.toNat a))) (af (ag L (Int.toNat a)))else [])<2^62)then bif decide (List.length (app (app s (aL ([40]++cA (aj (ag L (Int.toNat a)))))) (aL ([32]++c7 (aD (ag L (Int.toNat a))))))+List.length (aL ([32]++bif bh (ak (ag L (Int.toNat a))) (aw (ag L (Int.toNat a))) (ah (ag L (Int.toNat a))) (af (ag L (Int.toNat a)))then eC (ak (ag L (Int.toNat a))) (aw (ag L (Int.toNat a))) (ah (ag L (Int.toNat a))) (af (ag L (Int.toNat a)))else []))<al)then bif aj (ag L (Int.toNat a))==19 then bif decide (10=10)&&(decide (-9223372036854775808≤nN (ag L (Int.toNat a)))&&decide (nN (ag L (Int.toNat a))≤9223372036854775807))then bif decide (List.length [32]+List.length (Lib.itoa (nN (ag L (Int.toNat a))))<2^62)then bif decide (List.length (app (app (app s (aL ([40]++cA (aj (ag L (Int.toNat a)))))) (aL ([32]++c7 (aD (ag L (Int.toNat a)))))) (aL ([32]++bif bh (ak (ag L (Int.toNat a))) (aw (ag L (Int.toNat a))) (ah (ag L (Int.toNat a))) (af (ag L (Int.toNat a)))then eC (ak (ag L (Int.toNat a))) (aw (ag L (Int.toNat a))) (ah (ag L (Int.toNat a))) (af (ag L (Int.toNat a)))else [])))+List.length (aL ([32]++Lib.itoa (nN (ag L (Int.toNat a)))))<al)then J 0 {tmps:=[(0,AV.ref 0 0),(4,AV.ref 2 0),(54,AV.sl (Ty.int IntKind.i64) (ai (ag L (Int.toNat a)))),(55,AV.int IntKind.i64 (↑(List.length (ai (ag L (Int.toNat a)))):Int)),(56,AV.int IntKind.i64 0)],blks:=[(0,Blk.cells 48 [AV.bself 0,AV.own 1 1]),(1,Blk.list 5 (Ty.int IntKind.u8) 1 false (app (app (app (app s (aL ([40]++cA (aj (ag L (Int.toNat a)))))) (aL ([32]++c7 (aD (ag L (Int.toNat a)))))) (aL ([32]++bif bh (ak (ag L (Int.toNat a))) (aw (ag L (Int.toNat a))) (ah (ag L (Int.toNat a))) (af (ag L (Int.toNat a)))then eC (ak (ag L (Int.toNat a))) (aw (ag L (Int.toNat a))) (ah (ag L (Int.toNat a))) (af (ag L (Int.toNat a)))else []))) (aL ([32]++Lib.itoa (nN (ag L (Int.toNat a))))))),(2,Blk.cells 25 [AV.sl aB L,AV.int IntKind.i64 r])],next:=3}else Rs.err 51 else Rs.err 904 else Rs.err 1000054 else bif aj (ag L (Int.toNat a))==21 then bif decide (10=10)&&(decide (-9223372036854775808≤nN (ag L (Int.toNat a)))&&decide (nN (ag L (Int.toNat a))≤9223372036854775807))then bif decide (List.length [32]+List.length (Lib.itoa (nN (ag L (Int.toNat a))))<2^62)then bif decide (List.length (app (app (app s (aL ([40]++cA (aj (ag L (Int.toNat a)))))) (aL ([32]++c7 (aD (ag L (Int.toNat a)))))) (aL ([32]++bif bh (ak (ag L (Int.toNat a))) (aw (ag L (Int.toNat a))) (ah (ag L (Int.toNat a))) (af (ag L (Int.toNat a)))then eC (ak (ag L (Int.toNat a))) (aw (ag L (Int.toNat a))) (ah (ag L (Int.toNat a))) (af (ag L (Int.toNat a)))else [])))+List.length (aL ([32]++Lib.itoa (nN (ag L (Int.toNat a)))))<al)then J 0 {tmps:=[(0,AV.ref 0 0),(4,AV.ref 2 0),(54,AV.sl (Ty.int IntKind.i64) (ai (ag L (Int.toNat a)))),(55,AV.int IntKind.i64 (↑(List.length (ai (ag L (Int.toNat a)))):Int)),(56,AV.int IntKind.i64 0)],blks:=[(0,Blk.cells 48 [AV.bself 0,AV.own 1 1]),(1,Blk.list 5 (Ty.int IntKind.u8) 1 false (app (app (app (app s (aL ([40]++cA (aj (ag L (Int.toNat a)))))) (aL ([32]++c7 (aD (ag L (Int.toNat a)))))) (aL ([32]++bif bh (ak (ag L (Int.toNat a))) (aw (ag L (Int.toNat a))) (ah (ag L (Int.toNat a))) (af (ag L (Int.toNat a)))then eC (ak (ag L (Int.toNat a))) (aw (ag L (Int.toNat a))) (ah (ag L (Int.toNat a))) (af (ag L (Int.toNat a)))else []))) (aL ([32]++Lib.itoa (nN (ag L (Int.toNat a))))))),(2,Blk.cells 25 [AV.sl aB L,AV.int IntKind.i64 r])],next:=3}else Rs.err 51 else Rs.err 904 else Rs.err 1000054 else J 0 {tmps:=[(0,AV.ref 0 0),(4,AV.ref 2 0),(54,AV.sl (Ty.int IntKind.i64) (ai (ag L (Int.toNat a)))),(55,AV.int IntKind.i64 (↑(List.length (ai (ag L (Int.toNat a)))):Int)),(56,AV.int IntKind.i64 0)],blks:=[(0,Blk.cells 48 [AV.bself 0,AV.own 1 1]),(1,Blk.list 5 (Ty.int IntKind.u8) 1 false (app (app (app s (aL ([40]++cA (aj (ag L (Int.toNat a)))))) (aL ([32]++c7 (aD (ag L (Int.toNat a)))))) (aL ([32]++bif bh (ak (ag L (Int.toNat a))) (aw (ag L (Int.toNat a))) (ah (ag L (Int.toNat a))) (af (ag L (Int.toNat a)))then eC (ak (ag L (Int.toNat a))) (aw (ag L (Int.toNat a))) (ah (ag L (Int.toNat a))) (af (ag L (Int.toNat a)))else [])))),(2,Blk.cells 25 [AV.sl aB L,AV.int IntKind.i64 r])],next:=3}else Rs.err 51 else Rs.err 704 else Rs.err 3000053 else bif aj (ag L (Int.toNat a))==19 then bif decide (10=10)&&(decide (-9223372036854775808≤nN (ag L (Int.toNat a)))&&decide (nN (ag L (Int.toNat a))≤9223372036854775807))then bif decide (List.length [32]+List.length (Lib.itoa (nN (ag L (Int.toNat a))))<2^62)then bif decide (List.length (app (app s (aL ([40]++cA (aj (ag L (Int.toNat a)))))) (aL ([32]++c7 (aD (ag L (Int.toNat a))))))+List.length (aL ([32]++Lib.itoa (nN (ag L (Int.toNat a)))))<al)then J 0 {tmps:=[(0,AV.ref 0 0),(4,AV.ref 2 0),(54,AV.sl (Ty.int IntKind.i64) (ai (ag L (Int.toNat a)))),(55,AV.int IntKind.i64 (↑(List.length (ai (ag L (Int.toNat a)))):Int)),(56,AV.int IntKind.i64 0)],blks:=[(0,Blk.cells 48 [AV.bself 0,AV.own 1 1]),(1,Blk.list 5 (Ty.int IntKind.u8) 1 false (app (app (app s (aL ([40]++cA (aj (ag L (Int.toNat a)))))) (aL ([32]++c7 (aD (ag L (Int.toNat a)))))) (aL ([32]++Lib.itoa (nN (ag L (Int.toNat a))))))),(2,Blk.cells 25 [AV.sl aB L,AV.int IntKind.i64 r])],next:=3}else Rs.err 51 else Rs.err 904 else Rs.err 1000054 else bif aj (ag L (Int.toNat a))==21 then bif decide (10=10)&&(decide (-9223372036854775808≤nN (ag L (Int.toNat a)))&&decide (nN (ag L (Int.toNat a))≤9223372036854775807))then bif decide (List.length [32]+List.length (Lib.itoa (nN (ag L (Int.toNat a))))<2^62)then bif decide (List.length (app (app s (aL ([40]++cA (aj (ag L (Int.toNat a)))))) (aL ([32]++c7 (aD (ag L (Int.toNat a))))))+List.length (aL ([32]++Lib.itoa (nN (ag L (Int.toNat a)))))<al)then J 0 {tmps:=[(0,AV.ref 0 0),(4,AV.ref 2 0),(54,AV.sl (Ty.int IntKind.i64) (ai (ag L (Int.toNat a)))),(55,AV.int IntKind.i64 (↑(List.length (ai (ag L (Int.toNat a)))):Int)),(56,AV.int IntKind.i64 0)],blks:=[(0,Blk.cells 48 [AV.bself 0,AV.own 1 1]),(1,Blk.list 5 (Ty.int IntKind.u8) 1 false (app (app (app s (aL ([40]++cA (aj (ag L (Int.toNat a)))))) (aL ([32]++c7 (aD (ag L (Int.toNat a)))))) (aL ([32]++Lib.itoa (nN (ag L (Int.toNat a))))))),(2,Blk.cells 25 [AV.sl aB L,AV.int IntKind.i64 r])],next:=3}else Rs.err 51 else Rs.err 904 else Rs.err 1000054 else J 0 {tmps:=[(0,AV.ref 0 0),(4,AV.ref 2 0),(54,AV.sl (Ty.int IntKind.i64) (ai (ag L (Int.toNat a)))),(55,AV.int IntKind.i64 (↑(List.length (ai (ag L (Int.toNat a)))):Int)),(56,AV.int IntKind.i64 0)],blks:=[(0,Blk.cells 48 [AV.bself 0,AV.own 1 1]),(1,Blk.list 5 (Ty.int IntKind.u8) 1 false (app (app s (aL ([40]++cA (aj (ag L (Int.toNat a)))))) (aL ([32]++c7 (aD (ag L (Int.toNat a))))))),(2,Blk.cells 25 [AV.sl aB L,AV.int IntKind.i64 r])],next:=3}else Rs.err 51 else Rs.err 504 else Rs.err 1000052 else bif fg (aj (ag L (Int.toNat a)))then bif lM ((ak (ag L (Int.toNat a)),aw (ag L (Int.toNat a)),ah (ag L (Int.toNat a)),af (ag L (Int.toNat a)),()),())then bif decide (List.length [32]+List.length (bif bh (ak (ag L (Int.toNat a))) (aw (ag L (Int.toNat a))) (ah (ag L (Int.toNat a))) (af (ag L (Int.toNat a)))then eC (ak (ag L (Int.toNat a))) (aw (ag L (Int.toNat a))) (ah (ag L (Int.toNat a))) (af (ag L (Int.toNat a)))else [])<2^62)then bif decide (List.length (app s (aL ([40]++cA (aj (ag L (Int.toNat a))))))+List.length (aL ([32]++bif bh (ak (ag L (Int.toNat a))) (aw (ag L (Int.toNat a))) (ah (ag L (Int.toNat a))) (af (ag L (Int.toNat a)))then eC (ak (ag L (Int.toNat a))) (aw (ag L (Int.toNat a))) (ah (ag L (Int.toNat a))) (af (ag L (Int.toNat a)))else []))<al)then bif aj (ag L (Int.toNat a))==19 then bif decide (10=10)&&(decide (-9223372036854775808≤nN (ag L (Int.toNat a)))&&decide (nN (ag L (Int.toNat a))≤9223372036854775807))then bif decide (List.length [32]+List.length (Lib.itoa (nN (ag L (Int.toNat a))))<2^62)then bif decide (List.length (app (app s (aL ([40]++cA (aj (ag L (Int.toNat a)))))) (aL ([32]++bif bh (ak (ag L (Int.toNat a))) (aw (ag L (Int.toNat a))) (ah (ag L (Int.toNat a))) (af (ag L (Int.toNat a)))then eC (ak (ag L (Int.toNat a))) (aw (ag L (Int.toNat a))) (ah (ag L (Int.toNat a))) (af (ag L (Int.toNat a)))else [])))+List.length (aL ([32]++Lib.itoa (nN (ag L (Int.toNat a)))))<al)then J 0 {tmps:=[(0,AV.ref 0 0),(4,AV.ref 2 0),(54,AV.sl (Ty.int IntKind.i64) (ai (ag L (Int.toNat a)))),(55,AV.int IntKind.i64 (↑(List.length (ai (ag L (Int.toNat a)))):Int)),(56,AV.int IntKind.i64 0)],blks:=[(0,Blk.cells 48 [AV.bself 0,AV.own 1 1]),(1,Blk.list 5 (Ty.int IntKind.u8) 1 false (app (app (app s (aL ([40]++cA (aj (ag L (Int.toNat a)))))) (aL ([32]++bif bh (ak (ag L (Int.toNat a))) (aw (ag L (Int.toNat a))) (ah (ag L (Int.toNat a))) (af (ag L (Int.toNat a)))then eC (ak (ag L (Int.toNat a))) (aw (ag L (Int.toNat a))) (ah (ag L (Int.toNat a))) (af (ag L (Int.toNat a)))else []))) (aL ([32]++Lib.itoa (nN (ag L (Int.toNat a))))))),(2,Blk.cells 25 [AV.sl aB L,AV.int IntKind.i64 r])],next:=3}else Rs.err 51 else Rs.err 904 else Rs.err 1000054 else bif aj (ag L (Int.toNat a))==21 then bif decide (10=10)&&(decide (-9223372036854775808≤nN (ag L (Int.toNat a)))&&decide (nN (ag L (Int.toNat a))≤9223372036854775807))then bif decide (List.length [32]+List.length (Lib.itoa (nN (ag L (Int.toNat a))))<2^62)then bif decide (List.length (app (app s (aL ([40]++cA (aj (ag L (Int.toNat a)))))) (aL ([32]++bif bh (ak (ag L (Int.toNat a))) (aw (ag L (Int.toNat a))) (ah (ag L (Int.toNat a))) (af (ag L (Int.toNat a)))then eC (ak (ag L (Int.toNat a))) (aw (ag L (Int.toNat a))) (ah (ag L (Int.toNat a))) (af (ag L (Int.toNat a)))else [])))+List.length (aL ([32]++Lib.itoa (nN (ag L (Int.toNat a)))))<al)then J 0 {tmps:=[(0,AV.ref 0 0),(4,AV.ref 2 0),(54,AV.sl (Ty.int IntKind.i64) (ai (ag L (Int.toNat a)))),(55,AV.int IntKind.i64 (↑(List.length (ai (ag L (Int.toNat a)))):Int)),(56,AV.int IntKind.i64 0)],blks:=[(0,Blk.cells 48 [AV.bself 0,AV.own 1 1]),(1,Blk.list 5 (Ty.int IntKind.u8) 1 false (app (app (app s (aL ([40]++cA (aj (ag L (Int.toNat a)))))) (aL ([32]++bif bh (ak (ag L (Int.toNat a))) (aw (ag L (Int.toNat a))) (ah (ag L (Int.toNat a))) (af (ag L (Int.toNat a)))then eC (ak (ag L (Int.toNat a))) (aw (ag L (Int.toNat a))) (ah (ag L (Int.toNat a))) (af (ag L (Int.toNat a)))else []))) (aL ([32]++Lib.itoa (nN (ag L (Int.toNat a))))))),(2,Blk.cells 25 [AV.sl aB L,AV.int IntKind.i64 r])],next:=3}else Rs.err 51 else Rs.err 904 else Rs.err 1000054 else J 0 {tmps:=[(0,AV.ref 0 0),(4,AV.ref 2 0),(54,AV.sl (Ty.int IntKind.i64) (ai (ag L (Int.toNat a)))),(55,AV.int IntKind.i64 (↑(List.length (ai (ag L (Int.toNat a)))):Int)),(56,AV.int IntKind.i64 0)],blks:=[(0,Blk.cells 48 [AV.bself 0,AV.own 1 1]),(1,Blk.list 5 (Ty.int IntKind.u8) 1 false (app (app s (aL ([40]++cA (aj (ag L (Int.toNat a)))))) (aL ([32]++bif bh (ak (ag L (Int.toNat a))) (aw (ag L (Int.toNat a))) (ah (ag L (Int.toNat a))) (af (ag L (Int.toNat a)))then eC (ak (ag L (Int.toNat a))) (aw (ag L (Int.toNat a))) (ah (ag L (Int.toNat a))) (af (ag L (Int.toNat a)))else [])))),(2,Blk.cells 25 [AV.sl aB L,AV.int IntKind.i64 r])],next:=3}else Rs.err 51 else Rs.err 704 else Rs.err 3000053 else bif aj (ag L (Int.toNat a))==19 then bif decide (10=10)&&(decide (-9223372036854775808≤nN (ag L (Int.toNat a)))&&decide (nN (ag L (Int.toNat a))≤9223372036854775807))then bif decide (List.length [32]+List.length (Lib.itoa (nN (ag L (Int.toNat a))))<2^62)then bif decide (List.length (app s (aL ([40]++cA (aj (ag L (Int.toNat a))))))+List.length (aL ([32]++Lib.itoa (nN (ag L (Int.toNat a)))))<al)then J 0 {tmps:=[(0,AV.ref 0 0),(4,AV.ref 2 0),(54,AV.sl (Ty.int IntKind.i64) (ai (ag L (Int.toNat a)))),(55,AV.int IntKind.i64 (↑(List.length (ai (ag L (Int.toNat a)))):Int)),(56,AV.int IntKind.i64 0)],blks:=[(0,Blk.cells 48 [AV.bself 0,AV.own 1 1]),(1,Blk.list 5 (Ty.int IntKind.u8) 1 false (app (app s (aL ([40]++cA (aj (ag L (Int.toNat a)))))) (aL ([32]++Lib.itoa (nN (ag L (Int.toNat a))))))),(2,Blk.cells 25 [AV.sl aB L,AV.int IntKind.i64 r])],next:=3}else Rs.err 51 else Rs.err 904 else Rs.err 1000054 else bif aj (ag L (Int.toNat a))==21 then bif decide (10=10)&&(decide (-9223372036854775808≤nN (ag L (Int.toNat a)))&&decide (nN (ag L (Int.toNat a))≤9223372036854775807))then bif decide (List.length [32]+List.length (Lib.itoa (nN (ag L (Int.toNat a))))<2^62)then bif decide (List.length (app s (aL ([40]++cA (aj (ag L (Int.toNat a))))))+List.length (aL ([32]++Lib.itoa (nN (ag L (Int.toNat a)))))<al)then J 0 {tmps:=[(0,AV.ref 0 0),(4,AV.ref 2 0),(54,AV.sl (Ty.int IntKind.i64) (ai (ag L (Int.toNat a)))),(55,AV.int IntKind.i64 (↑(List.length (ai (ag L (Int.toNat a)))):Int)),(56,AV.int IntKind.i64 0)],blks:=[(0,Blk.cells 48 [AV.bself 0,AV.own 1 1]),(1,Blk.list 5 (Ty.int IntKind.u8) 1 false (app (app s (aL ([40]++cA (aj (ag L (Int.toNat a)))))) (aL ([32]++Lib.itoa (nN (ag L (Int.toNat a))))))),(2,Blk.cells 25 [AV.sl aB L,AV.int IntKind.i64 r])],next:=3}else Rs.err 51 else Rs.err 904 else Rs.err 1000054 else J 0 {tmps:=[(0,AV.ref 0 0),(4,AV.ref 2 0),(54,AV.sl (Ty.int IntKind.i64) (ai (ag L (Int.toNat a)))),(55,AV.int IntKind.i64 (↑(List.length (ai (ag L (Int.toNat a)))):Int)),(56,AV.int IntKind.i64 0)],blks:=[(0,Blk.cells 48 [AV.bself 0,AV.own 1 1]),(1,Blk.list 5 (Ty.int IntKind.u8) 1 false (app s (aL ([40]++cA (aj (ag L (Int.toNat a))))))),(2,Blk.cells 25 [AV.sl aB L,AV.int IntKind.i64 r])],next:=3}else Rs.err 51 else Rs.err 303 else Rs.err 103:=by kernel_rfl
theorem Hi(J:Jump R0)(N:Int)(L:List Nd)(r:Int)(s:List Int)(K:List Int)(l k:Int):resume E (aq (mw N)) (aS 2 oY 0) J [true,true,true,true,true,true,true,false,true,false,false] qD.code 1 (Lg L r s K l k) (bX E 2 qD.results .ok)=bif decide (k<l)then bif inI k (List.length K)then bif decide (List.length s+1<al)then bif yb N L r (bW K (Int.toNat k)) (app s [32])then J 0 {tmps:=[(0,AV.ref 0 0),(4,AV.ref 2 0),(54,AV.sl (Ty.int IntKind.i64) K),(55,AV.int IntKind.i64 l),(56,AV.int IntKind.i64 (IntKind.wrap IntKind.i64 (k+1)))],blks:=[(0,Blk.cells 48 [AV.bself 0,AV.own 1 1]),(1,Blk.list 5 (Ty.int IntKind.u8) 1 false (app (app s [32]) (aL (cu L (Int.toNat (bW K (Int.toNat k))))))),(2,Blk.cells 25 [AV.sl aB L,AV.int IntKind.i64 r])],next:=3}else Rs.err 43 else Rs.err 17 else Rs.err 1200 else bif decide (List.length s+1<al)then Rs.ok (Out.ret (AV.tup []),[Blk.cells 48 [AV.bself 0,AV.own 1 2],Blk.list 5 (Ty.int IntKind.u8) 2 false (app s [41])])else Rs.err 17:=by kernel_rfl
end Go.Sx.Tryz
namespace Go.Sx.Tryz
open Go Go.Sx Go.Proofs
set_option maxRecDepth 100000
theorem kf{L:List Nd}{r:Int}(g:GoodT L r):∀(n i f:Nat),i<n→i<L.length→i+1≤f→nL L f i=cu L i
 |0,i,f,h,_,_=>by omega
 |n+1,i,0,_,_,h=>by omega
 |n+1,i,f+1,hn,hi,hf=>by
  simp only[nL,cu]
  refine congrArg (fun z=>hdS (ag L i)++z++[41]) (jO fun k hk=>?_)
  obtain⟨_,_,h3⟩:=g.kid hi hk
  rw[kf g n k.toNat f (by omega) (by omega) (by omega),kf g n k.toNat i (by omega) (by omega) (by omega)]
theorem yt{L:List Nd}{r:Int}(g:GoodT L r){i:Nat}(hi:i<L.length):cu L i=hdS (ag L i)++(ai (ag L i)).flatMap (fun k=>[32]++cu L k.toNat)++[41]:=by
 show hdS (ag L i)++_++[41]=_
 refine congrArg (fun z=>hdS (ag L i)++z++[41]) (jO fun k hk=>?_)
 obtain⟨_,_,h3⟩:=g.kid hi hk
 rw[kf g (k.toNat+1) k.toNat i (by omega) (by omega) (by omega)]
theorem gX(a b:List UInt8):aL (a++b)=aL a++aL b:=by simp[aL]
theorem eZ(a b:List Int):(app a b).length=a.length+b.length:=by simp[app]
def FinF(N:Int)(st:St)(o:R0):Prop:=∃fuel,pieces (R:=R0) E (aq (mw N)) qD oY 2 .ok fuel 0 st= .ok o
def L3(s:List Int):R0:=(.ret (.tup []),[.cells 48 [.bself 0,.own 1 2],.list 5 (.int .u8) 2 false s])
theorem GQ(J:Jump R0)(N:Int)(L:List Nd)(r:Int)(i:Nat)(s:List Int)(hi:i<L.length)(hb:s.length+(hdS (ag L i)).length<al)(ht:(aD (ag L i)).length≤70000)
  (hn:(aw (ag L i)).length≤1000) (hm:(af (ag L i)).length≤1000) (hf:cN (ag L i)=true):
  start E (aq (mw N)) qD oY J [.ref 0 0,.agg (trC L r),.int .i64 i] (bsB s) .ok=J 0 (Lg L r (app s (aL (hdS (ag L i)))) (ai (ag L i)) (ai (ag L i)).length 0):=by
 refine(KL J N L r i s).trans ?_
 rw[Int.toNat_natCast]
 generalize hx:ag L i=x at*
 have h1:inI (i:Int) L.length=true:=cB (by omega) (by omega)
 have h2:Nat.ble (aD x).length 1099511627776=true:=Nat.ble_eq_true_of_le (by omega)
 have h3:lM ((ak x,aw x,ah x,af x,()),())=true:=by
  simp only[lM,Bool.and_eq_true,decide_eq_true_eq]
  exact⟨hn,hm⟩
 have h4:=hf
 simp only[cN,Bool.and_eq_true]at h4
 obtain⟨h4,h5⟩:=h4
 have hmr:al=68719476736:=rfl
 simp only[h1,h2,h3,cond_true]
 unfold hdS at hb⊢
 unfold tyS at hb⊢
 cases e1:lL (aj x)<;>cases e2:fg (aj x)<;>cases e3:(aj x==19)<;>cases e4:(aj x==21)
 all_goals
  simp only[e1,e2,e3,e4,h4,h5,decide_true,Bool.and_self,cond_true,cond_false,Bool.or_true,Bool.or_false,Bool.true_or]at hb⊢
  repeat refine Eq.trans (mh (by simp only[eZ,bq,List.length_append,List.length_cons,List.length_nil,hmr]at hb⊢;omega)) ?_
  simp only[Lg,trC,app,gX,List.append_assoc,List.append_nil]
end Go.Sx.Tryz
namespace Go.Sx.Tryz
open Go Go.Sx Go.Proofs
set_option maxRecDepth 100000
def mV(L:List Nd)(ks:List Int):List UInt8:=ks.flatMap fun k=>[32]++cu L k.toNat
theorem sj(L:List Nd)(k:Int)(ks:List Int):mV L (k::ks)=[32]++cu L k.toNat++mV L ks:=rfl
theorem qe(N:Int)(L:List Nd)(r a:Int)(s:List Int):yb N L r a s=(Hj L r&&(L.all cN&&(inI a L.length&&(decide (a<N)&&decide (s.length+(cu L a.toNat).length<al))))):=rfl
theorem Up{L:List Nd}{r:Int}{N:Int}(g:GoodT L r)(hok:Hj L r=true)(hfine:L.all cN=true){i:Nat}(hi:i<L.length)(hL:L.length≤9000)(hN:(i:Int)≤N)(hK:(ai (ag L i)).length≤20000):∀(ks pre:List Int) (s:List Int),ai (ag L i)=pre++ks→
  s.length+(mV L ks).length+1<al→FinF N (Lg L r s (ai (ag L i)) (ai (ag L i)).length pre.length) (L3 (app s (aL (mV L ks++[41]))))
 |[],pre,s,hp,hb=>by
  refine⟨1,(Hi (pieces (R:=R0) E (aq (mw N)) qD oY 2 .ok 0) N L r s (ai (ag L i)) (ai (ag L i)).length pre.length).trans ?_⟩
  have h1:¬((pre.length:Int)<(ai (ag L i)).length):=by rw[hp,List.append_nil];omega
  have h2:s.length+1<al:=by simp only[mV,List.flatMap_nil,List.length_nil]at hb;omega
  simp only[h1,h2,decide_false,decide_true,cond_true,cond_false]
  rfl
 |k::ks,pre,s,hp,hb=>by
  have hlen:pre.length+1+ks.length=(ai (ag L i)).length:=by rw[hp];simp;omega
  obtain⟨k0,k1,k2⟩:=g.kid hi (k:=k) (by rw[hp];simp)
  have h5:(((pre++[k]).length:Nat):Int)=(pre.length:Int)+1:=by simp
  rw[sj,List.length_append,List.length_append,List.length_singleton]at hb
  obtain⟨fuel,ih⟩:=Up g hok hfine hi hL hN hK ks (pre++[k]) (app (app s [32]) (aL (cu L k.toNat))) (by simp[hp]) (by simp only[eZ,bq,List.length_singleton];omega)
  refine⟨fuel+1,(Hi (pieces (R:=R0) E (aq (mw N)) qD oY 2 .ok fuel) N L r s (ai (ag L i)) (ai (ag L i)).length pre.length).trans ?_⟩
  have h1:(pre.length:Int)<(ai (ag L i)).length:=by omega
  have h3:inI (pre.length:Int) (ai (ag L i)).length=true:=by rw[hp];exact xr _ _ _
  have h4:bW (ai (ag L i)) pre.length=k:=by rw[hp];exact yI _ _ _
  have h6:IntKind.wrap .i64 ((pre.length:Int)+1)=(pre.length:Int)+1:=wrap64 (by omega) (by omega)
  have h2:s.length+1<al:=by omega
  have h7:yb N L r k (app s [32])=true:=by
   have h8:inI k L.length=true:=cB k0 (by omega)
   have h9:decide (k<N)=true:=decide_eq_true (by omega)
   have h10:decide ((app s [32]).length+(cu L k.toNat).length<al)=true:=decide_eq_true (by simp only[eZ,List.length_singleton];omega)
   rw[qe,hok,hfine,h8,h9,h10]
   rfl
  simp only[h1,h2,h3,h4,h6,h7,Int.toNat_natCast,decide_true,cond_true]
  rw[h5]at ih
  rw[sj]
  have e:app s (aL ([32]++cu L k.toNat++mV L ks++[41]))=app (app (app s [32]) (aL (cu L k.toNat))) (aL (mV L ks++[41])):=by
   simp only[app,gX,List.append_assoc]
   rfl
  rw[e]
  exact ih
theorem G9{w0:World}(t:TabsW w0){N:Int}(h:aQ Tryz.prog (GW w0) 29 (qy N)):bm Tryz.prog (GW w0) (mw N):=by
 have h1:=qn t
 refine .cons (aT fun x _=>MZ t x) (.cons ?_ (.cons ?_ (.cons (aT fun x h=>Li t x h) (.cons (eP (Gw t)) (.cons (eP zt) (.cons (eP h) .nil))))))
 ·exact kz (uz Wq fun D hG hs s hlen=>Any.strconv_Quote Tryz.lays177 (by kernel_rfl) Lib.goPrintTabs s D.w hlen (t.at hG hs).pt (t.at hG hs).u8) yN
 ·exact kz (q8 UF fun D hG hs n h0 h1=>Calls.mono (Any.strconv_FormatInt_10 Tryz.laysM173 n h0 h1 D.w (t.at hG hs).p10) fun e w' ⟨e1,k,os,e2⟩=>⟨e1,by rw[e2];exact qV _ _ _⟩) uG
theorem D4{w0:World}(t:TabsW w0)(N:Nat)(ih:aQ Tryz.prog (GW w0) 29 (qy N))(L:List Nd)(r a:Int)(s:List Int)(h:yb ((N+1:Nat):Int) L r a s=true):
  SA Tryz.prog (GW w0) 29 [.ref 0 0,.agg (trC L r),.int .i64 a] (bsB s) (L3 (app s (aL (cu L a.toNat)))):=by
 rw[qe]at h
 simp only[Bool.and_eq_true,decide_eq_true_eq]at h
 obtain⟨hok,hfine,hin,hN,hb⟩:=h
 have hin':=hin
 simp only[inI,Bool.and_eq_true,decide_eq_true_eq]at hin'
 have hok':=hok
 simp only[Hj,Bool.and_eq_true,beq_iff_eq]at hok'
 have g:=Ca hok'.2
 obtain⟨hL,hK⟩:=uC hok'.1
 obtain⟨i,rfl⟩:∃i:Nat,a=(i:Int):=⟨a.toNat,by omega⟩
 have hi:i<L.length:=by omega
 rw[Int.toNat_natCast]at hb⊢
 have e:cu L i=hdS (ag L i)++mV L (ai (ag L i))++[41]:=yt g hi
 rw[e]at hb⊢
 rw[List.length_append,List.length_append,List.length_singleton]at hb
 obtain⟨fuel,hf⟩:=Up (N:=N) g hok hfine hi hL (by omega) (hK i hi) (ai (ag L i)) [] (app s (aL (hdS (ag L i)))) rfl (by simp only[eZ,bq];omega)
 have hsm:fu (ag L i)=true:=by
  have:=hok'.1
  simp only[fN,Bool.and_eq_true]at this
  exact List.all_eq_true.1 this.2 _ (List.mem_of_getElem? (fq hi))
 simp only[fu,Bool.and_eq_true,decide_eq_true_eq]at hsm
 have hfn:=List.all_eq_true.1 hfine _ (List.mem_of_getElem? (fq hi))
 have hs:start (R:=R0) E (aq (mw N)) qD oY (pieces (R:=R0) E (aq (mw N)) qD oY 2 .ok fuel) [.ref 0 0,.agg (trC L r),.int .i64 i] (bsB s) .ok= .ok (L3 (app s (aL (hdS (ag L i)++mV L (ai (ag L i))++[41])))):=by
  refine(GQ _ N L r i s hi (by omega) (by omega) (by omega) (by omega) hfn).trans ?_
  refine hf.trans ?_
  simp only[app,gX,List.append_assoc]
 exact bA (aX []) (aP (G9 t ih)) RA (.inl fun ee tt gg sh l hm=>by
  simp only[bsB,List.mem_cons,List.not_mem_nil,or_false,reduceCtorEq,false_or]at hm
  cases hm
  rfl) hs
theorem xu{w0:World}{N:Int}(h:∀(L:List Nd) (r a:Int) (s:List Int),yb N L r a s=true→SA Tryz.prog (GW w0) 29 [.ref 0 0,.agg (trC L r),.int .i64 a] (bsB s) (L3 (app s (aL (cu L a.toNat))))):aQ Tryz.prog (GW w0) 29 (qy N):=fun R args bs k r hr=>by
 unfold qy at hr
 split at hr
 ·split at hr
  ·rename_i L' hc
   split at hr
   ·rename_i hd
    obtain⟨e,hL⟩:=gv hc
    subst e
    subst hL
    exact⟨_,hr,h _ _ _ _ hd⟩
   ·cases hr
  ·cases hr
 ·cases hr
theorem A9{w0:World}(t:TabsW w0):∀N:Nat,aQ Tryz.prog (GW w0) 29 (qy N)
 |0=>xu fun L r a s h=>by
  rw[qe]at h
  simp only[Bool.and_eq_true,decide_eq_true_eq,inI]at h
  omega
 |N+1=>xu fun L r a s h=>D4 t N (A9 t N) L r a s h
end Go.Sx.Tryz
namespace Go.Sx.Tryz
open Go Go.Sx Go.Proofs
set_option maxRecDepth 100000
theorem Fv(k:Int):(cA k).length≤10:=by
 unfold cA
 cases decide (k<1)
 ·cases decide (k≥46)
  ·have h:wI.all (fun l=>decide (l.length≤10))=true:=by kernel_rfl
   simp only[cond_false]
   by_cases hk:k.toNat<wI.length
   ·have:=List.all_eq_true.1 h (wI[k.toNat]) (List.getElem_mem hk)
    simpa [List.getD,List.getElem?_eq_getElem hk]using this
   ·simp[List.getD,List.getElem?_eq_none (Nat.le_of_not_lt hk)]
  ·simp
 ·simp
theorem zp(s:List UInt8):(c7 s).length≤10*s.length+2:=by
 have:=Lib.quoteZ_length_le Lib.goPrintTabs ⟨⟨s⟩⟩
 simp only[c7,List.length_map]
 exact this
theorem uI:∀(m s:List UInt8) (i:Int),(pf s i m).length≤s.length+10*m.length
 |[],s,i=>by simp[pf]
 |c::m,s,i=>by
  have h1:=uI m (stepT s i c) (i+1)
  have h2:=tP s i c
  simp only[pf,List.length_cons]
  omega
theorem LM{x:Nd}(h:fu x=true):(tyS x).length≤1500:=by
 simp only[fu,Bool.and_eq_true,decide_eq_true_eq]at h
 unfold tyS eC
 cases bh (ak x) (aw x) (ah x) (af x)
 ·simp
 ·have h1:=uI (af x) (tW (ak x) (aw x)) 0
  have h2:=tQ (b:=ak x) (n:=aw x) (by omega)
  simp only[cond_true]
  omega
theorem wN{α:Type}{c:Bool}{x:List α}{n:Nat}(h:x.length≤n):(bif c then x else []).length≤n:=by cases c<;>simp[h]
theorem Ko{x:Nd}(h:fu x=true)(hf:cN x=true):(hdS x).length≤702000:=by
 have h1:=LM h
 have h2:=Fv (aj x)
 have h3:=zp (aD x)
 simp only[cN,Bool.and_eq_true,decide_eq_true_eq]at hf
 have h4:=Lib.itoa_length_le (nN x) hf.1 hf.2
 simp only[fu,Bool.and_eq_true,decide_eq_true_eq]at h
 unfold hdS
 simp only[List.length_append,List.length_singleton]
 have h5:(bif lL (aj x)then [32]++c7 (aD x)else []).length≤700020:=wN (by simp only[List.length_append,List.length_singleton];omega)
 have h6:(bif fg (aj x)then [32]++tyS x else []).length≤1510:=wN (by simp only[List.length_append,List.length_singleton];omega)
 have h7:(bif aj x==19||aj x==21 then [32]++Lib.itoa (nN x)else []).length≤30:=wN (by simp only[List.length_append,List.length_singleton];omega)
 omega
theorem xX{L:List Nd}{r:Int}(g:GoodT L r)(hs:L.all fu=true)(hf:L.all cN=true):∀(n i:Nat),i<n→i<L.length→(cu L i).length+1≤702010*(lq L i).length
 |0,i,h,_=>by omega
 |n+1,i,hn,hi=>by
  rw[yt g hi,nc g hi]
  have hm:=List.mem_of_getElem? (fq hi)
  have h1:=Ko (List.all_eq_true.1 hs _ hm) (List.all_eq_true.1 hf _ hm)
  have h2:∀ks:List Int,(∀k∈ks,k∈ai (ag L i))→(ks.flatMap fun k=>[32]++cu L k.toNat).length≤702010*(ks.flatMap fun k=>lq L k.toNat).length:=by
   intro ks
   induction ks with
   |nil=>intro _;simp
   |cons k ks ih=>
    intro hk
    have h3:=ih fun x hx=>hk x (by simp[hx])
    obtain⟨k0,k1,k2⟩:=g.kid hi (hk k (by simp))
    have h4:=xX g hs hf n k.toNat (by omega) (by omega)
    rw[List.flatMap_cons,List.flatMap_cons,List.length_append,List.length_append,List.length_append,List.length_singleton]
    omega
  have h3:=h2 _ fun k hk=>hk
  simp only[List.length_append,List.length_singleton,List.length_cons,List.length_nil]
  omega
theorem DZ{L:List Nd}{r:Int}(g:GoodT L r)(hm:fN L=true)(hf:L.all cN=true){i:Nat}(hi:i<L.length):(cu L i).length<al:=by
 have hs:=hm
 simp only[fN,Bool.and_eq_true,decide_eq_true_eq]at hs
 have h1:=xX g hs.2 hf (i+1) i (by omega) hi
 have h2:=z8 g hi
 have hmr:al=68719476736:=rfl
 omega
end Go.Sx.Tryz
namespace Go.Sx.Tryz
open Go Go.Sx Go.Proofs
set_option maxRecDepth 100000
def iM(L:List Nd)(r a:Int):List UInt8:=bif inI a L.length&&dS L r==0 then cu L a.toNat else []
def DQ(x:au yq):Bool:=fN x.1.1&&x.1.1.all cN
def MY(x:au yq):au cz:=(iM x.1.1 x.1.2.1 x.2.1,())
abbrev xh:Sig:=[(true,rk),(true,rk)]
def Ky(x:au xh):Bool:=(fN x.1.1&&x.1.1.all cN)&&(fN x.2.1.1&&x.2.1.1.all cN)
def tg(L:List Nd)(r:Int)(L2:List Nd)(r2:Int):Bool:=iM L r r==iM L2 r2 r2&& !(iM L r r==[])
def Mo(x:au xh):au cT:=(tg x.1.1 x.1.2.1 x.2.1.1 x.2.1.2.1,())
def FU:List (Nat×aV):=[(28,b8 28 gJ jJ qc H6),(29,yB 29 [[.bself,.own 5 (.int .u8)]] (jr 29 (qy 1000000))),(19,ofT 19 (jk 48 5))]
def Ms:List (Nat×aV):=[(11,b8 11 yq cz DQ MY)]
end Go.Sx.Tryz
namespace Go.Sx.Tryz
open Go Go.Sx Go.Proofs
set_option maxRecDepth 100000
theorem NQ(L:List Nd)(r a:Int):body (R:=R0) E (aq FU) KG [.agg (trC L r),.int .i64 a] [] .ok=bif decide (a<0)then Rs.ok (Out.ret (AV.str []),[])else bif decide (a≥(↑(List.length L):Int))then Rs.ok (Out.ret (AV.str []),[])else bif qc ((L,r,()),())then bif dS L r !=0 then Rs.ok (Out.ret (AV.str []),[])else bif yb 1000000 L r a []then bif List.all (app [] (aL (cu L (Int.toNat a)))) isByte&&Nat.ble (List.length (app [] (aL (cu L (Int.toNat a))))) 9223372036854775807 then Rs.ok (Out.ret (AV.str (cn (app [] (aL (cu L (Int.toNat a)))))),[])else Rs.err 1000019 else Rs.err 43 else Rs.err 3000028:=by kernel_rfl
theorem PA(L:List Nd)(r:Int)(L2:List Nd)(r2:Int):body (R:=R0) E (aq Ms) PT [.agg (trC L r),.agg (trC L2 r2)] [] .ok=bif DQ ((L,r,()),r,())then bif DQ ((L2,r2,()),r2,())then bif iM L r r==iM L2 r2 r2 then Rs.ok (Out.ret (AV.bool !iM L r r==[]),[])else Rs.ok (Out.ret (AV.bool false),[])else Rs.err 3000011 else Rs.err 3000011:=by kernel_rfl
end Go.Sx.Tryz
namespace Go.Sx.Tryz
open Go Go.Sx Go.Proofs
set_option maxRecDepth 100000
abbrev outS(s:List UInt8):R0:=(.ret (.str s),[])
theorem He{w0:World}(t:TabsW w0):bm Tryz.prog (GW w0) FU:=by
 refine .cons (aT fun x h=>zM t x h) (.cons (r6 (eP (A9 t 1000000))) (.cons ?_ .nil))
 exact vT
theorem CO(L:List Nd)(r a:Int)(hm:fN L=true)(hf:L.all cN=true):body (R:=R0) E (aq FU) KG [.agg (trC L r),.int .i64 a] [] .ok= .ok (outS (iM L r a)):=by
 refine(NQ L r a).trans ?_
 have h1:qc ((L,r,()),())=true:=hm
 unfold iM
 rw[h1]
 by_cases n1:a<0
 ·have e:inI a L.length=false:=by
   cases h:inI a L.length
   ·rfl
   ·have:=qa.1 h;omega
  simp only[n1,e,decide_true,cond_true,Bool.false_and,cond_false]
 ·by_cases n2:a≥(L.length:Int)
  ·have e:inI a L.length=false:=by
    cases h:inI a L.length
    ·rfl
    ·have:=qa.1 h;omega
   simp only[n1,n2,e,decide_true,decide_false,cond_true,Bool.false_and,cond_false]
  ·have e:inI a L.length=true:=qa.2 ⟨by omega,by omega⟩
   cases hc:(dS L r !=0)
   ·have hc0:dS L r=0:=by simpa using hc
    have hc1:(dS L r==0)=true:=by simpa using hc0
    have g:=Ca hc0
    obtain⟨i,rfl⟩:∃i:Nat,a=(i:Int):=⟨a.toNat,by omega⟩
    have hi:i<L.length:=by omega
    have hL:=(uC hm).1
    have hroom:=DZ g hm hf hi
    rw[Int.toNat_natCast]
    have h2:yb 1000000 L r i []=true:=by
     have h9:decide ((i:Int)<1000000)=true:=decide_eq_true (by omega)
     have h10:decide (([]:List Int).length+(cu L i).length<al)=true:=decide_eq_true (by simpa using hroom)
     have h11:Hj L r=true:=by
      show(fN L&&dS L r==0)=true
      rw[hm,hc1];rfl
     rw[qe,Int.toNat_natCast,h11,hf,e,h9,h10]
     rfl
    have h3:(List.all (app [] (aL (cu L i))) isByte&&Nat.ble (List.length (app [] (aL (cu L i)))) 9223372036854775807)=true:=by
     have e1:app [] (aL (cu L i))=aL (cu L i):=rfl
     rw[e1,oE,bq,Bool.true_and]
     have hmr:al=68719476736:=rfl
     exact Nat.ble_eq_true_of_le (by omega)
    have h4:cn (app [] (aL (cu L i)))=cu L i:=lR _
    simp only[n1,n2,e,h2,h3,h4,hc1,decide_false,cond_true,cond_false,Bool.and_self]
   ·have hc1:(dS L r==0)=false:=by simpa [bne]using hc
    simp only[n1,n2,hc1,decide_false,cond_true,cond_false,Bool.and_false]
theorem KU{w0:World}(t:TabsW w0)(x:au yq)(h:DQ x=true):SAD Tryz.prog (GW w0) 11 yq cz x (MY x):=by
 obtain⟨⟨L,r,⟨⟩⟩,a,⟨⟩⟩:=x
 have h:(fN L&&L.all cN)=true:=h
 simp only[Bool.and_eq_true]at h
 exact bT (aX []) (aP (He t)) Vv (CO L r a h.1 h.2)
theorem Iv{w0:World}(t:TabsW w0):bm Tryz.prog (GW w0) Ms:=.cons (aT fun x h=>KU t x h) .nil
theorem KD{w0:World}(t:TabsW w0)(x:au xh)(h:Ky x=true):SAD Tryz.prog (GW w0) 20 xh cT x (Mo x):=by
 obtain⟨⟨L,r,⟨⟩⟩,⟨L2,r2,⟨⟩⟩,⟨⟩⟩:=x
 have h:((fN L&&L.all cN)&&(fN L2&&L2.all cN))=true:=h
 simp only[Bool.and_eq_true]at h
 have h1:DQ ((L,r,()),r,())=true:=by
  show(fN L&&L.all cN)=true
  rw[h.1.1,h.1.2];rfl
 have h2:DQ ((L2,r2,()),r2,())=true:=by
  show(fN L2&&L2.all cN)=true
  rw[h.2.1,h.2.2];rfl
 refine bT (aX []) (aP (Iv t)) TB ((PA L r L2 r2).trans ?_)
 show _=Rs.ok (qX (tg L r L2 r2))
 unfold tg
 rw[h1,h2]
 simp only[cond_true]
 cases (iM L r r==iM L2 r2 r2)<;>rfl
end Go.Sx.Tryz
namespace Go.Sx.Tryz
open Go Go.Sx Go.Proofs
set_option maxRecDepth 100000
variable{G:Nat→Obj→Prop}
def MX:List (Nat×aV):=[(67,vt E [] P9)]
def F0:List (Nat×aV):=[(39,vt E MX QA)]
theorem Ro(T:List UInt8)(k f t:Int):body (R:=R0) E (aq F0) KZ [.str T,.agg [.int .i64 k,.int .i64 f,.int .i64 t]] [] .ok=bif decide ((T.length:Int)>65536)then .ok (.ret (.str []),[])else bif decide (f<0)then .ok (.ret (.str []),[])else bif decide (t<f)then .ok (.ret (.str []),[])else bif decide (t>(T.length:Int))then .ok (.ret (.str []),[])else bif inB f t T.length then .ok (.ret (.str ((T.take t.toNat).drop f.toNat)),[])else .err 405:=by kernel_rfl
abbrev xJ:Sig:=[(false,.str),(true,aE)]
def Dr(x:au xJ):Bool:=decide ((x.1.length:Int)≤65536)&&(decide (0≤aa x.2.1)&&(decide (aa x.2.1≤tTo x.2.1)&&decide (tTo x.2.1≤(x.1.length:Int))))
def Ue(x:au xJ):au cz:=(say x.1 x.2.1,())
def bw:List (List Sh):=[[.bself,.own 5 (.int .u8)]]
def FQ:List (Nat×aV):=[(9,lp 9 g9),(10,zu),(15,b8 15 cz pg (fun _=>true) ic),(16,yB 16 bw (jr 16 wsC)),(17,yB 17 bw (jr 17 wbC)),(18,b8 18 xJ cz Dr Ue),(19,ofT 19 (jk 48 5)),(20,b8 20 xh cT Ky Mo)]
def KN:List Cut:=[⟨[true,true,true,true,true,true,false,true,false,false],some ⟨[(0,[]),(1,[.sl (.int .i64)]),(7,[]),(32,[.sl aE]),(33,[]),(34,[])],[[.bself,.own 5 (.int .u8)]]⟩⟩]
def mk5(T:List UInt8)(g:List Int)(K:List Tok)(o:List Int)(l i:Int):St:={tmps:=[(0,.str T),(1,.sl (.int .i64) g),(7,.ref 0 0),(32,.sl aE K),(33,.int .i64 l),(34,.int .i64 i)],blks:=[(0,.cells 48 [.bself 0,.own 1 0]),(1,.list 5 (.int .u8) 0 false o)],next:=2}
theorem wP(J:Jump R0)(T:List UInt8)(g:List Int):start (R:=R0) E (aq FQ) fi5 KN J [.str T,.sl (.int .i64) g] [] .ok=bif decide ((T.length:Int)>1500)then .ok (.ret (.bool true),[])else bif decide ((g.length:Int)>100)then .ok (.ret (.bool true),[])else bif (ic (T,())).2.1.1 !=0 then .ok (.ret (.bool true),[])else J 0 (mk5 T g (ic (T,())).1 [] (ic (T,())).1.length 0):=by kernel_rfl
def tk3(t:Tok):Tok:=(an t,aa t,tTo t,())
def LO(T:List UInt8)(o:List Int):Rs R0:=bif o.all isByte&&Nat.ble o.length 9223372036854775807 then
  bif (cd T).2.1.1==(cd (cn o)).2.1.1 then bif (cd T).2.1.1 !=0 then .ok (.ret (.bool true),[])else
   bif Ky (((cd T).1.1,(cd T).1.2.1,()),((cd (cn o)).1.1,(cd (cn o)).1.2.1,()),())then
    .ok (.ret (.bool (tg (cd T).1.1 (cd T).1.2.1 (cd (cn o)).1.1 (cd (cn o)).1.2.1)),[])
   else .err 3000020
  else .ok (.ret (.bool false),[])else .err 1000019
theorem Nb(J:Jump R0)(T:List UInt8)(g:List Int)(K:List Tok)(o:List Int)(l i:Int):resume (R:=R0) E (aq FQ) (aS 0 KN 0) J [true,true,true,true,true,true,false,true,false,false] fi5.code 1 (mk5 T g K o l i) (bX E 0 fi5.results .ok)=bif decide (i<l)then bif inI i K.length then bif decide ((g.length:Int)>0)then bif (g.length:Int)==0 then .err 1305 else bif inI (Int.tmod i (g.length:Int)) g.length then bif inI (Int.tmod (bif decide (0<bW g (Int.toNat (Int.tmod i (g.length:Int))))then bW g (Int.toNat (Int.tmod i (g.length:Int)))else 0) 4) 4 then bif decide (o.length+(aL (List.getD [[32],[10],[9,32,13,10],[32,47,47,32,115,111,59,10]] (Int.toNat (Int.tmod (bif decide (0<bW g (Int.toNat (Int.tmod i (g.length:Int))))then bW g (Int.toNat (Int.tmod i (g.length:Int)))else 0) 4)) (Ty.dflt Ty.str))).length<al)then bif Dr (T,tk3 (ab K i),())then bif decide ((app o (aL (List.getD [[32],[10],[9,32,13,10],[32,47,47,32,115,111,59,10]] (Int.toNat (Int.tmod (bif decide (0<bW g (Int.toNat (Int.tmod i (g.length:Int))))then bW g (Int.toNat (Int.tmod i (g.length:Int)))else 0) 4)) (Ty.dflt Ty.str)))).length+(aL (say T (tk3 (ab K i)))).length<al)then J 0 (mk5 T g K (app (app o (aL (List.getD [[32],[10],[9,32,13,10],[32,47,47,32,115,111,59,10]] (Int.toNat (Int.tmod (bif decide (0<bW g (Int.toNat (Int.tmod i (g.length:Int))))then bW g (Int.toNat (Int.tmod i (g.length:Int)))else 0) 4)) (Ty.dflt Ty.str)))) (aL (say T (tk3 (ab K i))))) l (IntKind.wrap .i64 (i+1)))else .err 51 else .err 3000018 else .err 51 else .err 1310 else .err 1306 else bif decide (o.length+1<al)then bif Dr (T,tk3 (ab K i),())then bif decide ((app o [10]).length+(aL (say T (tk3 (ab K i)))).length<al)then J 0 (mk5 T g K (app (app o [10]) (aL (say T (tk3 (ab K i))))) l (IntKind.wrap .i64 (i+1)))else .err 51 else .err 3000018 else .err 17 else .err 1101 else LO T o:=by kernel_rfl
end Go.Sx.Tryz
