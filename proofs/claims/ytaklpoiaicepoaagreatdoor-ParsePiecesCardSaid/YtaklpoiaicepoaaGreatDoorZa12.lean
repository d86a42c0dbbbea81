/- A part of the proof: see the row's text. -/
import Derived.Test.YtaklpoiaicepoaaGreatDoorZa11
import Derived.Lib.AtoiErrMem
import Derived.Shelf.Strings.Trim
import Derived.Shelf.Slices.Clone
import Derived.Test.YtaklpoiaicepoaaGreatDoorChecked
import Derived.Shelf.Strconv.Quote
import Derived.Shelf.Strconv.Itoa4
import Derived.Shelf.Strings.Repeat
import Derived.Shelf.Strings.Count
import Derived.Lib.LaidPrint
import Derived.Lib.LaidU8T
set_option linter.unusedVariables false
set_option linter.unusedSimpArgs false
noncomputable section
namespace Go.Sx.Tryz
open Go Go.Sx Go.Proofs
set_option maxRecDepth 100000
def ng:List (Nat×aX):=[(64,fA 64 S8),(17,mU 17 wbC),(19,ofT 19 (lX 48 5))]
def p7:List Cut:=[⟨[true,true,true,false,false],some ⟨[(0,[]),(4,[])],[[.keep,.keep,.own 50 aK]]⟩⟩,⟨[true,true,true,true,true,true,false,true,false,false],some ⟨[(0,[]),(6,[]),(7,[])],[[.bself,.own 5 (.int .u8)]]⟩⟩]
def IB(s:List UInt8):St:={tmps:=[(0,.str s),(4,.ref 0 0)],blks:=[(0,.cells 86 [.str s,.int .i64 0,.own 1 0]),(1,.list 50 aK 0 false [])],next:=2}
def xr(s:List UInt8)(o:List Int)(k:Int):St:={tmps:=[(0,.str s),(6,.ref 0 0),(7,.int .i64 k)],blks:=[(0,.cells 48 [.bself 0,.own 1 0]),(1,.list 5 (.int .u8) 0 false o)],next:=2}
end Go.Sx.Tryz
namespace Go.Sx.Tryz
open Go Go.Sx
set_option maxRecDepth 100000
theorem IM(J:Jump R0)(s:List UInt8):start E (au ng) mH p7 J [.str s] [] .ok=bif s==[]then Rs.ok (Out.ret (AV.tup [AV.str [],Iz (Int.ofNat 5)]),[])else bif inI 0 (List.length s)then bif (↑(UInt8.toNat (List.getD s (Int.toNat 0) 0)):Int) !=34 then Rs.ok (Out.ret (AV.tup [AV.str [],Iz (Int.ofNat 5)]),[])else J 0 {tmps:=[(0,AV.str s),(4,AV.ref 0 0)],blks:=[(0,Blk.cells 86 [AV.str s,Iz 0,AV.own 1 0]),(1,Blk.list 50 aK 0 false [])],next:=2}else Rs.err 204:=by kernel_rfl
theorem IG(J:Jump R0)(s:List UInt8):resume E (au ng) (aT 0 p7 0) J [true,true,true,false,false] mH.code 1 (IB s) (cv E 0 mH.results .ok)=bif lg s 0 then bif rp s 0 !=0 then Rs.ok (Out.ret (AV.tup [AV.str [],Iz (rp s 0)]),[])else bif ld s 0 !=(↑(List.length s):Int)then Rs.ok (Out.ret (AV.tup [AV.str [],Iz (Int.ofNat 5)]),[])else J 1 {tmps:=[(0,AV.str s),(6,AV.ref 0 0),(7,Iz (Int.ofNat 1))],blks:=[(0,Blk.cells 48 [AV.bself 0,AV.own 1 0]),(1,Blk.list 5 (Ty.int IntKind.u8) 0 false [])],next:=2}else Rs.err 3000064:=by kernel_rfl
theorem EF(J:Jump R0)(s:List UInt8)(o:List Int)(k:Int):resume E (au ng) (aT 0 p7 0) J [true,true,true,true,true,true,false,true,false,false] mH.code 1 (xr s o k) (cv E 0 mH.results .ok)=bif decide (k<IntKind.wrap IntKind.i64 ((↑(List.length s):Int)-1))then bif inI k (List.length s)then bif (↑(UInt8.toNat (List.getD s (Int.toNat k) 0)):Int)==92 then bif inI (IntKind.wrap IntKind.i64 (k+1)) (List.length s)then bif (↑(UInt8.toNat (List.getD s (Int.toNat (IntKind.wrap IntKind.i64 (k+1))) 0)):Int)==110 then bif decide (List.length o+1<ao)then J 1 {tmps:=[(0,AV.str s),(6,AV.ref 0 0),(7,Iz (IntKind.wrap IntKind.i64 (IntKind.wrap IntKind.i64 (k+1)+1)))],blks:=[(0,Blk.cells 48 [AV.bself 0,AV.own 1 0]),(1,Blk.list 5 (Ty.int IntKind.u8) 0 false (app o [10]))],next:=2}else Rs.err 17 else bif (↑(UInt8.toNat (List.getD s (Int.toNat (IntKind.wrap IntKind.i64 (k+1))) 0)):Int)==116 then bif decide (List.length o+1<ao)then J 1 {tmps:=[(0,AV.str s),(6,AV.ref 0 0),(7,Iz (IntKind.wrap IntKind.i64 (IntKind.wrap IntKind.i64 (k+1)+1)))],blks:=[(0,Blk.cells 48 [AV.bself 0,AV.own 1 0]),(1,Blk.list 5 (Ty.int IntKind.u8) 0 false (app o [9]))],next:=2}else Rs.err 17 else bif decide (List.length o+1<ao)then J 1 {tmps:=[(0,AV.str s),(6,AV.ref 0 0),(7,Iz (IntKind.wrap IntKind.i64 (IntKind.wrap IntKind.i64 (k+1)+1)))],blks:=[(0,Blk.cells 48 [AV.bself 0,AV.own 1 0]),(1,Blk.list 5 (Ty.int IntKind.u8) 0 false (app o [(↑(UInt8.toNat (List.getD s (Int.toNat (IntKind.wrap IntKind.i64 (k+1))) 0)):Int)]))],next:=2}else Rs.err 17 else Rs.err 1602 else bif decide (List.length o+1<ao)then J 1 {tmps:=[(0,AV.str s),(6,AV.ref 0 0),(7,Iz (IntKind.wrap IntKind.i64 (k+1)))],blks:=[(0,Blk.cells 48 [AV.bself 0,AV.own 1 0]),(1,Blk.list 5 (Ty.int IntKind.u8) 0 false (app o [(↑(UInt8.toNat (List.getD s (Int.toNat k) 0)):Int)]))],next:=2}else Rs.err 17 else Rs.err 1302 else bif List.all o isByte&&Nat.ble (List.length o) 9223372036854775807 then Rs.ok (Out.ret (AV.tup [AV.str (dz o),Iz 0]),[])else Rs.err 1000019:=by kernel_rfl
end Go.Sx.Tryz
namespace Go.Sx.Tryz
open Go Go.Sx Go.Proofs
set_option maxRecDepth 100000
variable{G:Nat→Obj→Prop}
def aS(t:List UInt8):List Int:=t.map fun b=>(b.toNat:Int)
theorem eY(t:List UInt8):(aS t).length=t.length:=List.length_map _
theorem tU(s:List UInt8):dz (aS s)=s:=by
 induction s with
 |nil=>rfl
 |cons c s ih=>
  have h:UInt8.ofNat ((c.toNat:Int)).toNat=c:=by simp
  show UInt8.ofNat ((c.toNat:Int)).toNat::dz (aS s)=_
  rw[h,ih]
theorem vz(s:List UInt8):(aS s).all isByte=true:=by
 rw[List.all_eq_true]
 intro x hx
 obtain⟨c,_,rfl⟩:=List.mem_map.1 hx
 have:=c.toNat_lt
 simp only[isByte,Bool.and_eq_true,decide_eq_true_eq]
 omega
def Gj(d:UInt8):UInt8:=bif (d.toNat:Int)==110 then 10 else bif (d.toNat:Int)==116 then 9 else d
def nc:List UInt8→List UInt8
 |c::d::r=>bif (c.toNat:Int)==92 then Gj d::nc r else c::nc (d::r)
 |_=>[]
def kK(s:List UInt8):List UInt8×Int:=bif s==[]then([],5)else bif at8 s 0 !=34 then([],5)else bif rp s 0 !=0 then([],rp s 0)else bif ld s 0 !=s.length then([],5)else(nc (s.drop 1),0)
def Js:Sig:=[(false,.str),(false,.int .i64)]
def Tl(x:an cZ):an Js:=((kK x.1).1,(kK x.1).2,())
def okU(s:List UInt8):Bool:=decide ((s.length:Int)≤1048576)
def pH(x:an cZ):Bool:=okU x.1
abbrev mz(n:Nat):Jump R0:=pieces (R:=R0) E (au ng) mH p7 0 .ok n
theorem Av(o:List UInt8)(c:UInt8):app (aS o) [(c.toNat:Int)]=aS (o++[c]):=by
 unfold app aS
 rw[List.map_append]
 rfl
theorem Jb{s:List UInt8}(hs:(s.length:Int)≤1048576):∀(n:Nat) (r pre o:List UInt8),s=pre++r→r.length≤n→o.length≤pre.length→∃fuel,mz fuel 1 (xr s (aS o) pre.length)= .ok (.ret (.tup [.str (o++nc r),.int .i64 0]),[]):=by
 have hmr:ao=68719476736:=rfl
 have fin:∀(r pre o:List UInt8),s=pre++r→r.length≤1→o.length≤pre.length→∃fuel,mz fuel 1 (xr s (aS o) pre.length)= .ok (.ret (.tup [.str (o++nc r),.int .i64 0]),[]):=fun r pre o hp hr ho=>by
  refine⟨1,(EF (mz 0) s (aS o) pre.length).trans ?_⟩
  have hlen:pre.length+r.length=s.length:=by rw[hp];simp
  have w:IntKind.wrap .i64 ((s.length:Int)-1)=(s.length:Int)-1:=wrap64 (by omega) (by omega)
  have h1:¬((pre.length:Int)<(s.length:Int)-1):=by omega
  have h3:(List.all (aS o) isByte&&Nat.ble (List.length (aS o)) 9223372036854775807)=true:=by
   rw[vz,eY,Bool.true_and]
   exact Nat.ble_eq_true_of_le (by omega)
  have h4:nc r=[]:=by
   cases r with
   |nil=>rfl
   |cons c r=>cases r with
    |nil=>rfl
    |cons d r=>simp at hr
  rw[w,h3,tU,h4,List.append_nil]
  simp only[h1,decide_false,cond_false,cond_true]
 intro n
 induction n using Nat.strongRecOn with
 |_ n IH=>
  intro r pre o hp hn ho
  match r,hp,hn with
  |[],hp,hn=>exact fin [] pre o hp (by simp) ho
  |[c],hp,hn=>exact fin [c] pre o hp (by simp) ho
  |c::d::r,hp,hn=>
   simp only[List.length_cons]at hn
   have hlen:pre.length+1+1+r.length=s.length:=by rw[hp];simp;omega
   have w:IntKind.wrap .i64 ((s.length:Int)-1)=(s.length:Int)-1:=wrap64 (by omega) (by omega)
   have h1:(pre.length:Int)<(s.length:Int)-1:=by omega
   have h2:inI (pre.length:Int) s.length=true:=bZ (by omega) (by omega)
   have h3:List.getD s pre.length 0=c:=by rw[hp];exact eu _ _ _
   have h4:IntKind.wrap .i64 ((pre.length:Int)+1)=(pre.length:Int)+1:=wrap64 (by omega) (by omega)
   have h5:IntKind.wrap .i64 ((pre.length:Int)+1+1)=(pre.length:Int)+1+1:=wrap64 (by omega) (by omega)
   have h7:inI ((pre.length:Int)+1) s.length=true:=bZ (by omega) (by omega)
   have h8:List.getD s (Int.toNat ((pre.length:Int)+1)) 0=d:=by
    have:Int.toNat ((pre.length:Int)+1)=(pre++[c]).length:=by simp
    rw[this,hp,show pre++c::d::r=(pre++[c])++d::r by simp]
    exact eu _ _ _
   have h9:decide (List.length (aS o)+1<ao)=true:=by
    rw[eY,decide_eq_true_eq]
    omega
   have go:∀fuel,mz (fuel+1) 1 (xr s (aS o) pre.length)=_:=fun fuel=>EF (mz fuel) s (aS o) pre.length
   simp only[w,h1,h2,h3,h4,h5,h7,h8,h9,Int.toNat_natCast,decide_true,cond_true]at go
   cases e:(c.toNat:Int)==92
   ·obtain⟨fuel,ih⟩:=IH (n-1) (by omega) (d::r) (pre++[c]) (o++[c]) (by simp[hp]) (by simp only[List.length_cons];omega) (by simp;omega)
    have h10:(((pre++[c]).length:Nat):Int)=(pre.length:Int)+1:=by simp
    rw[h10,←Av]at ih
    refine⟨fuel+1,(go fuel).trans ?_⟩
    simp only[e,cond_false]
    refine Eq.trans ih ?_
    have:nc (c::d::r)=c::nc (d::r):=MG e
    rw[this,List.append_assoc]
    rfl
   ·obtain⟨fuel,ih⟩:=IH (n-2) (by omega) r (pre++[c,d]) (o++[Gj d]) (by simp[hp]) (by omega) (by simp;omega)
    have h10:(((pre++[c,d]).length:Nat):Int)=(pre.length:Int)+1+1:=by simp;omega
    rw[h10,←Av]at ih
    refine⟨fuel+1,(go fuel).trans ?_⟩
    have hu:nc (c::d::r)=Gj d::nc r:=MB e
    rw[hu]
    have fin2:Rs.ok ((.ret (.tup [.str (o++[Gj d]++nc r),.int .i64 0]),[]):R0)= .ok (.ret (.tup [.str (o++Gj d::nc r),.int .i64 0]),[]):=by
     rw[List.append_assoc]
     rfl
    simp only[e,cond_true]
    unfold Gj at ih fin2⊢
    cases e1:(d.toNat:Int)==110
    ·cases e2:(d.toNat:Int)==116
     ·rw[e1,e2]at ih fin2
      exact Eq.trans ih fin2
     ·rw[e1,e2]at ih fin2
      exact Eq.trans ih fin2
    ·rw[e1]at ih fin2
     exact Eq.trans ih fin2
theorem E8(ht:jx G):bw Tryz.prog G ng:=.cons (dX (su fun T a K ha=>I3 (yb ht) T a K ha)) (.cons (je Ig) (.cons Ck .nil))
theorem Ld{s:List UInt8}(hs:(s.length:Int)≤1048576):∃n,start (R:=R0) E (au ng) mH p7 (mz n) [.str s] [] .ok= .ok (.ret (.tup [.str (kK s).1,.int .i64 (kK s).2]),[]):=by
 have go:∀n,start (R:=R0) E (au ng) mH p7 (mz n) [.str s] [] .ok=_:=fun n=>IM (mz n) s
 unfold kK
 cases e1:s==[]
 ·have h0:0<s.length:=by
   cases s with
   |nil=>simp at e1
   |cons c s=>simp
  simp only[e1,bZ (show(0:Int)≤0 by omega) (show(0:Int)<s.length by omega),cond_true,cond_false]at go⊢
  cases e2:at8 s 0 !=34
  ·have e2':((((s.getD (Int.toNat 0) 0).toNat:Nat):Int) !=34)=false:=e2
   simp only[e2',cond_false]at go⊢
   have go2:∀n,mz (n+1) 0 (IB s)=_:=fun n=>IG (mz n) s
   have hok:lg s 0=true:=jj.2 ⟨by omega,by omega,by omega⟩
   simp only[hok,cond_true]at go2
   cases e3:rp s 0 !=0
   ·simp only[e3,cond_false]at go2⊢
    cases e4:ld s 0 !=(s.length:Int)
    ·simp only[e4,cond_false]at go2⊢
     obtain⟨fuel,hl⟩:=Jb hs s.length (s.drop 1) (s.take 1) [] (List.take_append_drop 1 s).symm (by rw[List.length_drop];omega) (Nat.zero_le _)
     have:(((s.take 1).length:Nat):Int)=1:=by
      rw[List.length_take]
      omega
     rw[this]at hl
     exact⟨fuel+1,((go (fuel+1)).trans (go2 fuel)).trans hl⟩
    ·simp only[e4,cond_true]at go2⊢
     exact⟨1,(go 1).trans (go2 0)⟩
   ·simp only[e3,cond_true]at go2⊢
    exact⟨1,(go 1).trans (go2 0)⟩
  ·have e2':((((s.getD (Int.toNat 0) 0).toNat:Nat):Int) !=34)=true:=e2
   simp only[e2',cond_true]at go⊢
   exact⟨0,go 0⟩
 ·simp only[e1,cond_true]at go⊢
  exact⟨0,go 0⟩
theorem PV(ht:jx G)(x:an cZ)(hx:pH x=true):SAD Tryz.prog G 141 cZ Js x (Tl x):=by
 obtain⟨s,⟨⟩⟩:=x
 have hs:(List.length s:Int)≤1048576:=by
  have h:okU s=true:=hx
  simpa only[okU,decide_eq_true_eq]using h
 obtain⟨n,hn⟩:=Ld hs
 exact bu (bb []) (aQ (E8 ht)) MM (.inl cN) hn
end Go.Sx.Tryz
namespace Go.Sx
open Go
theorem wz{P:Program}{f:Nat}{fi:FI}(hf:FIOK P f fi){vals:Array Value}{D:Ctx}{bs:List Blk}(hm:D.m=aH (aw 0 bs))(hs:SRel D){av:AV}(hok:bs.all bX=true)(hp:bN av=true)
  (hc:Calls P f vals D.w fun e w'=>∃u,e= .returned u∧(∀D',az D' av u)∧RowKit.Below D.w.heap.size D.w w'):bJ P f vals D.w (cu D (.ret av,bs)):=by
 refine .inl ⟨eG hf _ _,Calls.mono hc fun e w' ⟨u,h1,hv,h2⟩=>?_⟩
 subst h1
 obtain⟨h3,h4⟩:=pN hs h2
 exact⟨av,{D with w:=w'},rfl,rfl,hm,h3,h4,hv _,hp,hok⟩
end Go.Sx
namespace Go.Sx.Tryz
open Go Go.Sx Go.Proofs
set_option maxRecDepth 100000
variable{G:Nat→Obj→Prop}
def eA(s:List UInt8):Int×Bool:=match Lib.parseIntB 64 s with
 | .ok v=>(v,true)
 |_=>(Lib.intSat 64 s,false)
def kq(s:List UInt8):Int×Int:=bif !ep s then(0,5)else bif decide ((s.length:Int)>1)&&at8 s 0==48 then(0,5)else bif (eA s).2 then((eA s).1,0)else(0,1)
def BF:Sig:=[(false,.int .i64),(false,.int .i64)]
def RV(x:an cZ):an BF:=((kq x.1).1,(kq x.1).2,())
theorem Nl:FIOK Tryz.prog 144 Q3:=⟨⟨Tryz.f144,Tryz.func144,rfl,rfl,rfl,by kernel_rfl⟩,by kernel_rfl⟩
def QO:aX:=fun R args bs k=>match args,bs with
 |[.str s,.int .i64 a,.int .i64 b],[]=>(match ep s&&(okU s&&(a==10&&b==64))with
  |true=>(match(eA s).2 with
   |true=>k (.ret (.tup [.int .i64 (eA s).1,.nili]),[])
   |false=>k (.ret (.tup [.int .i64 (eA s).1,.iface 195 .anyp]),[]))
  |false=>.err 144)
 |_,_=>.err 144
theorem qY{M:Nat}:∀(s:List UInt8) (acc:Nat),(s.all fun c=>aC c.toNat)=true→Lib.parseUintM M acc s≠Lib.NumEnd.syntax
 |[],acc,_=>by simp[Lib.parseUintM]
 |c::r,acc,h=>by
  rw[List.all_cons,Bool.and_eq_true]at h
  have h1:48≤c.toNat∧c.toNat≤57:=by
   have:=h.1
   unfold aC at this
   simp only[Bool.and_eq_true,decide_eq_true_eq]at this
   omega
  unfold Lib.parseUintM
  rw[if_pos h1]
  split
  ·simp
  ·split
   ·simp
   ·exact qY r _ h.2
theorem Cb{s:List UInt8}(h:ep s=true):Lib.parseIntB 64 s≠Lib.NumEnd.syntax:=by
 unfold ep at h
 rw[Bool.and_eq_true]at h
 cases s with
 |nil=>simp at h
 |cons c r=>
  have h0:=h.1
  rw[List.all_cons,Bool.and_eq_true]at h0
  have h1:48≤c.toNat∧c.toNat≤57:=by
   have:=h0.1
   unfold aC at this
   simp only[Bool.and_eq_true,decide_eq_true_eq]at this
   omega
  have h2:¬(c.toNat=43∨c.toNat=45):=by omega
  have h3:=qY (M:=2^64-1) (c::r) 0 h.1
  unfold Lib.parseIntB
  simp only[if_neg h2]
  have h4:Lib.parseUintB 64 (c::r)=Lib.parseUintM (2^64-1) 0 (c::r):=by
   unfold Lib.parseUintB
   rw[if_neg (by simp)]
  rw[h4]
  split
  ·rename_i e;exact absurd e h3
  ·simp
  ·split
   ·simp
   ·split<;>simp
theorem KT(ht:jx G):aP Tryz.prog G 144 QO:=fun R args bs k r hr=>by
 unfold QO at hr
 split at hr
 ·rename_i s a b
  split at hr
  ·rename_i hd
   simp only[Bool.and_eq_true,beq_iff_eq]at hd
   obtain⟨hd,hu,rfl,rfl⟩:=hd
   have hu':(List.length s:Int)≤1048576:=by simpa only[okU,decide_eq_true_eq]using hu
   rcases hp:Lib.parseIntB 64 s with v|_|_
   ·have e:eA s=(v,true):=by unfold eA;rw[hp]
    rw[e]at hr
    refine⟨_,hr,fun D vals hG hm hs hv=>?_⟩
    rw[fU (us:=[.string ⟨⟨s⟩⟩,.int .i64 10,.int .i64 64]) rfl hv]
    refine wz Nl hm hs rfl rfl (Calls.mono (Any.strconv_ParseInt_10_at64_ok Tryz.laysC174 ⟨⟨s⟩⟩ ?_ v hp D.w) fun e w' h=>?_)
    ·show s.length≤_
     omega
    ·refine⟨_,h.1,fun D'=>⟨_,rfl,_,_,rfl,rfl,_,_,rfl,rfl,rfl⟩,?_⟩
     rcases h.2 with h2|⟨t,h2⟩
     ·exact jb h2 rfl
     ·rw[h2];exact Lib.bytesWorld_below _ _ _
   ·exact absurd hp (Cb hd)
   ·have e:eA s=(Lib.intSat 64 s,false):=by unfold eA;rw[hp]
    rw[e]at hr
    refine⟨_,hr,fun D vals hG hm hs hv=>?_⟩
    rw[fU (us:=[.string ⟨⟨s⟩⟩,.int .i64 10,.int .i64 64]) rfl hv]
    obtain⟨ev,he1,he2⟩:=(ht D hG hs).er
    refine wz Nl hm hs rfl rfl (Calls.mono (Any.strconv_ParseInt_10_at64_range Tryz.laysC174 ⟨⟨s⟩⟩ ?_ hp ev D.w he1 he2) fun e w' ⟨N,h⟩=>?_)
    ·show s.length≤_
     omega
    ·exact⟨_,h.1,fun D'=>⟨_,rfl,_,_,rfl,rfl,_,_,rfl,⟨_,rfl,_,rfl⟩,rfl⟩,h.2.2.2⟩
  ·cases hr
 ·cases hr
def Bv:List (Nat×aX):=[(143,cq 143 cZ dt fR G1),(144,QO)]
end Go.Sx.Tryz
namespace Go.Sx.Tryz
open Go Go.Sx
set_option maxRecDepth 100000
theorem Lq(s:List UInt8):body (R:=R0) E (au Bv) D9 [.str s] [] .ok=bif fR (s,())then bif !ep s then Rs.ok (Out.ret (AV.tup [Iz 0,Iz (Int.ofNat 5)]),[])else bif decide ((↑(List.length s):Int)>1)then bif inI 0 (List.length s)then bif (↑(UInt8.toNat (List.getD s (Int.toNat 0) 0)):Int)==48 then Rs.ok (Out.ret (AV.tup [Iz 0,Iz (Int.ofNat 5)]),[])else bif ep s&&(okU s&&(10==10&&64==64))then bif Prod.snd (eA s)then Rs.ok (Out.ret (AV.tup [Iz (Prod.fst (eA s)),Iz 0]),[])else Rs.ok (Out.ret (AV.tup [Iz 0,Iz (Int.ofNat 1)]),[])else Rs.err 144 else Rs.err 109 else bif ep s&&(okU s&&(10==10&&64==64))then bif Prod.snd (eA s)then Rs.ok (Out.ret (AV.tup [Iz (Prod.fst (eA s)),Iz 0]),[])else Rs.ok (Out.ret (AV.tup [Iz 0,Iz (Int.ofNat 1)]),[])else Rs.err 144 else Rs.err 3000143:=by kernel_rfl
end Go.Sx.Tryz
namespace Go.Sx.Tryz
open Go Go.Sx Go.Proofs
set_option maxRecDepth 100000
variable{G:Nat→Obj→Prop}
theorem EC{s:List UInt8}:okU s=true↔(s.length:Int)≤1048576:=by simp only[okU,decide_eq_true_eq]
theorem Mn{s:List UInt8}(hu:okU s=true):body (R:=R0) E (au Bv) D9 [.str s] [] .ok= .ok (.ret (.tup [.int .i64 (kq s).1,.int .i64 (kq s).2]),[]):=by
 have h1:=EC.1 hu
 have h2:fR (s,())=true:=j8.2 (show(s.length:Int)≤1099511627776 by omega)
 have go:=Lq s
 simp only[h2,cond_true]at go
 refine go.trans ?_
 unfold kq
 cases e1:ep s
 ·rfl
 ·simp only[e1,hu,Bool.not_true,cond_false,Bool.true_and]
  cases e2:decide ((s.length:Int)>1)
  ·simp only[cond_false,Bool.false_and]
   show(bif (eA s).2 then _ else _)=_
   cases (eA s).2<;>rfl
  ·rw[decide_eq_true_eq]at e2
   rw[bZ (show(0:Int)≤0 by omega) (show(0:Int)<s.length by omega)]
   simp only[cond_true,Bool.true_and]
   show(bif at8 s 0==48 then _ else _)=_
   cases at8 s 0==48
   ·show(bif (eA s).2 then _ else _)=_
    cases (eA s).2<;>rfl
   ·rfl
theorem FO(ht:jx G):bw Tryz.prog G Bv:=.cons (aW fun x h=>DP x h) (.cons (KT ht) .nil)
theorem P2(ht:jx G)(x:an cZ)(hx:pH x=true):SAD Tryz.prog G 138 cZ BF x (RV x):=by
 obtain⟨s,⟨⟩⟩:=x
 exact cg (bb []) (aQ (FO ht)) MA (Mn hx)
end Go.Sx.Tryz
namespace Go.Sx
open Go
theorem rD{P:Program}{G:Nat→Obj→Prop}{f:Nat}{ts:Sig}{xs:List AV}{x:an ts}{bs:List Blk}{a0:AV}{o:Out×List Blk}(ht:kz (aH (aw 0 bs)) ts xs=some (x,[]))
  (h:SA P G f (a0::dV ts x) bs o):SA P G f (a0::xs) bs o:=fun D vals hG hm hs hv=>by
 rw[←hm]at ht
 obtain⟨v0,r,rfl,v1,v2⟩:=hv
 obtain⟨C1,s1,s2,s3,s4,s5,s6,s7,s8⟩:=eC hs []
 have hv1:=jA hs ht v2 s4 s8 s7
 rw[o5 hm [],←sM]at s3
 have hA:=h C1 (v0::r) (s2.glEq.trans hG) s3 s1 ⟨v0,r,rfl,v1.mono s2,hv1⟩
 rw[s4]at hA
 refine bJ.mono hA fun e w' hR=>?_
 cases e with
 |returned u=>
  obtain⟨v,D1,e2,e3,e4,e5,e6,e7,e8,e9⟩:=hR
  exact⟨v,D1,e2,e3,e4,e5,s2.trans e6,e7,e8,e9⟩
 |panicked ch=>
  obtain⟨v,e2,e3⟩:=hR
  exact⟨v,e2,e3.after s2⟩
 |outgrown=>exact hR
end Go.Sx
namespace Go.Sx.Tryz
open Go Go.Sx Go.Proofs
set_option maxRecDepth 100000
variable{G:Nat→Obj→Prop}
abbrev aD:Ty:=.pair (.int .i64) (.pair (.int .i64) (.pair (.int .i64) (.pair (.slice (.int .i64)) (.pair .str (.pair (.int .i64) (.pair .str (.pair (.int .i64) (.pair .str (.pair (.int .i64) (.pair (.int .i64) (.pair (.int .i64) (.pair (.slice (.int .i64)) .unit))))))))))))
abbrev Nd:Type:=aD.den
def aj(x:Nd):Int:=x.1
def nAt(x:Nd):Int:=x.2.1
def nTo(x:Nd):Int:=x.2.2.1
def ai(x:Nd):List Int:=x.2.2.2.1
def aF(x:Nd):List UInt8:=x.2.2.2.2.1
def ar(x:Nd):Int:=x.2.2.2.2.2.1
def aB(x:Nd):List UInt8:=x.2.2.2.2.2.2.1
def ah(x:Nd):Int:=x.2.2.2.2.2.2.2.1
def ag(x:Nd):List UInt8:=x.2.2.2.2.2.2.2.2.1
def nN(x:Nd):Int:=x.2.2.2.2.2.2.2.2.2.1
def nW1(x:Nd):Int:=x.2.2.2.2.2.2.2.2.2.2.1
def nW2(x:Nd):Int:=x.2.2.2.2.2.2.2.2.2.2.2.1
def aI(x:Nd):List Int:=x.2.2.2.2.2.2.2.2.2.2.2.2.1
def bE(l:List Int)(i:Nat):Int:=l.getD i 0
def oA(l:List Int)(i:Nat)(v:Int):List Int:=l.set i v
def mkN(kind at_ to_:Int)(kids:List Int)(text:List UInt8)(base:Int)(name:List UInt8)(dims:Int)(marks:List UInt8)(n w1 w2:Int)(ends:List Int):Nd:=(kind,at_,to_,kids,text,base,name,dims,marks,n,w1,w2,ends,())
def nd0:Nd:=mkN 0 0 0 [] [] 0 [] 0 [] 0 0 0 []
def af(l:List Nd)(i:Nat):Nd:=l.getD i nd0
inductive PR(α:Type)where
 |ok (y:α) (a d:Int) (A:List Nd)
 |fault (c p:Int)
 |bad
def PR.bindR{α R:Type}(r:PR α)(k:α→Int→Int→List Nd→Rs R)(e:Int→Int→Rs R):Rs R:=match r with
 | .ok y a d A=>k y a d A
 | .fault c p=>e c p
 | .bad=>.err 77
def PR.bind{α β:Type}(r:PR α)(k:α→Int→Int→List Nd→PR β):PR β:=match r with
 | .ok y a d A=>k y a d A
 | .fault c p=>.fault c p
 | .bad=>.bad
def bsP(T:List UInt8)(K:List Tok)(a d:Int)(A:List Nd):List Blk:=[.cells 72 [.str T,.sl aK K,.int .i64 a,.int .i64 d,.own 1 0,.int .i64 0],.list 37 aD 0 false A]
def pV(T:List UInt8)(K:List Tok)(a d:Int)(A:List Nd):List Blk:=[.cells 72 [.str T,.sl aK K,.int .i64 a,.int .i64 d,.own 1 1,.int .i64 0],.list 37 aD 1 false A]
abbrev PF(ts rs:Sig):Type:=List UInt8→List Tok→Int→Int→List Nd→an ts→PR (an rs)
def Bt(f:Nat)(ts rs:Sig)(F:PF ts rs):aX:=fun R args bs k=>match args,bs with
 | .ref 0 0::xs,[.cells 72 [.str T,.sl tK K,.int .i64 a,.int .i64 d,.own 1 0,.int .i64 z],.list 37 nT 0 false A]=>
  (match z==0,ey tK aK K,ey nT aD A,kz (aH (aw 0 [.cells 72 [.str T,.sl tK K,.int .i64 a,.int .i64 d,.own 1 0,.int .i64 z],.list 37 nT 0 false A])) ts xs with
  |true,some K,some A,some (x,[])=>(F T K a d A x).bindR (fun y a d A=>k (.ret (du rs y),pV T K a d A)) (fun c p=>k (.panic (.iface 28 (.agg [.int .i64 c,.int .i64 p])),[]))
  |_,_,_,_=>.err (5000000+f))
 |_,_=>.err (5100000+f)
def bU(G:Nat→Obj→Prop)(f:Nat)(ts rs:Sig)(F:PF ts rs):Prop:=∀T K a d A x,match F T K a d A x with
 | .ok y a' d' A'=>SA Tryz.prog G f (.ref 0 0::dV ts x) (bsP T K a d A) (.ret (du rs y),pV T K a' d' A')
 | .fault c p=>SA Tryz.prog G f (.ref 0 0::dV ts x) (bsP T K a d A) (.panic (.iface 28 (.agg [.int .i64 c,.int .i64 p])),[])
 | .bad=>True
theorem KL{f:Nat}{ts rs:Sig}{F:PF ts rs}(h:bU G f ts rs F):aP Tryz.prog G f (Bt f ts rs F):=fun R args bs k r hr=>by
 unfold Bt at hr
 split at hr
 ·rename_i xs T tK K a d z nT A
  split at hr
  ·rename_i K' A' x hz hK hA ht
   obtain⟨e,hK⟩:=ik hK
   subst e
   subst hK
   obtain⟨e,hA⟩:=ik hA
   subst e
   subst hA
   have hz:z=0:=by simpa using hz
   subst hz
   have h1:=h T K a d A x
   cases e:F T K a d A x with
   |ok y a' d' A'=>
    rw[e]at h1 hr
    exact⟨_,hr,rD ht h1⟩
   |fault c p=>
    rw[e]at h1 hr
    exact⟨_,hr,rD ht h1⟩
   |bad=>
    rw[e]at hr
    cases hr
  ·cases hr
 ·cases hr
def eO(f:Nat)(ts rs:Sig)(F:PF ts rs):aX:=v7 f 1 ts (Iq f (fA f (Bt f ts rs F)))
theorem bC{f:Nat}{ts rs:Sig}{F:PF ts rs}(h:bU G f ts rs F):aP Tryz.prog G f (eO f ts rs F):=Ao (Dn (dX (KL h)))
end Go.Sx.Tryz
namespace Go.Sx
open Go
theorem Qr{get:Get}{q:Nat→Nat}{a:AV}(h:dat a=true):gA get q a=some a:=by
 cases a<;>first|(cases h;done)|rfl
theorem CZ{get:Get}{q:Nat→Nat}:∀{xs:List AV},xs.all dat=true→eN (gA get q) xs=some xs
 |[],_=>rfl
 |a::xs,h=>by
  simp only[List.all_cons,Bool.and_eq_true]at h
  simp only[eN,Qr h.1,CZ h.2]
theorem GP{get:Get}{q:Nat→Nat}{b:Bool}{t:Ty}{x:t.den}:gC get q (iq b t x)=some (iq b t x)∧gV get q (iq b t x)=some (iq b t x):=by
 have hd:=kV t x
 cases b with
 |true=>
  have:eN (gA get q) (flat t x)=some (flat t x):=CZ hd
  simp only[iq,gC,gV,this,and_self]
 |false=>
  rcases wC (t:=t) (x:=x)with⟨a,_,e,ha⟩|e
  ·rw[e]
   cases a<;>first|(cases ha;done)|exact⟨rfl,rfl⟩
  ·rw[e]
   exact⟨rfl,rfl⟩
theorem J5{get:Get}{q:Nat→Nat}:∀{ts:Sig} {x:an ts},eN (gC get q) (dV ts x)=some (dV ts x)
 |[],_=>rfl
 |(b,t)::r,x=>by simp only[dV,eN,GP.1,J5]
theorem QG{get:Get}{q:Nat→Nat}{rs:Sig}{y:an rs}:gV get q (du rs y)=some (du rs y):=by
 have h:=J5 (get:=get) (q:=q) (ts:=rs) (x:=y)
 cases rs with
 |nil=>rfl
 |cons p r=>
  obtain⟨b,t⟩:=p
  cases r with
  |nil=>exact GP.2
  |cons p2 r2=>
   obtain⟨b2,t2⟩:=p2
   show gV get q (.tup (dV ((b,t)::(b2,t2)::r2) y))=_
   simp only[gV,h]
   rfl
theorem SA.pan{P:Program}{G:Nat→Obj→Prop}{f:Nat}{args:List AV}{bs l:List Blk}{v:AV}(h:SA P G f args bs (.panic v,l)):SA P G f args bs (.panic v,[]):=fun D vals hG hm hs hv=>by
 refine bJ.mono (h D vals hG hm hs hv) fun e w' hR=>?_
 cases e with
 |returned u=>obtain⟨v,D',e1,_⟩:=hR;cases e1
 |panicked c=>exact hR
 |outgrown=>exact hR
end Go.Sx
namespace Go.Sx.Tryz
open Go Go.Sx Go.Proofs
set_option maxRecDepth 100000
variable{G:Nat→Obj→Prop}
def aa(K:List Tok)(a:Int):Tok:=K.getD a.toNat (Ty.dflt aK)
def bsG(g:Nat)(T:List UInt8)(K:List Tok)(a d:Int)(A:List Nd):List Blk:=[.cells 72 [.str T,.sl aK K,.int .i64 a,.int .i64 d,.own 1 g,.int .i64 0],.list 37 aD g false A]
def Ans(rs:Sig)(T:List UInt8)(K:List Tok)(b:Rs R0)(r:PR (an rs)):Prop:=match r with
 | .ok y a d A=>∃g v l' m,b= .ok (.ret v,bsG g T K a d A++l')∧Au (aH (aw 0 (bsG g T K a d A++l'))) rs v=some (y,m)∧m.any (Nat.beq 1)=false
 | .fault c p=>∃l,b= .ok (.panic (.iface 28 (.agg [.int .i64 c,.int .i64 p])),l)
 | .bad=>True
variable{rs:Sig}{T:List UInt8}{K:List Tok}
theorem Ans.bad{b:Rs R0}:Ans rs T K b .bad:=trivial
theorem Ans.flt{c p:Int}{l:List Blk}:Ans rs T K (.ok (.panic (.iface 28 (.agg [.int .i64 c,.int .i64 p])),l)) (.fault c p):=⟨l,rfl⟩
theorem Ans.bif{c:Bool}{b b':Rs R0}{r r':PR (an rs)}(h:c=true→Ans rs T K b r)(h':c=false→Ans rs T K b' r'):Ans rs T K (bif c then b else b') (bif c then r else r'):=by
 cases c
 ·exact h' rfl
 ·exact h rfl
theorem Ans.bind{α:Type}{r:PR α}{k:α→Int→Int→List Nd→Rs R0}{e:Int→Int→Rs R0}{k':α→Int→Int→List Nd→PR (an rs)}(h:∀y a d A,r= .ok y a d A→Ans rs T K (k y a d A) (k' y a d A))
  (he:∀c p,Ans rs T K (e c p) (.fault c p)):Ans rs T K (r.bindR k e) (r.bind k'):=by
 cases r with
 |ok y a d A=>exact h y a d A rfl
 |fault c p=>exact he c p
 |bad=>trivial
theorem pW(T:List UInt8)(K:List Tok)(a d:Int)(A:List Nd):FV (bsP T K a d A):=fun ee tt gg sh l hm=>by
 simp only[bsP,List.mem_cons,List.not_mem_nil,or_false,reduceCtorEq,false_or]at hm
 cases hm
 rfl
theorem MI{f g:Nat}{args:List AV}{y:an rs}{a d a' d':Int}{A A':List Nd}(h:SA Tryz.prog G f args (bsP T K a d A) (.ret (du rs y),bsG g T K a' d' A')):
  SA Tryz.prog G f args (bsP T K a d A) (.ret (du rs y),pV T K a' d' A'):=by
 refine SA.bump (q:=fun _=>1) h (pW T K a d A) (fun _ _=>Nat.le_refl _) QG ?_ ?_
 ·simp[gBs,gB,eN,gA,aw,aH,pV,bsG]
 ·rw[lR.2.1]
  rfl
theorem SA.dataP{f:Nat}{args:List AV}{rs:Sig}{v:AV}{T:List UInt8}{K:List Tok}{a d a' d':Int}{A A':List Nd}{g:Nat}{l':List Blk}(h:SA Tryz.prog G f args (bsP T K a d A) (.ret v,bsG g T K a' d' A'++l')){y:an rs}{m:List Nat}
  (ht:Au (aH (aw 0 (bsG g T K a' d' A'++l'))) rs v=some (y,m)) (hm1:m.any (Nat.beq 1)=false):SA Tryz.prog G f args (bsP T K a d A) (.ret (du rs y),bsG g T K a' d' A'):=fun D vals hG hm hs hv=>by
 refine(h D vals hG hm hs hv).mono fun e w' hR=>?_
 cases e with
 |returned u=>
  obtain⟨v',D',e1,e2,e3,e4,e5,e6,e7,e8⟩:=hR
  simp only[Out.ret.injEq]at e1
  subst e1
  obtain⟨C1,s1,s2,s3,s4,s5,s6,s7,s8⟩:=eC e4 m
  have e3':D'.m=aH (aw 0 (bsG g T K a' d' A'++l')):=e3
  rw[←e3']at ht
  have hv:=vc e4 ht e6 s4 s8 s7
  rw[o5 e3' m]at s3
  have hsh:dH m 0 (bsG g T K a' d' A'++l')=bsG g T K a' d' A'++dH m 2 l':=by
   show Blk.cells 72 _::Blk.list 37 aD g (match m.any (Nat.beq 1)with|true=>true|false=>false) A'::dH m 2 l'=_
   rw[hm1]
   rfl
  rw[hsh]at s3
  have hreach:reach C1.m 200 (List.range (bsP T K a d A).length++[]) []=some [0,1]:=by
   rw[s3]
   rfl
  have hget:getAll C1.m [0,1]=some (bsG g T K a' d' A'):=by
   rw[s3]
   rfl
  obtain⟨s9,eE,hren,_⟩:=jQ (bs:=bsP T K a d A) (more:=[]) hm (e5.trans s2) s1 hreach hget rfl
  obtain⟨r1,r2,r3⟩:=lR (rs:=rs) (y:=y)
  have:=hren.relV (a:=du rs y) (fun b hb=>by rw[r1]at hb;cases hb) r2 hv
  rw[r3]at this
  exact⟨_,Sub C1 [0,1] C1.fr ((bsG g T K a' d' A').map (cS (posOf [0,1]))),rfl,s4.trans e2,rfl,s9,eE,this,r2,rfl⟩
 |panicked ch=>obtain⟨v',e1,_⟩:=hR;cases e1
 |outgrown=>exact hR
theorem cb{f:Nat}{ts rs:Sig}{F:PF ts rs}{fi:FI}{lib:List (Nat×aX)}(hf:FIOK Tryz.prog f fi)(hl:bw Tryz.prog G lib)
  (h:∀T K a d A x,Ans rs T K (body (R:=R0) E (au lib) fi (.ref 0 0::dV ts x) (bsP T K a d A) .ok) (F T K a d A x)):bU G f ts rs F:=fun T K a d A x=>by
 have h1:=h T K a d A x
 cases e:F T K a d A x with
 |ok y a' d' A'=>
  rw[e]at h1
  obtain⟨g,v,l',m,h2,ht,hm⟩:=h1
  exact MI (SA.dataP (cg (bb []) (aQ hl) hf h2) ht hm)
 |fault c p=>
  rw[e]at h1
  obtain⟨l,h2⟩:=h1
  exact(cg (bb []) (aQ hl) hf h2).pan
 |bad=>trivial
def tY(f:Nat)(ts rs:Sig)(F:PF ts rs)(ret:an rs→AV)(more:an rs→List Blk):aX:=fun R args bs k=>match args,bs with
 | .ref 0 0::xs,[.cells 72 [.str T,.sl tK K,.int .i64 a,.int .i64 d,.own 1 0,.int .i64 z],.list 37 nT 0 false A]=>
  (match z==0,ey tK aK K,ey nT aD A,kz (aH (aw 0 [.cells 72 [.str T,.sl tK K,.int .i64 a,.int .i64 d,.own 1 0,.int .i64 z],.list 37 nT 0 false A])) ts xs with
  |true,some K,some A,some (x,[])=>(F T K a d A x).bindR (fun y a d A=>k (.ret (ret y),pV T K a d A++more y)) (fun c p=>k (.panic (.iface 28 (.agg [.int .i64 c,.int .i64 p])),[]))
  |_,_,_,_=>.err (5000000+f))
 |_,_=>.err (5100000+f)
def mB(G:Nat→Obj→Prop)(f:Nat)(ts rs:Sig)(F:PF ts rs)(ret:an rs→AV)(more:an rs→List Blk):Prop:=∀T K a d A x,match F T K a d A x with
 | .ok y a' d' A'=>SA Tryz.prog G f (.ref 0 0::dV ts x) (bsP T K a d A) (.ret (ret y),pV T K a' d' A'++more y)
 | .fault c p=>SA Tryz.prog G f (.ref 0 0::dV ts x) (bsP T K a d A) (.panic (.iface 28 (.agg [.int .i64 c,.int .i64 p])),[])
 | .bad=>True
theorem I7{f:Nat}{ts rs:Sig}{F:PF ts rs}{ret:an rs→AV}{more:an rs→List Blk}(h:mB G f ts rs F ret more):aP Tryz.prog G f (tY f ts rs F ret more):=fun R args bs k r hr=>by
 unfold tY at hr
 split at hr
 ·rename_i xs T tK K a d z nT A
  split at hr
  ·rename_i K' A' x hz hK hA ht
   obtain⟨e,hK⟩:=ik hK
   subst e
   subst hK
   obtain⟨e,hA⟩:=ik hA
   subst e
   subst hA
   have hz:z=0:=by simpa using hz
   subst hz
   have h1:=h T K a d A x
   cases e:F T K a d A x with
   |ok y a' d' A'=>
    rw[e]at h1 hr
    exact⟨_,hr,rD ht h1⟩
   |fault c p=>
    rw[e]at h1 hr
    exact⟨_,hr,rD ht h1⟩
   |bad=>
    rw[e]at hr
    cases hr
  ·cases hr
 ·cases hr
def zr(f:Nat)(ts rs:Sig)(F:PF ts rs)(ret:an rs→AV)(more:an rs→List Blk):aX:=v7 f 1 ts (Iq f (fA f (tY f ts rs F ret more)))
theorem ud{f:Nat}{ts rs:Sig}{F:PF ts rs}{ret:an rs→AV}{more:an rs→List Blk}(h:mB G f ts rs F ret more):aP Tryz.prog G f (zr f ts rs F ret more):=Ao (Dn (dX (I7 h)))
def kZ(y:an [(false,.slice (.int .i64))]):AV:=.own 2 0
def fy(y:an [(false,.slice (.int .i64))]):List Blk:=[.list 3 (.int .i64) 0 false y.1]
def JF(y:an [(true,aD)]):AV:=.agg [.int .i64 (aj y.1),.int .i64 (nAt y.1),.int .i64 (nTo y.1),.nils,.str (aF y.1),.int .i64 (ar y.1),.str (aB y.1),.int .i64 (ah y.1),.str (ag y.1),.int .i64 (nN y.1),.int .i64 (nW1 y.1),.int .i64 (nW2 y.1),.own 2 0]
def wh(y:an [(true,aD)]):List Blk:=[.list 3 (.int .i64) 0 false (aI y.1)]
end Go.Sx.Tryz
namespace Go.Sx.Tryz
open Go Go.Sx Go.Proofs
set_option maxRecDepth 100000
abbrev tI:Bool×Ty:=(false,.int .i64)
abbrev tS:Bool×Ty:=(false,.str)
abbrev tB:Bool×Ty:=(false,.bool)
abbrev tL:Bool×Ty:=(false,.slice (.int .i64))
abbrev tN:Bool×Ty:=(true,aD)
abbrev tT:Bool×Ty:=(true,aK)
structure Fns where
 next:PF [] [tT,tS]
 ahead:PF [tI] [tI,tS]
 skip:PF [] [tI]
 isS:PF [tS] [tB]
 take:PF [tS] [tB]
 want:PF [tS] [tI]
 name:PF [] [tS]
 add:PF [tN,tI] [tI]
 goIn:PF [] []
 few:PF [tI] []
 klass:PF [] [tI]
 member:PF [] [tI]
 params:PF [] [tL]
 typed:PF [tB] [tN]
 inner:PF [] [tN]
 base:PF [] [tN]
 block:PF [] [tI]
 declares:PF [] [tB]
 stat:PF [] [tI]
 word:PF [tS] [tN,tB]
 plainS:PF [tI] [tI]
 bracket:PF [] [tI]
 args:PF [] [tL]
 value:PF [] [tI]
 chain:PF [tI] [tI]
 unary:PF [] [tI]
 behind:PF [] [tI]
 primary:PF [] [tI]
 part:PF [tI,tI] [tI]
 literal:PF [tN,tI] [tI]
 kept:PF [tT,tS] [tI]
 made:PF [] [tN]
def Aw:aX:=fun R args bs k=>match args,bs with
 |[.int .i64 c,.int .i64 p],[]=>k (.panic (.iface 28 (.agg [.int .i64 c,.int .i64 p])),[])
 |_,_=>.err 71
def cU(s:List UInt8):Int:=bif s==[124,124]then 0 else bif s==[38,38]then 1 else bif s==[61,61]||s==[33,61]then 2 else bif s==[60]||(s==[60,61]||(s==[62]||s==[62,61]))then 3 else bif s==[43]||s==[45]then 4 else bif s==[42]||(s==[47]||s==[37])then 5 else-1
def HG(x:an cZ):an iu:=(cU x.1,())
def bB(l:List UInt8):Nat:=l.foldl (fun m c=>m*10+(c.toNat-48)) 0
def iV:List Nat:=[4607182418800017408,4621819117588971520,4636737291354636288,4652007308841189376,4666723172467343360,4681608360884174848,4696837146684686336,4711630319722168320,4726483295884279808,4741671816366391296,4756540486875873280,4771362005757984768,4786511204640096256,4801453603149578240,4816244402031689728]
def mI(b:Nat):Nat:=bif Ieee.double.order b b==some .eq then b else 9221120237041090561
def qm(a b:List UInt8):Nat:=bif bB (a++b)==0 then 0 else match Ieee.double.div (FloatKind.f64.nearest (bB (a++b):Int)) (iV.getD b.length 0)with
 |some r=>mI r
 |none=>0
def mg(s:List UInt8):Int×Int:=
 let a:=s.takeWhile fun c=>c !=46
 let b:=s.drop (a.length+1)
 bif a.length==s.length then(0,5)else bif !ep a|| !ep b then(0,5)else bif decide (a.length>1)&&at8 a 0==48 then(0,5)else bif decide (a.length+b.length>15)then(0,2)else((qm a b:Int),0)
def J9:Sig:=[(false,.int .u64),(false,.int .i64)]
def TU(x:an cZ):an J9:=((mg x.1).1,(mg x.1).2,())
def kE:List (Nat×aX):=[(78,ofT 78 (rY 3))]
def Bz:List (Nat×aX):=[(161,ofT 161 DK)]
def Cx(p:Fns):List (Nat×aX):=[(71,Aw),(45,eO 45 _ _ p.next),(125,eO 125 _ _ p.ahead),(90,eO 90 _ _ p.skip),(75,eO 75 _ _ p.isS),(74,eO 74 _ _ p.take),(72,eO 72 _ _ p.want),(73,eO 73 _ _ p.name),(48,eO 48 _ _ p.add),(104,eO 104 _ _ p.goIn),(46,eO 46 _ _ p.few),
 (47,eO 47 _ _ p.klass),(76,eO 76 _ _ p.member),(92,zr 92 _ _ p.params kZ fy),(94,eO 94 _ _ p.typed),(106,eO 106 _ _ p.inner),(117,zr 117 _ _ p.base JF wh),(93,eO 93 _ _ p.block),(113,eO 113 _ _ p.declares),(105,eO 105 _ _ p.stat),(115,eO 115 _ _ p.word),(116,eO 116 _ _ p.plainS),(127,eO 127 _ _ p.bracket),
 (128,zr 128 _ _ p.args kZ fy),(114,eO 114 _ _ p.value),(126,eO 126 _ _ p.chain),(133,eO 133 _ _ p.unary),(135,eO 135 _ _ p.behind),(136,eO 136 _ _ p.primary),(137,eO 137 _ _ p.part),(139,eO 139 _ _ p.literal),(142,eO 142 _ _ p.kept),(148,eO 148 _ _ p.made),
 (91,cq 91 cZ dt fR MR),(14,cq 14 mq dt Pj Px),(138,cq 138 cZ BF pH RV),(141,cq 141 cZ Js pH Tl),(134,cq 134 cZ iu (fun _=>true) HG),(140,cq 140 cZ J9 pH TU),(78,ofT 78 (rY 3))]
def bg(p:Fns):List (Nat×aX):=(77,Gh E kE O4)::(129,Gh E kE HY)::(118,Gh E (Cx p) Ja)::(119,Gh E (Cx p) HF)::(154,Gh E Bz J1)::Cx p
end Go.Sx.Tryz
namespace Go.Sx.Tryz
open Go Go.Sx Go.Proofs
set_option maxRecDepth 100000
instance:BEq (Ty.den .str):=inferInstanceAs (BEq (List UInt8))
instance(k:IntKind)(n:Nat):OfNat (Ty.den (.int k)) n:=inferInstanceAs (OfNat Int n)
instance(k:IntKind):BEq (Ty.den (.int k)):=inferInstanceAs (BEq Int)
instance:HAppend (List UInt8) (Ty.den .str) (List UInt8):=⟨fun x y=>List.append x y⟩
instance:HAppend (Ty.den .str) (List UInt8) (List UInt8):=⟨fun x y=>List.append x y⟩
instance:HAppend (List Int) (Ty.den (.slice (.int .i64))) (List Int):=⟨fun x y=>List.append x y⟩
instance:HAppend (Ty.den (.slice (.int .i64))) (List Int) (List Int):=⟨fun x y=>List.append x y⟩
end Go.Sx.Tryz
namespace Go.Sx.Tryz
open Go Go.Sx Go.Proofs
set_option maxRecDepth 100000
variable{G:Nat→Obj→Prop}
abbrev shI:Sh:=.own 3 (.int .i64)
def Hk:List Cut:=[⟨[true,true,true,true,true,false,false,false],some ⟨[(0,[]),(3,[]),(5,[shI])],[]⟩⟩]
def HL:List Cut:=[⟨[true,true,true,false,false,false],some ⟨[(0,[]),(3,[shI])],[]⟩⟩]
def BN:List Cut:=[⟨[true,true,true,false,false,false],some ⟨[(0,[]),(3,[shI])],[]⟩⟩]
def GQ:List Cut:=[⟨[true,false,false,false],some ⟨[(0,[]),(2,[shI])],[]⟩⟩]
def CJ:List Cut:=[⟨[true,true,true,true,false,false],some ⟨[(0,[]),(1,[]),(5,[]),(7,[])],[]⟩⟩]
def Cy:List Cut:=[⟨[true,true,true,false,false],some ⟨[(0,[]),(3,[]),(5,[])],[]⟩⟩]
def IW:List Cut:=[⟨[true,true,true,true,true,true,false,false,false],some ⟨[(0,[]),(3,[]),(5,[])],[[],[],[],[.keep,.keep,.keep,shI]]⟩⟩]
def Cc:List Cut:=[⟨[true,true,false,false,false],some ⟨[(0,[]),(2,[]),(3,[])],[[],[],[],[.keep,.keep,.keep,.keep,.keep,.keep,.keep,.keep,.keep,.keep,.keep,.keep,shI]]⟩⟩]
def pB(T:List UInt8)(K:List Tok)(a d:Int):Nat×Blk:=(0,.cells 72 [.str T,.sl aK K,.int .i64 a,.int .i64 d,.own 1 1,.int .i64 0])
def nB(A:List Nd):Nat×Blk:=(1,.list 37 aD 1 false A)
def Mr(i:Nat)(k f t:Int):Nat×Blk:=(i,.cells 50 [.int .i64 k,.int .i64 f,.int .i64 t])
def EZ(i:Nat)(L:List Int):Nat×Blk:=(i,.list 3 (.int .i64) 0 false L)
def Gt(T:List UInt8)(K:List Tok)(a d:Int)(A:List Nd)(k f t:Int)(L:List Int):St:=⟨[(0,.ref 0 0),(3,.ref 2 0),(5,.own 3 0)],[pB T K a d,nB A,Mr 2 k f t,EZ 3 L],4⟩
def GH(T:List UInt8)(K:List Tok)(a d:Int)(A:List Nd)(L:List Int):St:=⟨[(0,.ref 0 0),(3,.own 2 0)],[pB T K a d,nB A,EZ 2 L],3⟩
def wF(T:List UInt8)(K:List Tok)(a d:Int)(A:List Nd)(L:List Int):St:=⟨[(0,.ref 0 0),(3,.own 2 0)],[pB T K a d,nB A,EZ 2 L],3⟩
def GF(T:List UInt8)(K:List Tok)(a d:Int)(A:List Nd)(L:List Int):St:=⟨[(0,.ref 0 0),(2,.own 2 0)],[pB T K a d,nB A,EZ 2 L],3⟩
def va(T:List UInt8)(K:List Tok)(a d:Int)(A:List Nd)(l k f t x:Int):St:=⟨[(0,.ref 0 0),(1,.int .i64 l),(5,.ref 2 0),(7,.int .i64 x)],[pB T K a d,nB A,Mr 2 k f t],3⟩
def wL(T:List UInt8)(K:List Tok)(a d:Int)(A:List Nd)(k f t x:Int):St:=⟨[(0,.ref 0 0),(3,.ref 2 0),(5,.int .i64 x)],[pB T K a d,nB A,Mr 2 k f t],3⟩
def Gc(T:List UInt8)(K:List Tok)(a d:Int)(A:List Nd)(k f t:Int)(s:List UInt8)(L:List Int):St:=⟨[(0,.ref 0 0),(3,.ref 2 0),(5,.ref 3 0)],[pB T K a d,nB A,Mr 2 k f t,
 (3,.cells 37 [.int .i64 2,.int .i64 0,.int .i64 0,.own 4 0,.str s,.int .i64 0,.str [],.int .i64 0,.str [],.int .i64 0,.int .i64 0,.int .i64 0,.nils]),EZ 4 L],5⟩
def wB(T:List UInt8)(K:List Tok)(a d:Int)(A:List Nd)(k0 a0 t0:Int)(s0:List UInt8)(b:Int)(nm:List UInt8)(dm:Int)(mr:List UInt8)(n0 w1 w2:Int)(L:List Int):St:=⟨[(0,.ref 0 0),(2,.ref 2 0),(3,.ref 3 0)],[pB T K a d,nB A,
 (2,.cells 37 [.int .i64 0,.int .i64 0,.int .i64 0,.nils,.str [],.int .i64 0,.str [],.int .i64 0,.str [],.int .i64 0,.int .i64 0,.int .i64 0,.nils]),
 (3,.cells 37 [.int .i64 k0,.int .i64 a0,.int .i64 t0,.nils,.str s0,.int .i64 b,.str nm,.int .i64 dm,.str mr,.int .i64 n0,.int .i64 w1,.int .i64 w2,.own 4 0]),EZ 4 L],5⟩
end Go.Sx.Tryz
namespace Go.Sx.Tryz
open Go Go.Sx Go.Proofs
set_option maxRecDepth 100000
abbrev fl0(c p:Int):Rs R0:=.ok (.panic (.iface 28 (.agg [.int .i64 c,.int .i64 p])),[])
variable{G:Nat→Obj→Prop}{ts rs:Sig}
theorem jv{f:Nat}{F:PF ts rs}{fi:FI}{cs:List Cut}{lib:List (Nat×aX)}(hf:FIOK Tryz.prog f fi)(hl:bw Tryz.prog G lib)
  (h:∀T K a d A x,∃n,Ans rs T K (start (R:=R0) E (au lib) fi cs (pieces E (au lib) fi cs 2 .ok n) (.ref 0 0::dV ts x) (bsP T K a d A) .ok) (F T K a d A x)):bU G f ts rs F:=fun T K a d A x=>by
 obtain⟨n,h1⟩:=h T K a d A x
 cases e:F T K a d A x with
 |ok y a' d' A'=>
  rw[e]at h1
  obtain⟨g,v,l',m,h2,ht,hm⟩:=h1
  exact MI (SA.dataP (bu (bb []) (aQ hl) hf (.inl (pW T K a d A)) h2) ht hm)
 |fault c p=>
  rw[e]at h1
  obtain⟨l,h2⟩:=h1
  exact(bu (bb []) (aQ hl) hf (.inl (pW T K a d A)) h2).pan
 |bad=>trivial
variable{T:List UInt8}{K:List Tok}{ret:an rs→AV}{more:an rs→List Blk}
def ct(rs:Sig)(ret:an rs→AV)(more:an rs→List Blk)(T:List UInt8)(K:List Tok)(b:Rs R0)(r:PR (an rs)):Prop:=match r with
 | .ok y a d A=>∃g,b= .ok (.ret (ret y),bsG g T K a d A++more y)
 | .fault c p=>∃l,b= .ok (.panic (.iface 28 (.agg [.int .i64 c,.int .i64 p])),l)
 | .bad=>True
theorem ct.bad{b:Rs R0}:ct rs ret more T K b .bad:=trivial
theorem ct.flt{c p:Int}{l:List Blk}:ct rs ret more T K (.ok (.panic (.iface 28 (.agg [.int .i64 c,.int .i64 p])),l)) (.fault c p):=⟨l,rfl⟩
theorem ct.bif{c:Bool}{b b':Rs R0}{r r':PR (an rs)}(h:c=true→ct rs ret more T K b r)(h':c=false→ct rs ret more T K b' r'):ct rs ret more T K (bif c then b else b') (bif c then r else r'):=by
 cases c
 ·exact h' rfl
 ·exact h rfl
theorem ct.bind{α:Type}{r:PR α}{k:α→Int→Int→List Nd→Rs R0}{e:Int→Int→Rs R0}{k':α→Int→Int→List Nd→PR (an rs)}(h:∀y a d A,r= .ok y a d A→ct rs ret more T K (k y a d A) (k' y a d A))
  (he:∀c p,ct rs ret more T K (e c p) (.fault c p)):ct rs ret more T K (r.bindR k e) (r.bind k'):=by
 cases r with
 |ok y a d A=>exact h y a d A rfl
 |fault c p=>exact he c p
 |bad=>trivial
def GOK(ret:an rs→AV)(more:an rs→List Blk):Prop:=∀y g T K a d A,gV (aH (aw 0 (bsG g T K a d A++more y))) (fun i=>match Nat.blt i 2 with|true=>1|false=>0) (ret y)=some (ret y)∧
 gBs (aH (aw 0 (bsG g T K a d A++more y))) (fun i=>match Nat.blt i 2 with|true=>1|false=>0) 0 (bsG g T K a d A++more y)=some (pV T K a d A++more y)∧(bN (ret y)&&(pV T K a d A++more y).all bX)=true
theorem Mz:GOK kZ fy:=fun y g T K a d A=>by
 refine⟨rfl,?_,rfl⟩
 simp[gBs,gB,eN,gA,aw,aH,pV,bsG,fy]
 exact⟨rfl,rfl⟩
theorem TG:GOK JF wh:=fun y g T K a d A=>by
 refine⟨rfl,?_,rfl⟩
 simp[gBs,gB,eN,gA,aw,aH,pV,bsG,wh]
 exact⟨rfl,rfl⟩
theorem JO(hG:GOK ret more){f g:Nat}{args:List AV}{y:an rs}{a d a' d':Int}{A A':List Nd}(h:SA Tryz.prog G f args (bsP T K a d A) (.ret (ret y),bsG g T K a' d' A'++more y)):
  SA Tryz.prog G f args (bsP T K a d A) (.ret (ret y),pV T K a' d' A'++more y):=by
 obtain⟨h1,h2,h3⟩:=hG y g T K a' d' A'
 exact SA.bump (q:=fun i=>match Nat.blt i 2 with|true=>1|false=>0) h (pW T K a d A) (fun i hi=>by
  have:i<2:=hi
  match i,this with
  |0,_=>exact Nat.le_refl _
  |1,_=>exact Nat.le_refl _) h1 h2 h3
theorem vX(hG:GOK ret more){f:Nat}{F:PF ts rs}{fi:FI}{cs:List Cut}{lib:List (Nat×aX)}(hf:FIOK Tryz.prog f fi)(hl:bw Tryz.prog G lib)
  (h:∀T K a d A x,∃n,ct rs ret more T K (start (R:=R0) E (au lib) fi cs (pieces E (au lib) fi cs 2 .ok n) (.ref 0 0::dV ts x) (bsP T K a d A) .ok) (F T K a d A x)):mB G f ts rs F ret more:=fun T K a d A x=>by
 obtain⟨n,h1⟩:=h T K a d A x
 cases e:F T K a d A x with
 |ok y a' d' A'=>
  rw[e]at h1
  obtain⟨g,h2⟩:=h1
  exact JO hG (bu (bb []) (aQ hl) hf (.inl (pW T K a d A)) h2)
 |fault c p=>
  rw[e]at h1
  obtain⟨l,h2⟩:=h1
  exact(bu (bb []) (aQ hl) hf (.inl (pW T K a d A)) h2).pan
 |bad=>trivial
theorem Jq(hG:GOK ret more){f:Nat}{F:PF ts rs}{fi:FI}{lib:List (Nat×aX)}(hf:FIOK Tryz.prog f fi)(hl:bw Tryz.prog G lib)
  (h:∀T K a d A x,ct rs ret more T K (body (R:=R0) E (au lib) fi (.ref 0 0::dV ts x) (bsP T K a d A) .ok) (F T K a d A x)):mB G f ts rs F ret more:=fun T K a d A x=>by
 have h1:=h T K a d A x
 cases e:F T K a d A x with
 |ok y a' d' A'=>
  rw[e]at h1
  obtain⟨g,h2⟩:=h1
  exact JO hG (cg (bb []) (aQ hl) hf h2)
 |fault c p=>
  rw[e]at h1
  obtain⟨l,h2⟩:=h1
  exact(cg (bb []) (aQ hl) hf h2).pan
 |bad=>trivial
end Go.Sx.Tryz
namespace Go.Proofs
open Go.Shelf
def Tryz.lays160_ren:Go.Shelf.Ren:=⟨fun|160=>161|232=>169|231=>31|227=>32|234=>170|233=>33|236=>171|235=>34|228=>55|271=>186|151=>57|197=>56|120=>199|152=>83|260=>82|137=>88|119=>100|224=>86|225=>85|217=>84|266=>101|n=>n,fun|9=>9|4=>4|3=>3|5=>5|117=>80|116=>79|0=>0|124=>83|21=>21|105=>113|46=>94|119=>146|139=>149|138=>148|n=>n,fun|3=>1|4=>2|n=>n⟩
theorem Tryz.lays160:Go.Proofs.Lays.n160 Tryz.prog Tryz.lays160_ren:={
 mixed:=by kernel_rfl
 f119:=Tryz.func100.trans (congrArg some (by kernel_rfl))
 f120:=Tryz.func199.trans (congrArg some (by kernel_rfl))
 f137:=Tryz.func88.trans (congrArg some (by kernel_rfl))
 f151:=Tryz.func57.trans (congrArg some (by kernel_rfl))
 f152:=Tryz.func83.trans (congrArg some (by kernel_rfl))
 f160:=Tryz.func161.trans (congrArg some (by kernel_rfl))
 f197:=Tryz.func56.trans (congrArg some (by kernel_rfl))
 f217:=Tryz.func84.trans (congrArg some (by kernel_rfl))
 f224:=Tryz.func86.trans (congrArg some (by kernel_rfl))
 f225:=Tryz.func85.trans (congrArg some (by kernel_rfl))
 f227:=Tryz.func32.trans (congrArg some (by kernel_rfl))
 f228:=Tryz.func55.trans (congrArg some (by kernel_rfl))
 f231:=Tryz.func31.trans (congrArg some (by kernel_rfl))
 f232:=Tryz.func169.trans (congrArg some (by kernel_rfl))
 f233:=Tryz.func33.trans (congrArg some (by kernel_rfl))
 f234:=Tryz.func170.trans (congrArg some (by kernel_rfl))
 f235:=Tryz.func34.trans (congrArg some (by kernel_rfl))
 f236:=Tryz.func171.trans (congrArg some (by kernel_rfl))
 f260:=Tryz.func82.trans (congrArg some (by kernel_rfl))
 f266:=Tryz.func101.trans (congrArg some (by kernel_rfl))
 f271:=Tryz.func186.trans (congrArg some (by kernel_rfl))
 t0:=Tryz.underlying0
 a0:=Tryz.isAgg0
 z0:=Tryz.sizeOf0
 v0:=Tryz.zeroValue0
 t3:=Tryz.underlying3
 a3:=Tryz.isAgg3
 z3:=Tryz.sizeOf3
 v3:=Tryz.zeroValue3
 t4:=Tryz.underlying4
 a4:=Tryz.isAgg4
 z4:=Tryz.sizeOf4
 v4:=Tryz.zeroValue4
 t5:=Tryz.underlying5
 a5:=Tryz.isAgg5
 z5:=Tryz.sizeOf5
 v5:=Tryz.zeroValue5
 t9:=Tryz.underlying9
 a9:=Tryz.isAgg9
 z9:=Tryz.sizeOf9
 v9:=Tryz.zeroValue9
 t21:=Tryz.underlying21
 a21:=Tryz.isAgg21
 z21:=Tryz.sizeOf21
 v21:=Tryz.zeroValue21
 t46:=Tryz.underlying94
 a46:=Tryz.isAgg94
 z46:=Tryz.sizeOf94
 v46:=Tryz.zeroValue94
 t105:=Tryz.underlying113
 a105:=Tryz.isAgg113
 z105:=Tryz.sizeOf113
 v105:=Tryz.zeroValue113
 t116:=Tryz.underlying79
 a116:=Tryz.isAgg79
 z116:=Tryz.sizeOf79
 t117:=Tryz.underlying80
 a117:=Tryz.isAgg80
 z117:=Tryz.sizeOf80
 v117:=Tryz.zeroValue80
 t119:=Tryz.underlying146
 a119:=Tryz.isAgg146
 z119:=Tryz.sizeOf146
 t124:=Tryz.underlying83
 a124:=Tryz.isAgg83
 z124:=Tryz.sizeOf83
 v124:=Tryz.zeroValue83
 t138:=Tryz.underlying148
 a138:=Tryz.isAgg148
 z138:=Tryz.sizeOf148
 v138:=Tryz.zeroValue148
 t139:=Tryz.underlying149
 a139:=Tryz.isAgg149
 z139:=Tryz.sizeOf149
 v139:=Tryz.zeroValue149
 g3:=by kernel_rfl
 g4:=by kernel_rfl}
def Tryz.laysNm215_ren:Go.Shelf.Ren:=⟨fun|15=>78|n=>n,fun|22=>33|3=>3|4=>4|n=>n,fun|n=>n⟩
theorem Tryz.laysNm215:Go.Proofs.Lays2.n15 Tryz.prog Tryz.laysNm215_ren:={
 mixed:=by kernel_rfl
 f15:=Tryz.func78.trans (congrArg some (by kernel_rfl))
 t3:=Tryz.underlying3
 a3:=Tryz.isAgg3
 z3:=Tryz.sizeOf3
 v3:=Tryz.zeroValue3
 t4:=Tryz.underlying4
 a4:=Tryz.isAgg4
 z4:=Tryz.sizeOf4
 v4:=Tryz.zeroValue4
 t22:=Tryz.underlying33
 a22:=Tryz.isAgg33
 z22:=Tryz.sizeOf33
 v22:=Tryz.zeroValue33
 i3:=by kernel_rfl}
end Go.Proofs
namespace Go.Proofs
open Go.Shelf
def Tryz.lays177_ren:Go.Shelf.Ren:=⟨fun|177=>52|250=>80|289=>95|197=>56|323=>107|260=>82|339=>120|340=>121|242=>122|119=>100|345=>130|346=>131|278=>132|n=>n,fun|9=>9|5=>5|4=>4|3=>3|37=>46|21=>21|105=>113|46=>94|119=>146|0=>0|139=>149|138=>148|49=>167|234=>168|131=>128|51=>121|236=>170|n=>n,fun|3=>1|4=>2|20=>4|21=>5|22=>6|23=>7|24=>8|n=>n⟩
theorem Tryz.lays177:Go.Proofs.Lays.n177 Tryz.prog Tryz.lays177_ren:={
 mixed:=by kernel_rfl
 f119:=Tryz.func100.trans (congrArg some (by kernel_rfl))
 f177:=Tryz.func52.trans (congrArg some (by kernel_rfl))
 f197:=Tryz.func56.trans (congrArg some (by kernel_rfl))
 f242:=Tryz.func122.trans (congrArg some (by kernel_rfl))
 f250:=Tryz.func80.trans (congrArg some (by kernel_rfl))
 f260:=Tryz.func82.trans (congrArg some (by kernel_rfl))
 f278:=Tryz.func132.trans (congrArg some (by kernel_rfl))
 f289:=Tryz.func95.trans (congrArg some (by kernel_rfl))
 f323:=Tryz.func107.trans (congrArg some (by kernel_rfl))
 f339:=Tryz.func120.trans (congrArg some (by kernel_rfl))
 f340:=Tryz.func121.trans (congrArg some (by kernel_rfl))
 f345:=Tryz.func130.trans (congrArg some (by kernel_rfl))
 f346:=Tryz.func131.trans (congrArg some (by kernel_rfl))
 t0:=Tryz.underlying0
 a0:=Tryz.isAgg0
 z0:=Tryz.sizeOf0
 v0:=Tryz.zeroValue0
 t3:=Tryz.underlying3
 a3:=Tryz.isAgg3
 z3:=Tryz.sizeOf3
 v3:=Tryz.zeroValue3
 t4:=Tryz.underlying4
 a4:=Tryz.isAgg4
 z4:=Tryz.sizeOf4
 v4:=Tryz.zeroValue4
 t5:=Tryz.underlying5
 a5:=Tryz.isAgg5
 z5:=Tryz.sizeOf5
 v5:=Tryz.zeroValue5
 t9:=Tryz.underlying9
 a9:=Tryz.isAgg9
 z9:=Tryz.sizeOf9
 v9:=Tryz.zeroValue9
 t21:=Tryz.underlying21
 a21:=Tryz.isAgg21
 z21:=Tryz.sizeOf21
 v21:=Tryz.zeroValue21
 t37:=Tryz.underlying46
 a37:=Tryz.isAgg46
 z37:=Tryz.sizeOf46
 v37:=Tryz.zeroValue46
 t46:=Tryz.underlying94
 a46:=Tryz.isAgg94
 z46:=Tryz.sizeOf94
 v46:=Tryz.zeroValue94
 t49:=Tryz.underlying167
 a49:=Tryz.isAgg167
 z49:=Tryz.sizeOf167
 v49:=Tryz.zeroValue167
 t51:=Tryz.underlying121
 a51:=Tryz.isAgg121
 z51:=Tryz.sizeOf121
 v51:=Tryz.zeroValue121
 t105:=Tryz.underlying113
 a105:=Tryz.isAgg113
 z105:=Tryz.sizeOf113
 v105:=Tryz.zeroValue113
 t119:=Tryz.underlying146
 a119:=Tryz.isAgg146
 z119:=Tryz.sizeOf146
 t131:=Tryz.underlying128
 a131:=Tryz.isAgg128
 z131:=Tryz.sizeOf128
 v131:=Tryz.zeroValue128
 t138:=Tryz.underlying148
 a138:=Tryz.isAgg148
 z138:=Tryz.sizeOf148
 v138:=Tryz.zeroValue148
 t139:=Tryz.underlying149
 a139:=Tryz.isAgg149
 z139:=Tryz.sizeOf149
 v139:=Tryz.zeroValue149
 t234:=Tryz.underlying168
 a234:=Tryz.isAgg168
 z234:=Tryz.sizeOf168
 v234:=Tryz.zeroValue168
 t236:=Tryz.underlying170
 a236:=Tryz.isAgg170
 z236:=Tryz.sizeOf170
 v236:=Tryz.zeroValue170
 g3:=by kernel_rfl
 g4:=by kernel_rfl
 g20:=by kernel_rfl
 g21:=by kernel_rfl
 g22:=by kernel_rfl
 g23:=by kernel_rfl
 g24:=by kernel_rfl}
def Tryz.laysM173_ren:Go.Shelf.Ren:=⟨fun|173=>54|246=>81|283=>96|284=>97|285=>98|286=>99|129=>109|317=>108|318=>110|319=>111|320=>112|337=>123|338=>124|n=>n,fun|2=>2|3=>3|9=>9|4=>4|171=>141|0=>0|53=>124|37=>46|5=>5|173=>144|212=>155|51=>121|20=>20|213=>156|46=>94|232=>172|233=>173|n=>n,fun|17=>3|18=>9|19=>10|n=>n⟩
theorem Tryz.laysM173:Go.Proofs.LaysM.n173 Tryz.prog Tryz.laysM173_ren:={
 mixed:=by kernel_rfl
 f129:=Tryz.func109.trans (congrArg some (by kernel_rfl))
 f173:=Tryz.func54.trans (congrArg some (by kernel_rfl))
 f246:=Tryz.func81.trans (congrArg some (by kernel_rfl))
 f283:=Tryz.func96.trans (congrArg some (by kernel_rfl))
 f284:=Tryz.func97.trans (congrArg some (by kernel_rfl))
 f285:=Tryz.func98.trans (congrArg some (by kernel_rfl))
 f286:=Tryz.func99.trans (congrArg some (by kernel_rfl))
 f317:=Tryz.func108.trans (congrArg some (by kernel_rfl))
 f318:=Tryz.func110.trans (congrArg some (by kernel_rfl))
 f319:=Tryz.func111.trans (congrArg some (by kernel_rfl))
 f320:=Tryz.func112.trans (congrArg some (by kernel_rfl))
 f337:=Tryz.func123.trans (congrArg some (by kernel_rfl))
 f338:=Tryz.func124.trans (congrArg some (by kernel_rfl))
 t0:=Tryz.underlying0
 a0:=Tryz.isAgg0
 z0:=Tryz.sizeOf0
 v0:=Tryz.zeroValue0
 t2:=Tryz.underlying2
 a2:=Tryz.isAgg2
 z2:=Tryz.sizeOf2
 v2:=Tryz.zeroValue2
 t3:=Tryz.underlying3
 a3:=Tryz.isAgg3
 z3:=Tryz.sizeOf3
 v3:=Tryz.zeroValue3
 t4:=Tryz.underlying4
 a4:=Tryz.isAgg4
 z4:=Tryz.sizeOf4
 v4:=Tryz.zeroValue4
 t5:=Tryz.underlying5
 a5:=Tryz.isAgg5
 z5:=Tryz.sizeOf5
 v5:=Tryz.zeroValue5
 t9:=Tryz.underlying9
 a9:=Tryz.isAgg9
 z9:=Tryz.sizeOf9
 v9:=Tryz.zeroValue9
 t20:=Tryz.underlying20
 a20:=Tryz.isAgg20
 z20:=Tryz.sizeOf20
 v20:=Tryz.zeroValue20
 t37:=Tryz.underlying46
 a37:=Tryz.isAgg46
 z37:=Tryz.sizeOf46
 v37:=Tryz.zeroValue46
 t46:=Tryz.underlying94
 a46:=Tryz.isAgg94
 z46:=Tryz.sizeOf94
 v46:=Tryz.zeroValue94
 t51:=Tryz.underlying121
 a51:=Tryz.isAgg121
 z51:=Tryz.sizeOf121
 v51:=Tryz.zeroValue121
 t53:=Tryz.underlying124
 a53:=Tryz.isAgg124
 z53:=Tryz.sizeOf124
 v53:=Tryz.zeroValue124
 t171:=Tryz.underlying141
 a171:=Tryz.isAgg141
 z171:=Tryz.sizeOf141
 v171:=Tryz.zeroValue141
 t173:=Tryz.underlying144
 a173:=Tryz.isAgg144
 z173:=Tryz.sizeOf144
 v173:=Tryz.zeroValue144
 t212:=Tryz.underlying155
 a212:=Tryz.isAgg155
 z212:=Tryz.sizeOf155
 v212:=Tryz.zeroValue155
 t213:=Tryz.underlying156
 a213:=Tryz.isAgg156
 z213:=Tryz.sizeOf156
 t232:=Tryz.underlying172
 a232:=Tryz.isAgg172
 z232:=Tryz.sizeOf172
 v232:=Tryz.zeroValue172
 t233:=Tryz.underlying173
 a233:=Tryz.isAgg173
 z233:=Tryz.sizeOf173
 v233:=Tryz.zeroValue173
 g17:=by kernel_rfl
 g18:=by kernel_rfl
 g19:=by kernel_rfl
 i0:=by kernel_rfl
 i2:=by kernel_rfl
 i3:=by kernel_rfl
 i4:=by kernel_rfl
 i5:=by kernel_rfl
 i9:=by kernel_rfl
 i20:=by kernel_rfl
 i37:=by kernel_rfl
 i46:=by kernel_rfl
 i51:=by kernel_rfl
 i53:=by kernel_rfl
 i171:=by kernel_rfl
 i173:=by kernel_rfl
 i212:=by kernel_rfl
 i232:=by kernel_rfl
 i233:=by kernel_rfl
 m17:=by kernel_rfl
 m18:=by kernel_rfl
 m19:=by kernel_rfl}
end Go.Proofs
namespace Go.Sx.Tryz
open Go Go.Sx Go.Proofs
set_option maxRecDepth 100000
abbrev TT:Type:=List UInt8
abbrev KK:Type:=List Tok
abbrev NN:Type:=List Nd
abbrev Ok(ts:Sig)(α:Type):Type:=Nat→AV→List Blk→an ts→Int→Int→List Nd→α
abbrev Bd(α:Type):Type 1:={β:Type}→PR β→(β→Int→Int→List Nd→α)→α
abbrev oR{ts:Sig}(T:TT)(K:KK):Ok ts (Rs R0):=fun g v l _ a d A=>.ok (.ret v,bsG g T K a d A++l)
abbrev bR{β:Type}(r:PR β)(k:β→Int→Int→List Nd→Rs R0):Rs R0:=PR.bindR r k fl0
abbrev oP{ts:Sig}:Ok ts (PR (an ts)):=fun _ _ _ y a d A=>.ok y a d A
abbrev eP{α:Type}(_:Nat):PR α:=.bad
theorem mkA{ts:Sig}{T:TT}{K:KK}{b x:Rs R0}{r:PR (an ts)}(e:b=x)(h:Ans ts T K x r):Ans ts T K b r:=e▸h
theorem mkG{ts:Sig}{ret:an ts→AV}{more:an ts→List Blk}{T:TT}{K:KK}{b x:Rs R0}{r:PR (an ts)}(e:b=x)(h:ct ts ret more T K x r):ct ts ret more T K b r:=e▸h
theorem An{P:Prop}(h:P:=by repeat (first|exact Ans.bad|exact Ans.flt|exact⟨_,_,_,[],rfl,rfl,rfl⟩|exact⟨_,_,_,_,rfl,rfl,rfl⟩|refine Ans.bif (fun _=>?_) (fun _=>?_)|refine Ans.bind (fun _ _ _ _ _=>?_) (fun _ _=>Ans.flt))):P:=h
theorem AnG{P:Prop}(h:P:=by repeat (first|exact ct.bad|exact ct.flt|exact⟨_,rfl⟩|refine ct.bif (fun _=>?_) (fun _=>?_)|refine ct.bind (fun _ _ _ _ _=>?_) (fun _ _=>ct.flt))):P:=h
end Go.Sx.Tryz
