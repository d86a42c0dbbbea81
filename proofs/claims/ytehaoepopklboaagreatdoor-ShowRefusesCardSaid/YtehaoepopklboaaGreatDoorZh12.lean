/- A part of the proof: see the row's text. -/
import Derived.Test.YtehaoepopklboaaGreatDoorZh11
import Derived.Test.YtehaoepopklboaaGreatDoorZh09
import Derived.Lib.LaidPrint
import Derived.Lib.AtoiErrMem
import Derived.Shelf.Strings.Trim
import Derived.Shelf.Slices.Clone
import Derived.Test.YtehaoepopklboaaGreatDoorChecked
set_option linter.unusedVariables false
set_option linter.unusedSimpArgs false
noncomputable section
namespace Go.Sx.Tryz
open Go Go.Sx Go.Proofs
set_option maxRecDepth 100000
variable{G:Nat→Obj→Prop}
theorem gI{s:List UInt8}:okS s=true↔(s.length:Int)≤1099511627776:=by simp only[okS,decide_eq_true_eq]
theorem EC(ht:fX G)(x:ai bB)(hx:cW x=true):SAD Tryz.prog G 39 bB cd x (HV x):=by
 obtain⟨s,⟨⟩⟩:=x
 have h1:(List.length s:Int)≤1099511627776:=gI.1 hx
 have key:∀s:List UInt8,(s.length:Int)≤1099511627776→body (R:=R0) E (an eD) E5 [.str s] [] .ok=Rs.ok (pT (qs s)):=fun s h1=>by
  rw[Et]
  unfold qs
  cases (!s==[])
  ·rfl
  ·cases decide (ibS s 32<0)
   ·rfl
   ·simp only[cond_true,Bool.true_and]
    refine(eL ?_).trans ((eL ?_).trans rfl)
    ·show 1+s.length<_
     omega
    ·show([32]++s).length+1<_
     rw[List.length_append]
     show 1+s.length+1<_
     omega
 exact bb (aS []) (aE (tO ht)) Nj (key s h1)
theorem AE(c:Int):aM c=(!decide (c<48)&& !decide (c>57)):=by
 unfold aM
 congr 1
 ·rw[Bool.eq_iff_iff];simp
 ·rw[Bool.eq_iff_iff];simp
theorem ql{s:List UInt8}(hs:(s.length:Int)≤1099511627776):∀(r pre:List UInt8) (fuel:Nat),s=pre++r→r.length<fuel→pieces (R:=R0) E (an []) kv fW 0 .ok fuel 0 (DG s s.length pre.length)= .ok (pT ((r.all fun c=>aM c.toNat)&& !s==[]))
 |r,pre,0,_,hf=>by omega
 |[],pre,fuel+1,hp,_=>by
  refine(yT (pieces (R:=R0) E (an []) kv fW 0 .ok fuel) s s.length pre.length).trans ?_
  have h1:¬((pre.length:Int)<s.length):=by rw[hp,List.append_nil];omega
  simp only[h1,decide_false,cond_false]
  rfl
 |c::r,pre,fuel+1,hp,hf=>by
  have hlen:pre.length+1+r.length=s.length:=by rw[hp];simp;omega
  have ih:=ql hs r (pre++[c]) fuel (by simp[hp]) (by simpa using hf)
  refine(yT (pieces (R:=R0) E (an []) kv fW 0 .ok fuel) s s.length pre.length).trans ?_
  have h1:(pre.length:Int)<s.length:=by omega
  have h2:inI (pre.length:Int) s.length=true:=cq (by omega) (by omega)
  have h3:List.getD s pre.length 0=c:=by rw[hp];exact cV _ _ _
  have h4:IntKind.wrap .i64 ((pre.length:Int)+1)=(pre.length:Int)+1:=wrap64 (by omega) (by omega)
  have h5:(((pre++[c]).length:Nat):Int)=(pre.length:Int)+1:=by simp
  simp only[h1,h2,h3,h4,Int.toNat_natCast,decide_true,cond_true,List.all_cons,AE (c.toNat:Int)]
  cases decide ((c.toNat:Int)<48)
  ·cases decide ((c.toNat:Int)>57)
   ·rw[h5]at ih
    exact ih
   ·rfl
  ·rfl
theorem yJ(x:ai bB)(hx:cW x=true):SAD Tryz.prog G 136 bB cd x (D5 x):=by
 obtain⟨s,⟨⟩⟩:=x
 have hs:(List.length s:Int)≤1099511627776:=gI.1 hx
 have h:=ql hs s [] (s.length+1) rfl (Nat.lt_succ_self _)
 exact bh (aS []) (aE .nil) Hx (.inl cb) ((Ca (pieces (R:=R0) E (an []) kv fW 0 .ok (s.length+1)) s).trans h)
def vQ(s:List UInt8):Bool:=(!s==[])&&(decide ((s.length:Int)≤64)&& !qs s)
theorem rq{s:List UInt8}(hs:(s.length:Int)≤1099511627776):∀(r pre:List UInt8) (fuel:Nat),s=pre++r→r.length<fuel→pieces (R:=R0) E (an mi) pM fW 0 .ok fuel 0 (DG s s.length pre.length)= .ok (pT ((match r with|[]=>true|c::r=>ir (pre.length==0) c&&r.all (ir false))&&vQ s))
 |r,pre,0,_,hf=>by omega
 |[],pre,fuel+1,hp,_=>by
  refine(CF (pieces (R:=R0) E (an mi) pM fW 0 .ok fuel) s s.length pre.length).trans ?_
  have h1:¬((pre.length:Int)<s.length):=by rw[hp,List.append_nil];omega
  have h2:cW (s,())=true:=gI.2 hs
  simp only[h1,decide_false,cond_false,h2,cond_true]
  unfold vQ
  cases (!s==[])
  ·rfl
  ·cases decide ((s.length:Int)≤64)<;>rfl
 |c::r,pre,fuel+1,hp,hf=>by
  have hlen:pre.length+1+r.length=s.length:=by rw[hp];simp;omega
  have ih:=rq hs r (pre++[c]) fuel (by simp[hp]) (by simpa using hf)
  refine(CF (pieces (R:=R0) E (an mi) pM fW 0 .ok fuel) s s.length pre.length).trans ?_
  have h1:(pre.length:Int)<s.length:=by omega
  have h2:inI (pre.length:Int) s.length=true:=cq (by omega) (by omega)
  have h3:List.getD s pre.length 0=c:=by rw[hp];exact cV _ _ _
  have h4:IntKind.wrap .i64 ((pre.length:Int)+1)=(pre.length:Int)+1:=wrap64 (by omega) (by omega)
  have h5:(((pre++[c]).length:Nat):Int)=(pre.length:Int)+1:=by simp
  have h6:((pre++[c]).length==0)=false:=by simp
  have h7:((pre.length:Int)==0)=(pre.length==0):=by
   rw[Bool.eq_iff_iff]
   simp only[beq_iff_eq]
   omega
  have h8:(match r with|[]=>true|c::r=>ir ((pre++[c]).length==0) c&&r.all (ir false))=r.all (ir false):=by
   cases r with
   |nil=>rfl
   |cons d r=>simp
  have ih2:pieces (R:=R0) E (an mi) pM fW 0 .ok fuel 0 (DG s s.length ((pre.length:Int)+1))= .ok (pT (r.all (ir false)&&vQ s)):=by
   rw[h5]at ih
   refine ih.trans ?_
   cases r with
   |nil=>rfl
   |cons d r=>rw[h6];rfl
  simp only[h1,h2,h3,h4,h7,Int.toNat_natCast,decide_true,cond_true]
  show _=Rs.ok (pT ((isLet c.toNat||(!(pre.length==0)&&aM c.toNat))&&r.all (ir false)&&vQ s))
  cases isLet (c.toNat:Int)
  ·cases pre.length==0
   ·cases aM (c.toNat:Int)
    ·rfl
    ·exact ih2
   ·rfl
  ·exact ih2
theorem CM(ht:fX G):aT Tryz.prog G mi:=.cons (aD fun x _=>xk x) (.cons (aD fun x _=>xn x) (.cons (aD fun x h=>EC ht x h) .nil))
theorem sH(ht:fX G)(x:ai bB)(hx:cW x=true):SAD Tryz.prog G 14 bB cd x (xY x):=by
 obtain⟨s,⟨⟩⟩:=x
 have hs:(List.length s:Int)≤1099511627776:=gI.1 hx
 have h:=rq hs s [] (s.length+1) rfl (Nat.lt_succ_self _)
 have e:∀s:List UInt8,((match s with|[]=>true|c::r=>ir (([]:List UInt8).length==0) c&&r.all (ir false))&&vQ s)=bT s:=fun s=>by
  cases s<;>rfl
 have h9:=h.trans (congrArg (fun b=>Rs.ok (pT b)) (e s))
 exact bh (aS []) (aE (CM ht)) MO (.inl cb) ((Gn (pieces (R:=R0) E (an mi) pM fW 0 .ok (s.length+1)) s).trans h9)
end Go.Sx.Tryz
namespace Go.Proofs
open Go.Shelf
def Tryz.lays169_ren:Go.Shelf.Ren:=⟨fun|169=>30|n=>n,fun|70=>62|9=>9|0=>0|72=>65|37=>63|127=>108|3=>3|5=>5|n=>n,fun|n=>n⟩
theorem Tryz.lays169:Go.Proofs.Lays.n169 Tryz.prog Tryz.lays169_ren:={
 mixed:=by kernel_rfl
 f169:=Tryz.func30.trans (congrArg some (by kernel_rfl))
 t0:=Tryz.underlying0
 a0:=Tryz.isAgg0
 z0:=Tryz.sizeOf0
 v0:=Tryz.zeroValue0
 t3:=Tryz.underlying3
 a3:=Tryz.isAgg3
 z3:=Tryz.sizeOf3
 v3:=Tryz.zeroValue3
 t9:=Tryz.underlying9
 a9:=Tryz.isAgg9
 z9:=Tryz.sizeOf9
 v9:=Tryz.zeroValue9
 t37:=Tryz.underlying63
 a37:=Tryz.isAgg63
 z37:=Tryz.sizeOf63
 v37:=Tryz.zeroValue63
 t70:=Tryz.underlying62
 a70:=Tryz.isAgg62
 z70:=Tryz.sizeOf62
 v70:=Tryz.zeroValue62
 t72:=Tryz.underlying65
 a72:=Tryz.isAgg65
 z72:=Tryz.sizeOf65
 v72:=Tryz.zeroValue65
 t127:=Tryz.underlying108
 a127:=Tryz.isAgg108
 z127:=Tryz.sizeOf108
 v127:=Tryz.zeroValue108}
theorem Tryz.Builder_Extra_169:Builder.Extra Tryz.prog Tryz.lays169_ren:={
 sizeBuilder:=by kernel_rfl
 liesBuilder:=by kernel_rfl
 t5:=Tryz.underlying5
 a5:=Tryz.isAgg5
 z5:=Tryz.sizeOf5
 v5:=Tryz.zeroValue5
 infoByte:=by kernel_rfl
 cellsByte:=by kernel_rfl
 sizeByte:=by kernel_rfl
 neB5:=by decide}
open Go.RowKit
set_option maxHeartbeats 1000000 in
set_option maxRecDepth 100000 in
theorem Tryz.cc_used(b:Nat)(w:World)(h0:w.cell? ⟨b,0,none⟩=some (.pointer (some ⟨b,0,none⟩))):
  Calls Tryz.prog 63 #[.pointer (some ⟨b,0,none⟩)] w fun e w'=>e= .returned (.tuple #[])∧w'=w:=by
 obtain⟨j,hj,_⟩:=Option.map_eq_some_iff.1 Tryz.Builder_Extra_169.sizeBuilder
 go_enter Tryz.func63,Tryz.ntmps63
 go_wp2
 rw[Lib.run_neq_ptr_same w _ Tryz.underlying62 hj]
 go_wp2
 go_end0
 exact⟨rfl,rfl⟩
set_option maxHeartbeats 1000000 in
set_option maxRecDepth 100000 in
theorem Tryz.cc_fresh(b:Nat)(w:World)(h0:w.cell? ⟨b,0,none⟩=some (.pointer none))(hsh:w.shape? b=some (65,2))(hfz:w.frozen? ⟨b,0,none⟩=false):
  Calls Tryz.prog 63 #[.pointer (some ⟨b,0,none⟩)] w fun e w'=>e= .returned (.tuple #[])∧w'=w.setCell ⟨b,0,none⟩ (.pointer (some ⟨b,0,none⟩)):=by
 obtain⟨j,hj,hjs⟩:=Option.map_eq_some_iff.1 Tryz.Builder_Extra_169.sizeBuilder
 go_enter Tryz.func63,Tryz.ntmps63
 go_wp2
 rw[Lib.run_to_unsafe w ⟨b,0,none⟩ Tryz.underlying62 Tryz.underlying135 hj (by rw[hjs];decide) hsh (Nat.zero_lt_succ 1)]
 simp only[Result.andThen]
 rw[Oper.upon_value]
 go_wp2
 rw[run_callFunc_extern Tryz.func95 (by kernel_rfl) (by kernel_rfl) (by kernel_rfl) (e:=Extern.AbiNoEscape.same) (by kernel_rfl)]
 rw[Lib.run_noEscape]
 simp only[Result.andThen]
 rw[Oper.upon_value]
 go_wp2
 rw[Lib.run_from_unsafe w ⟨b,0,none⟩ Tryz.underlying135 Tryz.underlying62 hj hsh Tryz.Builder_Extra_169.liesBuilder]
 simp only[Result.andThen]
 rw[Oper.upon_value]
 go_wp2
 go_end0
 exact⟨rfl,rfl⟩
end Go.Proofs
namespace Go.Sx.Tryz
open Go Go.Sx Go.Proofs
set_option maxRecDepth 100000
variable{G:Nat→Obj→Prop}
def bsB(s:List Int):List Blk:=[.cells 65 [.bself 0,.own 1 0],.list 5 (.int .u8) 0 false s]
theorem MA:FIOK Tryz.prog 63 fi63:=⟨⟨Tryz.f63,Tryz.func63,rfl,rfl,rfl,by kernel_rfl⟩,by kernel_rfl⟩
theorem NC:FIOK Tryz.prog 30 fi30:=⟨⟨Tryz.f30,Tryz.func30,rfl,rfl,rfl,by kernel_rfl⟩,by kernel_rfl⟩
theorem HQ:aK Tryz.prog G 63 (ofT 63 (dM 65)):=by
 refine ja ?_ (kz 65 0)
 exact jF MA (fun b w h0 hsh hfz=>Tryz.cc_fresh b w h0 hsh hfz) (fun b w h0=>Tryz.cc_used b w h0)
theorem Ek:aK Tryz.prog G 30 (ofT 30 (fx 65 5)):=by
 refine ja ?_ (rE 65 5 0)
 exact nE NC (fun b g o cap l w h0 hcap h63 cur fz hbk hg hsz hcell=>mH Tryz.lays169 Tryz.Builder_Extra_169 b g o cap l w h0 hcap h63 cur fz hbk hg hsz hcell)
   (fun b w h=>mA Tryz.lays169 Tryz.Builder_Extra_169 b w h) (fun b g o cur w h fz hg=>jQ Tryz.lays169 Tryz.Builder_Extra_169 b g o cur w h fz hg)
   (fun b g o cap w hc h=>mo Tryz.lays169 Tryz.Builder_Extra_169 b g o cap w hc h)
def jD:List (Nat×aQ):=[(63,ofT 63 (dM 65))]
def app(s t:List Int):List Int:=s++t
theorem F8(s:List Int)(c:Int)(h:s.length+1<ar):body (R:=R0) E (an jD) yg [.ref 0 0,.int .u8 c] (bsB s) .ok=
  .ok (.ret .nili,[.cells 65 [.bself 0,.own 1 1],.list 5 (.int .u8) 1 false (s++[c])]):=by
 have h1:body (R:=R0) E (an jD) yg [.ref 0 0,.int .u8 c] (bsB s) .ok=(bif decide (s.length+1<ar)then .ok (.ret .nili,[.cells 65 [.bself 0,.own 1 1],.list 5 (.int .u8) 1 false (s++[c])])else .err 207):=by kernel_rfl
 rw[h1]
 simp only[h,decide_true,cond_true]
def wbC:aQ:=fun R args bs k=>match args,bs with
 |[.ref 0 0,.int .u8 c],[.cells 65 [.bself 0,.own 1 0],.list 5 (.int .u8) 0 false s]=>(match decide (List.length s+1<ar)with
  |true=>k (.ret .nili,[.cells 65 [.bself 0,.own 1 1],.list 5 (.int .u8) 1 false (app s [c])])
  |false=>.err 17)
 |_,_=>.err 17
theorem Bm:aK Tryz.prog G 120 wbC:=fun R args bs k r hr=>by
 unfold wbC at hr
 split at hr
 ·split at hr
  ·rename_i hd
   exact⟨_,hr,bb (aS []) (aE (.cons HQ .nil)) Hk (F8 _ _ (of_decide_eq_true hd))⟩
  ·cases hr
 ·cases hr
end Go.Sx.Tryz
namespace Go.Sx.Tryz
open Go Go.Sx Go.Proofs
set_option maxRecDepth 100000
def j4:List (Nat×aQ):=[(76,dL 76 Ld),(120,l6 120 wbC),(30,ofT 30 (fx 65 5))]
def lX:List Cut:=[⟨[true,true,true,false,false],some ⟨[(0,[]),(4,[])],[[.keep,.keep,.own 46 aH]]⟩⟩,⟨[true,true,true,true,true,true,false,true,false,false],some ⟨[(0,[]),(6,[]),(7,[])],[[.bself,.own 5 (.int .u8)]]⟩⟩]
def BZ(s:List UInt8):St:={tmps:=[(0,.str s),(4,.ref 0 0)],blks:=[(0,.cells 89 [.str s,.int .i64 0,.own 1 0]),(1,.list 46 aH 0 false [])],next:=2}
def sW(s:List UInt8)(o:List Int)(k:Int):St:={tmps:=[(0,.str s),(6,.ref 0 0),(7,.int .i64 k)],blks:=[(0,.cells 65 [.bself 0,.own 1 0]),(1,.list 5 (.int .u8) 0 false o)],next:=2}
end Go.Sx.Tryz
namespace Go.Sx.Tryz
open Go Go.Sx
set_option maxRecDepth 100000
theorem B4(J:Jump R0)(s:List UInt8):start E (an j4) jI lX J [.str s] [] .ok=bif s==[]then Rs.ok (Out.ret (AV.tup [AV.str [],Iz (Int.ofNat 5)]),[])else bif inI 0 (List.length s)then bif (↑(UInt8.toNat (List.getD s (Int.toNat 0) 0)):Int) !=34 then Rs.ok (Out.ret (AV.tup [AV.str [],Iz (Int.ofNat 5)]),[])else J 0 {tmps:=[(0,AV.str s),(4,AV.ref 0 0)],blks:=[(0,Blk.cells 89 [AV.str s,Iz 0,AV.own 1 0]),(1,Blk.list 46 aH 0 false [])],next:=2}else Rs.err 204:=by kernel_rfl
theorem D4(J:Jump R0)(s:List UInt8):resume E (an j4) (aR 0 lX 0) J [true,true,true,false,false] jI.code 1 (BZ s) (bX E 0 jI.results .ok)=bif iC s 0 then bif pz s 0 !=0 then Rs.ok (Out.ret (AV.tup [AV.str [],Iz (pz s 0)]),[])else bif jA s 0 !=(↑(List.length s):Int)then Rs.ok (Out.ret (AV.tup [AV.str [],Iz (Int.ofNat 5)]),[])else J 1 {tmps:=[(0,AV.str s),(6,AV.ref 0 0),(7,Iz (Int.ofNat 1))],blks:=[(0,Blk.cells 65 [AV.bself 0,AV.own 1 0]),(1,Blk.list 5 (Ty.int IntKind.u8) 0 false [])],next:=2}else Rs.err 3000076:=by kernel_rfl
theorem xX(J:Jump R0)(s:List UInt8)(o:List Int)(k:Int):resume E (an j4) (aR 0 lX 0) J [true,true,true,true,true,true,false,true,false,false] jI.code 1 (sW s o k) (bX E 0 jI.results .ok)=bif decide (k<IntKind.wrap IntKind.i64 ((↑(List.length s):Int)-1))then bif inI k (List.length s)then bif (↑(UInt8.toNat (List.getD s (Int.toNat k) 0)):Int)==92 then bif inI (IntKind.wrap IntKind.i64 (k+1)) (List.length s)then bif (↑(UInt8.toNat (List.getD s (Int.toNat (IntKind.wrap IntKind.i64 (k+1))) 0)):Int)==110 then bif decide (List.length o+1<ar)then J 1 {tmps:=[(0,AV.str s),(6,AV.ref 0 0),(7,Iz (IntKind.wrap IntKind.i64 (IntKind.wrap IntKind.i64 (k+1)+1)))],blks:=[(0,Blk.cells 65 [AV.bself 0,AV.own 1 0]),(1,Blk.list 5 (Ty.int IntKind.u8) 0 false (app o [10]))],next:=2}else Rs.err 17 else bif (↑(UInt8.toNat (List.getD s (Int.toNat (IntKind.wrap IntKind.i64 (k+1))) 0)):Int)==116 then bif decide (List.length o+1<ar)then J 1 {tmps:=[(0,AV.str s),(6,AV.ref 0 0),(7,Iz (IntKind.wrap IntKind.i64 (IntKind.wrap IntKind.i64 (k+1)+1)))],blks:=[(0,Blk.cells 65 [AV.bself 0,AV.own 1 0]),(1,Blk.list 5 (Ty.int IntKind.u8) 0 false (app o [9]))],next:=2}else Rs.err 17 else bif decide (List.length o+1<ar)then J 1 {tmps:=[(0,AV.str s),(6,AV.ref 0 0),(7,Iz (IntKind.wrap IntKind.i64 (IntKind.wrap IntKind.i64 (k+1)+1)))],blks:=[(0,Blk.cells 65 [AV.bself 0,AV.own 1 0]),(1,Blk.list 5 (Ty.int IntKind.u8) 0 false (app o [(↑(UInt8.toNat (List.getD s (Int.toNat (IntKind.wrap IntKind.i64 (k+1))) 0)):Int)]))],next:=2}else Rs.err 17 else Rs.err 1602 else bif decide (List.length o+1<ar)then J 1 {tmps:=[(0,AV.str s),(6,AV.ref 0 0),(7,Iz (IntKind.wrap IntKind.i64 (k+1)))],blks:=[(0,Blk.cells 65 [AV.bself 0,AV.own 1 0]),(1,Blk.list 5 (Ty.int IntKind.u8) 0 false (app o [(↑(UInt8.toNat (List.getD s (Int.toNat k) 0)):Int)]))],next:=2}else Rs.err 17 else Rs.err 1302 else bif List.all o isByte&&Nat.ble (List.length o) 9223372036854775807 then Rs.ok (Out.ret (AV.tup [AV.str (cC o),Iz 0]),[])else Rs.err 1000030:=by kernel_rfl
end Go.Sx.Tryz
namespace Go.Sx.Tryz
open Go Go.Sx Go.Proofs
set_option maxRecDepth 100000
variable{G:Nat→Obj→Prop}
def bo(t:List UInt8):List Int:=t.map fun b=>(b.toNat:Int)
theorem bI(t:List UInt8):(bo t).length=t.length:=List.length_map _
theorem jT(s:List UInt8):cC (bo s)=s:=by
 induction s with
 |nil=>rfl
 |cons c s ih=>
  have h:UInt8.ofNat ((c.toNat:Int)).toNat=c:=by simp
  show UInt8.ofNat ((c.toNat:Int)).toNat::cC (bo s)=_
  rw[h,ih]
theorem l8(s:List UInt8):(bo s).all isByte=true:=by
 rw[List.all_eq_true]
 intro x hx
 obtain⟨c,_,rfl⟩:=List.mem_map.1 hx
 have:=c.toNat_lt
 simp only[isByte,Bool.and_eq_true,decide_eq_true_eq]
 omega
def AW(d:UInt8):UInt8:=bif (d.toNat:Int)==110 then 10 else bif (d.toNat:Int)==116 then 9 else d
def mT:List UInt8→List UInt8
 |c::d::r=>bif (c.toNat:Int)==92 then AW d::mT r else c::mT (d::r)
 |_=>[]
def r8(s:List UInt8):List UInt8×Int:=bif s==[]then([],5)else bif at8 s 0 !=34 then([],5)else bif pz s 0 !=0 then([],pz s 0)else bif jA s 0 !=s.length then([],5)else(mT (s.drop 1),0)
def fg:Sig:=[(false,.str),(false,.int .i64)]
def NP(x:ai bB):ai fg:=((r8 x.1).1,(r8 x.1).2,())
def okU(s:List UInt8):Bool:=decide ((s.length:Int)≤1048576)
def gD(x:ai bB):Bool:=okU x.1
abbrev jK(n:Nat):Jump R0:=pieces (R:=R0) E (an j4) jI lX 0 .ok n
theorem ub(o:List UInt8)(c:UInt8):app (bo o) [(c.toNat:Int)]=bo (o++[c]):=by
 unfold app bo
 rw[List.map_append]
 rfl
theorem BB{s:List UInt8}(hs:(s.length:Int)≤1048576):∀(n:Nat) (r pre o:List UInt8),s=pre++r→r.length≤n→o.length≤pre.length→∃fuel,jK fuel 1 (sW s (bo o) pre.length)= .ok (.ret (.tup [.str (o++mT r),.int .i64 0]),[]):=by
 have hmr:ar=68719476736:=rfl
 have fin:∀(r pre o:List UInt8),s=pre++r→r.length≤1→o.length≤pre.length→∃fuel,jK fuel 1 (sW s (bo o) pre.length)= .ok (.ret (.tup [.str (o++mT r),.int .i64 0]),[]):=fun r pre o hp hr ho=>by
  refine⟨1,(xX (jK 0) s (bo o) pre.length).trans ?_⟩
  have hlen:pre.length+r.length=s.length:=by rw[hp];simp
  have w:IntKind.wrap .i64 ((s.length:Int)-1)=(s.length:Int)-1:=wrap64 (by omega) (by omega)
  have h1:¬((pre.length:Int)<(s.length:Int)-1):=by omega
  have h3:(List.all (bo o) isByte&&Nat.ble (List.length (bo o)) 9223372036854775807)=true:=by
   rw[l8,bI,Bool.true_and]
   exact Nat.ble_eq_true_of_le (by omega)
  have h4:mT r=[]:=by
   cases r with
   |nil=>rfl
   |cons c r=>cases r with
    |nil=>rfl
    |cons d r=>simp at hr
  rw[w,h3,jT,h4,List.append_nil]
  simp only[h1,decide_false,cond_false,cond_true]
 intro n
 induction n using Nat.strongRecOn with
 |_ n IH=>
  intro r pre o hp hn ho
  match r,hp,hn with
  |[],hp,hn=>exact fin [] pre o hp (by simp) ho
  |[c],hp,hn=>exact fin [c] pre o hp (by simp) ho
  |c::d::r,hp,hn=>
   simp only[List.length_cons]at hn
   have hlen:pre.length+1+1+r.length=s.length:=by rw[hp];simp;omega
   have w:IntKind.wrap .i64 ((s.length:Int)-1)=(s.length:Int)-1:=wrap64 (by omega) (by omega)
   have h1:(pre.length:Int)<(s.length:Int)-1:=by omega
   have h2:inI (pre.length:Int) s.length=true:=cq (by omega) (by omega)
   have h3:List.getD s pre.length 0=c:=by rw[hp];exact cV _ _ _
   have h4:IntKind.wrap .i64 ((pre.length:Int)+1)=(pre.length:Int)+1:=wrap64 (by omega) (by omega)
   have h5:IntKind.wrap .i64 ((pre.length:Int)+1+1)=(pre.length:Int)+1+1:=wrap64 (by omega) (by omega)
   have h7:inI ((pre.length:Int)+1) s.length=true:=cq (by omega) (by omega)
   have h8:List.getD s (Int.toNat ((pre.length:Int)+1)) 0=d:=by
    have:Int.toNat ((pre.length:Int)+1)=(pre++[c]).length:=by simp
    rw[this,hp,show pre++c::d::r=(pre++[c])++d::r by simp]
    exact cV _ _ _
   have h9:decide (List.length (bo o)+1<ar)=true:=by
    rw[bI,decide_eq_true_eq]
    omega
   have go:∀fuel,jK (fuel+1) 1 (sW s (bo o) pre.length)=_:=fun fuel=>xX (jK fuel) s (bo o) pre.length
   simp only[w,h1,h2,h3,h4,h5,h7,h8,h9,Int.toNat_natCast,decide_true,cond_true]at go
   cases e:(c.toNat:Int)==92
   ·obtain⟨fuel,ih⟩:=IH (n-1) (by omega) (d::r) (pre++[c]) (o++[c]) (by simp[hp]) (by simp only[List.length_cons];omega) (by simp;omega)
    have h10:(((pre++[c]).length:Nat):Int)=(pre.length:Int)+1:=by simp
    rw[h10,←ub]at ih
    refine⟨fuel+1,(go fuel).trans ?_⟩
    simp only[e,cond_false]
    refine Eq.trans ih ?_
    have:mT (c::d::r)=c::mT (d::r):=HJ e
    rw[this,List.append_assoc]
    rfl
   ·obtain⟨fuel,ih⟩:=IH (n-2) (by omega) r (pre++[c,d]) (o++[AW d]) (by simp[hp]) (by omega) (by simp;omega)
    have h10:(((pre++[c,d]).length:Nat):Int)=(pre.length:Int)+1+1:=by simp;omega
    rw[h10,←ub]at ih
    refine⟨fuel+1,(go fuel).trans ?_⟩
    have hu:mT (c::d::r)=AW d::mT r:=Hb e
    rw[hu]
    have fin2:Rs.ok ((.ret (.tup [.str (o++[AW d]++mT r),.int .i64 0]),[]):R0)= .ok (.ret (.tup [.str (o++AW d::mT r),.int .i64 0]),[]):=by
     rw[List.append_assoc]
     rfl
    simp only[e,cond_true]
    unfold AW at ih fin2⊢
    cases e1:(d.toNat:Int)==110
    ·cases e2:(d.toNat:Int)==116
     ·rw[e1,e2]at ih fin2
      exact Eq.trans ih fin2
     ·rw[e1,e2]at ih fin2
      exact Eq.trans ih fin2
    ·rw[e1]at ih fin2
     exact Eq.trans ih fin2
theorem AA(ht:fX G):aT Tryz.prog G j4:=.cons (cS (nW fun T a K ha=>DS (tO ht) T a K ha)) (.cons (jl Bm) (.cons Ek .nil))
theorem Fz{s:List UInt8}(hs:(s.length:Int)≤1048576):∃n,start (R:=R0) E (an j4) jI lX (jK n) [.str s] [] .ok= .ok (.ret (.tup [.str (r8 s).1,.int .i64 (r8 s).2]),[]):=by
 have go:∀n,start (R:=R0) E (an j4) jI lX (jK n) [.str s] [] .ok=_:=fun n=>B4 (jK n) s
 unfold r8
 cases e1:s==[]
 ·have h0:0<s.length:=by
   cases s with
   |nil=>simp at e1
   |cons c s=>simp
  simp only[e1,cq (show(0:Int)≤0 by omega) (show(0:Int)<s.length by omega),cond_true,cond_false]at go⊢
  cases e2:at8 s 0 !=34
  ·have e2':((((s.getD (Int.toNat 0) 0).toNat:Nat):Int) !=34)=false:=e2
   simp only[e2',cond_false]at go⊢
   have go2:∀n,jK (n+1) 0 (BZ s)=_:=fun n=>D4 (jK n) s
   have hok:iC s 0=true:=fV.2 ⟨by omega,by omega,by omega⟩
   simp only[hok,cond_true]at go2
   cases e3:pz s 0 !=0
   ·simp only[e3,cond_false]at go2⊢
    cases e4:jA s 0 !=(s.length:Int)
    ·simp only[e4,cond_false]at go2⊢
     obtain⟨fuel,hl⟩:=BB hs s.length (s.drop 1) (s.take 1) [] (List.take_append_drop 1 s).symm (by rw[List.length_drop];omega) (Nat.zero_le _)
     have:(((s.take 1).length:Nat):Int)=1:=by
      rw[List.length_take]
      omega
     rw[this]at hl
     exact⟨fuel+1,((go (fuel+1)).trans (go2 fuel)).trans hl⟩
    ·simp only[e4,cond_true]at go2⊢
     exact⟨1,(go 1).trans (go2 0)⟩
   ·simp only[e3,cond_true]at go2⊢
    exact⟨1,(go 1).trans (go2 0)⟩
  ·have e2':((((s.getD (Int.toNat 0) 0).toNat:Nat):Int) !=34)=true:=e2
   simp only[e2',cond_true]at go⊢
   exact⟨0,go 0⟩
 ·simp only[e1,cond_true]at go⊢
  exact⟨0,go 0⟩
theorem IX(ht:fX G)(x:ai bB)(hx:gD x=true):SAD Tryz.prog G 233 bB fg x (NP x):=by
 obtain⟨s,⟨⟩⟩:=x
 have hs:(List.length s:Int)≤1048576:=by
  have h:okU s=true:=hx
  simpa only[okU,decide_eq_true_eq]using h
 obtain⟨n,hn⟩:=Fz hs
 exact bh (aS []) (aE (AA ht)) HS (.inl cb) hn
end Go.Sx.Tryz
namespace Go.Sx
open Go
theorem q9{P:Program}{f:Nat}{fi:FI}(hf:FIOK P f fi){vals:Array Value}{D:Ctx}{bs:List Blk}(hm:D.m=aC (aq 0 bs))(hs:SRel D){av:AV}(hok:bs.all bH=true)(hp:bz av=true)
  (hc:Calls P f vals D.w fun e w'=>∃u,e= .returned u∧(∀D',ay D' av u)∧RowKit.Below D.w.heap.size D.w w'):bx P f vals D.w (bW D (.ret av,bs)):=by
 refine .inl ⟨cU hf _ _,Calls.mono hc fun e w' ⟨u,h1,hv,h2⟩=>?_⟩
 subst h1
 obtain⟨h3,h4⟩:=lT hs h2
 exact⟨av,{D with w:=w'},rfl,rfl,hm,h3,h4,hv _,hp,hok⟩
end Go.Sx
namespace Go.Sx.Tryz
open Go Go.Sx Go.Proofs
set_option maxRecDepth 100000
variable{G:Nat→Obj→Prop}
def dR(s:List UInt8):Int×Bool:=match Lib.parseIntB 64 s with
 | .ok v=>(v,true)
 |_=>(Lib.intSat 64 s,false)
def sV(s:List UInt8):Int×Int:=bif !dt s then(0,5)else bif decide ((s.length:Int)>1)&&at8 s 0==48 then(0,5)else bif (dR s).2 then((dR s).1,0)else(0,1)
def wV:Sig:=[(false,.int .i64),(false,.int .i64)]
def Mk(x:ai bB):ai wV:=((sV x.1).1,(sV x.1).2,())
theorem G2:FIOK Tryz.prog 238 NG:=⟨⟨Tryz.f238,Tryz.func238,rfl,rfl,rfl,by kernel_rfl⟩,by kernel_rfl⟩
def Ic:aQ:=fun R args bs k=>match args,bs with
 |[.str s,.int .i64 a,.int .i64 b],[]=>(match dt s&&(okU s&&(a==10&&b==64))with
  |true=>(match(dR s).2 with
   |true=>k (.ret (.tup [.int .i64 (dR s).1,.nili]),[])
   |false=>k (.ret (.tup [.int .i64 (dR s).1,.iface 193 .anyp]),[]))
  |false=>.err 144)
 |_,_=>.err 144
theorem mv{M:Nat}:∀(s:List UInt8) (acc:Nat),(s.all fun c=>aM c.toNat)=true→Lib.parseUintM M acc s≠Lib.NumEnd.syntax
 |[],acc,_=>by simp[Lib.parseUintM]
 |c::r,acc,h=>by
  rw[List.all_cons,Bool.and_eq_true]at h
  have h1:48≤c.toNat∧c.toNat≤57:=by
   have:=h.1
   unfold aM at this
   simp only[Bool.and_eq_true,decide_eq_true_eq]at this
   omega
  unfold Lib.parseUintM
  rw[if_pos h1]
  split
  ·simp
  ·split
   ·simp
   ·exact mv r _ h.2
theorem xG{s:List UInt8}(h:dt s=true):Lib.parseIntB 64 s≠Lib.NumEnd.syntax:=by
 unfold dt at h
 rw[Bool.and_eq_true]at h
 cases s with
 |nil=>simp at h
 |cons c r=>
  have h0:=h.1
  rw[List.all_cons,Bool.and_eq_true]at h0
  have h1:48≤c.toNat∧c.toNat≤57:=by
   have:=h0.1
   unfold aM at this
   simp only[Bool.and_eq_true,decide_eq_true_eq]at this
   omega
  have h2:¬(c.toNat=43∨c.toNat=45):=by omega
  have h3:=mv (M:=2^64-1) (c::r) 0 h.1
  unfold Lib.parseIntB
  simp only[if_neg h2]
  have h4:Lib.parseUintB 64 (c::r)=Lib.parseUintM (2^64-1) 0 (c::r):=by
   unfold Lib.parseUintB
   rw[if_neg (by simp)]
  rw[h4]
  split
  ·rename_i e;exact absurd e h3
  ·simp
  ·split
   ·simp
   ·split<;>simp
theorem ES(ht:fX G):aK Tryz.prog G 238 Ic:=fun R args bs k r hr=>by
 unfold Ic at hr
 split at hr
 ·rename_i s a b
  split at hr
  ·rename_i hd
   simp only[Bool.and_eq_true,beq_iff_eq]at hd
   obtain⟨hd,hu,rfl,rfl⟩:=hd
   have hu':(List.length s:Int)≤1048576:=by simpa only[okU,decide_eq_true_eq]using hu
   rcases hp:Lib.parseIntB 64 s with v|_|_
   ·have e:dR s=(v,true):=by unfold dR;rw[hp]
    rw[e]at hr
    refine⟨_,hr,fun D vals hG hm hs hv=>?_⟩
    rw[dU (us:=[.string ⟨⟨s⟩⟩,.int .i64 10,.int .i64 64]) rfl hv]
    refine q9 G2 hm hs rfl rfl (Calls.mono (Any.strconv_ParseInt_10_at64_ok Tryz.laysC174 ⟨⟨s⟩⟩ ?_ v hp D.w) fun e w' h=>?_)
    ·show s.length≤_
     omega
    ·refine⟨_,h.1,fun D'=>⟨_,rfl,_,_,rfl,rfl,_,_,rfl,rfl,rfl⟩,?_⟩
     rcases h.2 with h2|⟨t,h2⟩
     ·exact gj h2 rfl
     ·rw[h2];exact Lib.bytesWorld_below _ _ _
   ·exact absurd hp (xG hd)
   ·have e:dR s=(Lib.intSat 64 s,false):=by unfold dR;rw[hp]
    rw[e]at hr
    refine⟨_,hr,fun D vals hG hm hs hv=>?_⟩
    rw[dU (us:=[.string ⟨⟨s⟩⟩,.int .i64 10,.int .i64 64]) rfl hv]
    obtain⟨ev,he1,he2⟩:=(ht D hG hs).er
    refine q9 G2 hm hs rfl rfl (Calls.mono (Any.strconv_ParseInt_10_at64_range Tryz.laysC174 ⟨⟨s⟩⟩ ?_ hp ev D.w he1 he2) fun e w' ⟨N,h⟩=>?_)
    ·show s.length≤_
     omega
    ·exact⟨_,h.1,fun D'=>⟨_,rfl,_,_,rfl,rfl,_,_,rfl,⟨_,rfl,_,rfl⟩,rfl⟩,h.2.2.2⟩
  ·cases hr
 ·cases hr
def we:List (Nat×aQ):=[(136,bg 136 bB cd cW D5),(238,Ic)]
end Go.Sx.Tryz
namespace Go.Sx.Tryz
open Go Go.Sx
set_option maxRecDepth 100000
theorem Gf(s:List UInt8):body (R:=R0) E (an we) zt [.str s] [] .ok=bif cW (s,())then bif !dt s then Rs.ok (Out.ret (AV.tup [Iz 0,Iz (Int.ofNat 5)]),[])else bif decide ((↑(List.length s):Int)>1)then bif inI 0 (List.length s)then bif (↑(UInt8.toNat (List.getD s (Int.toNat 0) 0)):Int)==48 then Rs.ok (Out.ret (AV.tup [Iz 0,Iz (Int.ofNat 5)]),[])else bif dt s&&(okU s&&(10==10&&64==64))then bif Prod.snd (dR s)then Rs.ok (Out.ret (AV.tup [Iz (Prod.fst (dR s)),Iz 0]),[])else Rs.ok (Out.ret (AV.tup [Iz 0,Iz (Int.ofNat 1)]),[])else Rs.err 144 else Rs.err 109 else bif dt s&&(okU s&&(10==10&&64==64))then bif Prod.snd (dR s)then Rs.ok (Out.ret (AV.tup [Iz (Prod.fst (dR s)),Iz 0]),[])else Rs.ok (Out.ret (AV.tup [Iz 0,Iz (Int.ofNat 1)]),[])else Rs.err 144 else Rs.err 3000136:=by kernel_rfl
end Go.Sx.Tryz
namespace Go.Sx.Tryz
open Go Go.Sx Go.Proofs
set_option maxRecDepth 100000
variable{G:Nat→Obj→Prop}
theorem ya{s:List UInt8}:okU s=true↔(s.length:Int)≤1048576:=by simp only[okU,decide_eq_true_eq]
theorem Gq{s:List UInt8}(hu:okU s=true):body (R:=R0) E (an we) zt [.str s] [] .ok= .ok (.ret (.tup [.int .i64 (sV s).1,.int .i64 (sV s).2]),[]):=by
 have h1:=ya.1 hu
 have h2:cW (s,())=true:=gI.2 (show(s.length:Int)≤1099511627776 by omega)
 have go:=Gf s
 simp only[h2,cond_true]at go
 refine go.trans ?_
 unfold sV
 cases e1:dt s
 ·rfl
 ·simp only[e1,hu,Bool.not_true,cond_false,Bool.true_and]
  cases e2:decide ((s.length:Int)>1)
  ·simp only[cond_false,Bool.false_and]
   show(bif (dR s).2 then _ else _)=_
   cases (dR s).2<;>rfl
  ·rw[decide_eq_true_eq]at e2
   rw[cq (show(0:Int)≤0 by omega) (show(0:Int)<s.length by omega)]
   simp only[cond_true,Bool.true_and]
   show(bif at8 s 0==48 then _ else _)=_
   cases at8 s 0==48
   ·show(bif (dR s).2 then _ else _)=_
    cases (dR s).2<;>rfl
   ·rfl
theorem zQ(ht:fX G):aT Tryz.prog G we:=.cons (aD fun x h=>yJ x h) (.cons (ES ht) .nil)
theorem JK(ht:fX G)(x:ai bB)(hx:gD x=true):SAD Tryz.prog G 231 bB wV x (Mk x):=by
 obtain⟨s,⟨⟩⟩:=x
 exact bb (aS []) (aE (zQ ht)) Hd (Gq hx)
end Go.Sx.Tryz
namespace Go.Sx
open Go
theorem kH{P:Program}{G:Nat→Obj→Prop}{f:Nat}{ts:Sig}{xs:List AV}{x:ai ts}{bs:List Blk}{a0:AV}{o:Out×List Blk}(ht:ib (aC (aq 0 bs)) ts xs=some (x,[]))
  (h:SA P G f (a0::cy ts x) bs o):SA P G f (a0::xs) bs o:=fun D vals hG hm hs hv=>by
 rw[←hm]at ht
 obtain⟨v0,r,rfl,v1,v2⟩:=hv
 obtain⟨C1,s1,s2,s3,s4,s5,s6,s7,s8⟩:=cX hs []
 have hv1:=gf hs ht v2 s4 s8 s7
 rw[ll hm [],←ob]at s3
 have hA:=h C1 (v0::r) (s2.glEq.trans hG) s3 s1 ⟨v0,r,rfl,v1.mono s2,hv1⟩
 rw[s4]at hA
 refine bx.mono hA fun e w' hR=>?_
 cases e with
 |returned u=>
  obtain⟨v,D1,e2,e3,e4,e5,e6,e7,e8,e9⟩:=hR
  exact⟨v,D1,e2,e3,e4,e5,s2.trans e6,e7,e8,e9⟩
 |panicked ch=>
  obtain⟨v,e2,e3⟩:=hR
  exact⟨v,e2,e3.after s2⟩
 |outgrown=>exact hR
end Go.Sx
namespace Go.Sx.Tryz
open Go Go.Sx Go.Proofs
set_option maxRecDepth 100000
variable{G:Nat→Obj→Prop}
abbrev aB:Ty:=.pair (.int .i64) (.pair (.int .i64) (.pair (.int .i64) (.pair (.slice (.int .i64)) (.pair .str (.pair (.int .i64) (.pair .str (.pair (.int .i64) (.pair .str (.pair (.int .i64) (.pair (.int .i64) (.pair (.int .i64) (.pair (.slice (.int .i64)) .unit))))))))))))
abbrev Nd:Type:=aB.den
def ae(x:Nd):Int:=x.1
def nAt(x:Nd):Int:=x.2.1
def nTo(x:Nd):Int:=x.2.2.1
def aa(x:Nd):List Int:=x.2.2.2.1
def aw(x:Nd):List UInt8:=x.2.2.2.2.1
def ax(x:Nd):Int:=x.2.2.2.2.2.1
def aA(x:Nd):List UInt8:=x.2.2.2.2.2.2.1
def ak(x:Nd):Int:=x.2.2.2.2.2.2.2.1
def ah(x:Nd):List UInt8:=x.2.2.2.2.2.2.2.2.1
def nN(x:Nd):Int:=x.2.2.2.2.2.2.2.2.2.1
def nW1(x:Nd):Int:=x.2.2.2.2.2.2.2.2.2.2.1
def nW2(x:Nd):Int:=x.2.2.2.2.2.2.2.2.2.2.2.1
def aF(x:Nd):List Int:=x.2.2.2.2.2.2.2.2.2.2.2.2.1
def aU(l:List Int)(i:Nat):Int:=l.getD i 0
def JG(l:List Int)(i:Nat)(v:Int):List Int:=l.set i v
def mkN(kind at_ to_:Int)(kids:List Int)(text:List UInt8)(base:Int)(name:List UInt8)(dims:Int)(marks:List UInt8)(n w1 w2:Int)(ends:List Int):Nd:=(kind,at_,to_,kids,text,base,name,dims,marks,n,w1,w2,ends,())
def nd0:Nd:=mkN 0 0 0 [] [] 0 [] 0 [] 0 0 0 []
def aj(l:List Nd)(i:Nat):Nd:=l.getD i nd0
inductive PR(α:Type)where
 |ok (y:α) (a d:Int) (A:List Nd)
 |fault (c p:Int)
 |bad
def PR.bindR{α R:Type}(r:PR α)(k:α→Int→Int→List Nd→Rs R)(e:Int→Int→Rs R):Rs R:=match r with
 | .ok y a d A=>k y a d A
 | .fault c p=>e c p
 | .bad=>.err 77
def PR.bind{α β:Type}(r:PR α)(k:α→Int→Int→List Nd→PR β):PR β:=match r with
 | .ok y a d A=>k y a d A
 | .fault c p=>.fault c p
 | .bad=>.bad
def bsP(T:List UInt8)(K:List Tok)(a d:Int)(A:List Nd):List Blk:=[.cells 85 [.str T,.sl aH K,.int .i64 a,.int .i64 d,.own 1 0,.int .i64 0],.list 52 aB 0 false A]
def mc(T:List UInt8)(K:List Tok)(a d:Int)(A:List Nd):List Blk:=[.cells 85 [.str T,.sl aH K,.int .i64 a,.int .i64 d,.own 1 1,.int .i64 0],.list 52 aB 1 false A]
abbrev PF(ts rs:Sig):Type:=List UInt8→List Tok→Int→Int→List Nd→ai ts→PR (ai rs)
def wZ(f:Nat)(ts rs:Sig)(F:PF ts rs):aQ:=fun R args bs k=>match args,bs with
 | .ref 0 0::xs,[.cells 85 [.str T,.sl tK K,.int .i64 a,.int .i64 d,.own 1 0,.int .i64 z],.list 52 nT 0 false A]=>
  (match z==0,dc tK aH K,dc nT aB A,ib (aC (aq 0 [.cells 85 [.str T,.sl tK K,.int .i64 a,.int .i64 d,.own 1 0,.int .i64 z],.list 52 nT 0 false A])) ts xs with
  |true,some K,some A,some (x,[])=>(F T K a d A x).bindR (fun y a d A=>k (.ret (cr rs y),mc T K a d A)) (fun c p=>k (.panic (.iface 35 (.agg [.int .i64 c,.int .i64 p])),[]))
  |_,_,_,_=>.err (5000000+f))
 |_,_=>.err (5100000+f)
def bG(G:Nat→Obj→Prop)(f:Nat)(ts rs:Sig)(F:PF ts rs):Prop:=∀T K a d A x,match F T K a d A x with
 | .ok y a' d' A'=>SA Tryz.prog G f (.ref 0 0::cy ts x) (bsP T K a d A) (.ret (cr rs y),mc T K a' d' A')
 | .fault c p=>SA Tryz.prog G f (.ref 0 0::cy ts x) (bsP T K a d A) (.panic (.iface 35 (.agg [.int .i64 c,.int .i64 p])),[])
 | .bad=>True
theorem Ge{f:Nat}{ts rs:Sig}{F:PF ts rs}(h:bG G f ts rs F):aK Tryz.prog G f (wZ f ts rs F):=fun R args bs k r hr=>by
 unfold wZ at hr
 split at hr
 ·rename_i xs T tK K a d z nT A
  split at hr
  ·rename_i K' A' x hz hK hA ht
   obtain⟨e,hK⟩:=fb hK
   subst e
   subst hK
   obtain⟨e,hA⟩:=fb hA
   subst e
   subst hA
   have hz:z=0:=by simpa using hz
   subst hz
   have h1:=h T K a d A x
   cases e:F T K a d A x with
   |ok y a' d' A'=>
    rw[e]at h1 hr
    exact⟨_,hr,kH ht h1⟩
   |fault c p=>
    rw[e]at h1 hr
    exact⟨_,hr,kH ht h1⟩
   |bad=>
    rw[e]at hr
    cases hr
  ·cases hr
 ·cases hr
def dj(f:Nat)(ts rs:Sig)(F:PF ts rs):aQ:=nY f 1 ts (AB f (dL f (wZ f ts rs F)))
theorem bu{f:Nat}{ts rs:Sig}{F:PF ts rs}(h:bG G f ts rs F):aK Tryz.prog G f (dj f ts rs F):=ov (sc (cS (Ge h)))
end Go.Sx.Tryz
namespace Go.Sx
open Go
theorem KC{get:Get}{q:Nat→Nat}{a:AV}(h:dat a=true):gA get q a=some a:=by
 cases a<;>first|(cases h;done)|rfl
theorem yv{get:Get}{q:Nat→Nat}:∀{xs:List AV},xs.all dat=true→cZ (gA get q) xs=some xs
 |[],_=>rfl
 |a::xs,h=>by
  simp only[List.all_cons,Bool.and_eq_true]at h
  simp only[cZ,KC h.1,yv h.2]
theorem BC{get:Get}{q:Nat→Nat}{b:Bool}{t:Ty}{x:t.den}:gC get q (fj b t x)=some (fj b t x)∧gV get q (fj b t x)=some (fj b t x):=by
 have hd:=ix t x
 cases b with
 |true=>
  have:cZ (gA get q) (flat t x)=some (flat t x):=yv hd
  simp only[fj,gC,gV,this,and_self]
 |false=>
  rcases qe (t:=t) (x:=x)with⟨a,_,e,ha⟩|e
  ·rw[e]
   cases a<;>first|(cases ha;done)|exact⟨rfl,rfl⟩
  ·rw[e]
   exact⟨rfl,rfl⟩
theorem Bg{get:Get}{q:Nat→Nat}:∀{ts:Sig} {x:ai ts},cZ (gC get q) (cy ts x)=some (cy ts x)
 |[],_=>rfl
 |(b,t)::r,x=>by simp only[cy,cZ,BC.1,Bg]
theorem Jq{get:Get}{q:Nat→Nat}{rs:Sig}{y:ai rs}:gV get q (cr rs y)=some (cr rs y):=by
 have h:=Bg (get:=get) (q:=q) (ts:=rs) (x:=y)
 cases rs with
 |nil=>rfl
 |cons p r=>
  obtain⟨b,t⟩:=p
  cases r with
  |nil=>exact BC.2
  |cons p2 r2=>
   obtain⟨b2,t2⟩:=p2
   show gV get q (.tup (cy ((b,t)::(b2,t2)::r2) y))=_
   simp only[gV,h]
   rfl
theorem SA.pan{P:Program}{G:Nat→Obj→Prop}{f:Nat}{args:List AV}{bs l:List Blk}{v:AV}(h:SA P G f args bs (.panic v,l)):SA P G f args bs (.panic v,[]):=fun D vals hG hm hs hv=>by
 refine bx.mono (h D vals hG hm hs hv) fun e w' hR=>?_
 cases e with
 |returned u=>obtain⟨v,D',e1,_⟩:=hR;cases e1
 |panicked c=>exact hR
 |outgrown=>exact hR
end Go.Sx
namespace Go.Sx.Tryz
open Go Go.Sx Go.Proofs
set_option maxRecDepth 100000
variable{G:Nat→Obj→Prop}
def af(K:List Tok)(a:Int):Tok:=K.getD a.toNat (Ty.dflt aH)
def bsG(g:Nat)(T:List UInt8)(K:List Tok)(a d:Int)(A:List Nd):List Blk:=[.cells 85 [.str T,.sl aH K,.int .i64 a,.int .i64 d,.own 1 g,.int .i64 0],.list 52 aB g false A]
def Ans(rs:Sig)(T:List UInt8)(K:List Tok)(b:Rs R0)(r:PR (ai rs)):Prop:=match r with
 | .ok y a d A=>∃g v l' m,b= .ok (.ret v,bsG g T K a d A++l')∧ud (aC (aq 0 (bsG g T K a d A++l'))) rs v=some (y,m)∧m.any (Nat.beq 1)=false
 | .fault c p=>∃l,b= .ok (.panic (.iface 35 (.agg [.int .i64 c,.int .i64 p])),l)
 | .bad=>True
variable{rs:Sig}{T:List UInt8}{K:List Tok}
theorem Ans.bad{b:Rs R0}:Ans rs T K b .bad:=trivial
theorem Ans.flt{c p:Int}{l:List Blk}:Ans rs T K (.ok (.panic (.iface 35 (.agg [.int .i64 c,.int .i64 p])),l)) (.fault c p):=⟨l,rfl⟩
theorem Ans.bif{c:Bool}{b b':Rs R0}{r r':PR (ai rs)}(h:c=true→Ans rs T K b r)(h':c=false→Ans rs T K b' r'):Ans rs T K (bif c then b else b') (bif c then r else r'):=by
 cases c
 ·exact h' rfl
 ·exact h rfl
theorem Ans.bind{α:Type}{r:PR α}{k:α→Int→Int→List Nd→Rs R0}{e:Int→Int→Rs R0}{k':α→Int→Int→List Nd→PR (ai rs)}(h:∀y a d A,r= .ok y a d A→Ans rs T K (k y a d A) (k' y a d A))
  (he:∀c p,Ans rs T K (e c p) (.fault c p)):Ans rs T K (r.bindR k e) (r.bind k'):=by
 cases r with
 |ok y a d A=>exact h y a d A rfl
 |fault c p=>exact he c p
 |bad=>trivial
theorem lA(T:List UInt8)(K:List Tok)(a d:Int)(A:List Nd):xq (bsP T K a d A):=fun ee tt gg sh l hm=>by
 simp only[bsP,List.mem_cons,List.not_mem_nil,or_false,reduceCtorEq,false_or]at hm
 cases hm
 rfl
theorem GB{f g:Nat}{args:List AV}{y:ai rs}{a d a' d':Int}{A A':List Nd}(h:SA Tryz.prog G f args (bsP T K a d A) (.ret (cr rs y),bsG g T K a' d' A')):
  SA Tryz.prog G f args (bsP T K a d A) (.ret (cr rs y),mc T K a' d' A'):=by
 refine SA.bump (q:=fun _=>1) h (lA T K a d A) (fun _ _=>Nat.le_refl _) Jq ?_ ?_
 ·simp[gBs,gB,cZ,gA,aq,aC,mc,bsG]
 ·rw[jh.2.1]
  rfl
theorem SA.dataP{f:Nat}{args:List AV}{rs:Sig}{v:AV}{T:List UInt8}{K:List Tok}{a d a' d':Int}{A A':List Nd}{g:Nat}{l':List Blk}(h:SA Tryz.prog G f args (bsP T K a d A) (.ret v,bsG g T K a' d' A'++l')){y:ai rs}{m:List Nat}
  (ht:ud (aC (aq 0 (bsG g T K a' d' A'++l'))) rs v=some (y,m)) (hm1:m.any (Nat.beq 1)=false):SA Tryz.prog G f args (bsP T K a d A) (.ret (cr rs y),bsG g T K a' d' A'):=fun D vals hG hm hs hv=>by
 refine(h D vals hG hm hs hv).mono fun e w' hR=>?_
 cases e with
 |returned u=>
  obtain⟨v',D',e1,e2,e3,e4,e5,e6,e7,e8⟩:=hR
  simp only[Out.ret.injEq]at e1
  subst e1
  obtain⟨C1,s1,s2,s3,s4,s5,s6,s7,s8⟩:=cX e4 m
  have e3':D'.m=aC (aq 0 (bsG g T K a' d' A'++l')):=e3
  rw[←e3']at ht
  have hv:=q0 e4 ht e6 s4 s8 s7
  rw[ll e3' m]at s3
  have hsh:cG m 0 (bsG g T K a' d' A'++l')=bsG g T K a' d' A'++cG m 2 l':=by
   show Blk.cells 85 _::Blk.list 52 aB g (match m.any (Nat.beq 1)with|true=>true|false=>false) A'::cG m 2 l'=_
   rw[hm1]
   rfl
  rw[hsh]at s3
  have hreach:reach C1.m 200 (List.range (bsP T K a d A).length++[]) []=some [0,1]:=by
   rw[s3]
   rfl
  have hget:getAll C1.m [0,1]=some (bsG g T K a' d' A'):=by
   rw[s3]
   rfl
  obtain⟨s9,eE,hren,_⟩:=gu (bs:=bsP T K a d A) (more:=[]) hm (e5.trans s2) s1 hreach hget rfl
  obtain⟨r1,r2,r3⟩:=jh (rs:=rs) (y:=y)
  have:=hren.relV (a:=cr rs y) (fun b hb=>by rw[r1]at hb;cases hb) r2 hv
  rw[r3]at this
  exact⟨_,Sub C1 [0,1] C1.fr ((bsG g T K a' d' A').map (cf (posOf [0,1]))),rfl,s4.trans e2,rfl,s9,eE,this,r2,rfl⟩
 |panicked ch=>obtain⟨v',e1,_⟩:=hR;cases e1
 |outgrown=>exact hR
theorem bK{f:Nat}{ts rs:Sig}{F:PF ts rs}{fi:FI}{lib:List (Nat×aQ)}(hf:FIOK Tryz.prog f fi)(hl:aT Tryz.prog G lib)
  (h:∀T K a d A x,Ans rs T K (body (R:=R0) E (an lib) fi (.ref 0 0::cy ts x) (bsP T K a d A) .ok) (F T K a d A x)):bG G f ts rs F:=fun T K a d A x=>by
 have h1:=h T K a d A x
 cases e:F T K a d A x with
 |ok y a' d' A'=>
  rw[e]at h1
  obtain⟨g,v,l',m,h2,ht,hm⟩:=h1
  exact GB (SA.dataP (bb (aS []) (aE hl) hf h2) ht hm)
 |fault c p=>
  rw[e]at h1
  obtain⟨l,h2⟩:=h1
  exact(bb (aS []) (aE hl) hf h2).pan
 |bad=>trivial
def oh(f:Nat)(ts rs:Sig)(F:PF ts rs)(ret:ai rs→AV)(more:ai rs→List Blk):aQ:=fun R args bs k=>match args,bs with
 | .ref 0 0::xs,[.cells 85 [.str T,.sl tK K,.int .i64 a,.int .i64 d,.own 1 0,.int .i64 z],.list 52 nT 0 false A]=>
  (match z==0,dc tK aH K,dc nT aB A,ib (aC (aq 0 [.cells 85 [.str T,.sl tK K,.int .i64 a,.int .i64 d,.own 1 0,.int .i64 z],.list 52 nT 0 false A])) ts xs with
  |true,some K,some A,some (x,[])=>(F T K a d A x).bindR (fun y a d A=>k (.ret (ret y),mc T K a d A++more y)) (fun c p=>k (.panic (.iface 35 (.agg [.int .i64 c,.int .i64 p])),[]))
  |_,_,_,_=>.err (5000000+f))
 |_,_=>.err (5100000+f)
def jH(G:Nat→Obj→Prop)(f:Nat)(ts rs:Sig)(F:PF ts rs)(ret:ai rs→AV)(more:ai rs→List Blk):Prop:=∀T K a d A x,match F T K a d A x with
 | .ok y a' d' A'=>SA Tryz.prog G f (.ref 0 0::cy ts x) (bsP T K a d A) (.ret (ret y),mc T K a' d' A'++more y)
 | .fault c p=>SA Tryz.prog G f (.ref 0 0::cy ts x) (bsP T K a d A) (.panic (.iface 35 (.agg [.int .i64 c,.int .i64 p])),[])
 | .bad=>True
theorem BM{f:Nat}{ts rs:Sig}{F:PF ts rs}{ret:ai rs→AV}{more:ai rs→List Blk}(h:jH G f ts rs F ret more):aK Tryz.prog G f (oh f ts rs F ret more):=fun R args bs k r hr=>by
 unfold oh at hr
 split at hr
 ·rename_i xs T tK K a d z nT A
  split at hr
  ·rename_i K' A' x hz hK hA ht
   obtain⟨e,hK⟩:=fb hK
   subst e
   subst hK
   obtain⟨e,hA⟩:=fb hA
   subst e
   subst hA
   have hz:z=0:=by simpa using hz
   subst hz
   have h1:=h T K a d A x
   cases e:F T K a d A x with
   |ok y a' d' A'=>
    rw[e]at h1 hr
    exact⟨_,hr,kH ht h1⟩
   |fault c p=>
    rw[e]at h1 hr
    exact⟨_,hr,kH ht h1⟩
   |bad=>
    rw[e]at hr
    cases hr
  ·cases hr
 ·cases hr
def vc(f:Nat)(ts rs:Sig)(F:PF ts rs)(ret:ai rs→AV)(more:ai rs→List Blk):aQ:=nY f 1 ts (AB f (dL f (oh f ts rs F ret more)))
theorem n9{f:Nat}{ts rs:Sig}{F:PF ts rs}{ret:ai rs→AV}{more:ai rs→List Blk}(h:jH G f ts rs F ret more):aK Tryz.prog G f (vc f ts rs F ret more):=ov (sc (cS (BM h)))
def iy(y:ai [(false,.slice (.int .i64))]):AV:=.own 2 0
def dI(y:ai [(false,.slice (.int .i64))]):List Blk:=[.list 3 (.int .i64) 0 false y.1]
def Dh(y:ai [(true,aB)]):AV:=.agg [.int .i64 (ae y.1),.int .i64 (nAt y.1),.int .i64 (nTo y.1),.nils,.str (aw y.1),.int .i64 (ax y.1),.str (aA y.1),.int .i64 (ak y.1),.str (ah y.1),.int .i64 (nN y.1),.int .i64 (nW1 y.1),.int .i64 (nW2 y.1),.own 2 0]
def rv(y:ai [(true,aB)]):List Blk:=[.list 3 (.int .i64) 0 false (aF y.1)]
end Go.Sx.Tryz
namespace Go.Sx.Tryz
open Go Go.Sx Go.Proofs
set_option maxRecDepth 100000
abbrev tI:Bool×Ty:=(false,.int .i64)
abbrev tS:Bool×Ty:=(false,.str)
abbrev tB:Bool×Ty:=(false,.bool)
abbrev tL:Bool×Ty:=(false,.slice (.int .i64))
abbrev tN:Bool×Ty:=(true,aB)
abbrev tT:Bool×Ty:=(true,aH)
structure Fns where
 next:PF [] [tT,tS]
 ahead:PF [tI] [tI,tS]
 skip:PF [] [tI]
 isS:PF [tS] [tB]
 take:PF [tS] [tB]
 want:PF [tS] [tI]
 name:PF [] [tS]
 add:PF [tN,tI] [tI]
 goIn:PF [] []
 few:PF [tI] []
 klass:PF [] [tI]
 member:PF [] [tI]
 params:PF [] [tL]
 typed:PF [tB] [tN]
 inner:PF [] [tN]
 base:PF [] [tN]
 block:PF [] [tI]
 declares:PF [] [tB]
 stat:PF [] [tI]
 word:PF [tS] [tN,tB]
 plainS:PF [tI] [tI]
 bracket:PF [] [tI]
 args:PF [] [tL]
 value:PF [] [tI]
 chain:PF [tI] [tI]
 unary:PF [] [tI]
 behind:PF [] [tI]
 primary:PF [] [tI]
 part:PF [tI,tI] [tI]
 literal:PF [tN,tI] [tI]
 kept:PF [tT,tS] [tI]
 made:PF [] [tN]
def vM:aQ:=fun R args bs k=>match args,bs with
 |[.int .i64 c,.int .i64 p],[]=>k (.panic (.iface 35 (.agg [.int .i64 c,.int .i64 p])),[])
 |_,_=>.err 71
def eY(s:List UInt8):Int:=bif s==[124,124]then 0 else bif s==[38,38]then 1 else bif s==[61,61]||s==[33,61]then 2 else bif s==[60]||(s==[60,61]||(s==[62]||s==[62,61]))then 3 else bif s==[43]||s==[45]then 4 else bif s==[42]||(s==[47]||s==[37])then 5 else-1
def Dk(x:ai bB):ai bP:=(eY x.1,())
def bq(l:List UInt8):Nat:=l.foldl (fun m c=>m*10+(c.toNat-48)) 0
def fJ:List Nat:=[4607182418800017408,4621819117588971520,4636737291354636288,4652007308841189376,4666723172467343360,4681608360884174848,4696837146684686336,4711630319722168320,4726483295884279808,4741671816366391296,4756540486875873280,4771362005757984768,4786511204640096256,4801453603149578240,4816244402031689728]
def jO(b:Nat):Nat:=bif Ieee.double.order b b==some .eq then b else 9221120237041090561
def lZ(a b:List UInt8):Nat:=bif bq (a++b)==0 then 0 else match Ieee.double.div (FloatKind.f64.nearest (bq (a++b):Int)) (fJ.getD b.length 0)with
 |some r=>jO r
 |none=>0
def lj(s:List UInt8):Int×Int:=
 let a:=s.takeWhile fun c=>c !=46
 let b:=s.drop (a.length+1)
 bif a.length==s.length then(0,5)else bif !dt a|| !dt b then(0,5)else bif decide (a.length>1)&&at8 a 0==48 then(0,5)else bif decide (a.length+b.length>15)then(0,2)else((lZ a b:Int),0)
def zk:Sig:=[(false,.int .u64),(false,.int .i64)]
def II(x:ai bB):ai zk:=((lj x.1).1,(lj x.1).2,())
def jd:List (Nat×aQ):=[(66,ofT 66 (ki 3))]
def sj:List (Nat×aQ):=[(135,ofT 135 zg)]
def w8(p:Fns):List (Nat×aQ):=[(97,vM),(69,dj 69 _ _ p.next),(169,dj 169 _ _ p.ahead),(122,dj 122 _ _ p.skip),(101,dj 101 _ _ p.isS),(100,dj 100 _ _ p.take),(98,dj 98 _ _ p.want),(99,dj 99 _ _ p.name),(72,dj 72 _ _ p.add),(132,dj 132 _ _ p.goIn),(70,dj 70 _ _ p.few),
 (71,dj 71 _ _ p.klass),(102,dj 102 _ _ p.member),(123,vc 123 _ _ p.params iy dI),(125,dj 125 _ _ p.typed),(134,dj 134 _ _ p.inner),(149,vc 149 _ _ p.base Dh rv),(124,dj 124 _ _ p.block),(145,dj 145 _ _ p.declares),(133,dj 133 _ _ p.stat),(147,dj 147 _ _ p.word),(148,dj 148 _ _ p.plainS),(171,dj 171 _ _ p.bracket),
 (172,vc 172 _ _ p.args iy dI),(146,dj 146 _ _ p.value),(170,dj 170 _ _ p.chain),(188,dj 188 _ _ p.unary),(200,dj 200 _ _ p.behind),(215,dj 215 _ _ p.primary),(216,dj 216 _ _ p.part),(232,dj 232 _ _ p.literal),(234,dj 234 _ _ p.kept),(239,dj 239 _ _ p.made),
 (14,bg 14 bB cd cW xY),(20,bg 20 iJ cd Ks IE),(231,bg 231 bB wV gD Mk),(233,bg 233 bB fg gD NP),(189,bg 189 bB bP (fun _=>true) Dk),(127,bg 127 bB zk gD II),(66,ofT 66 (ki 3))]
def aY(p:Fns):List (Nat×aQ):=(31,Ap E jd Ke)::(173,Ap E jd BU)::(150,Ap E (w8 p) Dz)::(151,Ap E (w8 p) CT)::(126,Ap E sj yq)::w8 p
end Go.Sx.Tryz
namespace Go.Sx.Tryz
open Go Go.Sx Go.Proofs
set_option maxRecDepth 100000
instance:BEq (Ty.den .str):=inferInstanceAs (BEq (List UInt8))
instance(k:IntKind)(n:Nat):OfNat (Ty.den (.int k)) n:=inferInstanceAs (OfNat Int n)
instance(k:IntKind):BEq (Ty.den (.int k)):=inferInstanceAs (BEq Int)
instance:HAppend (List UInt8) (Ty.den .str) (List UInt8):=⟨fun x y=>List.append x y⟩
instance:HAppend (Ty.den .str) (List UInt8) (List UInt8):=⟨fun x y=>List.append x y⟩
instance:HAppend (List Int) (Ty.den (.slice (.int .i64))) (List Int):=⟨fun x y=>List.append x y⟩
instance:HAppend (Ty.den (.slice (.int .i64))) (List Int) (List Int):=⟨fun x y=>List.append x y⟩
end Go.Sx.Tryz
namespace Go.Sx.Tryz
open Go Go.Sx Go.Proofs
set_option maxRecDepth 100000
variable{G:Nat→Obj→Prop}
abbrev shI:Sh:=.own 3 (.int .i64)
def CL:List Cut:=[⟨[true,true,true,true,true,false,false,false],some ⟨[(0,[]),(3,[]),(5,[shI])],[]⟩⟩]
def B8:List Cut:=[⟨[true,true,true,false,false,false],some ⟨[(0,[]),(3,[shI])],[]⟩⟩]
def xF:List Cut:=[⟨[true,true,true,false,false,false],some ⟨[(0,[]),(3,[shI])],[]⟩⟩]
def Cg:List Cut:=[⟨[true,false,false,false],some ⟨[(0,[]),(2,[shI])],[]⟩⟩]
def xb:List Cut:=[⟨[true,true,true,true,false,false],some ⟨[(0,[]),(1,[]),(5,[]),(7,[])],[]⟩⟩]
def xw:List Cut:=[⟨[true,true,true,false,false],some ⟨[(0,[]),(3,[]),(5,[])],[]⟩⟩]
def CU:List Cut:=[⟨[true,true,true,true,true,true,false,false,false],some ⟨[(0,[]),(3,[]),(5,[])],[[],[],[],[.keep,.keep,.keep,shI]]⟩⟩]
def wo:List Cut:=[⟨[true,true,false,false,false],some ⟨[(0,[]),(2,[]),(3,[])],[[],[],[],[.keep,.keep,.keep,.keep,.keep,.keep,.keep,.keep,.keep,.keep,.keep,.keep,shI]]⟩⟩]
def pB(T:List UInt8)(K:List Tok)(a d:Int):Nat×Blk:=(0,.cells 85 [.str T,.sl aH K,.int .i64 a,.int .i64 d,.own 1 1,.int .i64 0])
def nB(A:List Nd):Nat×Blk:=(1,.list 52 aB 1 false A)
def Fa(i:Nat)(k f t:Int):Nat×Blk:=(i,.cells 46 [.int .i64 k,.int .i64 f,.int .i64 t])
def AT(i:Nat)(L:List Int):Nat×Blk:=(i,.list 3 (.int .i64) 0 false L)
def zT(T:List UInt8)(K:List Tok)(a d:Int)(A:List Nd)(k f t:Int)(L:List Int):St:=⟨[(0,.ref 0 0),(3,.ref 2 0),(5,.own 3 0)],[pB T K a d,nB A,Fa 2 k f t,AT 3 L],4⟩
def AU(T:List UInt8)(K:List Tok)(a d:Int)(A:List Nd)(L:List Int):St:=⟨[(0,.ref 0 0),(3,.own 2 0)],[pB T K a d,nB A,AT 2 L],3⟩
def qm(T:List UInt8)(K:List Tok)(a d:Int)(A:List Nd)(L:List Int):St:=⟨[(0,.ref 0 0),(3,.own 2 0)],[pB T K a d,nB A,AT 2 L],3⟩
def Af(T:List UInt8)(K:List Tok)(a d:Int)(A:List Nd)(L:List Int):St:=⟨[(0,.ref 0 0),(2,.own 2 0)],[pB T K a d,nB A,AT 2 L],3⟩
def qy(T:List UInt8)(K:List Tok)(a d:Int)(A:List Nd)(l k f t x:Int):St:=⟨[(0,.ref 0 0),(1,.int .i64 l),(5,.ref 2 0),(7,.int .i64 x)],[pB T K a d,nB A,Fa 2 k f t],3⟩
def qU(T:List UInt8)(K:List Tok)(a d:Int)(A:List Nd)(k f t x:Int):St:=⟨[(0,.ref 0 0),(3,.ref 2 0),(5,.int .i64 x)],[pB T K a d,nB A,Fa 2 k f t],3⟩
def zw(T:List UInt8)(K:List Tok)(a d:Int)(A:List Nd)(k f t:Int)(s:List UInt8)(L:List Int):St:=⟨[(0,.ref 0 0),(3,.ref 2 0),(5,.ref 3 0)],[pB T K a d,nB A,Fa 2 k f t,
 (3,.cells 52 [.int .i64 2,.int .i64 0,.int .i64 0,.own 4 0,.str s,.int .i64 0,.str [],.int .i64 0,.str [],.int .i64 0,.int .i64 0,.int .i64 0,.nils]),AT 4 L],5⟩
def rn(T:List UInt8)(K:List Tok)(a d:Int)(A:List Nd)(k0 a0 t0:Int)(s0:List UInt8)(b:Int)(nm:List UInt8)(dm:Int)(mr:List UInt8)(n0 w1 w2:Int)(L:List Int):St:=⟨[(0,.ref 0 0),(2,.ref 2 0),(3,.ref 3 0)],[pB T K a d,nB A,
 (2,.cells 52 [.int .i64 0,.int .i64 0,.int .i64 0,.nils,.str [],.int .i64 0,.str [],.int .i64 0,.str [],.int .i64 0,.int .i64 0,.int .i64 0,.nils]),
 (3,.cells 52 [.int .i64 k0,.int .i64 a0,.int .i64 t0,.nils,.str s0,.int .i64 b,.str nm,.int .i64 dm,.str mr,.int .i64 n0,.int .i64 w1,.int .i64 w2,.own 4 0]),AT 4 L],5⟩
end Go.Sx.Tryz
namespace Go.Sx.Tryz
open Go Go.Sx Go.Proofs
set_option maxRecDepth 100000
abbrev fl0(c p:Int):Rs R0:=.ok (.panic (.iface 35 (.agg [.int .i64 c,.int .i64 p])),[])
variable{G:Nat→Obj→Prop}{ts rs:Sig}
theorem gd{f:Nat}{F:PF ts rs}{fi:FI}{cs:List Cut}{lib:List (Nat×aQ)}(hf:FIOK Tryz.prog f fi)(hl:aT Tryz.prog G lib)
  (h:∀T K a d A x,∃n,Ans rs T K (start (R:=R0) E (an lib) fi cs (pieces E (an lib) fi cs 2 .ok n) (.ref 0 0::cy ts x) (bsP T K a d A) .ok) (F T K a d A x)):bG G f ts rs F:=fun T K a d A x=>by
 obtain⟨n,h1⟩:=h T K a d A x
 cases e:F T K a d A x with
 |ok y a' d' A'=>
  rw[e]at h1
  obtain⟨g,v,l',m,h2,ht,hm⟩:=h1
  exact GB (SA.dataP (bh (aS []) (aE hl) hf (.inl (lA T K a d A)) h2) ht hm)
 |fault c p=>
  rw[e]at h1
  obtain⟨l,h2⟩:=h1
  exact(bh (aS []) (aE hl) hf (.inl (lA T K a d A)) h2).pan
 |bad=>trivial
variable{T:List UInt8}{K:List Tok}{ret:ai rs→AV}{more:ai rs→List Blk}
def bU(rs:Sig)(ret:ai rs→AV)(more:ai rs→List Blk)(T:List UInt8)(K:List Tok)(b:Rs R0)(r:PR (ai rs)):Prop:=match r with
 | .ok y a d A=>∃g,b= .ok (.ret (ret y),bsG g T K a d A++more y)
 | .fault c p=>∃l,b= .ok (.panic (.iface 35 (.agg [.int .i64 c,.int .i64 p])),l)
 | .bad=>True
theorem bU.bad{b:Rs R0}:bU rs ret more T K b .bad:=trivial
theorem bU.flt{c p:Int}{l:List Blk}:bU rs ret more T K (.ok (.panic (.iface 35 (.agg [.int .i64 c,.int .i64 p])),l)) (.fault c p):=⟨l,rfl⟩
theorem bU.bif{c:Bool}{b b':Rs R0}{r r':PR (ai rs)}(h:c=true→bU rs ret more T K b r)(h':c=false→bU rs ret more T K b' r'):bU rs ret more T K (bif c then b else b') (bif c then r else r'):=by
 cases c
 ·exact h' rfl
 ·exact h rfl
theorem bU.bind{α:Type}{r:PR α}{k:α→Int→Int→List Nd→Rs R0}{e:Int→Int→Rs R0}{k':α→Int→Int→List Nd→PR (ai rs)}(h:∀y a d A,r= .ok y a d A→bU rs ret more T K (k y a d A) (k' y a d A))
  (he:∀c p,bU rs ret more T K (e c p) (.fault c p)):bU rs ret more T K (r.bindR k e) (r.bind k'):=by
 cases r with
 |ok y a d A=>exact h y a d A rfl
 |fault c p=>exact he c p
 |bad=>trivial
def GOK(ret:ai rs→AV)(more:ai rs→List Blk):Prop:=∀y g T K a d A,gV (aC (aq 0 (bsG g T K a d A++more y))) (fun i=>match Nat.blt i 2 with|true=>1|false=>0) (ret y)=some (ret y)∧
 gBs (aC (aq 0 (bsG g T K a d A++more y))) (fun i=>match Nat.blt i 2 with|true=>1|false=>0) 0 (bsG g T K a d A++more y)=some (mc T K a d A++more y)∧(bz (ret y)&&(mc T K a d A++more y).all bH)=true
theorem HM:GOK iy dI:=fun y g T K a d A=>by
 refine⟨rfl,?_,rfl⟩
 simp[gBs,gB,cZ,gA,aq,aC,mc,bsG,dI]
 exact⟨rfl,rfl⟩
theorem MM:GOK Dh rv:=fun y g T K a d A=>by
 refine⟨rfl,?_,rfl⟩
 simp[gBs,gB,cZ,gA,aq,aC,mc,bsG,rv]
 exact⟨rfl,rfl⟩
theorem DX(hG:GOK ret more){f g:Nat}{args:List AV}{y:ai rs}{a d a' d':Int}{A A':List Nd}(h:SA Tryz.prog G f args (bsP T K a d A) (.ret (ret y),bsG g T K a' d' A'++more y)):
  SA Tryz.prog G f args (bsP T K a d A) (.ret (ret y),mc T K a' d' A'++more y):=by
 obtain⟨h1,h2,h3⟩:=hG y g T K a' d' A'
 exact SA.bump (q:=fun i=>match Nat.blt i 2 with|true=>1|false=>0) h (lA T K a d A) (fun i hi=>by
  have:i<2:=hi
  match i,this with
  |0,_=>exact Nat.le_refl _
  |1,_=>exact Nat.le_refl _) h1 h2 h3
theorem rp(hG:GOK ret more){f:Nat}{F:PF ts rs}{fi:FI}{cs:List Cut}{lib:List (Nat×aQ)}(hf:FIOK Tryz.prog f fi)(hl:aT Tryz.prog G lib)
  (h:∀T K a d A x,∃n,bU rs ret more T K (start (R:=R0) E (an lib) fi cs (pieces E (an lib) fi cs 2 .ok n) (.ref 0 0::cy ts x) (bsP T K a d A) .ok) (F T K a d A x)):jH G f ts rs F ret more:=fun T K a d A x=>by
 obtain⟨n,h1⟩:=h T K a d A x
 cases e:F T K a d A x with
 |ok y a' d' A'=>
  rw[e]at h1
  obtain⟨g,h2⟩:=h1
  exact DX hG (bh (aS []) (aE hl) hf (.inl (lA T K a d A)) h2)
 |fault c p=>
  rw[e]at h1
  obtain⟨l,h2⟩:=h1
  exact(bh (aS []) (aE hl) hf (.inl (lA T K a d A)) h2).pan
 |bad=>trivial
theorem BS(hG:GOK ret more){f:Nat}{F:PF ts rs}{fi:FI}{lib:List (Nat×aQ)}(hf:FIOK Tryz.prog f fi)(hl:aT Tryz.prog G lib)
  (h:∀T K a d A x,bU rs ret more T K (body (R:=R0) E (an lib) fi (.ref 0 0::cy ts x) (bsP T K a d A) .ok) (F T K a d A x)):jH G f ts rs F ret more:=fun T K a d A x=>by
 have h1:=h T K a d A x
 cases e:F T K a d A x with
 |ok y a' d' A'=>
  rw[e]at h1
  obtain⟨g,h2⟩:=h1
  exact DX hG (bb (aS []) (aE hl) hf h2)
 |fault c p=>
  rw[e]at h1
  obtain⟨l,h2⟩:=h1
  exact(bb (aS []) (aE hl) hf h2).pan
 |bad=>trivial
end Go.Sx.Tryz
namespace Go.Proofs
open Go.Shelf
def Tryz.lays160_ren:Go.Shelf.Ren:=⟨fun|160=>135|232=>153|231=>152|227=>154|234=>156|233=>155|236=>158|235=>157|228=>174|271=>176|151=>175|197=>89|120=>191|152=>190|260=>116|137=>68|119=>185|224=>112|225=>111|217=>96|266=>121|n=>n,fun|9=>9|4=>4|3=>3|5=>5|117=>174|116=>173|0=>0|124=>177|21=>21|105=>124|46=>96|119=>150|139=>153|138=>152|n=>n,fun|3=>1|4=>2|n=>n⟩
theorem Tryz.lays160:Go.Proofs.Lays.n160 Tryz.prog Tryz.lays160_ren:={
 mixed:=by kernel_rfl
 f119:=Tryz.func185.trans (congrArg some (by kernel_rfl))
 f120:=Tryz.func191.trans (congrArg some (by kernel_rfl))
 f137:=Tryz.func68.trans (congrArg some (by kernel_rfl))
 f151:=Tryz.func175.trans (congrArg some (by kernel_rfl))
 f152:=Tryz.func190.trans (congrArg some (by kernel_rfl))
 f160:=Tryz.func135.trans (congrArg some (by kernel_rfl))
 f197:=Tryz.func89.trans (congrArg some (by kernel_rfl))
 f217:=Tryz.func96.trans (congrArg some (by kernel_rfl))
 f224:=Tryz.func112.trans (congrArg some (by kernel_rfl))
 f225:=Tryz.func111.trans (congrArg some (by kernel_rfl))
 f227:=Tryz.func154.trans (congrArg some (by kernel_rfl))
 f228:=Tryz.func174.trans (congrArg some (by kernel_rfl))
 f231:=Tryz.func152.trans (congrArg some (by kernel_rfl))
 f232:=Tryz.func153.trans (congrArg some (by kernel_rfl))
 f233:=Tryz.func155.trans (congrArg some (by kernel_rfl))
 f234:=Tryz.func156.trans (congrArg some (by kernel_rfl))
 f235:=Tryz.func157.trans (congrArg some (by kernel_rfl))
 f236:=Tryz.func158.trans (congrArg some (by kernel_rfl))
 f260:=Tryz.func116.trans (congrArg some (by kernel_rfl))
 f266:=Tryz.func121.trans (congrArg some (by kernel_rfl))
 f271:=Tryz.func176.trans (congrArg some (by kernel_rfl))
 t0:=Tryz.underlying0
 a0:=Tryz.isAgg0
 z0:=Tryz.sizeOf0
 v0:=Tryz.zeroValue0
 t3:=Tryz.underlying3
 a3:=Tryz.isAgg3
 z3:=Tryz.sizeOf3
 v3:=Tryz.zeroValue3
 t4:=Tryz.underlying4
 a4:=Tryz.isAgg4
 z4:=Tryz.sizeOf4
 v4:=Tryz.zeroValue4
 t5:=Tryz.underlying5
 a5:=Tryz.isAgg5
 z5:=Tryz.sizeOf5
 v5:=Tryz.zeroValue5
 t9:=Tryz.underlying9
 a9:=Tryz.isAgg9
 z9:=Tryz.sizeOf9
 v9:=Tryz.zeroValue9
 t21:=Tryz.underlying21
 a21:=Tryz.isAgg21
 z21:=Tryz.sizeOf21
 v21:=Tryz.zeroValue21
 t46:=Tryz.underlying96
 a46:=Tryz.isAgg96
 z46:=Tryz.sizeOf96
 v46:=Tryz.zeroValue96
 t105:=Tryz.underlying124
 a105:=Tryz.isAgg124
 z105:=Tryz.sizeOf124
 v105:=Tryz.zeroValue124
 t116:=Tryz.underlying173
 a116:=Tryz.isAgg173
 z116:=Tryz.sizeOf173
 t117:=Tryz.underlying174
 a117:=Tryz.isAgg174
 z117:=Tryz.sizeOf174
 v117:=Tryz.zeroValue174
 t119:=Tryz.underlying150
 a119:=Tryz.isAgg150
 z119:=Tryz.sizeOf150
 t124:=Tryz.underlying177
 a124:=Tryz.isAgg177
 z124:=Tryz.sizeOf177
 v124:=Tryz.zeroValue177
 t138:=Tryz.underlying152
 a138:=Tryz.isAgg152
 z138:=Tryz.sizeOf152
 v138:=Tryz.zeroValue152
 t139:=Tryz.underlying153
 a139:=Tryz.isAgg153
 z139:=Tryz.sizeOf153
 v139:=Tryz.zeroValue153
 g3:=by kernel_rfl
 g4:=by kernel_rfl}
def Tryz.laysNm215_ren:Go.Shelf.Ren:=⟨fun|15=>66|n=>n,fun|22=>48|3=>3|4=>4|n=>n,fun|n=>n⟩
theorem Tryz.laysNm215:Go.Proofs.Lays2.n15 Tryz.prog Tryz.laysNm215_ren:={
 mixed:=by kernel_rfl
 f15:=Tryz.func66.trans (congrArg some (by kernel_rfl))
 t3:=Tryz.underlying3
 a3:=Tryz.isAgg3
 z3:=Tryz.sizeOf3
 v3:=Tryz.zeroValue3
 t4:=Tryz.underlying4
 a4:=Tryz.isAgg4
 z4:=Tryz.sizeOf4
 v4:=Tryz.zeroValue4
 t22:=Tryz.underlying48
 a22:=Tryz.isAgg48
 z22:=Tryz.sizeOf48
 v22:=Tryz.zeroValue48
 i3:=by kernel_rfl}
end Go.Proofs
