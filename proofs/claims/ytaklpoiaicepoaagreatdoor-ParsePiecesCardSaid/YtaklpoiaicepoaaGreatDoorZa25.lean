/- A part of the proof: see the row's text. -/
import Derived.Test.YtaklpoiaicepoaaGreatDoorZa24
import Derived.Test.YtaklpoiaicepoaaGreatDoorZa15
import Derived.Test.YtaklpoiaicepoaaGreatDoorZa12
set_option linter.unusedVariables false
set_option linter.unusedSimpArgs false
noncomputable section
namespace Go.Sx.Tryz
open Go Go.Sx Go.Proofs
set_option maxRecDepth 100000
variable{G:Nat→Obj→Prop}
def g9:List AV→Bool×AV
 |[]=>(true,.bool true)
 |_=>(false,.nili)
theorem d9{w0:World}(t:TabsW w0):aP Tryz.prog (GW w0) 9 (mf 9 g9):=j2 fun args h=>by
 unfold g9 at h⊢
 split at h
 ·exact GX t
 ·cases h
end Go.Sx.Tryz
namespace Go.Sx.Tryz
open Go Go.Sx Go.Proofs
set_option maxRecDepth 100000
abbrev Pe:Ty:=.pair (.int .i64) (.pair .str (.pair (.int .i64) (.pair .str .unit)))
abbrev tyC(b:Int)(n:List UInt8)(d:Int)(m:List UInt8):List AV:=[.int .i64 b,.str n,.int .i64 d,.str m]
abbrev uQ:Sig:=[(true,Pe)]
def okM(b d i:Int)(c:UInt8):Bool:=
 bif (c.toNat:Int)==32 then true else bif (c.toNat:Int)==63 then(bif i==0 then b==5 else true)
 else bif (c.toNat:Int)==111 then(bif i==0 then b==5 else true)&& !decide (i<d)else false
def gh(b d:Int):Int→List UInt8→Bool
 |_,[]=>true
 |i,c::r=>okM b d i c&&gh b d (i+1) r
def bq(b:Int)(n:List UInt8)(d:Int)(m:List UInt8):Bool:=
 !decide (d<0)&&(!decide (d>4)&&(((m.length:Int)==d+1)&&(!decide (b<1)&&(!decide (b>6)&&(((b==5)==(n !=[]))&&(!(b==6&&decide (d>0))&&gh b d 0 m))))))
def ue(x:an uQ):an dt:=(bq x.1.1 x.1.2.1 x.1.2.2.1 x.1.2.2.2.1,())
def stepT(s:List UInt8)(i:Int)(c:UInt8):List UInt8:=
 let s1:=bif decide (i>0)then s++[91,93]else s
 bif (c.toNat:Int)==63 then s1++[63]else bif (c.toNat:Int)==111 then [79,112,116,105,111,110,60]++s1++[62]else s1
def qC(s:List UInt8):Int→List UInt8→List UInt8
 |_,[]=>s
 |i,c::r=>qC (stepT s i c) (i+1) r
def vp(b:Int)(n:List UInt8):List UInt8:=
 bif b==1 then [105,110,116]else bif b==2 then [98,111,111,108]else bif b==3 then [100,111,117,98,108,101]else bif b==4 then [115,116,114]else bif b==6 then [118,111,105,100]else n
def fh(b:Int)(n:List UInt8)(d:Int)(m:List UInt8):List UInt8:=qC (vp b n) 0 m
def uw:List Cut:=[⟨[true,true,false,true,false,false],some ⟨[(1,[]),(52,[]),(53,[])],[[]]⟩⟩]
def L5(b:Int)(n:List UInt8)(d:Int)(m:List UInt8)(l i:Int):St:={tmps:=[(1,.ref 0 0),(52,.int .i64 l),(53,.int .i64 i)],blks:=[(0,.cells 35 (tyC b n d m))],next:=1}
def sE:List Cut:=[⟨[true,true,true,true,false,true,false,false],some ⟨[(1,[]),(3,[]),(24,[]),(25,[])],[[]]⟩⟩]
def La(b:Int)(n:List UInt8)(d:Int)(m:List UInt8)(s:List UInt8)(l i:Int):St:={tmps:=[(1,.ref 0 0),(3,.str s),(24,.int .i64 l),(25,.int .i64 i)],blks:=[(0,.cells 35 (tyC b n d m))],next:=1}
def xR:List (Nat×aX):=(51,cq 51 uQ dt (fun _=>true) ue)::ma
end Go.Sx.Tryz
namespace Go.Sx.Tryz
open Go Go.Sx Go.Proofs
set_option maxRecDepth 100000
theorem Lh(J:Jump R0)(b:Int)(n:List UInt8)(d:Int)(m:List UInt8):start E (au ma) uS uw J [.agg (tyC b n d m)] [] .ok=bif decide (d<0)then Rs.ok (Out.ret (AV.bool false),[])else bif decide (d>4)then Rs.ok (Out.ret (AV.bool false),[])else bif (↑(List.length m):Int) !=IntKind.wrap IntKind.i64 (d+1)then Rs.ok (Out.ret (AV.bool false),[])else bif decide (b<1)then Rs.ok (Out.ret (AV.bool false),[])else bif decide (b>6)then Rs.ok (Out.ret (AV.bool false),[])else bif !(b==5)== !n==([]:List UInt8)then Rs.ok (Out.ret (AV.bool false),[])else bif b==6 then bif decide (d>0)then Rs.ok (Out.ret (AV.bool false),[])else J 0 {tmps:=[(1,AV.ref 0 0),(52,AV.int IntKind.i64 (↑(List.length m):Int)),(53,AV.int IntKind.i64 0)],blks:=[(0,Blk.cells 35 [AV.int IntKind.i64 b,AV.str n,AV.int IntKind.i64 d,AV.str m])],next:=1}else J 0 {tmps:=[(1,AV.ref 0 0),(52,AV.int IntKind.i64 (↑(List.length m):Int)),(53,AV.int IntKind.i64 0)],blks:=[(0,Blk.cells 35 [AV.int IntKind.i64 b,AV.str n,AV.int IntKind.i64 d,AV.str m])],next:=1}:=by kernel_rfl
theorem Jn(J:Jump R0)(b:Int)(n:List UInt8)(d:Int)(m:List UInt8)(l i:Int):resume E (au ma) (aT 0 uw 0) J [true,true,false,true,false,false] uS.code 1 (L5 b n d m l i) (cv E 0 uS.results .ok)=bif decide (i<l)then bif inI i (List.length m)then bif (↑(UInt8.toNat (List.getD m (Int.toNat i) 0)):Int)==32 then J 0 {tmps:=[(1,AV.ref 0 0),(52,AV.int IntKind.i64 l),(53,AV.int IntKind.i64 (IntKind.wrap IntKind.i64 (i+1)))],blks:=[(0,Blk.cells 35 [AV.int IntKind.i64 b,AV.str n,AV.int IntKind.i64 d,AV.str m])],next:=1}else bif (↑(UInt8.toNat (List.getD m (Int.toNat i) 0)):Int)==63 then bif (↑(UInt8.toNat (List.getD m (Int.toNat i) 0)):Int)==63 then bif i==0 then bif b !=5 then Rs.ok (Out.ret (AV.bool false),[])else bif inI i (List.length m)then bif (↑(UInt8.toNat (List.getD m (Int.toNat i) 0)):Int)==111 then bif decide (i<d)then Rs.ok (Out.ret (AV.bool false),[])else J 0 {tmps:=[(1,AV.ref 0 0),(52,AV.int IntKind.i64 l),(53,AV.int IntKind.i64 (IntKind.wrap IntKind.i64 (i+1)))],blks:=[(0,Blk.cells 35 [AV.int IntKind.i64 b,AV.str n,AV.int IntKind.i64 d,AV.str m])],next:=1}else J 0 {tmps:=[(1,AV.ref 0 0),(52,AV.int IntKind.i64 l),(53,AV.int IntKind.i64 (IntKind.wrap IntKind.i64 (i+1)))],blks:=[(0,Blk.cells 35 [AV.int IntKind.i64 b,AV.str n,AV.int IntKind.i64 d,AV.str m])],next:=1}else Rs.err 1111 else bif inI i (List.length m)then bif (↑(UInt8.toNat (List.getD m (Int.toNat i) 0)):Int)==111 then bif decide (i<d)then Rs.ok (Out.ret (AV.bool false),[])else J 0 {tmps:=[(1,AV.ref 0 0),(52,AV.int IntKind.i64 l),(53,AV.int IntKind.i64 (IntKind.wrap IntKind.i64 (i+1)))],blks:=[(0,Blk.cells 35 [AV.int IntKind.i64 b,AV.str n,AV.int IntKind.i64 d,AV.str m])],next:=1}else J 0 {tmps:=[(1,AV.ref 0 0),(52,AV.int IntKind.i64 l),(53,AV.int IntKind.i64 (IntKind.wrap IntKind.i64 (i+1)))],blks:=[(0,Blk.cells 35 [AV.int IntKind.i64 b,AV.str n,AV.int IntKind.i64 d,AV.str m])],next:=1}else Rs.err 1111 else Rs.ok (Out.ret (AV.bool false),[])else bif (↑(UInt8.toNat (List.getD m (Int.toNat i) 0)):Int)==111 then bif i==0 then bif b !=5 then Rs.ok (Out.ret (AV.bool false),[])else bif inI i (List.length m)then bif (↑(UInt8.toNat (List.getD m (Int.toNat i) 0)):Int)==111 then bif decide (i<d)then Rs.ok (Out.ret (AV.bool false),[])else J 0 {tmps:=[(1,AV.ref 0 0),(52,AV.int IntKind.i64 l),(53,AV.int IntKind.i64 (IntKind.wrap IntKind.i64 (i+1)))],blks:=[(0,Blk.cells 35 [AV.int IntKind.i64 b,AV.str n,AV.int IntKind.i64 d,AV.str m])],next:=1}else J 0 {tmps:=[(1,AV.ref 0 0),(52,AV.int IntKind.i64 l),(53,AV.int IntKind.i64 (IntKind.wrap IntKind.i64 (i+1)))],blks:=[(0,Blk.cells 35 [AV.int IntKind.i64 b,AV.str n,AV.int IntKind.i64 d,AV.str m])],next:=1}else Rs.err 1111 else bif inI i (List.length m)then bif (↑(UInt8.toNat (List.getD m (Int.toNat i) 0)):Int)==111 then bif decide (i<d)then Rs.ok (Out.ret (AV.bool false),[])else J 0 {tmps:=[(1,AV.ref 0 0),(52,AV.int IntKind.i64 l),(53,AV.int IntKind.i64 (IntKind.wrap IntKind.i64 (i+1)))],blks:=[(0,Blk.cells 35 [AV.int IntKind.i64 b,AV.str n,AV.int IntKind.i64 d,AV.str m])],next:=1}else J 0 {tmps:=[(1,AV.ref 0 0),(52,AV.int IntKind.i64 l),(53,AV.int IntKind.i64 (IntKind.wrap IntKind.i64 (i+1)))],blks:=[(0,Blk.cells 35 [AV.int IntKind.i64 b,AV.str n,AV.int IntKind.i64 d,AV.str m])],next:=1}else Rs.err 1111 else Rs.ok (Out.ret (AV.bool false),[])else Rs.err 603 else Rs.ok (Out.ret (AV.bool true),[]):=by kernel_rfl
theorem KA(J:Jump R0)(b:Int)(n:List UInt8)(d:Int)(m:List UInt8):start E (au xR) uY sE J [.agg (tyC b n d m)] [] .ok=bif !Prod.fst (ue ((b,n,d,m,()),()))then Rs.ok (Out.ret (AV.str []),[])else bif b==1 then J 0 {tmps:=[(1,AV.ref 0 0),(3,AV.str [105,110,116]),(24,AV.int IntKind.i64 (↑(List.length m):Int)),(25,AV.int IntKind.i64 0)],blks:=[(0,Blk.cells 35 [AV.int IntKind.i64 b,AV.str n,AV.int IntKind.i64 d,AV.str m])],next:=1}else bif b==2 then J 0 {tmps:=[(1,AV.ref 0 0),(3,AV.str [98,111,111,108]),(24,AV.int IntKind.i64 (↑(List.length m):Int)),(25,AV.int IntKind.i64 0)],blks:=[(0,Blk.cells 35 [AV.int IntKind.i64 b,AV.str n,AV.int IntKind.i64 d,AV.str m])],next:=1}else bif b==3 then J 0 {tmps:=[(1,AV.ref 0 0),(3,AV.str [100,111,117,98,108,101]),(24,AV.int IntKind.i64 (↑(List.length m):Int)),(25,AV.int IntKind.i64 0)],blks:=[(0,Blk.cells 35 [AV.int IntKind.i64 b,AV.str n,AV.int IntKind.i64 d,AV.str m])],next:=1}else bif b==4 then J 0 {tmps:=[(1,AV.ref 0 0),(3,AV.str [115,116,114]),(24,AV.int IntKind.i64 (↑(List.length m):Int)),(25,AV.int IntKind.i64 0)],blks:=[(0,Blk.cells 35 [AV.int IntKind.i64 b,AV.str n,AV.int IntKind.i64 d,AV.str m])],next:=1}else bif b==6 then J 0 {tmps:=[(1,AV.ref 0 0),(3,AV.str [118,111,105,100]),(24,AV.int IntKind.i64 (↑(List.length m):Int)),(25,AV.int IntKind.i64 0)],blks:=[(0,Blk.cells 35 [AV.int IntKind.i64 b,AV.str n,AV.int IntKind.i64 d,AV.str m])],next:=1}else J 0 {tmps:=[(1,AV.ref 0 0),(3,AV.str n),(24,AV.int IntKind.i64 (↑(List.length m):Int)),(25,AV.int IntKind.i64 0)],blks:=[(0,Blk.cells 35 [AV.int IntKind.i64 b,AV.str n,AV.int IntKind.i64 d,AV.str m])],next:=1}:=by kernel_rfl
theorem G0(J:Jump R0)(b:Int)(n:List UInt8)(d:Int)(m:List UInt8)(s:List UInt8)(l i:Int):resume E (au xR) (aT 0 sE 0) J [true,true,true,true,false,true,false,false] uY.code 1 (La b n d m s l i) (cv E 0 uY.results .ok)=bif decide (i<l)then bif decide (i>0)then bif decide (List.length s+List.length (([91,93]:List UInt8))<2^62)then bif inI i (List.length m)then bif (↑(UInt8.toNat (List.getD m (Int.toNat i) 0)):Int)==63 then bif decide (List.length (s++([91,93]:List UInt8))+List.length (([63]:List UInt8))<2^62)then J 0 {tmps:=[(1,AV.ref 0 0),(3,AV.str (s++([91,93]:List UInt8)++([63]:List UInt8))),(24,AV.int IntKind.i64 l),(25,AV.int IntKind.i64 (IntKind.wrap IntKind.i64 (i+1)))],blks:=[(0,Blk.cells 35 [AV.int IntKind.i64 b,AV.str n,AV.int IntKind.i64 d,AV.str m])],next:=1}else Rs.err 2201 else bif (↑(UInt8.toNat (List.getD m (Int.toNat i) 0)):Int)==111 then bif decide (List.length (([79,112,116,105,111,110,60]:List UInt8))+List.length (s++([91,93]:List UInt8))<2^62)then bif decide (List.length (([79,112,116,105,111,110,60]:List UInt8)++(s++([91,93]:List UInt8)))+List.length (([62]:List UInt8))<2^62)then J 0 {tmps:=[(1,AV.ref 0 0),(3,AV.str (([79,112,116,105,111,110,60]:List UInt8)++(s++([91,93]:List UInt8))++([62]:List UInt8))),(24,AV.int IntKind.i64 l),(25,AV.int IntKind.i64 (IntKind.wrap IntKind.i64 (i+1)))],blks:=[(0,Blk.cells 35 [AV.int IntKind.i64 b,AV.str n,AV.int IntKind.i64 d,AV.str m])],next:=1}else Rs.err 2402 else Rs.err 2401 else J 0 {tmps:=[(1,AV.ref 0 0),(3,AV.str (s++([91,93]:List UInt8))),(24,AV.int IntKind.i64 l),(25,AV.int IntKind.i64 (IntKind.wrap IntKind.i64 (i+1)))],blks:=[(0,Blk.cells 35 [AV.int IntKind.i64 b,AV.str n,AV.int IntKind.i64 d,AV.str m])],next:=1}else Rs.err 2003 else Rs.err 1901 else bif inI i (List.length m)then bif (↑(UInt8.toNat (List.getD m (Int.toNat i) 0)):Int)==63 then bif decide (List.length s+List.length (([63]:List UInt8))<2^62)then J 0 {tmps:=[(1,AV.ref 0 0),(3,AV.str (s++([63]:List UInt8))),(24,AV.int IntKind.i64 l),(25,AV.int IntKind.i64 (IntKind.wrap IntKind.i64 (i+1)))],blks:=[(0,Blk.cells 35 [AV.int IntKind.i64 b,AV.str n,AV.int IntKind.i64 d,AV.str m])],next:=1}else Rs.err 2201 else bif (↑(UInt8.toNat (List.getD m (Int.toNat i) 0)):Int)==111 then bif decide (List.length (([79,112,116,105,111,110,60]:List UInt8))+List.length s<2^62)then bif decide (List.length (([79,112,116,105,111,110,60]:List UInt8)++s)+List.length (([62]:List UInt8))<2^62)then J 0 {tmps:=[(1,AV.ref 0 0),(3,AV.str (([79,112,116,105,111,110,60]:List UInt8)++s++([62]:List UInt8))),(24,AV.int IntKind.i64 l),(25,AV.int IntKind.i64 (IntKind.wrap IntKind.i64 (i+1)))],blks:=[(0,Blk.cells 35 [AV.int IntKind.i64 b,AV.str n,AV.int IntKind.i64 d,AV.str m])],next:=1}else Rs.err 2402 else Rs.err 2401 else J 0 {tmps:=[(1,AV.ref 0 0),(3,AV.str s),(24,AV.int IntKind.i64 l),(25,AV.int IntKind.i64 (IntKind.wrap IntKind.i64 (i+1)))],blks:=[(0,Blk.cells 35 [AV.int IntKind.i64 b,AV.str n,AV.int IntKind.i64 d,AV.str m])],next:=1}else Rs.err 2003 else Rs.ok (Out.ret (AV.str s),[]):=by kernel_rfl
end Go.Sx.Tryz
namespace Go.Sx.Tryz
open Go Go.Sx Go.Proofs
set_option maxRecDepth 100000
theorem CX(pre:List UInt8)(c:UInt8)(r:List UInt8):inI (pre.length:Int) (pre++c::r).length=true:=by
 simp only[inI,List.length_append,List.length_cons,Bool.and_eq_true,decide_eq_true_eq]
 omega
theorem tR(b:Int)(n:List UInt8)(d:Int)(m:List UInt8)(hm:m.length≤1000):∀(r pre:List UInt8) (fuel:Nat),m=pre++r→r.length<fuel→
  pieces (R:=R0) E (au ma) uS uw 0 .ok fuel 0 (L5 b n d m m.length pre.length)= .ok (.ret (.bool (gh b d pre.length r)),[])
 |r,pre,0,_,hf=>by omega
 |[],pre,fuel+1,hr,_=>by
  refine(Jn (pieces (R:=R0) E (au ma) uS uw 0 .ok fuel) b n d m m.length pre.length).trans ?_
  rw[List.append_nil]at hr
  subst hr
  simp[gh]
 |c::r,pre,fuel+1,hr,hf=>by
  have ih:=tR b n d m hm r (pre++[c]) fuel (by simp[hr]) (by simpa using hf)
  refine(Jn (pieces (R:=R0) E (au ma) uS uw 0 .ok fuel) b n d m m.length pre.length).trans ?_
  have hlen:pre.length+1+r.length=m.length:=by rw[hr];simp;omega
  have h1:((pre.length:Int)<(m.length:Int)):=by omega
  have h2:inI (pre.length:Int) m.length=true:=by rw[hr];exact CX _ _ _
  have h3:List.getD m (Int.toNat (pre.length:Int)) 0=c:=by rw[hr,Int.toNat_natCast];exact eu _ _ _
  have h4:IntKind.wrap .i64 ((pre.length:Int)+1)=(pre.length:Int)+1:=wrap64 (by omega) (by omega)
  have h5:(((pre++[c]).length:Nat):Int)=(pre.length:Int)+1:=by simp
  rw[h5]at ih
  simp only[L5,tyC]at ih
  rw[h2,h3,h4]
  unfold gh okM
  simp only[h1,decide_true,cond_true]
  cases e1:((c.toNat:Int)==32)
  ·cases e2:((c.toNat:Int)==63)
   ·cases e3:((c.toNat:Int)==111)
    ·simp
    ·cases e4:((pre.length:Int)==0)
     ·cases e5:decide ((pre.length:Int)<d)<;>simp[ih]
     ·cases e6:(b==5)
      ·simp[bne,e6]
      ·cases e5:decide ((pre.length:Int)<d)<;>simp[bne,e6,ih]
   ·have e3:((c.toNat:Int)==111)=false:=by
     simp only[beq_iff_eq]at e2
     simp only[beq_eq_false_iff_ne]
     omega
    cases e4:((pre.length:Int)==0)
    ·simp[e3,ih]
    ·cases e6:(b==5)
     ·simp[bne,e6]
     ·simp[bne,e6,e3,ih]
  ·simp[ih]
end Go.Sx.Tryz
namespace Go.Sx.Tryz
open Go Go.Sx Go.Proofs
set_option maxRecDepth 100000
theorem rU{w0:World}(_t:TabsW w0):bw Tryz.prog (GW w0) ma:=.cons G6 .nil
theorem Jt{w0:World}(t:TabsW w0):KOK Tryz.prog (GW w0) (au ma):=aQ (rU t)
theorem zz(b:Int)(n:List UInt8)(d:Int)(m:List UInt8):start (R:=R0) E (au ma) uS uw (pieces (R:=R0) E (au ma) uS uw 0 .ok 2000) [.agg (tyC b n d m)] [] .ok= .ok (.ret (.bool (bq b n d m)),[]):=by
 rw[Lh]
 unfold bq
 by_cases hd0:d<0
 ·simp[hd0]
 by_cases hd4:d>4
 ·simp[hd0,hd4]
 rw[wrap64 (by omega) (by omega)]
 by_cases hl:(m.length:Int)=d+1
 ·have hloop:=tR b n d m (by omega) m [] 2000 rfl (by omega)
  simp only[L5,tyC,List.length_nil,Int.natCast_zero]at hloop
  have hlb:((m.length:Int)==d+1)=true:=by simp[hl]
  simp only[hd0,hd4,decide_false,cond_false,bne,hlb,Bool.not_true,Bool.not_false,Bool.true_and]
  cases e1:decide (b<1)
  ·cases e2:decide (b>6)
   ·cases e3:(b==5)<;>cases e4:(n==[])<;>cases e5:(b==6)<;>cases e6:decide (d>0)<;>simp[hloop]
   ·simp
  ·simp
 ·have hlb:((m.length:Int)==d+1)=false:=by simp[hl]
  simp[hd0,hd4,bne,hlb]
theorem zH{w0:World}(t:TabsW w0)(x:an uQ):SAD Tryz.prog (GW w0) 51 uQ dt x (ue x):=by
 obtain⟨⟨b,n,d,m,⟨⟩⟩,⟨⟩⟩:=x
 exact bu (bb []) (Jt t) Sk (.inl cN) (zz b n d m)
theorem LR{w0:World}(t:TabsW w0):bw Tryz.prog (GW w0) xR:=.cons (aW fun x _=>zH t x) (rU t)
end Go.Sx.Tryz
namespace Go.Sx.Tryz
open Go Go.Sx Go.Proofs
set_option maxRecDepth 100000
theorem v8(s:List UInt8)(i:Int)(c:UInt8):(stepT s i c).length≤s.length+10:=by
 unfold stepT
 cases decide (i>0)<;>cases ((c.toNat:Int)==63)<;>cases ((c.toNat:Int)==111)<;>simp<;>omega
end Go.Sx.Tryz
namespace Go.Sx.Tryz
open Go Go.Sx Go.Proofs
set_option maxRecDepth 100000
theorem qA{b:Int}{n:List UInt8}{d:Int}{m:List UInt8}(h:bq b n d m=true):0≤d∧d≤4∧(m.length:Int)=d+1∧1≤b∧b≤6∧((b==5)=(n !=[]))∧gh b d 0 m=true:=by
 unfold bq at h
 simp only[Bool.and_eq_true,Bool.not_eq_true',decide_eq_false_iff_not,beq_iff_eq,Int.not_lt]at h
 obtain⟨h1,h2,h3,h4,h5,h6,_,h8⟩:=h
 exact⟨h1,by omega,h3,by omega,by omega,h6,h8⟩
theorem vn{b:Int}{n:List UInt8}(hn:n.length≤1000):(vp b n).length≤1000:=by
 unfold vp
 cases (b==1)<;>cases (b==2)<;>cases (b==3)<;>cases (b==4)<;>cases (b==6)<;>simp<;>exact hn
theorem wS(b:Int)(n:List UInt8)(d:Int)(m:List UInt8)(hm:m.length≤1000):∀(r pre s:List UInt8) (fuel:Nat),m=pre++r→r.length<fuel→s.length≤1000+10*pre.length→
  pieces (R:=R0) E (au xR) uY sE 0 .ok fuel 0 (La b n d m s m.length pre.length)= .ok (.ret (.str (qC s pre.length r)),[])
 |r,pre,s,0,_,hf,_=>by omega
 |[],pre,s,fuel+1,hr,_,_=>by
  refine(G0 (pieces (R:=R0) E (au xR) uY sE 0 .ok fuel) b n d m s m.length pre.length).trans ?_
  rw[List.append_nil]at hr
  subst hr
  have h1:¬((m.length:Int)<m.length):=by omega
  simp only[h1,decide_false,cond_false,qC]
 |c::r,pre,s,fuel+1,hr,hf,hs=>by
  have ih:=wS b n d m hm r (pre++[c]) (stepT s pre.length c) fuel (by simp[hr]) (by simpa using hf) (by have:=v8 s pre.length c;simp;omega)
  refine(G0 (pieces (R:=R0) E (au xR) uY sE 0 .ok fuel) b n d m s m.length pre.length).trans ?_
  have hlen:pre.length+1+r.length=m.length:=by rw[hr];simp;omega
  have h1:((pre.length:Int)<m.length):=by omega
  have h2:inI (pre.length:Int) m.length=true:=by rw[hr];exact CX _ _ _
  have h3:List.getD m (Int.toNat (pre.length:Int)) 0=c:=by rw[hr,Int.toNat_natCast];exact eu _ _ _
  have h4:IntKind.wrap .i64 ((pre.length:Int)+1)=(pre.length:Int)+1:=wrap64 (by omega) (by omega)
  have h5:(((pre++[c]).length:Nat):Int)=(pre.length:Int)+1:=by simp
  rw[h5]at ih
  simp only[La,tyC]at ih
  rw[h2,h3,h4]
  unfold qC
  simp only[h1,decide_true,cond_true]
  have k1:s.length+2<2^62:=by omega
  have k2:s.length+2+1<2^62:=by omega
  have k3:s.length+1<2^62:=by omega
  have k4:7+(s.length+2)<2^62:=by omega
  have k5:7+(s.length+2)+1<2^62:=by omega
  have k6:7+s.length<2^62:=by omega
  have k7:7+s.length+1<2^62:=by omega
  unfold stepT at ih⊢
  cases e0:decide ((pre.length:Int)>0)<;>cases e2:((c.toNat:Int)==63)<;>cases e3:((c.toNat:Int)==111)
  all_goals simp only[e0,e2,e3,cond_true,cond_false,List.length_append,List.length_cons,List.length_nil,Nat.zero_add,Nat.reduceAdd,k1,k2,k3,k4,k5,k6,k7,decide_true]at ih⊢
  all_goals exact ih
theorem BW(b:Int)(n:List UInt8)(d:Int)(m:List UInt8)(hn:n.length≤1000)(hm:m.length≤1000):start (R:=R0) E (au xR) uY sE (pieces (R:=R0) E (au xR) uY sE 0 .ok 2000) [.agg (tyC b n d m)] [] .ok= .ok (.ret (.str (bif bq b n d m then fh b n d m else [])),[]):=by
 rw[KA]
 have hloop:=wS b n d m hm m [] (vp b n) 2000 rfl (by omega) (by have:=vn (b:=b) hn;simp;omega)
 simp only[La,tyC,List.length_nil,Int.natCast_zero]at hloop
 have e:Prod.fst (ue ((b,n,d,m,()),()))=bq b n d m:=rfl
 rw[e]
 cases hr:bq b n d m
 ·rfl
 ·simp only[Bool.not_true,cond_false,cond_true]
  unfold fh
  rw[←hloop]
  unfold vp
  cases (b==1)<;>cases (b==2)<;>cases (b==3)<;>cases (b==4)<;>cases (b==6)<;>rfl
def nt(x:an uQ):Bool:=decide (x.1.2.1.length≤1000)&&decide (x.1.2.2.2.1.length≤1000)
def Nv(x:an uQ):an cZ:=(bif bq x.1.1 x.1.2.1 x.1.2.2.1 x.1.2.2.2.1 then fh x.1.1 x.1.2.1 x.1.2.2.1 x.1.2.2.2.1 else [],())
theorem Pz{w0:World}(t:TabsW w0):KOK Tryz.prog (GW w0) (au xR):=aQ (LR t)
theorem Lr{w0:World}(t:TabsW w0)(x:an uQ)(h:nt x=true):SAD Tryz.prog (GW w0) 53 uQ cZ x (Nv x):=by
 obtain⟨⟨b,n,d,m,⟨⟩⟩,⟨⟩⟩:=x
 simp only[nt,Bool.and_eq_true,decide_eq_true_eq]at h
 exact bu (bb []) (Pz t) SE (.inl cN) (BW b n d m h.1 h.2)
end Go.Sx.Tryz
namespace Go.Sx.Tryz
open Go Go.Sx Go.Proofs
set_option maxRecDepth 100000
end Go.Sx.Tryz
namespace Go.Sx.Tryz
open Go Go.Sx Go.Proofs
set_option maxRecDepth 100000
def yh:List (List UInt8):=[[],[112,114,111,103,114,97,109],[99,108,97,115,115],[101,120,116,101,110,100,115],[102,105,101,108,100],[105,110,105,116],[109,101,116,104,111,100],[112,97,114,97,109],[98,108,111,99,107],[100,101,99,108],[97,115,115,105,103,110],[105,102],[119,104,105,108,101],[98,114,101,97,107],[99,111,110,116,105,110,117,101],[114,101,116,117,114,110],[112,114,105,110,116],[115,117,112,101,114],[101,120,112,114],[105,110,116],[100,111,117,98,108,101],[98,111,111,108],[115,116,114],[110,117,108,108],[116,104,105,115],[118,97,114],[103,101,116],[105,110,100,101,120],[108,101,110,103,116,104],[99,97,108,108],[110,101,119],[97,114,114,97,121],[110,101,103],[110,111,116],[98,105,110,97,114,121],[99,97,115,116],[116,111,105,110,116],[116,111,100,111,117,98,108,101],[105,110,112,117,116],[97,115,107],[103,117,97,114,100],[115,111,109,101],[110,111,110,101],[105,115,115,111,109,101],[105,115,110,111,110,101],[118,97,108]]
def OV:List Int:=[0,0,0,0,0,1,1,0,0,0,2,2,2,0,0,0,1,0,1,0,0,0,0,0,0,0,1,2,1,1,0,1,1,1,2,1,1,1,0,1,1,1,0,1,1,1]
def inK(k:Int):Bool:=decide (0≤k)&&decide (k<46)
def cM(k:Int):List UInt8:=bif decide (k<1)then []else bif decide (k≥46)then []else yh.getD k.toNat []
def fY(k:Int):Int:=OV.getD k.toNat 0
def dZ(k:Int):Int:=bif k==1||(k==2||(k==5||(k==6||(k==8||(k==17||(k==29||k==30))))))then-1 else bif k==9||k==15 then 1 else bif k==11 then 3 else fY k
def qZ(k:Int):Bool:=k==2||(k==3||(k==4||(k==6||(k==7||(k==9||(k==20||(k==22||(k==25||(k==26||(k==29||k==34))))))))))
def uG(k:Int):Bool:=k==4||(k==6||(k==7||(k==9||(k==30||(k==31||k==35)))))
end Go.Sx.Tryz
namespace Go.Sx.Tryz
open Go Go.Sx Go.Proofs
set_option maxRecDepth 100000
def eZ(i:Int):List Int→List Int→Sum Int (List Int)
 |[],u=>.inr u
 |k::r,u=>bif decide (k<0)then .inl 7 else bif decide (k≥i)then .inl 7 else bif decide (bE u k.toNat>0)then .inl 4 else eZ i r (oA u k.toNat 1)
def uV(x:Nd):Bool:=bif uG (aj x)then !bq (ar x) (aB x) (ah x) (ag x)else(ar x !=0||(!(aB x==[])||(ah x !=0|| !(ag x==[]))))
def ec(x:Nd):Int:=bif cM (aj x)==[]then 3 else bif decide (((ai x).length:Int)<fY (aj x))then 131 else bif decide (dZ (aj x)≥0)&&decide (((ai x).length:Int)>dZ (aj x))then 131
 else bif !qZ (aj x)&& !(aF x==[])then 5 else bif uV x then 5 else 0
def cD(i:Int):List Nd→List Int→Sum Int (List Int)
 |[],u=>.inr u
 |x::r,u=>bif ec x !=0 then .inl (ec x)else match eZ i (ai x) u with
  | .inl c=>.inl c
  | .inr u'=>cD (i+1) r u'
def nK(u:List Int):Int:=bif u.any (· ==0)then 3 else 0
def dC(L:List Nd)(r:Int):Int:=bif decide ((L.length:Int)>16384)then 2 else bif (L.length:Int)==0 then 5 else bif r !=(L.length:Int)-1 then 5 else bif aj (af L r.toNat) !=1 then 5 else
 match cD 0 L (List.replicate L.length 0)with
 | .inl c=>c
 | .inr u=>nK (u.take (L.length-1))
def fV(x:Nd):Bool:=decide ((ai x).length≤20000)&&(decide ((aF x).length≤70000)&&(decide ((aB x).length≤200)&&decide ((ag x).length≤50)))
def jg(L:List Nd):Bool:=decide (L.length≤9000)&&L.all fV
def rW(x:an iF):Bool:=jg x.1.1
def Je(x:an iF):an iu:=(dC x.1.1 x.1.2.1,())
abbrev zU(c:Int):R0:=(.ret (.int .i64 c),[])
theorem sU(pre:List Int)(c:Int)(r:List Int):bE (pre++c::r) pre.length=c:=by simp[bE,List.getD]
theorem Ah(pre:List Int)(c:Int)(r:List Int):inI (pre.length:Int) (pre++c::r).length=true:=by
 simp only[inI,List.length_append,List.length_cons,Bool.and_eq_true,decide_eq_true_eq]
 omega
theorem vK{i:Int}:∀{ks u u':List Int},eZ i ks u= .inr u'→u'.length=u.length
 |[],u,u',h=>by simp only[eZ,Sum.inr.injEq]at h;rw[h]
 |k::ks,u,u',h=>by
  simp only[eZ]at h
  cases e1:decide (k<0)
  ·cases e2:decide (k≥i)
   ·cases e3:decide (bE u k.toNat>0)
    ·simp only[e1,e2,e3,cond_false]at h
     rw[vK h]
     simp[oA]
    ·simp only[e1,e2,e3,cond_false,cond_true]at h;cases h
   ·simp only[e1,e2,cond_false,cond_true]at h;cases h
  ·simp only[e1,cond_true]at h;cases h
end Go.Sx.Tryz
namespace Go.Sx.Tryz
open Go Go.Sx Go.Proofs
set_option maxRecDepth 100000
theorem IU{k:Int}(h:(cM k==[])=false):inK k=true:=by
 unfold cM at h
 by_cases h1:k<1
 ·simp[h1]at h
 ·by_cases h2:k≥46
  ·have h3:(46:Int)≤k:=h2
   simp[h1,h3]at h
  ·simp only[inK,Bool.and_eq_true,decide_eq_true_eq]
   omega
end Go.Sx.Tryz
namespace Go.Sx.Tryz
open Go Go.Sx Go.Proofs
set_option maxRecDepth 100000
def Used(u:List Int)(done:List Int):Prop:=∀k:Nat,k<u.length→bE u k=if(k:Int)∈done then 1 else 0
theorem I2{u:List Int}{i j:Nat}{v:Int}(hi:i<u.length):bE (oA u i v) j=if j=i then v else bE u j:=by
 simp only[bE,oA,List.getD,List.getElem?_set]
 by_cases h:i=j
 ·subst h;simp[hi]
 ·rw[if_neg h,if_neg (Ne.symm h)]
theorem sG{i:Int}:∀{ks u u' done:List Int},eZ i ks u= .inr u'→Used u done→i≤u.length→
  (∀k∈ks,0≤k∧k<i)∧ks.Nodup∧(∀k∈ks,k∉done)∧Used u' (done++ks)
 |[],u,u',done,h,hu,_=>by
  simp only[eZ,Sum.inr.injEq]at h
  subst h
  simp only[List.append_nil]
  exact⟨by simp,by simp,by simp,hu⟩
 |k::ks,u,u',done,h,hu,hi=>by
  simp only[eZ]at h
  cases e1:decide (k<0)
  ·cases e2:decide (k≥i)
   ·cases e3:decide (bE u k.toNat>0)
    ·simp only[e1,e2,e3,cond_false]at h
     simp only[decide_eq_false_iff_not]at e1 e2 e3
     have hlt:k.toNat<u.length:=by omega
     have hkn:k∉done:=fun hk=>by
      have:=hu k.toNat hlt
      rw[Int.toNat_of_nonneg (by omega),if_pos hk]at this
      omega
     have hu2:Used (oA u k.toNat 1) (done++[k]):=fun j hj=>by
      simp only[oA,List.length_set]at hj
      rw[I2 hlt]
      by_cases hjk:j=k.toNat
      ·subst hjk
       rw[if_pos rfl,if_pos (by simp[Int.toNat_of_nonneg (show 0≤k by omega)])]
      ·rw[if_neg hjk,hu j hj]
       have hne:(j:Int)≠k:=by omega
       simp[hne]
     obtain⟨h1,h2,h3,h4⟩:=sG h hu2 (by simp only[oA,List.length_set];exact hi)
     refine⟨fun x hx=>?_,?_,fun x hx=>?_,by simpa using h4⟩
     ·rcases List.mem_cons.1 hx with rfl|hx
      ·omega
      ·exact h1 x hx
     ·rw[List.nodup_cons]
      exact⟨fun hk=>h3 k hk (by simp),h2⟩
     ·rcases List.mem_cons.1 hx with rfl|hx
      ·exact hkn
      ·exact fun hd=>h3 x hx (by simp[hd])
    ·simp only[e1,e2,e3,cond_false,cond_true]at h;cases h
   ·simp only[e1,e2,cond_false,cond_true]at h;cases h
  ·simp only[e1,cond_true]at h;cases h
theorem qw:∀{xs:List Nd} {i:Nat} {u u' done:List Int},cD (i:Int) xs u= .inr u'→Used u done→i+xs.length=u.length→
  (∀j x,xs[j]? =some x→ec x=0∧∀k∈ai x,0≤k∧k<((i+j:Nat):Int))∧(xs.flatMap ai).Nodup∧(∀k∈xs.flatMap ai,k∉done)∧Used u' (done++xs.flatMap ai)∧u'.length=u.length
 |[],i,u,u',done,h,hu,_=>by
  simp only[cD,Sum.inr.injEq]at h
  subst h
  simp only[List.flatMap_nil,List.append_nil]
  exact⟨by simp,by simp,by simp,hu,trivial⟩
 |x::xs,i,u,u',done,h,hu,hl=>by
  simp only[cD]at h
  cases e:(ec x !=0)
  ·simp only[e,cond_false]at h
   cases e2:eZ (i:Int) (ai x) u with
   |inl c=>rw[e2]at h;cases h
   |inr u1=>
    rw[e2]at h
    obtain⟨h1,h2,h3,h4⟩:=sG e2 hu (by simp at hl;omega)
    have hl1:=vK e2
    obtain⟨k1,k2,k3,k4,k5⟩:=qw (i:=i+1) (xs:=xs) (by simpa using h) h4 (by simp at hl⊢;omega)
    refine⟨fun j y hj=>?_,?_,fun k hk=>?_,?_,by omega⟩
    ·cases j with
     |zero=>
      simp only[List.getElem?_cons_zero,Option.some.injEq]at hj
      subst hj
      exact⟨by simpa using e,by simpa using h1⟩
     |succ j=>
      obtain⟨m1,m2⟩:=k1 j y (by simpa using hj)
      refine⟨m1,fun k hk=>?_⟩
      have:=m2 k hk
      omega
    ·rw[List.flatMap_cons,List.nodup_append]
     exact⟨h2,k2,fun a ha b hb hab=>k3 b hb (by rw[←hab];simp[ha])⟩
    ·rw[List.flatMap_cons,List.mem_append]at hk
     rcases hk with hk|hk
     ·exact h3 k hk
     ·exact fun hd=>k3 k hk (by simp[hd])
    ·rw[List.flatMap_cons,←List.append_assoc]
     exact k4
  ·simp only[e,cond_true]at h;cases h
structure GoodT(L:List Nd)(r:Int):Prop where
 pos:0<L.length
 root:r=(L.length:Int)-1
 kids:∀(j:Nat) x,L[j]? =some x→∀k∈ai x,0≤k∧k<(j:Int)
 node:∀(j:Nat) x,L[j]? =some x→ec x=0
 once:(L.flatMap ai).Nodup
 all:∀k:Nat,k+1<L.length→(k:Int)∈L.flatMap ai
theorem rE{L:List Nd}{r:Int}(h:dC L r=0):GoodT L r:=by
 unfold dC at h
 cases e1:decide ((L.length:Int)>16384)
 ·cases e2:((L.length:Int)==0)
  ·cases e3:(r !=(L.length:Int)-1)
   ·cases e4:(aj (af L r.toNat) !=1)
    ·simp only[e1,e2,e3,e4,cond_false]at h
     have hpos:0<L.length:=by
      simp only[beq_eq_false_iff_ne]at e2
      omega
     have hr:r=(L.length:Int)-1:=by simpa using e3
     cases e5:cD 0 L (List.replicate L.length 0)with
     |inl c=>
      exfalso
      rw[e5]at h
      have h:c=0:=h
      subst h
      clear e1 e2 e3 e4 hpos hr
      have key:∀(xs:List Nd) (i:Int) (u:List Int),cD i xs u≠ .inl 0:=by
       intro xs
       induction xs with
       |nil=>intro i u hh;cases hh
       |cons x xs ih=>
        intro i u hh
        simp only[cD]at hh
        cases e:(ec x !=0)
        ·simp only[e,cond_false]at hh
         have kk:∀(ks u:List Int),eZ i ks u≠ .inl 0:=by
          intro ks
          induction ks with
          |nil=>intro u hh;cases hh
          |cons k ks ih2=>
           intro u hh
           simp only[eZ]at hh
           cases f1:decide (k<0)<;>simp only[f1,cond_true,cond_false]at hh
           ·cases f2:decide (k≥i)<;>simp only[f2,cond_true,cond_false]at hh
            ·cases f3:decide (bE u k.toNat>0)<;>simp only[f3,cond_true,cond_false]at hh
             ·exact ih2 _ hh
             ·cases hh
            ·cases hh
           ·cases hh
         cases f:eZ i (ai x) u with
         |inl c=>rw[f]at hh;simp only[Sum.inl.injEq]at hh;subst hh;exact kk _ _ f
         |inr u'=>rw[f]at hh;exact ih _ _ hh
        ·simp only[e,cond_true,Sum.inl.injEq]at hh
         rw[hh]at e
         simp at e
      exact key _ _ _ e5
     |inr u=>
      rw[e5]at h
      obtain⟨k1,k2,_,k4,k5⟩:=qw (i:=0) (done:=[]) e5 (fun k hk=>by simp at hk⊢;simp[bE,List.getD,hk]) (by simp)
      simp only[List.length_replicate]at k5
      refine⟨hpos,hr,fun j x hj=>by have:=(k1 j x hj).2;simpa using this,fun j x hj=>(k1 j x hj).1,k2,fun k hk=>?_⟩
      have h:nK (u.take (L.length-1))=0:=h
      unfold nK at h
      cases e6:(u.take (L.length-1)).any (· ==0)
      ·by_cases hm:(k:Int)∈L.flatMap ai
       ·exact hm
       ·exfalso
        have:=k4 k (by omega)
        rw[if_neg (by simpa using hm)]at this
        have hmem:(0:Int)∈u.take (L.length-1):=by
         rw[List.mem_iff_getElem?]
         refine⟨k,?_⟩
         rw[List.getElem?_take,if_pos (by omega)]
         simp only[bE,List.getD]at this
         cases hg:u[k]? with
         |none=>rw[List.getElem?_eq_none_iff]at hg;omega
         |some z=>rw[hg]at this;simp at this;rw[this]
        have:=List.any_eq_false.1 e6 0 hmem
        simp at this
      ·rw[e6]at h;simp at h
    ·simp only[e1,e2,e3,e4,cond_false,cond_true]at h;cases h
   ·simp only[e1,e2,e3,cond_false,cond_true]at h;cases h
  ·simp only[e1,e2,cond_false,cond_true]at h;cases h
 ·simp only[e1,cond_true]at h;cases h
end Go.Sx.Tryz
namespace Go.Sx.Tryz
open Go Go.Sx Go.Proofs
set_option maxRecDepth 100000
def Fk(L:List Nd):Nat→Nat→List Int
 |0,_=>[]
 |f+1,i=>(i:Int)::(ai (af L i)).flatMap fun k=>Fk L f k.toNat
def fx(L:List Nd)(i:Nat):List Int:=Fk L (i+1) i
theorem fP{L:List Nd}{i:Nat}(h:i<L.length):L[i]? =some (af L i):=by simp[af,List.getD,h]
section
variable{L:List Nd}{r:Int}(g:GoodT L r)
theorem GoodT.kid{L:List Nd}{r:Int}(g:GoodT L r){i:Nat}(hi:i<L.length){k:Int}(hk:k∈ai (af L i)):0≤k∧k<(i:Int)∧k.toNat<i:=by
 obtain⟨h1,h2⟩:=g.kids i _ (fP hi) k hk
 exact⟨h1,h2,by omega⟩
theorem lv{l:List Int}{f h:Int→List Int}(e:∀k∈l,f k=h k):l.flatMap f=l.flatMap h:=by
 induction l with
 |nil=>rfl
 |cons a l ih=>rw[List.flatMap_cons,List.flatMap_cons,e a (by simp),ih fun k hk=>e k (by simp[hk])]
theorem mZ{L:List Nd}{r:Int}(g:GoodT L r):∀(n i f:Nat),i<n→i<L.length→i+1≤f→Fk L f i=fx L i
 |0,i,f,h,_,_=>by omega
 |n+1,i,0,_,_,h=>by omega
 |n+1,i,f+1,hn,hi,hf=>by
  simp only[Fk,fx]
  congr 1
  refine lv fun k hk=>?_
  obtain⟨_,_,h3⟩:=g.kid hi hk
  rw[mZ g n k.toNat f (by omega) (by omega) (by omega),mZ g n k.toNat i (by omega) (by omega) (by omega)]
theorem iC{L:List Nd}{r:Int}(g:GoodT L r){i:Nat}(hi:i<L.length):fx L i=(i:Int)::(ai (af L i)).flatMap fun k=>fx L k.toNat:=by
 show(i:Int)::_=_
 congr 1
 refine lv fun k hk=>?_
 obtain⟨_,_,h3⟩:=g.kid hi hk
 exact mZ g (k.toNat+1) k.toNat i (by omega) (by omega) (by omega)
theorem ph{L:List Nd}{r:Int}(g:GoodT L r):∀(n i:Nat),i<n→i<L.length→∀x∈fx L i,0≤x∧x≤(i:Int)
 |0,_,h,_,_,_=>by omega
 |n+1,i,hn,hi,x,hx=>by
  rw[iC g hi]at hx
  rcases List.mem_cons.1 hx with rfl|hx
  ·omega
  ·obtain⟨k,hk,hx⟩:=List.mem_flatMap.1 hx
   obtain⟨h1,h2,h3⟩:=g.kid hi hk
   have:=ph g n k.toNat (by omega) (by omega) x hx
   omega
theorem IJ{L:List Nd}{i:Nat}:(i:Int)∈fx L i:=by simp[fx,Fk]
theorem nr{L:List Nd}{r:Int}(g:GoodT L r):∀(n i:Nat),i<n→i<L.length→∀x∈fx L i,x=(i:Int)∨∃p:Nat,p<L.length∧(p:Int)∈fx L i∧x∈ai (af L p)
 |0,_,h,_,_,_=>by omega
 |n+1,i,hn,hi,x,hx=>by
  rw[iC g hi]at hx
  rcases List.mem_cons.1 hx with rfl|hx
  ·exact .inl rfl
  ·obtain⟨k,hk,hx⟩:=List.mem_flatMap.1 hx
   obtain⟨h1,h2,h3⟩:=g.kid hi hk
   refine .inr ?_
   rcases nr g n k.toNat (by omega) (by omega) x hx with e|⟨p,h4,h5,h6⟩
   ·refine⟨i,hi,IJ,?_⟩
    rw[e,Int.toNat_of_nonneg h1]
    exact hk
   ·refine⟨p,h4,?_,h6⟩
    rw[iC g hi]
    exact List.mem_cons_of_mem _ (List.mem_flatMap.2 ⟨k,hk,h5⟩)
theorem wR{α:Type}{f:α→List Int}:∀{l:List α},(l.flatMap f).Nodup→∀(i j:Nat) a b x,l[i]? =some a→l[j]? =some b→x∈f a→x∈f b→i=j
 |[],_,i,j,a,b,x,h,_,_,_=>by simp at h
 |c::l,hn,i,j,a,b,x,hi,hj,ha,hb=>by
  rw[List.flatMap_cons,List.nodup_append]at hn
  obtain⟨_,h2,h3⟩:=hn
  cases i with
  |zero=>
   cases j with
   |zero=>rfl
   |succ j=>
    simp only[List.getElem?_cons_zero,Option.some.injEq]at hi
    subst hi
    exact(h3 x ha x (List.mem_flatMap.2 ⟨b,List.mem_of_getElem? (by simpa using hj),hb⟩) rfl).elim
  |succ i=>
   cases j with
   |zero=>
    simp only[List.getElem?_cons_zero,Option.some.injEq]at hj
    subst hj
    exact(h3 x hb x (List.mem_flatMap.2 ⟨a,List.mem_of_getElem? (by simpa using hi),ha⟩) rfl).elim
   |succ j=>rw[wR h2 i j a b x (by simpa using hi) (by simpa using hj) ha hb]
theorem GoodT.parent{L:List Nd}{r:Int}(g:GoodT L r){p q:Nat}(hp:p<L.length)(hq:q<L.length){x:Int}(h1:x∈ai (af L p))(h2:x∈ai (af L q)):p=q:=
 wR g.once p q _ _ x (fP hp) (fP hq) h1 h2
theorem kh{α:Type}{f:α→List Int}:∀{l:List α},(l.flatMap f).Nodup→∀a∈l,(f a).Nodup
 |c::l,hn,a,ha=>by
  rw[List.flatMap_cons,List.nodup_append]at hn
  rcases List.mem_cons.1 ha with rfl|ha
  ·exact hn.1
  ·exact kh hn.2.1 a ha
theorem we{L:List Nd}{r:Int}(g:GoodT L r){i:Nat}(hi:i<L.length){k k':Int}(hk:k∈ai (af L i))(hk':k'∈ai (af L i))(hne:k≠k'):∀(n x:Nat),L.length≤x+n→(x:Int)∈fx L k.toNat→(x:Int)∈fx L k'.toNat→False
 |0,x,hx,h1,_=>by
  obtain⟨_,_,h3⟩:=g.kid hi hk
  have:=(ph g _ k.toNat (Nat.lt_succ_self _) (by omega) _ h1).2
  omega
 |n+1,x,hx,h1,h2=>by
  obtain⟨a1,a2,a3⟩:=g.kid hi hk
  obtain⟨b1,b2,b3⟩:=g.kid hi hk'
  have c1:=nr g _ k.toNat (Nat.lt_succ_self _) (by omega) _ h1
  have c2:=nr g _ k'.toNat (Nat.lt_succ_self _) (by omega) _ h2
  have top:∀{a b:Int},a∈ai (af L i)→b∈ai (af L i)→∀p:Nat,p<L.length→(p:Int)∈fx L b.toNat→a∈ai (af L p)→False:=fun{a b} ha hb p hp hpb hap=>by
   have e:=g.parent hp hi hap ha
   subst e
   obtain⟨_,_,d3⟩:=g.kid hi hb
   have:=(ph g _ b.toNat (Nat.lt_succ_self _) (by omega) _ hpb).2
   omega
  rcases c1 with e1|⟨p,p1,p2,p3⟩
  ·rcases c2 with e2|⟨q,q1,q2,q3⟩
   ·omega
   ·have:(x:Int)=k:=by omega
    rw[this]at q3
    exact top hk hk' q q1 q2 q3
  ·rcases c2 with e2|⟨q,q1,q2,q3⟩
   ·have:(x:Int)=k':=by omega
    rw[this]at p3
    exact top hk' hk p p1 p2 p3
   ·have e:=g.parent p1 q1 p3 q3
    subst e
    have:=(g.kid p1 p3).2.1
    exact we g hi hk hk' hne n p (by omega) p2 q2
theorem sA{f:Int→List Int}:∀{l:List Int},l.Nodup→(∀k∈l,(f k).Nodup)→(∀k∈l,∀k'∈l,k≠k'→∀x∈f k,x∉f k')→(l.flatMap f).Nodup
 |[],_,_,_=>by simp
 |k::l,hn,h1,h2=>by
  rw[List.nodup_cons]at hn
  rw[List.flatMap_cons,List.nodup_append]
  refine⟨h1 k (by simp),sA hn.2 (fun a ha=>h1 a (by simp[ha])) (fun a ha b hb=>h2 a (by simp[ha]) b (by simp[hb])),fun x hx y hy e=>?_⟩
  subst e
  obtain⟨k',hk',hy⟩:=List.mem_flatMap.1 hy
  exact h2 k (by simp) k' (by simp[hk']) (fun e=>hn.1 (e▸hk')) x hx hy
theorem vu{L:List Nd}{r:Int}(g:GoodT L r):∀(n i:Nat),i<n→i<L.length→(fx L i).Nodup
 |0,_,h,_=>by omega
 |n+1,i,hn,hi=>by
  rw[iC g hi,List.nodup_cons]
  refine⟨fun h=>?_,?_⟩
  ·obtain⟨k,hk,h⟩:=List.mem_flatMap.1 h
   obtain⟨_,_,h3⟩:=g.kid hi hk
   have:=(ph g _ k.toNat (Nat.lt_succ_self _) (by omega) _ h).2
   omega
  ·refine sA (kh g.once _ (List.mem_of_getElem? (fP hi))) (fun k hk=>?_) (fun k hk k' hk' hne x hx hx'=>?_)
   ·obtain⟨_,_,h3⟩:=g.kid hi hk
    exact vu g n k.toNat (by omega) (by omega)
   ·obtain⟨_,_,h3⟩:=g.kid hi hk
    have h4:=(ph g _ k.toNat (Nat.lt_succ_self _) (by omega) _ hx).1
    have e:((x.toNat:Nat):Int)=x:=Int.toNat_of_nonneg h4
    rw[←e]at hx hx'
    exact we g hi hk hk' hne L.length x.toNat (by omega) hx hx'
theorem uv:∀(n:Nat) (l:List Int),l.Nodup→(∀x∈l,0≤x∧x<(n:Int))→l.length≤n
 |0,[],_,_=>by simp
 |0,a::l,_,h=>by have:=h a (by simp);omega
 |n+1,l,hn,h=>by
  by_cases hm:(n:Int)∈l
  ·have:=uv n (l.erase n) (hn.erase _) fun x hx=>by
    rw[hn.mem_erase_iff]at hx
    have:=h x hx.2
    omega
   rw[List.length_erase_of_mem hm]at this
   omega
  ·have:=uv n l hn fun x hx=>by
    have h1:=h x hx
    have:x≠n:=fun e=>hm (e▸hx)
    omega
   omega
theorem na{L:List Nd}{r:Int}(g:GoodT L r){i:Nat}(hi:i<L.length):(fx L i).length≤L.length:=
 uv _ _ (vu g _ i (Nat.lt_succ_self _) hi) fun x hx=>by
  have:=ph g _ i (Nat.lt_succ_self _) hi x hx
  omega
end
end Go.Sx.Tryz
namespace Go.Sx.Tryz
open Go Go.Sx Go.Proofs
set_option maxRecDepth 100000
abbrev mE:Sig:=[(true,Bw),(false,.int .i64)]
theorem lM{L:List Nd}(h:jg L=true):L.length≤9000∧∀i:Nat,i<L.length→(ai (af L i)).length≤20000:=by
 simp only[jg,Bool.and_eq_true,decide_eq_true_eq]at h
 refine⟨h.1,fun i hi=>?_⟩
 have:=List.all_eq_true.1 h.2 _ (List.mem_of_getElem? (fP hi))
 simp only[fV,Bool.and_eq_true,decide_eq_true_eq]at this
 omega
end Go.Sx.Tryz
namespace Go.Sx.Tryz
open Go Go.Sx Go.Proofs
set_option maxRecDepth 100000
def GR(L:List Nd)(r:Int):Bool:=jg L&&dC L r==0
end Go.Sx.Tryz
namespace Go.Sx.Tryz
open Go Go.Sx Go.Proofs
set_option maxRecDepth 100000
abbrev LV:Ty:=.pair .str (.pair (.int .i64) (.pair (.int .i64) (.pair .bool (.pair .bool .unit))))
abbrev y9:Sig:=[(true,LV)]
def nU(k:Int):Int:=bif inK k then fY k else 0
def pA(k:Int):Int:=bif inK k then dZ k else 0
def mv(k:Int):Bool:=bif inK k then qZ k else false
def fO(k:Int):Bool:=bif inK k then uG k else false
def shS(k:Int):an y9:=((cM k,nU k,pA k,mv k,fO k,()),())
def shX(x:an iu):an y9:=shS x.1
abbrev Qp:List Sh:=[.own 4 .bool]
def eo:List (Nat×aX):=[(50,cq 50 iu y9 (fun _=>true) shX),(51,cq 51 uQ dt (fun _=>true) ue)]
def fc:List Cut:=[⟨[true,true,true,true,false,true,false,false],some ⟨[(1,[]),(3,Qp),(43,[]),(44,[]),(45,[])],[[],[]]⟩⟩,
 ⟨[true,true,true,true,false,true,false,false,true,true,false,false,true,true,true,true,false,false],some ⟨[(1,[]),(3,Qp),(4,[]),(43,[]),(44,[]),(45,[]),(104,[.sl (.int .i64)]),(105,[]),(106,[])],[[],[]]⟩⟩,
 ⟨[true,true,true,true,true,false,true,false,false],some ⟨[(1,[]),(126,Qp),(127,[]),(128,[])],[[],[]]⟩⟩]
def vP(L:List Nd)(r:Int)(u:List Bool)(n i:Int):St:={tmps:=[(1,.ref 0 0),(3,.own 1 0),(43,.sl aD L),(44,.int .i64 n),(45,.int .i64 i)],blks:=[(0,.cells 25 (trC L r)),(1,.list 4 .bool 0 false u)],next:=2}
def C8(L:List Nd)(r:Int)(u:List Bool)(n i:Int)(x:Int)(K:List Int)(l k:Int):St:={tmps:=[(1,.ref 0 0),(3,.own 1 0),(4,.int .i64 x),(43,.sl aD L),(44,.int .i64 n),(45,.int .i64 i),(104,.sl (.int .i64) K),(105,.int .i64 l),(106,.int .i64 k)],blks:=[(0,.cells 25 (trC L r)),(1,.list 4 .bool 0 false u)],next:=2}
def Dt(L:List Nd)(r:Int)(u:List Bool)(n i:Int):St:={tmps:=[(1,.ref 0 0),(126,.own 1 0),(127,.int .i64 n),(128,.int .i64 i)],blks:=[(0,.cells 25 (trC L r)),(1,.list 4 .bool 0 false u)],next:=2}
end Go.Sx.Tryz
namespace Go.Sx.Tryz
open Go Go.Sx Go.Proofs
set_option maxRecDepth 100000
theorem rS(J:Jump R0)(L:List Nd)(r:Int):start E (au eo) fT fc J [.agg (trC L r)] [] .ok=bif decide ((↑(List.length L):Int)>16384)then Rs.ok (Out.ret (AV.int IntKind.i64 (Int.ofNat 2)),[])else bif (↑(List.length L):Int)==0 then Rs.ok (Out.ret (AV.int IntKind.i64 (Int.ofNat 5)),[])else bif r !=IntKind.wrap IntKind.i64 ((↑(List.length L):Int)-1)then Rs.ok (Out.ret (AV.int IntKind.i64 (Int.ofNat 5)),[])else bif inI r (List.length L)then bif aj (af L (Int.toNat r)) !=1 then Rs.ok (Out.ret (AV.int IntKind.i64 (Int.ofNat 5)),[])else bif inR (↑(List.length L):Int)&&(↑(List.length L):Int)==(↑(List.length L):Int)then J 0 {tmps:=[(1,AV.ref 0 0),(3,AV.own 1 0),(43,AV.sl aD L),(44,AV.int IntKind.i64 (↑(List.length L):Int)),(45,AV.int IntKind.i64 0)],blks:=[(0,Blk.cells 25 [AV.sl aD L,AV.int IntKind.i64 r]),(1,Blk.list 4 Ty.bool 0 false (List.replicate (Int.toNat (↑(List.length L):Int)) false))],next:=2}else Rs.err 503 else Rs.err 318:=by kernel_rfl
theorem Er(J:Jump R0)(L:List Nd)(r:Int)(u:List Bool)(n i:Int):resume E (au eo) (aT 0 fc 0) J [true,true,true,true,false,true,false,false] fT.code 1 (vP L r u n i) (cv E 0 fT.results .ok)=bif decide (i<n)then bif inI i (List.length L)then bif cM (aj (af L (Int.toNat i)))==[]then Rs.ok (Out.ret (AV.int IntKind.i64 (Int.ofNat 3)),[])else bif decide ((↑(List.length (ai (af L (Int.toNat i)))):Int)<nU (aj (af L (Int.toNat i))))then Rs.ok (Out.ret (AV.int IntKind.i64 (Int.ofNat 131)),[])else bif decide (pA (aj (af L (Int.toNat i)))≥0)then bif decide ((↑(List.length (ai (af L (Int.toNat i)))):Int)>pA (aj (af L (Int.toNat i))))then Rs.ok (Out.ret (AV.int IntKind.i64 (Int.ofNat 131)),[])else bif !mv (aj (af L (Int.toNat i)))then bif !aF (af L (Int.toNat i))==[]then bif !aF (af L (Int.toNat i))==[]then Rs.ok (Out.ret (AV.int IntKind.i64 (Int.ofNat 5)),[])else J 1 {tmps:=[(1,AV.ref 0 0),(3,AV.own 1 0),(4,AV.int IntKind.i64 i),(43,AV.sl aD L),(44,AV.int IntKind.i64 n),(45,AV.int IntKind.i64 i),(104,AV.sl (Ty.int IntKind.i64) (ai (af L (Int.toNat i)))),(105,AV.int IntKind.i64 (↑(List.length (ai (af L (Int.toNat i)))):Int)),(106,AV.int IntKind.i64 0)],blks:=[(0,Blk.cells 25 [AV.sl aD L,AV.int IntKind.i64 r]),(1,Blk.list 4 Ty.bool 0 false u)],next:=2}else bif !fO (aj (af L (Int.toNat i)))==bq (ar (af L (Int.toNat i))) (aB (af L (Int.toNat i))) (ah (af L (Int.toNat i))) (ag (af L (Int.toNat i)))then Rs.ok (Out.ret (AV.int IntKind.i64 (Int.ofNat 5)),[])else bif !fO (aj (af L (Int.toNat i)))then bif !(ar (af L (Int.toNat i))==0&&(aB (af L (Int.toNat i))==[]&&(ah (af L (Int.toNat i))==0&&ag (af L (Int.toNat i))==[])))then Rs.ok (Out.ret (AV.int IntKind.i64 (Int.ofNat 5)),[])else J 1 {tmps:=[(1,AV.ref 0 0),(3,AV.own 1 0),(4,AV.int IntKind.i64 i),(43,AV.sl aD L),(44,AV.int IntKind.i64 n),(45,AV.int IntKind.i64 i),(104,AV.sl (Ty.int IntKind.i64) (ai (af L (Int.toNat i)))),(105,AV.int IntKind.i64 (↑(List.length (ai (af L (Int.toNat i)))):Int)),(106,AV.int IntKind.i64 0)],blks:=[(0,Blk.cells 25 [AV.sl aD L,AV.int IntKind.i64 r]),(1,Blk.list 4 Ty.bool 0 false u)],next:=2}else J 1 {tmps:=[(1,AV.ref 0 0),(3,AV.own 1 0),(4,AV.int IntKind.i64 i),(43,AV.sl aD L),(44,AV.int IntKind.i64 n),(45,AV.int IntKind.i64 i),(104,AV.sl (Ty.int IntKind.i64) (ai (af L (Int.toNat i)))),(105,AV.int IntKind.i64 (↑(List.length (ai (af L (Int.toNat i)))):Int)),(106,AV.int IntKind.i64 0)],blks:=[(0,Blk.cells 25 [AV.sl aD L,AV.int IntKind.i64 r]),(1,Blk.list 4 Ty.bool 0 false u)],next:=2}else bif !fO (aj (af L (Int.toNat i)))==bq (ar (af L (Int.toNat i))) (aB (af L (Int.toNat i))) (ah (af L (Int.toNat i))) (ag (af L (Int.toNat i)))then Rs.ok (Out.ret (AV.int IntKind.i64 (Int.ofNat 5)),[])else bif !fO (aj (af L (Int.toNat i)))then bif !(ar (af L (Int.toNat i))==0&&(aB (af L (Int.toNat i))==[]&&(ah (af L (Int.toNat i))==0&&ag (af L (Int.toNat i))==[])))then Rs.ok (Out.ret (AV.int IntKind.i64 (Int.ofNat 5)),[])else J 1 {tmps:=[(1,AV.ref 0 0),(3,AV.own 1 0),(4,AV.int IntKind.i64 i),(43,AV.sl aD L),(44,AV.int IntKind.i64 n),(45,AV.int IntKind.i64 i),(104,AV.sl (Ty.int IntKind.i64) (ai (af L (Int.toNat i)))),(105,AV.int IntKind.i64 (↑(List.length (ai (af L (Int.toNat i)))):Int)),(106,AV.int IntKind.i64 0)],blks:=[(0,Blk.cells 25 [AV.sl aD L,AV.int IntKind.i64 r]),(1,Blk.list 4 Ty.bool 0 false u)],next:=2}else J 1 {tmps:=[(1,AV.ref 0 0),(3,AV.own 1 0),(4,AV.int IntKind.i64 i),(43,AV.sl aD L),(44,AV.int IntKind.i64 n),(45,AV.int IntKind.i64 i),(104,AV.sl (Ty.int IntKind.i64) (ai (af L (Int.toNat i)))),(105,AV.int IntKind.i64 (↑(List.length (ai (af L (Int.toNat i)))):Int)),(106,AV.int IntKind.i64 0)],blks:=[(0,Blk.cells 25 [AV.sl aD L,AV.int IntKind.i64 r]),(1,Blk.list 4 Ty.bool 0 false u)],next:=2}else bif !mv (aj (af L (Int.toNat i)))then bif !aF (af L (Int.toNat i))==[]then bif !aF (af L (Int.toNat i))==[]then Rs.ok (Out.ret (AV.int IntKind.i64 (Int.ofNat 5)),[])else J 1 {tmps:=[(1,AV.ref 0 0),(3,AV.own 1 0),(4,AV.int IntKind.i64 i),(43,AV.sl aD L),(44,AV.int IntKind.i64 n),(45,AV.int IntKind.i64 i),(104,AV.sl (Ty.int IntKind.i64) (ai (af L (Int.toNat i)))),(105,AV.int IntKind.i64 (↑(List.length (ai (af L (Int.toNat i)))):Int)),(106,AV.int IntKind.i64 0)],blks:=[(0,Blk.cells 25 [AV.sl aD L,AV.int IntKind.i64 r]),(1,Blk.list 4 Ty.bool 0 false u)],next:=2}else bif !fO (aj (af L (Int.toNat i)))==bq (ar (af L (Int.toNat i))) (aB (af L (Int.toNat i))) (ah (af L (Int.toNat i))) (ag (af L (Int.toNat i)))then Rs.ok (Out.ret (AV.int IntKind.i64 (Int.ofNat 5)),[])else bif !fO (aj (af L (Int.toNat i)))then bif !(ar (af L (Int.toNat i))==0&&(aB (af L (Int.toNat i))==[]&&(ah (af L (Int.toNat i))==0&&ag (af L (Int.toNat i))==[])))then Rs.ok (Out.ret (AV.int IntKind.i64 (Int.ofNat 5)),[])else J 1 {tmps:=[(1,AV.ref 0 0),(3,AV.own 1 0),(4,AV.int IntKind.i64 i),(43,AV.sl aD L),(44,AV.int IntKind.i64 n),(45,AV.int IntKind.i64 i),(104,AV.sl (Ty.int IntKind.i64) (ai (af L (Int.toNat i)))),(105,AV.int IntKind.i64 (↑(List.length (ai (af L (Int.toNat i)))):Int)),(106,AV.int IntKind.i64 0)],blks:=[(0,Blk.cells 25 [AV.sl aD L,AV.int IntKind.i64 r]),(1,Blk.list 4 Ty.bool 0 false u)],next:=2}else J 1 {tmps:=[(1,AV.ref 0 0),(3,AV.own 1 0),(4,AV.int IntKind.i64 i),(43,AV.sl aD L),(44,AV.int IntKind.i64 n),(45,AV.int IntKind.i64 i),(104,AV.sl (Ty.int IntKind.i64) (ai (af L (Int.toNat i)))),(105,AV.int IntKind.i64 (↑(List.length (ai (af L (Int.toNat i)))):Int)),(106,AV.int IntKind.i64 0)],blks:=[(0,Blk.cells 25 [AV.sl aD L,AV.int IntKind.i64 r]),(1,Blk.list 4 Ty.bool 0 false u)],next:=2}else bif !fO (aj (af L (Int.toNat i)))==bq (ar (af L (Int.toNat i))) (aB (af L (Int.toNat i))) (ah (af L (Int.toNat i))) (ag (af L (Int.toNat i)))then Rs.ok (Out.ret (AV.int IntKind.i64 (Int.ofNat 5)),[])else bif !fO (aj (af L (Int.toNat i)))then bif !(ar (af L (Int.toNat i))==0&&(aB (af L (Int.toNat i))==[]&&(ah (af L (Int.toNat i))==0&&ag (af L (Int.toNat i))==[])))then Rs.ok (Out.ret (AV.int IntKind.i64 (Int.ofNat 5)),[])else J 1 {tmps:=[(1,AV.ref 0 0),(3,AV.own 1 0),(4,AV.int IntKind.i64 i),(43,AV.sl aD L),(44,AV.int IntKind.i64 n),(45,AV.int IntKind.i64 i),(104,AV.sl (Ty.int IntKind.i64) (ai (af L (Int.toNat i)))),(105,AV.int IntKind.i64 (↑(List.length (ai (af L (Int.toNat i)))):Int)),(106,AV.int IntKind.i64 0)],blks:=[(0,Blk.cells 25 [AV.sl aD L,AV.int IntKind.i64 r]),(1,Blk.list 4 Ty.bool 0 false u)],next:=2}else J 1 {tmps:=[(1,AV.ref 0 0),(3,AV.own 1 0),(4,AV.int IntKind.i64 i),(43,AV.sl aD L),(44,AV.int IntKind.i64 n),(45,AV.int IntKind.i64 i),(104,AV.sl (Ty.int IntKind.i64) (ai (af L (Int.toNat i)))),(105,AV.int IntKind.i64 (↑(List.length (ai (af L (Int.toNat i)))):Int)),(106,AV.int IntKind.i64 0)],blks:=[(0,Blk.cells 25 [AV.sl aD L,AV.int IntKind.i64 r]),(1,Blk.list 4 Ty.bool 0 false u)],next:=2}else Rs.err 801 else J 2 {tmps:=[(1,AV.ref 0 0),(126,AV.own 1 0),(127,AV.int IntKind.i64 (↑(List.length u):Int)),(128,AV.int IntKind.i64 0)],blks:=[(0,Blk.cells 25 [AV.sl aD L,AV.int IntKind.i64 r]),(1,Blk.list 4 Ty.bool 0 false u)],next:=2}:=by kernel_rfl
theorem nI(J:Jump R0)(L:List Nd)(r:Int)(u:List Bool)(n i:Int)(x:Int)(K:List Int)(l k:Int):resume E (au eo) (aT 0 fc 0) J [true,true,true,true,false,true,false,false,true,true,false,false,true,true,true,true,false,false] fT.code 1 (C8 L r u n i x K l k) (cv E 0 fT.results .ok)=bif decide (k<l)then bif inI k (List.length K)then bif decide (bE K (Int.toNat k)<0)then Rs.ok (Out.ret (AV.int IntKind.i64 (Int.ofNat 7)),[])else bif decide (bE K (Int.toNat k)≥x)then Rs.ok (Out.ret (AV.int IntKind.i64 (Int.ofNat 7)),[])else bif inI (bE K (Int.toNat k)) (List.length u)then bif List.getD u (Int.toNat (bE K (Int.toNat k))) (Ty.dflt Ty.bool)then Rs.ok (Out.ret (AV.int IntKind.i64 (Int.ofNat 4)),[])else bif inI (bE K (Int.toNat k)) (List.length u)then J 1 {tmps:=[(1,AV.ref 0 0),(3,AV.own 1 0),(4,AV.int IntKind.i64 x),(43,AV.sl aD L),(44,AV.int IntKind.i64 n),(45,AV.int IntKind.i64 i),(104,AV.sl (Ty.int IntKind.i64) K),(105,AV.int IntKind.i64 l),(106,AV.int IntKind.i64 (IntKind.wrap IntKind.i64 (k+1)))],blks:=[(0,Blk.cells 25 [AV.sl aD L,AV.int IntKind.i64 r]),(1,Blk.list 4 Ty.bool 0 false (List.set u (Int.toNat (bE K (Int.toNat k))) true))],next:=2}else Rs.err 2402 else Rs.err 2202 else Rs.err 1900 else J 0 {tmps:=[(1,AV.ref 0 0),(3,AV.own 1 0),(43,AV.sl aD L),(44,AV.int IntKind.i64 n),(45,AV.int IntKind.i64 (IntKind.wrap IntKind.i64 (i+1)))],blks:=[(0,Blk.cells 25 [AV.sl aD L,AV.int IntKind.i64 r]),(1,Blk.list 4 Ty.bool 0 false u)],next:=2}:=by kernel_rfl
theorem rN(J:Jump R0)(L:List Nd)(r:Int)(u:List Bool)(n i:Int):resume E (au eo) (aT 0 fc 0) J [true,true,true,true,true,false,true,false,false] fT.code 1 (Dt L r u n i) (cv E 0 fT.results .ok)=bif decide (i<n)then bif inI i (List.length u)then bif !List.getD u (Int.toNat i) (Ty.dflt Ty.bool)then bif i !=r then Rs.ok (Out.ret (AV.int IntKind.i64 (Int.ofNat 3)),[])else J 2 {tmps:=[(1,AV.ref 0 0),(126,AV.own 1 0),(127,AV.int IntKind.i64 n),(128,AV.int IntKind.i64 (IntKind.wrap IntKind.i64 (i+1)))],blks:=[(0,Blk.cells 25 [AV.sl aD L,AV.int IntKind.i64 r]),(1,Blk.list 4 Ty.bool 0 false u)],next:=2}else J 2 {tmps:=[(1,AV.ref 0 0),(126,AV.own 1 0),(127,AV.int IntKind.i64 n),(128,AV.int IntKind.i64 (IntKind.wrap IntKind.i64 (i+1)))],blks:=[(0,Blk.cells 25 [AV.sl aD L,AV.int IntKind.i64 r]),(1,Blk.list 4 Ty.bool 0 false u)],next:=2}else Rs.err 2901 else Rs.ok (Out.ret (AV.int IntKind.i64 0),[]):=by kernel_rfl
end Go.Sx.Tryz
namespace Go.Sx.Tryz
open Go Go.Sx Go.Proofs
set_option maxRecDepth 100000
def xN(j:Nat)(st:St)(o:R0):Prop:=∃fuel,pieces (R:=R0) E (au eo) fT fc 0 .ok fuel j st= .ok o
def toI(b:Bool):Int:=bif b then 1 else 0
theorem zj(us:List Bool)(k:Nat):bE (us.map toI) k=toI (us.getD k false):=by
 simp only[bE,List.getD,List.getElem?_map]
 cases us[k]? <;>rfl
theorem Hl(us:List Bool)(k:Nat):oA (us.map toI) k 1=(us.set k true).map toI:=by
 simp only[oA,List.map_set]
 rfl
theorem LK(b:Bool):decide (toI b>0)=b:=by cases b<;>rfl
theorem Hd{L:List Nd}{r n i:Int}{K:List Int}{o:R0}(hK:K.length≤20000)(h0:0≤i)(hi:i≤9000):∀(ks pre:List Int) (us:List Bool),K=pre++ks→i≤us.length→
  (match eZ i ks (us.map toI)with| .inl c=>o=zU c| .inr u'=>∀us':List Bool,u'=us'.map toI→us'.length=us.length→xN 0 (vP L r us' n (i+1)) o)→xN 1 (C8 L r us n i i K K.length pre.length) o
 |[],pre,us,hp,hu,h=>by
  obtain⟨fuel,h⟩:xN 0 (vP L r us n (i+1)) o:=h us rfl rfl
  refine⟨fuel+1,(nI (pieces (R:=R0) E (au eo) fT fc 0 .ok fuel) L r us n i i K K.length pre.length).trans ?_⟩
  rw[List.append_nil]at hp
  subst hp
  have h1:¬((K.length:Int)<K.length):=by omega
  have h4:IntKind.wrap .i64 (i+1)=i+1:=wrap64 (by omega) (by omega)
  simp only[h1,decide_false,cond_false,h4]
  exact h
 |k::ks,pre,us,hp,hu,h=>by
  have hlen:pre.length+1+ks.length=K.length:=by rw[hp];simp;omega
  have h1:(pre.length:Int)<K.length:=by omega
  have h2:inI (pre.length:Int) K.length=true:=by rw[hp];exact Ah _ _ _
  have h3:bE K (Int.toNat (pre.length:Int))=k:=by rw[hp,Int.toNat_natCast];exact sU _ _ _
  have h4:IntKind.wrap .i64 ((pre.length:Int)+1)=(pre.length:Int)+1:=wrap64 (by omega) (by omega)
  have h5:(((pre++[k]).length:Nat):Int)=(pre.length:Int)+1:=by simp
  simp only[eZ,zj,Hl,LK]at h
  by_cases e1:k<0
  ·simp only[e1,decide_true,cond_true]at h
   refine⟨1,(nI (pieces (R:=R0) E (au eo) fT fc 0 .ok 0) L r us n i i K K.length pre.length).trans ?_⟩
   simp only[h1,h2,h3,e1,decide_true,cond_true,h]
   rfl
  ·by_cases e2:k≥i
   ·simp only[e1,e2,decide_true,decide_false,cond_true,cond_false]at h
    refine⟨1,(nI (pieces (R:=R0) E (au eo) fT fc 0 .ok 0) L r us n i i K K.length pre.length).trans ?_⟩
    simp only[h1,h2,h3,e1,e2,decide_true,decide_false,cond_true,cond_false,h]
    rfl
   ·have h6:inI k us.length=true:=bZ (by omega) (by omega)
    have hd:us.getD k.toNat (Ty.dflt Ty.bool)=us.getD k.toNat false:=rfl
    cases e3:us.getD k.toNat false
    ·simp only[e1,e2,e3,decide_false,cond_false]at h
     obtain⟨fuel,ih⟩:=Hd hK h0 hi ks (pre++[k]) (us.set k.toNat true) (by simp[hp]) (by simp only[List.length_set];exact hu) (by simpa only[List.length_set]using h)
     refine⟨fuel+1,(nI (pieces (R:=R0) E (au eo) fT fc 0 .ok fuel) L r us n i i K K.length pre.length).trans ?_⟩
     simp only[h1,h2,h3,h4,h6,hd,e1,e2,e3,decide_true,decide_false,cond_true,cond_false]
     rw[h5]at ih
     exact ih
    ·simp only[e1,e2,e3,decide_true,decide_false,cond_true,cond_false]at h
     refine⟨1,(nI (pieces (R:=R0) E (au eo) fT fc 0 .ok 0) L r us n i i K K.length pre.length).trans ?_⟩
     simp only[h1,h2,h3,h6,hd,e1,e2,e3,decide_true,decide_false,cond_true,cond_false,h]
     rfl
theorem Ac(J:Jump R0){L:List Nd}{r n:Int}{us:List Bool}{i:Int}{x:Nd}(h1:i<n)(h2:inI i L.length=true)(h3:af L i.toNat=x):
  resume E (au eo) (aT 0 fc 0) J [true,true,true,true,false,true,false,false] fT.code 1 (vP L r us n i) (cv E 0 fT.results .ok)=
   bif ec x !=0 then .ok (zU (ec x))else J 1 (C8 L r us n i i (ai x) (ai x).length 0):=by
 rw[Er]
 simp only[h1,h2,h3,decide_true,cond_true]
 unfold ec uV
 cases e1:(cM (aj x)==[])
 ·have hk:inK (aj x)=true:=IU e1
  simp only[nU,pA,mv,fO,hk,cond_false,cond_true]
  have hR:bq (ar x) (aB x) (ah x) (ag x)=true→(ar x==0)=false:=fun h=>by
   have:=qA h
   simp
   omega
  cases e2:decide (((ai x).length:Int)<fY (aj x))
  ·cases e3:decide (dZ (aj x)≥0)
   ·cases e5:qZ (aj x)<;>cases e6:(aF x==[])<;>first|rfl|skip
    all_goals
     cases e7:uG (aj x)
     ·cases e12:bq (ar x) (aB x) (ah x) (ag x)
      ·cases e8:(ar x==0)<;>cases e9:(aB x==[])<;>cases e10:(ah x==0)<;>cases e11:(ag x==[])<;>simp only[bne,e8,e9,e10,e11]<;>rfl
      ·simp only[bne,hR e12];rfl
     ·cases e8:bq (ar x) (aB x) (ah x) (ag x)<;>rfl
   ·cases e4:decide (((ai x).length:Int)>dZ (aj x))
    ·cases e5:qZ (aj x)<;>cases e6:(aF x==[])<;>first|rfl|skip
     all_goals
      cases e7:uG (aj x)
      ·cases e12:bq (ar x) (aB x) (ah x) (ag x)
       ·cases e8:(ar x==0)<;>cases e9:(aB x==[])<;>cases e10:(ah x==0)<;>cases e11:(ag x==[])<;>simp only[bne,e8,e9,e10,e11]<;>rfl
       ·simp only[bne,hR e12];rfl
      ·cases e8:bq (ar x) (aB x) (ah x) (ag x)<;>rfl
    ·rfl
  ·rfl
 ·rfl
end Go.Sx.Tryz
