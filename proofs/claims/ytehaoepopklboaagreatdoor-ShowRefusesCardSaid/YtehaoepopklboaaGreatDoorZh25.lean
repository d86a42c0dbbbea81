/- A part of the proof: see the row's text. -/
import Derived.Test.YtehaoepopklboaaGreatDoorZh24
import Derived.Test.YtehaoepopklboaaGreatDoorZh15
import Derived.Test.YtehaoepopklboaaGreatDoorZh13
import Derived.Test.YtehaoepopklboaaGreatDoorZh23
import Derived.Test.YtehaoepopklboaaGreatDoorZh10
set_option linter.unusedVariables false
set_option linter.unusedSimpArgs false
noncomputable section
namespace Go.Sx.Tryz
open Go Go.Sx Go.Proofs
set_option maxRecDepth 100000
abbrev JM:Ty:=.pair (.int .i64) (.pair .str (.pair (.int .i64) (.pair .str .unit)))
abbrev tyC(b:Int)(n:List UInt8)(d:Int)(m:List UInt8):List AV:=[.int .i64 b,.str n,.int .i64 d,.str m]
abbrev ig:Sig:=[(true,JM)]
def okM(b d i:Int)(c:UInt8):Bool:=
 bif (c.toNat:Int)==32 then true else bif (c.toNat:Int)==63 then(bif i==0 then b==5 else true)
 else bif (c.toNat:Int)==111 then(bif i==0 then b==5 else true)&& !decide (i<d)else false
def jq(b d:Int):Int→List UInt8→Bool
 |_,[]=>true
 |i,c::r=>okM b d i c&&jq b d (i+1) r
def bV(b:Int)(n:List UInt8)(d:Int)(m:List UInt8):Bool:=
 !decide (d<0)&&(!decide (d>4)&&(((m.length:Int)==d+1)&&(!decide (b<1)&&(!decide (b>6)&&(((b==5)==(n !=[]))&&(!(b==6&&decide (d>0))&&jq b d 0 m))))))
def oE(x:ai ig):ai cd:=(bV x.1.1 x.1.2.1 x.1.2.2.1 x.1.2.2.2.1,())
def stepT(s:List UInt8)(i:Int)(c:UInt8):List UInt8:=
 let s1:=bif decide (i>0)then s++[91,93]else s
 bif (c.toNat:Int)==63 then s1++[63]else bif (c.toNat:Int)==111 then [79,112,116,105,111,110,60]++s1++[62]else s1
def vj(s:List UInt8):Int→List UInt8→List UInt8
 |_,[]=>s
 |i,c::r=>vj (stepT s i c) (i+1) r
def vI(b:Int)(n:List UInt8):List UInt8:=
 bif b==1 then [105,110,116]else bif b==2 then [98,111,111,108]else bif b==3 then [100,111,117,98,108,101]else bif b==4 then [115,116,114]else bif b==6 then [118,111,105,100]else n
def qO(b:Int)(n:List UInt8)(d:Int)(m:List UInt8):List UInt8:=vj (vI b n) 0 m
def o9:List Cut:=[⟨[true,true,false,true,false,false],some ⟨[(1,[]),(52,[]),(53,[])],[[]]⟩⟩]
def Gg(b:Int)(n:List UInt8)(d:Int)(m:List UInt8)(l i:Int):St:={tmps:=[(1,.ref 0 0),(52,.int .i64 l),(53,.int .i64 i)],blks:=[(0,.cells 50 (tyC b n d m))],next:=1}
def oN:List Cut:=[⟨[true,true,true,true,false,true,false,false],some ⟨[(1,[]),(3,[]),(24,[]),(25,[])],[[]]⟩⟩]
def Eu(b:Int)(n:List UInt8)(d:Int)(m:List UInt8)(s:List UInt8)(l i:Int):St:={tmps:=[(1,.ref 0 0),(3,.str s),(24,.int .i64 l),(25,.int .i64 i)],blks:=[(0,.cells 50 (tyC b n d m))],next:=1}
def tu:List (Nat×aQ):=(62,bg 62 ig cd (fun _=>true) oE)::jD
end Go.Sx.Tryz
namespace Go.Sx.Tryz
open Go Go.Sx Go.Proofs
set_option maxRecDepth 100000
theorem Gw(J:Jump R0)(b:Int)(n:List UInt8)(d:Int)(m:List UInt8):start E (an jD) pH o9 J [.agg (tyC b n d m)] [] .ok=bif decide (d<0)then Rs.ok (Out.ret (AV.bool false),[])else bif decide (d>4)then Rs.ok (Out.ret (AV.bool false),[])else bif (↑(List.length m):Int) !=IntKind.wrap IntKind.i64 (d+1)then Rs.ok (Out.ret (AV.bool false),[])else bif decide (b<1)then Rs.ok (Out.ret (AV.bool false),[])else bif decide (b>6)then Rs.ok (Out.ret (AV.bool false),[])else bif !(b==5)== !n==([]:List UInt8)then Rs.ok (Out.ret (AV.bool false),[])else bif b==6 then bif decide (d>0)then Rs.ok (Out.ret (AV.bool false),[])else J 0 {tmps:=[(1,AV.ref 0 0),(52,AV.int IntKind.i64 (↑(List.length m):Int)),(53,AV.int IntKind.i64 0)],blks:=[(0,Blk.cells 50 [AV.int IntKind.i64 b,AV.str n,AV.int IntKind.i64 d,AV.str m])],next:=1}else J 0 {tmps:=[(1,AV.ref 0 0),(52,AV.int IntKind.i64 (↑(List.length m):Int)),(53,AV.int IntKind.i64 0)],blks:=[(0,Blk.cells 50 [AV.int IntKind.i64 b,AV.str n,AV.int IntKind.i64 d,AV.str m])],next:=1}:=by kernel_rfl
theorem Db(J:Jump R0)(b:Int)(n:List UInt8)(d:Int)(m:List UInt8)(l i:Int):resume E (an jD) (aR 0 o9 0) J [true,true,false,true,false,false] pH.code 1 (Gg b n d m l i) (bX E 0 pH.results .ok)=bif decide (i<l)then bif inI i (List.length m)then bif (↑(UInt8.toNat (List.getD m (Int.toNat i) 0)):Int)==32 then J 0 {tmps:=[(1,AV.ref 0 0),(52,AV.int IntKind.i64 l),(53,AV.int IntKind.i64 (IntKind.wrap IntKind.i64 (i+1)))],blks:=[(0,Blk.cells 50 [AV.int IntKind.i64 b,AV.str n,AV.int IntKind.i64 d,AV.str m])],next:=1}else bif (↑(UInt8.toNat (List.getD m (Int.toNat i) 0)):Int)==63 then bif (↑(UInt8.toNat (List.getD m (Int.toNat i) 0)):Int)==63 then bif i==0 then bif b !=5 then Rs.ok (Out.ret (AV.bool false),[])else bif inI i (List.length m)then bif (↑(UInt8.toNat (List.getD m (Int.toNat i) 0)):Int)==111 then bif decide (i<d)then Rs.ok (Out.ret (AV.bool false),[])else J 0 {tmps:=[(1,AV.ref 0 0),(52,AV.int IntKind.i64 l),(53,AV.int IntKind.i64 (IntKind.wrap IntKind.i64 (i+1)))],blks:=[(0,Blk.cells 50 [AV.int IntKind.i64 b,AV.str n,AV.int IntKind.i64 d,AV.str m])],next:=1}else J 0 {tmps:=[(1,AV.ref 0 0),(52,AV.int IntKind.i64 l),(53,AV.int IntKind.i64 (IntKind.wrap IntKind.i64 (i+1)))],blks:=[(0,Blk.cells 50 [AV.int IntKind.i64 b,AV.str n,AV.int IntKind.i64 d,AV.str m])],next:=1}else Rs.err 1111 else bif inI i (List.length m)then bif (↑(UInt8.toNat (List.getD m (Int.toNat i) 0)):Int)==111 then bif decide (i<d)then Rs.ok (Out.ret (AV.bool false),[])else J 0 {tmps:=[(1,AV.ref 0 0),(52,AV.int IntKind.i64 l),(53,AV.int IntKind.i64 (IntKind.wrap IntKind.i64 (i+1)))],blks:=[(0,Blk.cells 50 [AV.int IntKind.i64 b,AV.str n,AV.int IntKind.i64 d,AV.str m])],next:=1}else J 0 {tmps:=[(1,AV.ref 0 0),(52,AV.int IntKind.i64 l),(53,AV.int IntKind.i64 (IntKind.wrap IntKind.i64 (i+1)))],blks:=[(0,Blk.cells 50 [AV.int IntKind.i64 b,AV.str n,AV.int IntKind.i64 d,AV.str m])],next:=1}else Rs.err 1111 else Rs.ok (Out.ret (AV.bool false),[])else bif (↑(UInt8.toNat (List.getD m (Int.toNat i) 0)):Int)==111 then bif i==0 then bif b !=5 then Rs.ok (Out.ret (AV.bool false),[])else bif inI i (List.length m)then bif (↑(UInt8.toNat (List.getD m (Int.toNat i) 0)):Int)==111 then bif decide (i<d)then Rs.ok (Out.ret (AV.bool false),[])else J 0 {tmps:=[(1,AV.ref 0 0),(52,AV.int IntKind.i64 l),(53,AV.int IntKind.i64 (IntKind.wrap IntKind.i64 (i+1)))],blks:=[(0,Blk.cells 50 [AV.int IntKind.i64 b,AV.str n,AV.int IntKind.i64 d,AV.str m])],next:=1}else J 0 {tmps:=[(1,AV.ref 0 0),(52,AV.int IntKind.i64 l),(53,AV.int IntKind.i64 (IntKind.wrap IntKind.i64 (i+1)))],blks:=[(0,Blk.cells 50 [AV.int IntKind.i64 b,AV.str n,AV.int IntKind.i64 d,AV.str m])],next:=1}else Rs.err 1111 else bif inI i (List.length m)then bif (↑(UInt8.toNat (List.getD m (Int.toNat i) 0)):Int)==111 then bif decide (i<d)then Rs.ok (Out.ret (AV.bool false),[])else J 0 {tmps:=[(1,AV.ref 0 0),(52,AV.int IntKind.i64 l),(53,AV.int IntKind.i64 (IntKind.wrap IntKind.i64 (i+1)))],blks:=[(0,Blk.cells 50 [AV.int IntKind.i64 b,AV.str n,AV.int IntKind.i64 d,AV.str m])],next:=1}else J 0 {tmps:=[(1,AV.ref 0 0),(52,AV.int IntKind.i64 l),(53,AV.int IntKind.i64 (IntKind.wrap IntKind.i64 (i+1)))],blks:=[(0,Blk.cells 50 [AV.int IntKind.i64 b,AV.str n,AV.int IntKind.i64 d,AV.str m])],next:=1}else Rs.err 1111 else Rs.ok (Out.ret (AV.bool false),[])else Rs.err 603 else Rs.ok (Out.ret (AV.bool true),[]):=by kernel_rfl
theorem Fm(J:Jump R0)(b:Int)(n:List UInt8)(d:Int)(m:List UInt8):start E (an tu) jM oN J [.agg (tyC b n d m)] [] .ok=bif !Prod.fst (oE ((b,n,d,m,()),()))then Rs.ok (Out.ret (AV.str []),[])else bif b==1 then J 0 {tmps:=[(1,AV.ref 0 0),(3,AV.str [105,110,116]),(24,AV.int IntKind.i64 (↑(List.length m):Int)),(25,AV.int IntKind.i64 0)],blks:=[(0,Blk.cells 50 [AV.int IntKind.i64 b,AV.str n,AV.int IntKind.i64 d,AV.str m])],next:=1}else bif b==2 then J 0 {tmps:=[(1,AV.ref 0 0),(3,AV.str [98,111,111,108]),(24,AV.int IntKind.i64 (↑(List.length m):Int)),(25,AV.int IntKind.i64 0)],blks:=[(0,Blk.cells 50 [AV.int IntKind.i64 b,AV.str n,AV.int IntKind.i64 d,AV.str m])],next:=1}else bif b==3 then J 0 {tmps:=[(1,AV.ref 0 0),(3,AV.str [100,111,117,98,108,101]),(24,AV.int IntKind.i64 (↑(List.length m):Int)),(25,AV.int IntKind.i64 0)],blks:=[(0,Blk.cells 50 [AV.int IntKind.i64 b,AV.str n,AV.int IntKind.i64 d,AV.str m])],next:=1}else bif b==4 then J 0 {tmps:=[(1,AV.ref 0 0),(3,AV.str [115,116,114]),(24,AV.int IntKind.i64 (↑(List.length m):Int)),(25,AV.int IntKind.i64 0)],blks:=[(0,Blk.cells 50 [AV.int IntKind.i64 b,AV.str n,AV.int IntKind.i64 d,AV.str m])],next:=1}else bif b==6 then J 0 {tmps:=[(1,AV.ref 0 0),(3,AV.str [118,111,105,100]),(24,AV.int IntKind.i64 (↑(List.length m):Int)),(25,AV.int IntKind.i64 0)],blks:=[(0,Blk.cells 50 [AV.int IntKind.i64 b,AV.str n,AV.int IntKind.i64 d,AV.str m])],next:=1}else J 0 {tmps:=[(1,AV.ref 0 0),(3,AV.str n),(24,AV.int IntKind.i64 (↑(List.length m):Int)),(25,AV.int IntKind.i64 0)],blks:=[(0,Blk.cells 50 [AV.int IntKind.i64 b,AV.str n,AV.int IntKind.i64 d,AV.str m])],next:=1}:=by kernel_rfl
theorem DB(J:Jump R0)(b:Int)(n:List UInt8)(d:Int)(m:List UInt8)(s:List UInt8)(l i:Int):resume E (an tu) (aR 0 oN 0) J [true,true,true,true,false,true,false,false] jM.code 1 (Eu b n d m s l i) (bX E 0 jM.results .ok)=bif decide (i<l)then bif decide (i>0)then bif decide (List.length s+List.length (([91,93]:List UInt8))<2^62)then bif inI i (List.length m)then bif (↑(UInt8.toNat (List.getD m (Int.toNat i) 0)):Int)==63 then bif decide (List.length (s++([91,93]:List UInt8))+List.length (([63]:List UInt8))<2^62)then J 0 {tmps:=[(1,AV.ref 0 0),(3,AV.str (s++([91,93]:List UInt8)++([63]:List UInt8))),(24,AV.int IntKind.i64 l),(25,AV.int IntKind.i64 (IntKind.wrap IntKind.i64 (i+1)))],blks:=[(0,Blk.cells 50 [AV.int IntKind.i64 b,AV.str n,AV.int IntKind.i64 d,AV.str m])],next:=1}else Rs.err 2201 else bif (↑(UInt8.toNat (List.getD m (Int.toNat i) 0)):Int)==111 then bif decide (List.length (([79,112,116,105,111,110,60]:List UInt8))+List.length (s++([91,93]:List UInt8))<2^62)then bif decide (List.length (([79,112,116,105,111,110,60]:List UInt8)++(s++([91,93]:List UInt8)))+List.length (([62]:List UInt8))<2^62)then J 0 {tmps:=[(1,AV.ref 0 0),(3,AV.str (([79,112,116,105,111,110,60]:List UInt8)++(s++([91,93]:List UInt8))++([62]:List UInt8))),(24,AV.int IntKind.i64 l),(25,AV.int IntKind.i64 (IntKind.wrap IntKind.i64 (i+1)))],blks:=[(0,Blk.cells 50 [AV.int IntKind.i64 b,AV.str n,AV.int IntKind.i64 d,AV.str m])],next:=1}else Rs.err 2402 else Rs.err 2401 else J 0 {tmps:=[(1,AV.ref 0 0),(3,AV.str (s++([91,93]:List UInt8))),(24,AV.int IntKind.i64 l),(25,AV.int IntKind.i64 (IntKind.wrap IntKind.i64 (i+1)))],blks:=[(0,Blk.cells 50 [AV.int IntKind.i64 b,AV.str n,AV.int IntKind.i64 d,AV.str m])],next:=1}else Rs.err 2003 else Rs.err 1901 else bif inI i (List.length m)then bif (↑(UInt8.toNat (List.getD m (Int.toNat i) 0)):Int)==63 then bif decide (List.length s+List.length (([63]:List UInt8))<2^62)then J 0 {tmps:=[(1,AV.ref 0 0),(3,AV.str (s++([63]:List UInt8))),(24,AV.int IntKind.i64 l),(25,AV.int IntKind.i64 (IntKind.wrap IntKind.i64 (i+1)))],blks:=[(0,Blk.cells 50 [AV.int IntKind.i64 b,AV.str n,AV.int IntKind.i64 d,AV.str m])],next:=1}else Rs.err 2201 else bif (↑(UInt8.toNat (List.getD m (Int.toNat i) 0)):Int)==111 then bif decide (List.length (([79,112,116,105,111,110,60]:List UInt8))+List.length s<2^62)then bif decide (List.length (([79,112,116,105,111,110,60]:List UInt8)++s)+List.length (([62]:List UInt8))<2^62)then J 0 {tmps:=[(1,AV.ref 0 0),(3,AV.str (([79,112,116,105,111,110,60]:List UInt8)++s++([62]:List UInt8))),(24,AV.int IntKind.i64 l),(25,AV.int IntKind.i64 (IntKind.wrap IntKind.i64 (i+1)))],blks:=[(0,Blk.cells 50 [AV.int IntKind.i64 b,AV.str n,AV.int IntKind.i64 d,AV.str m])],next:=1}else Rs.err 2402 else Rs.err 2401 else J 0 {tmps:=[(1,AV.ref 0 0),(3,AV.str s),(24,AV.int IntKind.i64 l),(25,AV.int IntKind.i64 (IntKind.wrap IntKind.i64 (i+1)))],blks:=[(0,Blk.cells 50 [AV.int IntKind.i64 b,AV.str n,AV.int IntKind.i64 d,AV.str m])],next:=1}else Rs.err 2003 else Rs.ok (Out.ret (AV.str s),[]):=by kernel_rfl
end Go.Sx.Tryz
namespace Go.Sx.Tryz
open Go Go.Sx Go.Proofs
set_option maxRecDepth 100000
theorem yp(pre:List UInt8)(c:UInt8)(r:List UInt8):inI (pre.length:Int) (pre++c::r).length=true:=by
 simp only[inI,List.length_append,List.length_cons,Bool.and_eq_true,decide_eq_true_eq]
 omega
theorem o8(b:Int)(n:List UInt8)(d:Int)(m:List UInt8)(hm:m.length≤1000):∀(r pre:List UInt8) (fuel:Nat),m=pre++r→r.length<fuel→
  pieces (R:=R0) E (an jD) pH o9 0 .ok fuel 0 (Gg b n d m m.length pre.length)= .ok (.ret (.bool (jq b d pre.length r)),[])
 |r,pre,0,_,hf=>by omega
 |[],pre,fuel+1,hr,_=>by
  refine(Db (pieces (R:=R0) E (an jD) pH o9 0 .ok fuel) b n d m m.length pre.length).trans ?_
  rw[List.append_nil]at hr
  subst hr
  simp[jq]
 |c::r,pre,fuel+1,hr,hf=>by
  have ih:=o8 b n d m hm r (pre++[c]) fuel (by simp[hr]) (by simpa using hf)
  refine(Db (pieces (R:=R0) E (an jD) pH o9 0 .ok fuel) b n d m m.length pre.length).trans ?_
  have hlen:pre.length+1+r.length=m.length:=by rw[hr];simp;omega
  have h1:((pre.length:Int)<(m.length:Int)):=by omega
  have h2:inI (pre.length:Int) m.length=true:=by rw[hr];exact yp _ _ _
  have h3:List.getD m (Int.toNat (pre.length:Int)) 0=c:=by rw[hr,Int.toNat_natCast];exact cV _ _ _
  have h4:IntKind.wrap .i64 ((pre.length:Int)+1)=(pre.length:Int)+1:=wrap64 (by omega) (by omega)
  have h5:(((pre++[c]).length:Nat):Int)=(pre.length:Int)+1:=by simp
  rw[h5]at ih
  simp only[Gg,tyC]at ih
  rw[h2,h3,h4]
  unfold jq okM
  simp only[h1,decide_true,cond_true]
  cases e1:((c.toNat:Int)==32)
  ·cases e2:((c.toNat:Int)==63)
   ·cases e3:((c.toNat:Int)==111)
    ·simp
    ·cases e4:((pre.length:Int)==0)
     ·cases e5:decide ((pre.length:Int)<d)<;>simp[ih]
     ·cases e6:(b==5)
      ·simp[bne,e6]
      ·cases e5:decide ((pre.length:Int)<d)<;>simp[bne,e6,ih]
   ·have e3:((c.toNat:Int)==111)=false:=by
     simp only[beq_iff_eq]at e2
     simp only[beq_eq_false_iff_ne]
     omega
    cases e4:((pre.length:Int)==0)
    ·simp[e3,ih]
    ·cases e6:(b==5)
     ·simp[bne,e6]
     ·simp[bne,e6,e3,ih]
  ·simp[ih]
end Go.Sx.Tryz
namespace Go.Sx.Tryz
open Go Go.Sx Go.Proofs
set_option maxRecDepth 100000
theorem rJ{w0:World}(_t:TabsW w0):aT Tryz.prog (GW w0) jD:=.cons HQ .nil
theorem Co{w0:World}(t:TabsW w0):KOK Tryz.prog (GW w0) (an jD):=aE (rJ t)
theorem vu(b:Int)(n:List UInt8)(d:Int)(m:List UInt8):start (R:=R0) E (an jD) pH o9 (pieces (R:=R0) E (an jD) pH o9 0 .ok 2000) [.agg (tyC b n d m)] [] .ok= .ok (.ret (.bool (bV b n d m)),[]):=by
 rw[Gw]
 unfold bV
 by_cases hd0:d<0
 ·simp[hd0]
 by_cases hd4:d>4
 ·simp[hd0,hd4]
 rw[wrap64 (by omega) (by omega)]
 by_cases hl:(m.length:Int)=d+1
 ·have hloop:=o8 b n d m (by omega) m [] 2000 rfl (by omega)
  simp only[Gg,tyC,List.length_nil,Int.natCast_zero]at hloop
  have hlb:((m.length:Int)==d+1)=true:=by simp[hl]
  simp only[hd0,hd4,decide_false,cond_false,bne,hlb,Bool.not_true,Bool.not_false,Bool.true_and]
  cases e1:decide (b<1)
  ·cases e2:decide (b>6)
   ·cases e3:(b==5)<;>cases e4:(n==[])<;>cases e5:(b==6)<;>cases e6:decide (d>0)<;>simp[hloop]
   ·simp
  ·simp
 ·have hlb:((m.length:Int)==d+1)=false:=by simp[hl]
  simp[hd0,hd4,bne,hlb]
theorem vG{w0:World}(t:TabsW w0)(x:ai ig):SAD Tryz.prog (GW w0) 62 ig cd x (oE x):=by
 obtain⟨⟨b,n,d,m,⟨⟩⟩,⟨⟩⟩:=x
 exact bh (aS []) (Co t) KW (.inl cb) (vu b n d m)
theorem FC{w0:World}(t:TabsW w0):aT Tryz.prog (GW w0) tu:=.cons (aD fun x _=>vG t x) (rJ t)
end Go.Sx.Tryz
namespace Go.Sx.Tryz
open Go Go.Sx Go.Proofs
set_option maxRecDepth 100000
theorem AG(s:List UInt8)(i:Int)(c:UInt8):(stepT s i c).length≤s.length+10:=by
 unfold stepT
 cases decide (i>0)<;>cases ((c.toNat:Int)==63)<;>cases ((c.toNat:Int)==111)<;>simp<;>omega
end Go.Sx.Tryz
namespace Go.Sx.Tryz
open Go Go.Sx Go.Proofs
set_option maxRecDepth 100000
theorem vD{b:Int}{n:List UInt8}{d:Int}{m:List UInt8}(h:bV b n d m=true):0≤d∧d≤4∧(m.length:Int)=d+1∧1≤b∧b≤6∧((b==5)=(n !=[]))∧jq b d 0 m=true:=by
 unfold bV at h
 simp only[Bool.and_eq_true,Bool.not_eq_true',decide_eq_false_iff_not,beq_iff_eq,Int.not_lt]at h
 obtain⟨h1,h2,h3,h4,h5,h6,_,h8⟩:=h
 exact⟨h1,by omega,h3,by omega,by omega,h6,h8⟩
theorem A9{b:Int}{n:List UInt8}(hn:n.length≤1000):(vI b n).length≤1000:=by
 unfold vI
 cases (b==1)<;>cases (b==2)<;>cases (b==3)<;>cases (b==4)<;>cases (b==6)<;>simp<;>exact hn
theorem qp(b:Int)(n:List UInt8)(d:Int)(m:List UInt8)(hm:m.length≤1000):∀(r pre s:List UInt8) (fuel:Nat),m=pre++r→r.length<fuel→s.length≤1000+10*pre.length→
  pieces (R:=R0) E (an tu) jM oN 0 .ok fuel 0 (Eu b n d m s m.length pre.length)= .ok (.ret (.str (vj s pre.length r)),[])
 |r,pre,s,0,_,hf,_=>by omega
 |[],pre,s,fuel+1,hr,_,_=>by
  refine(DB (pieces (R:=R0) E (an tu) jM oN 0 .ok fuel) b n d m s m.length pre.length).trans ?_
  rw[List.append_nil]at hr
  subst hr
  have h1:¬((m.length:Int)<m.length):=by omega
  simp only[h1,decide_false,cond_false,vj]
 |c::r,pre,s,fuel+1,hr,hf,hs=>by
  have ih:=qp b n d m hm r (pre++[c]) (stepT s pre.length c) fuel (by simp[hr]) (by simpa using hf) (by have:=AG s pre.length c;simp;omega)
  refine(DB (pieces (R:=R0) E (an tu) jM oN 0 .ok fuel) b n d m s m.length pre.length).trans ?_
  have hlen:pre.length+1+r.length=m.length:=by rw[hr];simp;omega
  have h1:((pre.length:Int)<m.length):=by omega
  have h2:inI (pre.length:Int) m.length=true:=by rw[hr];exact yp _ _ _
  have h3:List.getD m (Int.toNat (pre.length:Int)) 0=c:=by rw[hr,Int.toNat_natCast];exact cV _ _ _
  have h4:IntKind.wrap .i64 ((pre.length:Int)+1)=(pre.length:Int)+1:=wrap64 (by omega) (by omega)
  have h5:(((pre++[c]).length:Nat):Int)=(pre.length:Int)+1:=by simp
  rw[h5]at ih
  simp only[Eu,tyC]at ih
  rw[h2,h3,h4]
  unfold vj
  simp only[h1,decide_true,cond_true]
  have k1:s.length+2<2^62:=by omega
  have k2:s.length+2+1<2^62:=by omega
  have k3:s.length+1<2^62:=by omega
  have k4:7+(s.length+2)<2^62:=by omega
  have k5:7+(s.length+2)+1<2^62:=by omega
  have k6:7+s.length<2^62:=by omega
  have k7:7+s.length+1<2^62:=by omega
  unfold stepT at ih⊢
  cases e0:decide ((pre.length:Int)>0)<;>cases e2:((c.toNat:Int)==63)<;>cases e3:((c.toNat:Int)==111)
  all_goals simp only[e0,e2,e3,cond_true,cond_false,List.length_append,List.length_cons,List.length_nil,Nat.zero_add,Nat.reduceAdd,k1,k2,k3,k4,k5,k6,k7,decide_true]at ih⊢
  all_goals exact ih
theorem wN(b:Int)(n:List UInt8)(d:Int)(m:List UInt8)(hn:n.length≤1000)(hm:m.length≤1000):start (R:=R0) E (an tu) jM oN (pieces (R:=R0) E (an tu) jM oN 0 .ok 2000) [.agg (tyC b n d m)] [] .ok= .ok (.ret (.str (bif bV b n d m then qO b n d m else [])),[]):=by
 rw[Fm]
 have hloop:=qp b n d m hm m [] (vI b n) 2000 rfl (by omega) (by have:=A9 (b:=b) hn;simp;omega)
 simp only[Eu,tyC,List.length_nil,Int.natCast_zero]at hloop
 have e:Prod.fst (oE ((b,n,d,m,()),()))=bV b n d m:=rfl
 rw[e]
 cases hr:bV b n d m
 ·rfl
 ·simp only[Bool.not_true,cond_false,cond_true]
  unfold qO
  rw[←hloop]
  unfold vI
  cases (b==1)<;>cases (b==2)<;>cases (b==3)<;>cases (b==4)<;>cases (b==6)<;>rfl
def eK(x:ai ig):Bool:=decide (x.1.2.1.length≤1000)&&decide (x.1.2.2.2.1.length≤1000)
def HZ(x:ai ig):ai bB:=(bif bV x.1.1 x.1.2.1 x.1.2.2.1 x.1.2.2.2.1 then qO x.1.1 x.1.2.1 x.1.2.2.1 x.1.2.2.2.1 else [],())
theorem Ie{w0:World}(t:TabsW w0):KOK Tryz.prog (GW w0) (an tu):=aE (FC t)
theorem Es{w0:World}(t:TabsW w0)(x:ai ig)(h:eK x=true):SAD Tryz.prog (GW w0) 109 ig bB x (HZ x):=by
 obtain⟨⟨b,n,d,m,⟨⟩⟩,⟨⟩⟩:=x
 simp only[eK,Bool.and_eq_true,decide_eq_true_eq]at h
 exact bh (aS []) (Ie t) HF (.inl cb) (wN b n d m h.1 h.2)
end Go.Sx.Tryz
namespace Go.Sx.Tryz
open Go Go.Sx Go.Proofs
set_option maxRecDepth 100000
end Go.Sx.Tryz
namespace Go.Sx.Tryz
open Go Go.Sx Go.Proofs
set_option maxRecDepth 100000
def CJ:List (List UInt8):=[[],[112,114,111,103,114,97,109],[99,108,97,115,115],[101,120,116,101,110,100,115],[102,105,101,108,100],[105,110,105,116],[109,101,116,104,111,100],[112,97,114,97,109],[98,108,111,99,107],[100,101,99,108],[97,115,115,105,103,110],[105,102],[119,104,105,108,101],[98,114,101,97,107],[99,111,110,116,105,110,117,101],[114,101,116,117,114,110],[112,114,105,110,116],[115,117,112,101,114],[101,120,112,114],[105,110,116],[100,111,117,98,108,101],[98,111,111,108],[115,116,114],[110,117,108,108],[116,104,105,115],[118,97,114],[103,101,116],[105,110,100,101,120],[108,101,110,103,116,104],[99,97,108,108],[110,101,119],[97,114,114,97,121],[110,101,103],[110,111,116],[98,105,110,97,114,121],[99,97,115,116],[116,111,105,110,116],[116,111,100,111,117,98,108,101],[105,110,112,117,116],[97,115,107],[103,117,97,114,100],[115,111,109,101],[110,111,110,101],[105,115,115,111,109,101],[105,115,110,111,110,101],[118,97,108]]
def JV:List Int:=[0,0,0,0,0,1,1,0,0,0,2,2,2,0,0,0,1,0,1,0,0,0,0,0,0,0,1,2,1,1,0,1,1,1,2,1,1,1,0,1,1,1,0,1,1,1]
def inK(k:Int):Bool:=decide (0≤k)&&decide (k<46)
def cE(k:Int):List UInt8:=bif decide (k<1)then []else bif decide (k≥46)then []else CJ.getD k.toNat []
def bC(k:Int):Int:=JV.getD k.toNat 0
def oV(k:Int):Int:=bif k==1||(k==2||(k==5||(k==6||(k==8||(k==17||(k==29||k==30))))))then-1 else bif k==9||k==15 then 1 else bif k==11 then 3 else bC k
def AK(k:Int):Bool:=k==2||(k==3||(k==4||(k==6||(k==7||(k==9||(k==20||(k==22||(k==25||(k==26||(k==29||k==34))))))))))
def xu(k:Int):Bool:=k==4||(k==6||(k==7||(k==9||(k==30||(k==31||k==35)))))
end Go.Sx.Tryz
namespace Go.Sx.Tryz
open Go Go.Sx Go.Proofs
set_option maxRecDepth 100000
def u0(i:Int):List Int→List Int→Sum Int (List Int)
 |[],u=>.inr u
 |k::r,u=>bif decide (k<0)then .inl 7 else bif decide (k≥i)then .inl 7 else bif decide (aU u k.toNat>0)then .inl 4 else u0 i r (JG u k.toNat 1)
def Ez(x:Nd):Bool:=bif xu (ae x)then !bV (ax x) (aA x) (ak x) (ah x)else(ax x !=0||(!(aA x==[])||(ak x !=0|| !(ah x==[]))))
def gh(x:Nd):Int:=bif cE (ae x)==[]then 3 else bif decide (((aa x).length:Int)<bC (ae x))then 131 else bif decide (oV (ae x)≥0)&&decide (((aa x).length:Int)>oV (ae x))then 131
 else bif !AK (ae x)&& !(aw x==[])then 5 else bif Ez x then 5 else 0
def gX(i:Int):List Nd→List Int→Sum Int (List Int)
 |[],u=>.inr u
 |x::r,u=>bif gh x !=0 then .inl (gh x)else match u0 i (aa x) u with
  | .inl c=>.inl c
  | .inr u'=>gX (i+1) r u'
def rB(u:List Int):Int:=bif u.any (· ==0)then 3 else 0
def cx(L:List Nd)(r:Int):Int:=bif decide ((L.length:Int)>16384)then 2 else bif (L.length:Int)==0 then 5 else bif r !=(L.length:Int)-1 then 5 else bif ae (aj L r.toNat) !=1 then 5 else
 match gX 0 L (List.replicate L.length 0)with
 | .inl c=>c
 | .inr u=>rB (u.take (L.length-1))
def oy(x:Nd):Bool:=decide ((aa x).length≤20000)&&(decide ((aw x).length≤70000)&&(decide ((aA x).length≤200)&&decide ((ah x).length≤50)))
def sv(L:List Nd):Bool:=decide (L.length≤9000)&&L.all oy
def lu(x:ai bS):Bool:=sv x.1.1
def wx(x:ai bS):ai bP:=(cx x.1.1 x.1.2.1,())
abbrev vB(c:Int):R0:=(.ret (.int .i64 c),[])
theorem fS(pre:List Int)(c:Int)(r:List Int):aU (pre++c::r) pre.length=c:=by simp[aU,List.getD]
theorem gi(pre:List Int)(c:Int)(r:List Int):inI (pre.length:Int) (pre++c::r).length=true:=by
 simp only[inI,List.length_append,List.length_cons,Bool.and_eq_true,decide_eq_true_eq]
 omega
end Go.Sx.Tryz
namespace Go.Sx.Tryz
open Go Go.Sx Go.Proofs
set_option maxRecDepth 100000
theorem BH{k:Int}(h:(cE k==[])=false):inK k=true:=by
 unfold cE at h
 by_cases h1:k<1
 ·simp[h1]at h
 ·by_cases h2:k≥46
  ·have h3:(46:Int)≤k:=h2
   simp[h1,h3]at h
  ·simp only[inK,Bool.and_eq_true,decide_eq_true_eq]
   omega
end Go.Sx.Tryz
namespace Go.Sx.Tryz
open Go Go.Sx Go.Proofs
set_option maxRecDepth 100000
structure GoodT(L:List Nd)(r:Int):Prop where
 pos:0<L.length
 root:r=(L.length:Int)-1
 kids:∀(j:Nat) x,L[j]? =some x→∀k∈aa x,0≤k∧k<(j:Int)
 node:∀(j:Nat) x,L[j]? =some x→gh x=0
 once:(L.flatMap aa).Nodup
 all:∀k:Nat,k+1<L.length→(k:Int)∈L.flatMap aa
end Go.Sx.Tryz
namespace Go.Sx.Tryz
open Go Go.Sx Go.Proofs
set_option maxRecDepth 100000
section
variable{L:List Nd}{r:Int}(g:GoodT L r)
end
end Go.Sx.Tryz
namespace Go.Sx.Tryz
open Go Go.Sx Go.Proofs
set_option maxRecDepth 100000
end Go.Sx.Tryz
namespace Go.Sx.Tryz
open Go Go.Sx Go.Proofs
set_option maxRecDepth 100000
end Go.Sx.Tryz
namespace Go.Sx.Tryz
open Go Go.Sx Go.Proofs
set_option maxRecDepth 100000
abbrev Gb:Ty:=.pair .str (.pair (.int .i64) (.pair (.int .i64) (.pair .bool (.pair .bool .unit))))
abbrev vP:Sig:=[(true,Gb)]
def kQ(k:Int):Int:=bif inK k then bC k else 0
def lU(k:Int):Int:=bif inK k then oV k else 0
def qj(k:Int):Bool:=bif inK k then AK k else false
def ia(k:Int):Bool:=bif inK k then xu k else false
def shS(k:Int):ai vP:=((cE k,kQ k,lU k,qj k,ia k,()),())
def shX(x:ai bP):ai vP:=shS x.1
abbrev IY:List Sh:=[.own 4 .bool]
def cY:List (Nat×aQ):=[(61,bg 61 bP vP (fun _=>true) shX),(62,bg 62 ig cd (fun _=>true) oE)]
def dq:List Cut:=[⟨[true,true,true,true,false,true,false,false],some ⟨[(1,[]),(3,IY),(43,[]),(44,[]),(45,[])],[[],[]]⟩⟩,
 ⟨[true,true,true,true,false,true,false,false,true,true,false,false,true,true,true,true,false,false],some ⟨[(1,[]),(3,IY),(4,[]),(43,[]),(44,[]),(45,[]),(104,[.sl (.int .i64)]),(105,[]),(106,[])],[[],[]]⟩⟩,
 ⟨[true,true,true,true,true,false,true,false,false],some ⟨[(1,[]),(126,IY),(127,[]),(128,[])],[[],[]]⟩⟩]
def qw(L:List Nd)(r:Int)(u:List Bool)(n i:Int):St:={tmps:=[(1,.ref 0 0),(3,.own 1 0),(43,.sl aB L),(44,.int .i64 n),(45,.int .i64 i)],blks:=[(0,.cells 28 (trC L r)),(1,.list 4 .bool 0 false u)],next:=2}
def xN(L:List Nd)(r:Int)(u:List Bool)(n i:Int)(x:Int)(K:List Int)(l k:Int):St:={tmps:=[(1,.ref 0 0),(3,.own 1 0),(4,.int .i64 x),(43,.sl aB L),(44,.int .i64 n),(45,.int .i64 i),(104,.sl (.int .i64) K),(105,.int .i64 l),(106,.int .i64 k)],blks:=[(0,.cells 28 (trC L r)),(1,.list 4 .bool 0 false u)],next:=2}
def zn(L:List Nd)(r:Int)(u:List Bool)(n i:Int):St:={tmps:=[(1,.ref 0 0),(126,.own 1 0),(127,.int .i64 n),(128,.int .i64 i)],blks:=[(0,.cells 28 (trC L r)),(1,.list 4 .bool 0 false u)],next:=2}
end Go.Sx.Tryz
namespace Go.Sx.Tryz
open Go Go.Sx Go.Proofs
set_option maxRecDepth 100000
theorem nt(J:Jump R0)(L:List Nd)(r:Int):start E (an cY) dQ dq J [.agg (trC L r)] [] .ok=bif decide ((↑(List.length L):Int)>16384)then Rs.ok (Out.ret (AV.int IntKind.i64 (Int.ofNat 2)),[])else bif (↑(List.length L):Int)==0 then Rs.ok (Out.ret (AV.int IntKind.i64 (Int.ofNat 5)),[])else bif r !=IntKind.wrap IntKind.i64 ((↑(List.length L):Int)-1)then Rs.ok (Out.ret (AV.int IntKind.i64 (Int.ofNat 5)),[])else bif inI r (List.length L)then bif ae (aj L (Int.toNat r)) !=1 then Rs.ok (Out.ret (AV.int IntKind.i64 (Int.ofNat 5)),[])else bif inR (↑(List.length L):Int)&&(↑(List.length L):Int)==(↑(List.length L):Int)then J 0 {tmps:=[(1,AV.ref 0 0),(3,AV.own 1 0),(43,AV.sl aB L),(44,AV.int IntKind.i64 (↑(List.length L):Int)),(45,AV.int IntKind.i64 0)],blks:=[(0,Blk.cells 28 [AV.sl aB L,AV.int IntKind.i64 r]),(1,Blk.list 4 Ty.bool 0 false (List.replicate (Int.toNat (↑(List.length L):Int)) false))],next:=2}else Rs.err 503 else Rs.err 318:=by kernel_rfl
theorem xQ(J:Jump R0)(L:List Nd)(r:Int)(u:List Bool)(n i:Int):resume E (an cY) (aR 0 dq 0) J [true,true,true,true,false,true,false,false] dQ.code 1 (qw L r u n i) (bX E 0 dQ.results .ok)=bif decide (i<n)then bif inI i (List.length L)then bif cE (ae (aj L (Int.toNat i)))==[]then Rs.ok (Out.ret (AV.int IntKind.i64 (Int.ofNat 3)),[])else bif decide ((↑(List.length (aa (aj L (Int.toNat i)))):Int)<kQ (ae (aj L (Int.toNat i))))then Rs.ok (Out.ret (AV.int IntKind.i64 (Int.ofNat 131)),[])else bif decide (lU (ae (aj L (Int.toNat i)))≥0)then bif decide ((↑(List.length (aa (aj L (Int.toNat i)))):Int)>lU (ae (aj L (Int.toNat i))))then Rs.ok (Out.ret (AV.int IntKind.i64 (Int.ofNat 131)),[])else bif !qj (ae (aj L (Int.toNat i)))then bif !aw (aj L (Int.toNat i))==[]then bif !aw (aj L (Int.toNat i))==[]then Rs.ok (Out.ret (AV.int IntKind.i64 (Int.ofNat 5)),[])else J 1 {tmps:=[(1,AV.ref 0 0),(3,AV.own 1 0),(4,AV.int IntKind.i64 i),(43,AV.sl aB L),(44,AV.int IntKind.i64 n),(45,AV.int IntKind.i64 i),(104,AV.sl (Ty.int IntKind.i64) (aa (aj L (Int.toNat i)))),(105,AV.int IntKind.i64 (↑(List.length (aa (aj L (Int.toNat i)))):Int)),(106,AV.int IntKind.i64 0)],blks:=[(0,Blk.cells 28 [AV.sl aB L,AV.int IntKind.i64 r]),(1,Blk.list 4 Ty.bool 0 false u)],next:=2}else bif !ia (ae (aj L (Int.toNat i)))==bV (ax (aj L (Int.toNat i))) (aA (aj L (Int.toNat i))) (ak (aj L (Int.toNat i))) (ah (aj L (Int.toNat i)))then Rs.ok (Out.ret (AV.int IntKind.i64 (Int.ofNat 5)),[])else bif !ia (ae (aj L (Int.toNat i)))then bif !(ax (aj L (Int.toNat i))==0&&(aA (aj L (Int.toNat i))==[]&&(ak (aj L (Int.toNat i))==0&&ah (aj L (Int.toNat i))==[])))then Rs.ok (Out.ret (AV.int IntKind.i64 (Int.ofNat 5)),[])else J 1 {tmps:=[(1,AV.ref 0 0),(3,AV.own 1 0),(4,AV.int IntKind.i64 i),(43,AV.sl aB L),(44,AV.int IntKind.i64 n),(45,AV.int IntKind.i64 i),(104,AV.sl (Ty.int IntKind.i64) (aa (aj L (Int.toNat i)))),(105,AV.int IntKind.i64 (↑(List.length (aa (aj L (Int.toNat i)))):Int)),(106,AV.int IntKind.i64 0)],blks:=[(0,Blk.cells 28 [AV.sl aB L,AV.int IntKind.i64 r]),(1,Blk.list 4 Ty.bool 0 false u)],next:=2}else J 1 {tmps:=[(1,AV.ref 0 0),(3,AV.own 1 0),(4,AV.int IntKind.i64 i),(43,AV.sl aB L),(44,AV.int IntKind.i64 n),(45,AV.int IntKind.i64 i),(104,AV.sl (Ty.int IntKind.i64) (aa (aj L (Int.toNat i)))),(105,AV.int IntKind.i64 (↑(List.length (aa (aj L (Int.toNat i)))):Int)),(106,AV.int IntKind.i64 0)],blks:=[(0,Blk.cells 28 [AV.sl aB L,AV.int IntKind.i64 r]),(1,Blk.list 4 Ty.bool 0 false u)],next:=2}else bif !ia (ae (aj L (Int.toNat i)))==bV (ax (aj L (Int.toNat i))) (aA (aj L (Int.toNat i))) (ak (aj L (Int.toNat i))) (ah (aj L (Int.toNat i)))then Rs.ok (Out.ret (AV.int IntKind.i64 (Int.ofNat 5)),[])else bif !ia (ae (aj L (Int.toNat i)))then bif !(ax (aj L (Int.toNat i))==0&&(aA (aj L (Int.toNat i))==[]&&(ak (aj L (Int.toNat i))==0&&ah (aj L (Int.toNat i))==[])))then Rs.ok (Out.ret (AV.int IntKind.i64 (Int.ofNat 5)),[])else J 1 {tmps:=[(1,AV.ref 0 0),(3,AV.own 1 0),(4,AV.int IntKind.i64 i),(43,AV.sl aB L),(44,AV.int IntKind.i64 n),(45,AV.int IntKind.i64 i),(104,AV.sl (Ty.int IntKind.i64) (aa (aj L (Int.toNat i)))),(105,AV.int IntKind.i64 (↑(List.length (aa (aj L (Int.toNat i)))):Int)),(106,AV.int IntKind.i64 0)],blks:=[(0,Blk.cells 28 [AV.sl aB L,AV.int IntKind.i64 r]),(1,Blk.list 4 Ty.bool 0 false u)],next:=2}else J 1 {tmps:=[(1,AV.ref 0 0),(3,AV.own 1 0),(4,AV.int IntKind.i64 i),(43,AV.sl aB L),(44,AV.int IntKind.i64 n),(45,AV.int IntKind.i64 i),(104,AV.sl (Ty.int IntKind.i64) (aa (aj L (Int.toNat i)))),(105,AV.int IntKind.i64 (↑(List.length (aa (aj L (Int.toNat i)))):Int)),(106,AV.int IntKind.i64 0)],blks:=[(0,Blk.cells 28 [AV.sl aB L,AV.int IntKind.i64 r]),(1,Blk.list 4 Ty.bool 0 false u)],next:=2}else bif !qj (ae (aj L (Int.toNat i)))then bif !aw (aj L (Int.toNat i))==[]then bif !aw (aj L (Int.toNat i))==[]then Rs.ok (Out.ret (AV.int IntKind.i64 (Int.ofNat 5)),[])else J 1 {tmps:=[(1,AV.ref 0 0),(3,AV.own 1 0),(4,AV.int IntKind.i64 i),(43,AV.sl aB L),(44,AV.int IntKind.i64 n),(45,AV.int IntKind.i64 i),(104,AV.sl (Ty.int IntKind.i64) (aa (aj L (Int.toNat i)))),(105,AV.int IntKind.i64 (↑(List.length (aa (aj L (Int.toNat i)))):Int)),(106,AV.int IntKind.i64 0)],blks:=[(0,Blk.cells 28 [AV.sl aB L,AV.int IntKind.i64 r]),(1,Blk.list 4 Ty.bool 0 false u)],next:=2}else bif !ia (ae (aj L (Int.toNat i)))==bV (ax (aj L (Int.toNat i))) (aA (aj L (Int.toNat i))) (ak (aj L (Int.toNat i))) (ah (aj L (Int.toNat i)))then Rs.ok (Out.ret (AV.int IntKind.i64 (Int.ofNat 5)),[])else bif !ia (ae (aj L (Int.toNat i)))then bif !(ax (aj L (Int.toNat i))==0&&(aA (aj L (Int.toNat i))==[]&&(ak (aj L (Int.toNat i))==0&&ah (aj L (Int.toNat i))==[])))then Rs.ok (Out.ret (AV.int IntKind.i64 (Int.ofNat 5)),[])else J 1 {tmps:=[(1,AV.ref 0 0),(3,AV.own 1 0),(4,AV.int IntKind.i64 i),(43,AV.sl aB L),(44,AV.int IntKind.i64 n),(45,AV.int IntKind.i64 i),(104,AV.sl (Ty.int IntKind.i64) (aa (aj L (Int.toNat i)))),(105,AV.int IntKind.i64 (↑(List.length (aa (aj L (Int.toNat i)))):Int)),(106,AV.int IntKind.i64 0)],blks:=[(0,Blk.cells 28 [AV.sl aB L,AV.int IntKind.i64 r]),(1,Blk.list 4 Ty.bool 0 false u)],next:=2}else J 1 {tmps:=[(1,AV.ref 0 0),(3,AV.own 1 0),(4,AV.int IntKind.i64 i),(43,AV.sl aB L),(44,AV.int IntKind.i64 n),(45,AV.int IntKind.i64 i),(104,AV.sl (Ty.int IntKind.i64) (aa (aj L (Int.toNat i)))),(105,AV.int IntKind.i64 (↑(List.length (aa (aj L (Int.toNat i)))):Int)),(106,AV.int IntKind.i64 0)],blks:=[(0,Blk.cells 28 [AV.sl aB L,AV.int IntKind.i64 r]),(1,Blk.list 4 Ty.bool 0 false u)],next:=2}else bif !ia (ae (aj L (Int.toNat i)))==bV (ax (aj L (Int.toNat i))) (aA (aj L (Int.toNat i))) (ak (aj L (Int.toNat i))) (ah (aj L (Int.toNat i)))then Rs.ok (Out.ret (AV.int IntKind.i64 (Int.ofNat 5)),[])else bif !ia (ae (aj L (Int.toNat i)))then bif !(ax (aj L (Int.toNat i))==0&&(aA (aj L (Int.toNat i))==[]&&(ak (aj L (Int.toNat i))==0&&ah (aj L (Int.toNat i))==[])))then Rs.ok (Out.ret (AV.int IntKind.i64 (Int.ofNat 5)),[])else J 1 {tmps:=[(1,AV.ref 0 0),(3,AV.own 1 0),(4,AV.int IntKind.i64 i),(43,AV.sl aB L),(44,AV.int IntKind.i64 n),(45,AV.int IntKind.i64 i),(104,AV.sl (Ty.int IntKind.i64) (aa (aj L (Int.toNat i)))),(105,AV.int IntKind.i64 (↑(List.length (aa (aj L (Int.toNat i)))):Int)),(106,AV.int IntKind.i64 0)],blks:=[(0,Blk.cells 28 [AV.sl aB L,AV.int IntKind.i64 r]),(1,Blk.list 4 Ty.bool 0 false u)],next:=2}else J 1 {tmps:=[(1,AV.ref 0 0),(3,AV.own 1 0),(4,AV.int IntKind.i64 i),(43,AV.sl aB L),(44,AV.int IntKind.i64 n),(45,AV.int IntKind.i64 i),(104,AV.sl (Ty.int IntKind.i64) (aa (aj L (Int.toNat i)))),(105,AV.int IntKind.i64 (↑(List.length (aa (aj L (Int.toNat i)))):Int)),(106,AV.int IntKind.i64 0)],blks:=[(0,Blk.cells 28 [AV.sl aB L,AV.int IntKind.i64 r]),(1,Blk.list 4 Ty.bool 0 false u)],next:=2}else Rs.err 801 else J 2 {tmps:=[(1,AV.ref 0 0),(126,AV.own 1 0),(127,AV.int IntKind.i64 (↑(List.length u):Int)),(128,AV.int IntKind.i64 0)],blks:=[(0,Blk.cells 28 [AV.sl aB L,AV.int IntKind.i64 r]),(1,Blk.list 4 Ty.bool 0 false u)],next:=2}:=by kernel_rfl
theorem kR(J:Jump R0)(L:List Nd)(r:Int)(u:List Bool)(n i:Int)(x:Int)(K:List Int)(l k:Int):resume E (an cY) (aR 0 dq 0) J [true,true,true,true,false,true,false,false,true,true,false,false,true,true,true,true,false,false] dQ.code 1 (xN L r u n i x K l k) (bX E 0 dQ.results .ok)=bif decide (k<l)then bif inI k (List.length K)then bif decide (aU K (Int.toNat k)<0)then Rs.ok (Out.ret (AV.int IntKind.i64 (Int.ofNat 7)),[])else bif decide (aU K (Int.toNat k)≥x)then Rs.ok (Out.ret (AV.int IntKind.i64 (Int.ofNat 7)),[])else bif inI (aU K (Int.toNat k)) (List.length u)then bif List.getD u (Int.toNat (aU K (Int.toNat k))) (Ty.dflt Ty.bool)then Rs.ok (Out.ret (AV.int IntKind.i64 (Int.ofNat 4)),[])else bif inI (aU K (Int.toNat k)) (List.length u)then J 1 {tmps:=[(1,AV.ref 0 0),(3,AV.own 1 0),(4,AV.int IntKind.i64 x),(43,AV.sl aB L),(44,AV.int IntKind.i64 n),(45,AV.int IntKind.i64 i),(104,AV.sl (Ty.int IntKind.i64) K),(105,AV.int IntKind.i64 l),(106,AV.int IntKind.i64 (IntKind.wrap IntKind.i64 (k+1)))],blks:=[(0,Blk.cells 28 [AV.sl aB L,AV.int IntKind.i64 r]),(1,Blk.list 4 Ty.bool 0 false (List.set u (Int.toNat (aU K (Int.toNat k))) true))],next:=2}else Rs.err 2402 else Rs.err 2202 else Rs.err 1900 else J 0 {tmps:=[(1,AV.ref 0 0),(3,AV.own 1 0),(43,AV.sl aB L),(44,AV.int IntKind.i64 n),(45,AV.int IntKind.i64 (IntKind.wrap IntKind.i64 (i+1)))],blks:=[(0,Blk.cells 28 [AV.sl aB L,AV.int IntKind.i64 r]),(1,Blk.list 4 Ty.bool 0 false u)],next:=2}:=by kernel_rfl
theorem ni(J:Jump R0)(L:List Nd)(r:Int)(u:List Bool)(n i:Int):resume E (an cY) (aR 0 dq 0) J [true,true,true,true,true,false,true,false,false] dQ.code 1 (zn L r u n i) (bX E 0 dQ.results .ok)=bif decide (i<n)then bif inI i (List.length u)then bif !List.getD u (Int.toNat i) (Ty.dflt Ty.bool)then bif i !=r then Rs.ok (Out.ret (AV.int IntKind.i64 (Int.ofNat 3)),[])else J 2 {tmps:=[(1,AV.ref 0 0),(126,AV.own 1 0),(127,AV.int IntKind.i64 n),(128,AV.int IntKind.i64 (IntKind.wrap IntKind.i64 (i+1)))],blks:=[(0,Blk.cells 28 [AV.sl aB L,AV.int IntKind.i64 r]),(1,Blk.list 4 Ty.bool 0 false u)],next:=2}else J 2 {tmps:=[(1,AV.ref 0 0),(126,AV.own 1 0),(127,AV.int IntKind.i64 n),(128,AV.int IntKind.i64 (IntKind.wrap IntKind.i64 (i+1)))],blks:=[(0,Blk.cells 28 [AV.sl aB L,AV.int IntKind.i64 r]),(1,Blk.list 4 Ty.bool 0 false u)],next:=2}else Rs.err 2901 else Rs.ok (Out.ret (AV.int IntKind.i64 0),[]):=by kernel_rfl
end Go.Sx.Tryz
namespace Go.Sx.Tryz
open Go Go.Sx Go.Proofs
set_option maxRecDepth 100000
def r4(j:Nat)(st:St)(o:R0):Prop:=∃fuel,pieces (R:=R0) E (an cY) dQ dq 0 .ok fuel j st= .ok o
def toI(b:Bool):Int:=bif b then 1 else 0
theorem uD(us:List Bool)(k:Nat):aU (us.map toI) k=toI (us.getD k false):=by
 simp only[aU,List.getD,List.getElem?_map]
 cases us[k]? <;>rfl
theorem D7(us:List Bool)(k:Nat):JG (us.map toI) k 1=(us.set k true).map toI:=by
 simp only[JG,List.map_set]
 rfl
theorem Gp(b:Bool):decide (toI b>0)=b:=by cases b<;>rfl
theorem Bs{L:List Nd}{r n i:Int}{K:List Int}{o:R0}(hK:K.length≤20000)(h0:0≤i)(hi:i≤9000):∀(ks pre:List Int) (us:List Bool),K=pre++ks→i≤us.length→
  (match u0 i ks (us.map toI)with| .inl c=>o=vB c| .inr u'=>∀us':List Bool,u'=us'.map toI→us'.length=us.length→r4 0 (qw L r us' n (i+1)) o)→r4 1 (xN L r us n i i K K.length pre.length) o
 |[],pre,us,hp,hu,h=>by
  obtain⟨fuel,h⟩:r4 0 (qw L r us n (i+1)) o:=h us rfl rfl
  refine⟨fuel+1,(kR (pieces (R:=R0) E (an cY) dQ dq 0 .ok fuel) L r us n i i K K.length pre.length).trans ?_⟩
  rw[List.append_nil]at hp
  subst hp
  have h1:¬((K.length:Int)<K.length):=by omega
  have h4:IntKind.wrap .i64 (i+1)=i+1:=wrap64 (by omega) (by omega)
  simp only[h1,decide_false,cond_false,h4]
  exact h
 |k::ks,pre,us,hp,hu,h=>by
  have hlen:pre.length+1+ks.length=K.length:=by rw[hp];simp;omega
  have h1:(pre.length:Int)<K.length:=by omega
  have h2:inI (pre.length:Int) K.length=true:=by rw[hp];exact gi _ _ _
  have h3:aU K (Int.toNat (pre.length:Int))=k:=by rw[hp,Int.toNat_natCast];exact fS _ _ _
  have h4:IntKind.wrap .i64 ((pre.length:Int)+1)=(pre.length:Int)+1:=wrap64 (by omega) (by omega)
  have h5:(((pre++[k]).length:Nat):Int)=(pre.length:Int)+1:=by simp
  simp only[u0,uD,D7,Gp]at h
  by_cases e1:k<0
  ·simp only[e1,decide_true,cond_true]at h
   refine⟨1,(kR (pieces (R:=R0) E (an cY) dQ dq 0 .ok 0) L r us n i i K K.length pre.length).trans ?_⟩
   simp only[h1,h2,h3,e1,decide_true,cond_true,h]
   rfl
  ·by_cases e2:k≥i
   ·simp only[e1,e2,decide_true,decide_false,cond_true,cond_false]at h
    refine⟨1,(kR (pieces (R:=R0) E (an cY) dQ dq 0 .ok 0) L r us n i i K K.length pre.length).trans ?_⟩
    simp only[h1,h2,h3,e1,e2,decide_true,decide_false,cond_true,cond_false,h]
    rfl
   ·have h6:inI k us.length=true:=cq (by omega) (by omega)
    have hd:us.getD k.toNat (Ty.dflt Ty.bool)=us.getD k.toNat false:=rfl
    cases e3:us.getD k.toNat false
    ·simp only[e1,e2,e3,decide_false,cond_false]at h
     obtain⟨fuel,ih⟩:=Bs hK h0 hi ks (pre++[k]) (us.set k.toNat true) (by simp[hp]) (by simp only[List.length_set];exact hu) (by simpa only[List.length_set]using h)
     refine⟨fuel+1,(kR (pieces (R:=R0) E (an cY) dQ dq 0 .ok fuel) L r us n i i K K.length pre.length).trans ?_⟩
     simp only[h1,h2,h3,h4,h6,hd,e1,e2,e3,decide_true,decide_false,cond_true,cond_false]
     rw[h5]at ih
     exact ih
    ·simp only[e1,e2,e3,decide_true,decide_false,cond_true,cond_false]at h
     refine⟨1,(kR (pieces (R:=R0) E (an cY) dQ dq 0 .ok 0) L r us n i i K K.length pre.length).trans ?_⟩
     simp only[h1,h2,h3,h6,hd,e1,e2,e3,decide_true,decide_false,cond_true,cond_false,h]
     rfl
theorem vn(J:Jump R0){L:List Nd}{r n:Int}{us:List Bool}{i:Int}{x:Nd}(h1:i<n)(h2:inI i L.length=true)(h3:aj L i.toNat=x):
  resume E (an cY) (aR 0 dq 0) J [true,true,true,true,false,true,false,false] dQ.code 1 (qw L r us n i) (bX E 0 dQ.results .ok)=
   bif gh x !=0 then .ok (vB (gh x))else J 1 (xN L r us n i i (aa x) (aa x).length 0):=by
 rw[xQ]
 simp only[h1,h2,h3,decide_true,cond_true]
 unfold gh Ez
 cases e1:(cE (ae x)==[])
 ·have hk:inK (ae x)=true:=BH e1
  simp only[kQ,lU,qj,ia,hk,cond_false,cond_true]
  have hR:bV (ax x) (aA x) (ak x) (ah x)=true→(ax x==0)=false:=fun h=>by
   have:=vD h
   simp
   omega
  cases e2:decide (((aa x).length:Int)<bC (ae x))
  ·cases e3:decide (oV (ae x)≥0)
   ·cases e5:AK (ae x)<;>cases e6:(aw x==[])<;>first|rfl|skip
    all_goals
     cases e7:xu (ae x)
     ·cases e12:bV (ax x) (aA x) (ak x) (ah x)
      ·cases e8:(ax x==0)<;>cases e9:(aA x==[])<;>cases e10:(ak x==0)<;>cases e11:(ah x==[])<;>simp only[bne,e8,e9,e10,e11]<;>rfl
      ·simp only[bne,hR e12];rfl
     ·cases e8:bV (ax x) (aA x) (ak x) (ah x)<;>rfl
   ·cases e4:decide (((aa x).length:Int)>oV (ae x))
    ·cases e5:AK (ae x)<;>cases e6:(aw x==[])<;>first|rfl|skip
     all_goals
      cases e7:xu (ae x)
      ·cases e12:bV (ax x) (aA x) (ak x) (ah x)
       ·cases e8:(ax x==0)<;>cases e9:(aA x==[])<;>cases e10:(ak x==0)<;>cases e11:(ah x==[])<;>simp only[bne,e8,e9,e10,e11]<;>rfl
       ·simp only[bne,hR e12];rfl
      ·cases e8:bV (ax x) (aA x) (ak x) (ah x)<;>rfl
    ·rfl
  ·rfl
 ·rfl
end Go.Sx.Tryz
namespace Go.Sx.Tryz
open Go Go.Sx Go.Proofs
set_option maxRecDepth 100000
theorem wH{L:List Nd}{r n:Int}{us:List Bool}{o:R0}(hu:(us.length:Int)=n)(hn:n≤9000)(hr:r=n-1):∀(d:Nat) (i:Int),0≤i→i+d=n→o=vB (rB ((((us.map toI).drop i.toNat).take (d-1))))→r4 2 (zn L r us n i) o
 |0,i,h0,hd,h=>by
  refine⟨1,(ni (pieces (R:=R0) E (an cY) dQ dq 0 .ok 0) L r us n i).trans ?_⟩
  have h1:¬i<n:=by omega
  simp only[h1,decide_false,cond_false,h]
  rfl
 |d+1,i,h0,hd,h=>by
  have h1:i<n:=by omega
  have h2:inI i us.length=true:=cq h0 (by omega)
  have h5:IntKind.wrap .i64 (i+1)=i+1:=wrap64 (by omega) (by omega)
  have hlt:i.toNat<(us.map toI).length:=by simp;omega
  have hg:us.getD i.toNat (Ty.dflt Ty.bool)=us.getD i.toNat false:=rfl
  cases d with
  |zero=>
   have hir:(i !=r)=false:=by simp;omega
   obtain⟨fuel,ih⟩:=wH (o:=o) hu hn hr 0 (i+1) (by omega) (by omega) (by rw[h];rfl)
   refine⟨fuel+1,(ni (pieces (R:=R0) E (an cY) dQ dq 0 .ok fuel) L r us n i).trans ?_⟩
   simp only[h1,h2,h5,hir,decide_true,cond_true,cond_false]
   cases (us.getD i.toNat (Ty.dflt Ty.bool))<;>exact ih
  |succ d=>
   have hir:(i !=r)=true:=by simp;omega
   have e:((us.map toI).drop i.toNat).take (d+1+1-1)=aU (us.map toI) i.toNat::((us.map toI).drop (i+1).toNat).take (d+1-1):=by
    show((us.map toI).drop i.toNat).take (d+1)=_::((us.map toI).drop (i+1).toNat).take d
    rw[List.drop_eq_getElem_cons hlt,List.take_succ_cons]
    have:i.toNat+1=(i+1).toNat:=by omega
    rw[this]
    congr 1
    rw[aU,List.getD,List.getElem?_eq_getElem hlt]
    rfl
   rw[e,uD]at h
   cases e1:us.getD i.toNat false
   ·refine⟨1,(ni (pieces (R:=R0) E (an cY) dQ dq 0 .ok 0) L r us n i).trans ?_⟩
    rw[e1]at h
    have h:o=vB 3:=h
    simp only[h1,h2,hg,e1,hir,Bool.not_false,decide_true,cond_true,h]
    rfl
   ·have e2:(toI true==0)=false:=rfl
    rw[e1]at h
    simp only[rB,List.any_cons,e2,Bool.false_or]at h
    obtain⟨fuel,ih⟩:=wH hu hn hr (d+1) (i+1) (by omega) (by omega) h
    refine⟨fuel+1,(ni (pieces (R:=R0) E (an cY) dQ dq 0 .ok fuel) L r us n i).trans ?_⟩
    simp only[h1,h2,h5,hg,e1,Bool.not_true,decide_true,cond_true,cond_false]
    exact ih
theorem Dx{L:List Nd}{r:Int}{o:R0}(hL:L.length≤9000):∀(xs pre:List Nd) (us:List Bool),L=pre++xs→xs.all oy=true→us.length=L.length→
  (match gX pre.length xs (us.map toI)with| .inl c=>o=vB c| .inr u'=>∀us':List Bool,u'=us'.map toI→us'.length=L.length→r4 2 (zn L r us' L.length 0) o)→r4 0 (qw L r us L.length pre.length) o
 |[],pre,us,hp,_,hu,h=>by
  obtain⟨fuel,h⟩:r4 2 (zn L r us L.length 0) o:=h us rfl hu
  refine⟨fuel+1,(xQ (pieces (R:=R0) E (an cY) dQ dq 0 .ok fuel) L r us L.length pre.length).trans ?_⟩
  have h1:¬((pre.length:Int)<L.length):=by rw[hp,List.append_nil];omega
  simp only[h1,decide_false,cond_false]
  rw[←hu]at h
  exact h
 |x::xs,pre,us,hp,hs,hu,h=>by
  have hlen:pre.length+1+xs.length=L.length:=by rw[hp];simp;omega
  have h1:(pre.length:Int)<L.length:=by omega
  have h2:inI (pre.length:Int) L.length=true:=by rw[hp];exact uv _ _ _
  have h3:aj L (Int.toNat (pre.length:Int))=x:=by rw[hp,Int.toNat_natCast];exact uU _ _ _
  have h5:(((pre++[x]).length:Nat):Int)=(pre.length:Int)+1:=by simp
  simp only[List.all_cons,Bool.and_eq_true]at hs
  have hsx:=hs.1
  simp only[oy,Bool.and_eq_true,decide_eq_true_eq]at hsx
  have hk:(aa x).length≤20000:=hsx.1
  simp only[gX]at h
  cases e:(gh x !=0)
  ·simp only[e,cond_false]at h
   have key:r4 1 (xN L r us L.length pre.length pre.length (aa x) (aa x).length 0) o:=Bs hk (by omega) (by omega) (aa x) [] us rfl (by omega) (by
    cases e2:u0 (pre.length:Int) (aa x) (us.map toI)with
    |inl c=>rw[e2]at h;exact h
    |inr u'=>
     rw[e2]at h
     intro us' hus' hl'
     have:=Dx (r:=r) (o:=o) hL xs (pre++[x]) us' (by simp[hp]) hs.2 (by omega) (by rw[h5,←hus'];exact h)
     rw[h5]at this
     exact this)
   obtain⟨fuel,hf⟩:=key
   refine⟨fuel+1,(vn (pieces (R:=R0) E (an cY) dQ dq 0 .ok fuel) h1 h2 h3).trans ?_⟩
   rw[e]
   exact hf
  ·simp only[e,cond_true]at h
   refine⟨1,(vn (pieces (R:=R0) E (an cY) dQ dq 0 .ok 0) h1 h2 h3).trans ?_⟩
   rw[e,h]
   rfl
theorem pV(L:List Nd)(r:Int)(hs:sv L=true):∃fuel,start (R:=R0) E (an cY) dQ dq (pieces (R:=R0) E (an cY) dQ dq 0 .ok fuel) [.agg (trC L r)] [] .ok= .ok (vB (cx L r)):=by
 simp only[sv,Bool.and_eq_true,decide_eq_true_eq]at hs
 obtain⟨hL,hs⟩:=hs
 have h0:¬((L.length:Int)>16384):=by omega
 have hw:IntKind.wrap .i64 ((L.length:Int)-1)=(L.length:Int)-1:=wrap64 (by omega) (by omega)
 unfold cx
 by_cases h1:(L.length:Int)=0
 ·exact⟨0,by rw[nt];simp only[h0,h1,decide_false,cond_false,cond_true,beq_self_eq_true];rfl⟩
 have h1':((L.length:Int)==0)=false:=by simpa using h1
 cases e2:(r !=(L.length:Int)-1)
 ·have hr:r=(L.length:Int)-1:=by simpa using e2
  have hin:inI r L.length=true:=cq (by omega) (by omega)
  cases e3:(ae (aj L r.toNat) !=1)
  ·have hrep:(List.replicate L.length false).map toI=List.replicate L.length 0:=by simp[toI]
   obtain⟨fuel,hf⟩:r4 0 (qw L r (List.replicate L.length false) L.length 0) (vB (match gX 0 L (List.replicate L.length 0)with| .inl c=>c| .inr u=>rB (u.take (L.length-1)))):=by
    have:=Dx (r:=r) (o:=vB (match gX 0 L (List.replicate L.length 0)with| .inl c=>c| .inr u=>rB (u.take (L.length-1)))) hL L [] (List.replicate L.length false) rfl hs (by simp) (by
     rw[hrep]
     simp only[List.length_nil,Int.natCast_zero]
     cases e4:gX 0 L (List.replicate L.length 0)with
     |inl c=>rfl
     |inr u=>
      intro us hus hl
      exact wH (by omega) (by omega) hr L.length 0 (by omega) (by omega) (by rw[hus];rfl))
    exact this
   refine⟨fuel,?_⟩
   rw[nt,hw]
   have h5:inR (L.length:Int)=true:=by
    have hm:ar=68719476736:=rfl
    simp only[inR,Bool.and_eq_true,decide_eq_true_eq,hm]
    omega
   simp only[h0,h1',e2,e3,hin,h5,beq_self_eq_true,Bool.and_self,decide_false,cond_false,cond_true]
   exact hf
  ·refine⟨0,?_⟩
   rw[nt,hw]
   simp only[h0,h1',e2,e3,hin,decide_false,cond_false,cond_true]
   rfl
 ·refine⟨0,?_⟩
  rw[nt,hw]
  simp only[h0,h1',e2,decide_false,cond_false,cond_true]
  rfl
end Go.Sx.Tryz
namespace Go.Sx.Tryz
open Go Go.Sx Go.Proofs
set_option maxRecDepth 100000
def sF:List (List UInt8×Int×Int×Bool×Bool×Unit):=[([],0,0,false,false,()),([112,114,111,103,114,97,109],0,-1,false,false,()),([99,108,97,115,115],0,-1,true,false,()),([101,120,116,101,110,100,115],0,0,true,false,()),([102,105,101,108,100],0,0,true,true,()),([105,110,105,116],1,-1,false,false,()),([109,101,116,104,111,100],1,-1,true,true,()),([112,97,114,97,109],0,0,true,true,()),([98,108,111,99,107],0,-1,false,false,()),([100,101,99,108],0,1,true,true,()),([97,115,115,105,103,110],2,2,false,false,()),([105,102],2,3,false,false,()),([119,104,105,108,101],2,2,false,false,()),([98,114,101,97,107],0,0,false,false,()),([99,111,110,116,105,110,117,101],0,0,false,false,()),([114,101,116,117,114,110],0,1,false,false,()),([112,114,105,110,116],1,1,false,false,()),([115,117,112,101,114],0,-1,false,false,()),([101,120,112,114],1,1,false,false,()),([105,110,116],0,0,false,false,()),([100,111,117,98,108,101],0,0,true,false,()),([98,111,111,108],0,0,false,false,()),([115,116,114],0,0,true,false,()),([110,117,108,108],0,0,false,false,()),([116,104,105,115],0,0,false,false,()),([118,97,114],0,0,true,false,()),([103,101,116],1,1,true,false,()),([105,110,100,101,120],2,2,false,false,()),([108,101,110,103,116,104],1,1,false,false,()),([99,97,108,108],1,-1,true,false,()),([110,101,119],0,-1,false,true,()),([97,114,114,97,121],1,1,false,true,()),([110,101,103],1,1,false,false,()),([110,111,116],1,1,false,false,()),([98,105,110,97,114,121],2,2,true,false,()),([99,97,115,116],1,1,false,true,()),([116,111,105,110,116],1,1,false,false,()),([116,111,100,111,117,98,108,101],1,1,false,false,()),([105,110,112,117,116],0,0,false,false,()),([97,115,107],1,1,false,false,()),([103,117,97,114,100],1,1,false,false,()),([115,111,109,101],1,1,false,false,()),([110,111,110,101],0,0,false,false,()),([105,115,115,111,109,101],1,1,false,false,()),([105,115,110,111,110,101],1,1,false,false,()),([118,97,108],1,1,false,false,())]
def shT(k:Int):List UInt8×Int×Int×Bool×Bool×Unit:=(cE k,kQ k,lU k,qj k,ia k,())
def sh0:List UInt8×Int×Int×Bool×Bool×Unit:=([],0,0,false,false,())
def shC(x:List UInt8×Int×Int×Bool×Bool×Unit):List AV:=[.str x.1,.int .i64 x.2.1,.int .i64 x.2.2.1,.bool x.2.2.2.1,.bool x.2.2.2.2.1]
theorem ID(k:Int):body (R:=R0) E (vp E0 (ff 64 jD) cl 1000 10) EG [.int .i64 k] [] .ok=bif decide (k<0)then .ok (.ret (.agg (shC sh0)),[])else bif decide (k≥46)then .ok (.ret (.agg (shC sh0)),[])else bif inI k 46 then .ok (.ret (.agg (shC (sF.getD k.toNat sh0))),[])else .err 302:=by kernel_rfl
theorem Ab:sF=(List.range 46).map (fun i:Nat=>shT i):=by kernel_rfl
theorem FM(k:Int):body (R:=R0) E (vp E0 (ff 64 jD) cl 1000 10) EG [.int .i64 k] [] .ok= .ok (.ret (.agg (shC (shT k))),[]):=by
 rw[ID]
 have out:inK k=false→cE k=[]→shT k=sh0:=fun h hn=>by
  unfold shT kQ lU qj ia
  rw[h,hn]
  rfl
 by_cases h0:k<0
 ·have h1:inK k=false:=by simp[inK];omega
  have h2:cE k=[]:=by
   have:k<1:=by omega
   simp[cE,this]
  rw[out h1 h2]
  simp only[h0,decide_true,cond_true]
 ·by_cases h46:k≥46
  ·have h1:inK k=false:=by simp[inK];omega
   have h2:cE k=[]:=by
    have:¬k<1:=by omega
    have h3:(46:Int)≤k:=h46
    simp[cE,this,h3]
   rw[out h1 h2]
   simp only[h0,h46,decide_true,decide_false,cond_true,cond_false]
  ·have h1:inI k 46=true:=cq (by omega) (by omega)
   have h2:sF.getD k.toNat sh0=shT k:=by
    rw[Ab]
    have h3:k.toNat<46:=by omega
    have h4:((k.toNat:Nat):Int)=k:=Int.toNat_of_nonneg (by omega)
    rw[List.getD,List.getElem?_map,List.getElem?_range h3]
    show shT (k.toNat:Int)=shT k
    rw[h4]
   simp only[h0,h46,h1,h2,decide_false,cond_true,cond_false]
theorem Hz{w0:World}(t:TabsW w0)(x:ai bP):SAD Tryz.prog (GW w0) 61 bP vP x (shX x):=by
 obtain⟨k,⟨⟩⟩:=x
 exact bb (aS []) (lp (aS []) (rJ t).ok Gd 10) Mb (FM k)
theorem CR{w0:World}(t:TabsW w0):aT Tryz.prog (GW w0) cY:=.cons (aD fun x _=>Hz t x) (.cons (aD fun x _=>vG t x) .nil)
theorem nC{w0:World}(t:TabsW w0)(x:ai bS)(h:lu x=true):SAD Tryz.prog (GW w0) 27 bS bP x (wx x):=by
 obtain⟨⟨L,r,⟨⟩⟩,⟨⟩⟩:=x
 obtain⟨fuel,hf⟩:=pV L r h
 exact bh (aS []) (aE (CR t)) NT (.inl cb) hf
end Go.Sx.Tryz
namespace Go.Sx.Tryz
open Go Go.Sx Go.Proofs
set_option maxRecDepth 100000
variable{G:Nat→Obj→Prop}
def AO(k:Int):Bool:=decide (k≥19)&&decide (k≤45)
def zh(k:Int):Bool:=decide (k≥8)&&decide (k≤18)
abbrev oZ(k:Int):Rs R0:=.ok (.ret (.int .i64 k),[])
abbrev pg(c:Bool)(a b d:Rs R0):Rs R0:=bif c then bif c then a else b else d
def b6Z(s:List UInt8):Rs R0:=pg (s==[42]) (oZ 6) (oZ 0) (pg (s==[47]) (oZ 6) (oZ 0) (bif s==[37]then oZ 6 else oZ 0))
def b5Z(s:List UInt8):Rs R0:=pg (s==[43]) (oZ 5) (b6Z s) (bif s==[45]then oZ 5 else b6Z s)
def b4Z(s:List UInt8):Rs R0:=pg (s==[60]) (oZ 4) (b5Z s) (pg (s==[60,61]) (oZ 4) (b5Z s) (pg (s==[62]) (oZ 4) (b5Z s) (bif s==[62,61]then oZ 4 else b5Z s)))
def b3Z(s:List UInt8):Rs R0:=pg (s==[61,61]) (oZ 3) (b4Z s) (bif s==[33,61]then oZ 3 else b4Z s)
def dN(s:List UInt8):Int:=eY s+1
theorem BN(s:List UInt8):body (R:=R0) E (an []) xK [.str s] [] .ok=oZ (dN s):=by
 have h:body (R:=R0) E (an []) xK [.str s] [] .ok=(bif s==[124,124]then oZ 1 else bif s==[38,38]then oZ 2 else b3Z s):=by kernel_rfl
 rw[h]
 unfold b3Z b4Z b5Z b6Z dN eY pg
 generalize (s==([124,124]:List UInt8))=a1,(s==([38,38]:List UInt8))=a2,(s==([61,61]:List UInt8))=a3,(s==([33,61]:List UInt8))=a4,(s==([60]:List UInt8))=a5,(s==([60,61]:List UInt8))=a6,(s==([62]:List UInt8))=a7,
  (s==([62,61]:List UInt8))=a8,(s==([43]:List UInt8))=a9,(s==([45]:List UInt8))=c1,(s==([42]:List UInt8))=c2,(s==([47]:List UInt8))=c3,(s==([37]:List UInt8))=c4
 cases a1
 case true=>rfl
 cases a2
 case true=>rfl
 cases a3
 case true=>rfl
 cases a4
 case true=>rfl
 cases a5
 case true=>rfl
 cases a6
 case true=>rfl
 cases a7
 case true=>rfl
 cases a8
 case true=>rfl
 cases a9
 case true=>rfl
 cases c1
 case true=>rfl
 cases c2
 case true=>rfl
 cases c3
 case true=>rfl
 cases c4<;>rfl
def zW(x:Nd):Int:=bif ae x==34 then dN (aw x)else bif ae x==43 then 4 else bif ae x==44 then 4 else bif ae x==32 then 7 else bif ae x==33 then 7 else 8
theorem F5(x:ai bP):SAD Tryz.prog G 45 bP cd x (AO x.1,()):=by
 obtain⟨(k:Int),⟨⟩⟩:=x
 have h:body (R:=R0) E (an []) Ij [.int .i64 k] [] .ok=(bif decide (k≥19)then Rs.ok (.ret (.bool (decide (k≤45))),[])else .ok (.ret (.bool false),[])):=by kernel_rfl
 refine bb (aS []) (aE .nil) Mn (h.trans ?_)
 show _=(Rs.ok (.ret (.bool (AO k)),[]):Rs R0)
 unfold AO
 cases decide (k≥19)<;>rfl
theorem Dt(x:ai bP):SAD Tryz.prog G 48 bP cd x (zh x.1,()):=by
 obtain⟨(k:Int),⟨⟩⟩:=x
 have h:body (R:=R0) E (an []) JL [.int .i64 k] [] .ok=(bif decide (k≥8)then Rs.ok (.ret (.bool (decide (k≤18))),[])else .ok (.ret (.bool false),[])):=by kernel_rfl
 refine bb (aS []) (aE .nil) KY (h.trans ?_)
 show _=(Rs.ok (.ret (.bool (zh k)),[]):Rs R0)
 unfold zh
 cases decide (k≥8)<;>rfl
theorem D8(x:ai bB):SAD Tryz.prog G 103 bB bP x (dN x.1,()):=by
 obtain⟨s,⟨⟩⟩:=x
 exact bb (aS []) (aE .nil) GJ (BN s)
def Nl:List (Nat×aQ):=[(103,bg 103 bB bP (fun _=>true) fun x=>(dN x.1,()))]
abbrev b4:Sig:=[tN]
def c7Z(k:Int):Rs R0:=pg (k==32) (oZ 7) (oZ 8) (bif k==33 then oZ 7 else oZ 8)
def c4Z(k:Int):Rs R0:=pg (k==43) (oZ 4) (c7Z k) (bif k==44 then oZ 4 else c7Z k)
theorem IZ(x:ai b4):SAD Tryz.prog G 79 b4 bP x (zW x.1,()):=by
 obtain⟨x,⟨⟩⟩:=x
 have h:body (R:=R0) E (an Nl) I3 [.agg (flat aB x)] [] .ok=(bif ae x==34 then oZ (dN (aw x))else c4Z (ae x)):=by kernel_rfl
 refine bb (aS []) (aE (.cons (aD fun x _=>D8 x) .nil)) LN (h.trans ?_)
 show _=oZ (zW x)
 unfold zW c4Z c7Z pg
 generalize (ae x==34)=a1,(ae x==43)=a2,(ae x==44)=a3,(ae x==32)=a4,(ae x==33)=a5
 cases a1
 case true=>rfl
 cases a2
 case true=>rfl
 cases a3
 case true=>rfl
 cases a4
 case true=>rfl
 cases a5<;>rfl
def LW:List (Nat×aQ):=[(61,bg 61 bP vP (fun _=>true) shX)]
theorem Jk{w0:World}(t:TabsW w0)(x:ai bP):SAD Tryz.prog (GW w0) 105 bP bB x (cE x.1,()):=by
 obtain⟨k,⟨⟩⟩:=x
 have h:body (R:=R0) E (an LW) CB [.int .i64 k] [] .ok=Rs.ok (.ret (.str (cE k)),[]):=by kernel_rfl
 exact bb (aS []) (aE (.cons (aD fun x _=>Hz t x) .nil)) HW h
def CI(m:List UInt8):Bool:=Lib.trimB m 32==[]
theorem IA(x:ai ig)(hx:eK x=true):SAD Tryz.prog G 126 ig cd x (CI x.1.2.2.2.1,()):=by
 obtain⟨⟨b,n,d,m,⟨⟩⟩,⟨⟩⟩:=x
 have h:body (R:=R0) E (an sj) yq [.agg [.int .i64 b,.str n,.int .i64 d,.str m]] [] .ok=(bif decide (UInt8.toNat 32<128)&&Nat.ble (List.length m) 9223372036854775807 then Rs.ok (.ret (.bool (Lib.trimB m 32==[])),[])else Rs.err 1000135):=by kernel_rfl
 refine bb (aS []) (aE qT) DL (h.trans ?_)
 simp only[eK,Bool.and_eq_true,decide_eq_true_eq]at hx
 have h2:Nat.ble (List.length m) 9223372036854775807=true:=Nat.ble_eq_true_of_le (by have:=hx.2;omega)
 rw[h2]
 rfl
theorem yB:cp G 64 bP bO (fun _ x=>.ok [] x.1):=EU NW .nil fun L r x s e t e1 hq _=>by
 obtain⟨k,⟨⟩⟩:=x
 cases hq
 have h:body (R:=R0) E (an []) JB [.ref 0 0,.int .i64 k] (bsW L r s e) .ok=(bif e==0 then .ok (.ret (.tup []),me 0 L r s k)else .ok (.ret (.tup []),me 0 L r s e)):=by kernel_rfl
 refine⟨0,0,h.trans ?_⟩
 rw[tA]
 show _=Rs.ok (Out.ret (AV.tup []),me 0 L r s (ec e k))
 unfold ec
 cases (e==0)<;>rfl
end Go.Sx.Tryz
namespace Go.Proofs
open Go.Shelf Go.RowKit
set_option maxHeartbeats 1000000 in
set_option maxRecDepth 100000 in
theorem Tryz.cc_freshW(b:Nat)(w:World)(h0:w.cell? ⟨b,0,none⟩=some (.pointer none))(hsh:w.shape? b=some (67,5))(hfz:w.frozen? ⟨b,0,none⟩=false):
  Calls Tryz.prog 63 #[.pointer (some ⟨b,0,none⟩)] w fun e w'=>e= .returned (.tuple #[])∧w'=w.setCell ⟨b,0,none⟩ (.pointer (some ⟨b,0,none⟩)):=by
 obtain⟨j,hj,hjs⟩:=Option.map_eq_some_iff.1 Tryz.Builder_Extra_169.sizeBuilder
 have hl:liesAt Tryz.prog Tryz.prog.depth 67 (5/Tryz.prog.cellsOf 67) 0 65 1=true:=by kernel_rfl
 go_enter Tryz.func63,Tryz.ntmps63
 go_wp2
 rw[Lib.run_to_unsafe w ⟨b,0,none⟩ Tryz.underlying62 Tryz.underlying135 hj (by rw[hjs];decide) hsh (Nat.zero_lt_succ 4)]
 simp only[Result.andThen]
 rw[Oper.upon_value]
 go_wp2
 rw[run_callFunc_extern Tryz.func95 (by kernel_rfl) (by kernel_rfl) (by kernel_rfl) (e:=Extern.AbiNoEscape.same) (by kernel_rfl)]
 rw[Lib.run_noEscape]
 simp only[Result.andThen]
 rw[Oper.upon_value]
 go_wp2
 rw[Lib.run_from_unsafe w ⟨b,0,none⟩ Tryz.underlying135 Tryz.underlying62 hj hsh hl]
 simp only[Result.andThen]
 rw[Oper.upon_value]
 go_wp2
 go_end0
 exact⟨rfl,rfl⟩
end Go.Proofs
namespace Go.Sx.Tryz
open Go Go.Sx Go.Proofs
set_option maxRecDepth 100000
variable{G:Nat→Obj→Prop}
theorem H8:aK Tryz.prog G 63 (ofT 63 (dM 67 3)):=by
 refine ja ?_ (kz 67 3)
 exact jF MA (fun b w h0 hsh hfz=>Tryz.cc_freshW b w h0 hsh hfz) (fun b w h0=>Tryz.cc_used b w h0)
def MJ:List (Nat×aQ):=[(63,ofT 63 (dM 67 3))]
def xL(x:ai bB):AV:=.tup [.int .i64 (x.1.length:Nat),.nili]
theorem DZ:cp G 28 bB xL (fun _ x=>.ok x.1 0):=fun L r s e x t e1 hq hb=>by
 obtain⟨u,⟨⟩⟩:=x
 cases hq
 have h:body (R:=R0) E (an MJ) BR [.ref 0 0,.str u] (bsW L r s e) .ok=(bif decide (s.length+(bo u).length<ar)then .ok (.ret (xL (u,())),me 1 L r (app s (bo u)) e)else .err 206):=by kernel_rfl
 rw[nh]
 refine bb (aS []) (aE (.cons H8 .nil)) Ib (h.trans ?_)
 rw[decide_eq_true hb]
 rfl
end Go.Sx.Tryz
