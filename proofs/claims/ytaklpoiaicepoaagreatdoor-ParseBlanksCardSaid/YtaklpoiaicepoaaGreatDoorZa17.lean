/- A part of the proof: see the row's text. -/
import Derived.Test.YtaklpoiaicepoaaGreatDoorZa14
import Derived.Test.YtaklpoiaicepoaaGreatDoorZa15
import Derived.Test.YtaklpoiaicepoaaGreatDoorZa16
import Derived.Test.YtaklpoiaicepoaaGreatDoorZa13
import Derived.Test.YtaklpoiaicepoaaGreatDoorZa12
set_option linter.unusedVariables false
set_option linter.unusedSimpArgs false
noncomputable section
namespace Go.Sx.Tryz
open Go Go.Sx Go.Proofs
set_option maxRecDepth 100000
variable{G:Nat→Obj→Prop}{p:Fns}
theorem ok45(hl:bm Tryz.prog G (aM p)):bM G 45 [] [tT,tS] (fun T K a d A x=>Ds p T K a d A):=bV SY hl fun T K a d A _=>RI p T K a d A
theorem Vq(hl:bm Tryz.prog G (aM p)):bM G 125 [tI] [tI,tS] (fun T K a d A x=>uH p T K a d A x.1):=bV Mz hl fun T K a d A ⟨x1,_⟩=>Rd p T K a d A x1
theorem ok90(hl:bm Tryz.prog G (aM p)):bM G 90 [] [tI] (fun T K a d A x=>C8 p T K a d A):=bV TF hl fun T K a d A _=>Ub p T K a d A
theorem ok75(hl:bm Tryz.prog G (aM p)):bM G 75 [tS] [tB] (fun T K a d A x=>Dx p T K a d A x.1):=bV RF hl fun T K a d A ⟨x1,_⟩=>UG p T K a d A x1
theorem ok74(hl:bm Tryz.prog G (aM p)):bM G 74 [tS] [tB] (fun T K a d A x=>D8 p T K a d A x.1):=bV V6 hl fun T K a d A ⟨x1,_⟩=>Ug p T K a d A x1
theorem ok72(hl:bm Tryz.prog G (aM p)):bM G 72 [tS] [tI] (fun T K a d A x=>Dq p T K a d A x.1):=bV VE hl fun T K a d A ⟨x1,_⟩=>Rz p T K a d A x1
theorem ok73(hl:bm Tryz.prog G (aM p)):bM G 73 [] [tS] (fun T K a d A x=>D5 p T K a d A):=bV Wo hl fun T K a d A _=>UB p T K a d A
theorem ok48(hl:bm Tryz.prog G (aM p)):bM G 48 [tN,tI] [tI] (fun T K a d A x=>CX p T K a d A x.1 x.2.1):=bV Uw hl fun T K a d A ⟨x1,x2,_⟩=>Uj p T K a d A x1 x2
theorem RD(hl:bm Tryz.prog G (aM p)):bM G 104 [] [] (fun T K a d A x=>uJ p T K a d A):=bV MW hl fun T K a d A _=>Oy p T K a d A
theorem ok46(hl:bm Tryz.prog G (aM p)):bM G 46 [tI] [] (fun T K a d A x=>De p T K a d A x.1):=bV Tc hl fun T K a d A ⟨x1,_⟩=>WR p T K a d A x1
theorem ok47(hl:bm Tryz.prog G (aM p)):bM G 47 [] [tI] (fun T K a d A x=>R6 p T K a d A):=iG V2 hl fun T K a d A _=>⟨_,S1 p T K _ _ (Tt p T K _) a d A⟩
theorem ok76(hl:bm Tryz.prog G (aM p)):bM G 76 [] [tI] (fun T K a d A x=>DH p T K a d A):=bV TT hl fun T K a d A _=>Tv p T K a d A
theorem ok92(hl:bm Tryz.prog G (aM p)):ly G 92 [] [tL] (fun T K a d A x=>TJ p T K a d A) ky eJ:=tX MI S9 hl fun T K a d A _=>⟨_,Wn p T K _ _ (WH p T K _) a d A⟩
theorem ok94(hl:bm Tryz.prog G (aM p)):bM G 94 [tB] [tN] (fun T K a d A x=>DJ p T K a d A x.1):=bV TK hl fun T K a d A ⟨x1,_⟩=>Sb p T K a d A x1
theorem Ts(hl:bm Tryz.prog G (aM p)):bM G 106 [] [tN] (fun T K a d A x=>MK p T K a d A):=iG My hl fun T K a d A _=>⟨_,Qr p T K _ _ (Mv p T K _) a d A⟩
theorem T5(hl:bm Tryz.prog G (aM p)):ly G 117 [] [tN] (fun T K a d A x=>ur p T K a d A) F1 tC:=HW Wf Nq hl fun T K a d A _=>PQ p T K a d A
theorem ok93(hl:bm Tryz.prog G (aM p)):bM G 93 [] [tI] (fun T K a d A x=>U3 p T K a d A):=iG TV hl fun T K a d A _=>⟨_,Te p T K _ _ (UO p T K _) a d A⟩
theorem RQ(hl:bm Tryz.prog G (aM p)):bM G 113 [] [tB] (fun T K a d A x=>tY p T K a d A):=bV Mn hl fun T K a d A _=>PI p T K a d A
theorem Vr(hl:bm Tryz.prog G (aM p)):bM G 105 [] [tI] (fun T K a d A x=>um p T K a d A):=bV Mq hl fun T K a d A _=>Po p T K a d A
theorem Ui(hl:bm Tryz.prog G (aM p)):bM G 115 [tS] [tN,tB] (fun T K a d A x=>uP p T K a d A x.1):=bV Nh hl fun T K a d A ⟨x1,_⟩=>ND p T K a d A x1
theorem Uo(hl:bm Tryz.prog G (aM p)):bM G 116 [tI] [tI] (fun T K a d A x=>ug p T K a d A x.1):=bV M8 hl fun T K a d A ⟨x1,_⟩=>QQ p T K a d A x1
theorem RY(hl:bm Tryz.prog G (aM p)):bM G 127 [] [tI] (fun T K a d A x=>tl p T K a d A):=bV ML hl fun T K a d A _=>QB p T K a d A
theorem Tz(hl:bm Tryz.prog G (aM p)):ly G 128 [] [tL] (fun T K a d A x=>M3 p T K a d A) ky eJ:=tX MI Nl hl fun T K a d A _=>⟨_,Ok p T K _ _ (Na p T K _) a d A⟩
theorem Wj(hl:bm Tryz.prog G (aM p)):bM G 114 [] [tI] (fun T K a d A x=>tn p T K a d A):=bV M5 hl fun T K a d A _=>Q7 p T K a d A
theorem VM(hl:bm Tryz.prog G (aM p)):bM G 126 [tI] [tI] (fun T K a d A x=>Cw p T K a d A x.1):=iG M1 hl fun T K a d A ⟨x1,_⟩=>⟨_,Qn p T K _ _ (M6 p T K _) a d A x1⟩
theorem Sg(hl:bm Tryz.prog G (aM p)):bM G 133 [] [tI] (fun T K a d A x=>ua p T K a d A):=bV MN hl fun T K a d A _=>OF p T K a d A
theorem WA(hl:bm Tryz.prog G (aM p)):bM G 135 [] [tI] (fun T K a d A x=>Mj p T K a d A):=iG Nn hl fun T K a d A _=>⟨_,Oj p T K _ _ (Ml p T K _) a d A⟩
theorem VS(hl:bm Tryz.prog G (aM p)):bM G 136 [] [tI] (fun T K a d A x=>tV p T K a d A):=bV Nf hl fun T K a d A _=>Pu p T K a d A
theorem TY(hl:bm Tryz.prog G (aM p)):bM G 137 [tI,tI] [tI] (fun T K a d A x=>uh p T K a d A x.1 x.2.1):=bV Mr hl fun T K a d A ⟨x1,x2,_⟩=>QK p T K a d A x1 x2
theorem SQ(hl:bm Tryz.prog G (aM p)):bM G 139 [tN,tI] [tI] (fun T K a d A x=>sY p T K a d A x.1 x.2.1):=bV M9 hl fun T K a d A ⟨x1,x2,_⟩=>QS p T K a d A x1 x2
theorem T1(hl:bm Tryz.prog G (aM p)):bM G 142 [tT,tS] [tI] (fun T K a d A x=>uO p T K a d A x.1 x.2.1):=bV MA hl fun T K a d A ⟨x1,x2,_⟩=>Qs p T K a d A x1 x2
theorem Wp(hl:bm Tryz.prog G (aM p)):bM G 148 [] [tN] (fun T K a d A x=>tG p T K a d A):=bV Ni hl fun T K a d A _=>NV p T K a d A
theorem ok26(hl:bm Tryz.prog G (aM p)):bM G 26 [] [] (fun T K a d A x=>sI p T K a d A):=iG LL hl fun T K a d A _=>⟨_,WC p T K _ _ (V8 p T K _) a d A⟩
def Mh(p:Fns):Fns where
 next:=fun T K a d A x=>Ds p T K a d A
 ahead:=fun T K a d A x=>uH p T K a d A x.1
 skip:=fun T K a d A x=>C8 p T K a d A
 isS:=fun T K a d A x=>Dx p T K a d A x.1
 take:=fun T K a d A x=>D8 p T K a d A x.1
 want:=fun T K a d A x=>Dq p T K a d A x.1
 name:=fun T K a d A x=>D5 p T K a d A
 add:=fun T K a d A x=>CX p T K a d A x.1 x.2.1
 goIn:=fun T K a d A x=>uJ p T K a d A
 few:=fun T K a d A x=>De p T K a d A x.1
 klass:=fun T K a d A x=>R6 p T K a d A
 member:=fun T K a d A x=>DH p T K a d A
 params:=fun T K a d A x=>TJ p T K a d A
 typed:=fun T K a d A x=>DJ p T K a d A x.1
 inner:=fun T K a d A x=>MK p T K a d A
 base:=fun T K a d A x=>ur p T K a d A
 block:=fun T K a d A x=>U3 p T K a d A
 declares:=fun T K a d A x=>tY p T K a d A
 stat:=fun T K a d A x=>um p T K a d A
 word:=fun T K a d A x=>uP p T K a d A x.1
 plainS:=fun T K a d A x=>ug p T K a d A x.1
 bracket:=fun T K a d A x=>tl p T K a d A
 args:=fun T K a d A x=>M3 p T K a d A
 value:=fun T K a d A x=>tn p T K a d A
 chain:=fun T K a d A x=>Cw p T K a d A x.1
 unary:=fun T K a d A x=>ua p T K a d A
 behind:=fun T K a d A x=>Mj p T K a d A
 primary:=fun T K a d A x=>tV p T K a d A
 part:=fun T K a d A x=>uh p T K a d A x.1 x.2.1
 literal:=fun T K a d A x=>sY p T K a d A x.1 x.2.1
 kept:=fun T K a d A x=>uO p T K a d A x.1 x.2.1
 made:=fun T K a d A x=>tG p T K a d A
def SM:Fns where
 next:=fun _ _ _ _ _ _=>.bad
 ahead:=fun _ _ _ _ _ _=>.bad
 skip:=fun _ _ _ _ _ _=>.bad
 isS:=fun _ _ _ _ _ _=>.bad
 take:=fun _ _ _ _ _ _=>.bad
 want:=fun _ _ _ _ _ _=>.bad
 name:=fun _ _ _ _ _ _=>.bad
 add:=fun _ _ _ _ _ _=>.bad
 goIn:=fun _ _ _ _ _ _=>.bad
 few:=fun _ _ _ _ _ _=>.bad
 klass:=fun _ _ _ _ _ _=>.bad
 member:=fun _ _ _ _ _ _=>.bad
 params:=fun _ _ _ _ _ _=>.bad
 typed:=fun _ _ _ _ _ _=>.bad
 inner:=fun _ _ _ _ _ _=>.bad
 base:=fun _ _ _ _ _ _=>.bad
 block:=fun _ _ _ _ _ _=>.bad
 declares:=fun _ _ _ _ _ _=>.bad
 stat:=fun _ _ _ _ _ _=>.bad
 word:=fun _ _ _ _ _ _=>.bad
 plainS:=fun _ _ _ _ _ _=>.bad
 bracket:=fun _ _ _ _ _ _=>.bad
 args:=fun _ _ _ _ _ _=>.bad
 value:=fun _ _ _ _ _ _=>.bad
 chain:=fun _ _ _ _ _ _=>.bad
 unary:=fun _ _ _ _ _ _=>.bad
 behind:=fun _ _ _ _ _ _=>.bad
 primary:=fun _ _ _ _ _ _=>.bad
 part:=fun _ _ _ _ _ _=>.bad
 literal:=fun _ _ _ _ _ _=>.bad
 kept:=fun _ _ _ _ _ _=>.bad
 made:=fun _ _ _ _ _ _=>.bad
def fns:Nat→Fns
 |0=>SM
 |n+1=>Mh (fns n)
structure FnsOK(G:Nat→Obj→Prop)(p:Fns):Prop where
 o45:bM G 45 _ _ p.next
 o125:bM G 125 _ _ p.ahead
 o90:bM G 90 _ _ p.skip
 o75:bM G 75 _ _ p.isS
 o74:bM G 74 _ _ p.take
 o72:bM G 72 _ _ p.want
 o73:bM G 73 _ _ p.name
 o48:bM G 48 _ _ p.add
 o104:bM G 104 _ _ p.goIn
 o46:bM G 46 _ _ p.few
 o47:bM G 47 _ _ p.klass
 o76:bM G 76 _ _ p.member
 o92:ly G 92 _ _ p.params ky eJ
 o94:bM G 94 _ _ p.typed
 o106:bM G 106 _ _ p.inner
 o117:ly G 117 _ _ p.base F1 tC
 o93:bM G 93 _ _ p.block
 o113:bM G 113 _ _ p.declares
 o105:bM G 105 _ _ p.stat
 o115:bM G 115 _ _ p.word
 o116:bM G 116 _ _ p.plainS
 o127:bM G 127 _ _ p.bracket
 o128:ly G 128 _ _ p.args ky eJ
 o114:bM G 114 _ _ p.value
 o126:bM G 126 _ _ p.chain
 o133:bM G 133 _ _ p.unary
 o135:bM G 135 _ _ p.behind
 o136:bM G 136 _ _ p.primary
 o137:bM G 137 _ _ p.part
 o139:bM G 139 _ _ p.literal
 o142:bM G 142 _ _ p.kept
 o148:bM G 148 _ _ p.made
theorem Ke:FnsOK G SM where
 o45:=fun _ _ _ _ _ _=>trivial
 o125:=fun _ _ _ _ _ _=>trivial
 o90:=fun _ _ _ _ _ _=>trivial
 o75:=fun _ _ _ _ _ _=>trivial
 o74:=fun _ _ _ _ _ _=>trivial
 o72:=fun _ _ _ _ _ _=>trivial
 o73:=fun _ _ _ _ _ _=>trivial
 o48:=fun _ _ _ _ _ _=>trivial
 o104:=fun _ _ _ _ _ _=>trivial
 o46:=fun _ _ _ _ _ _=>trivial
 o47:=fun _ _ _ _ _ _=>trivial
 o76:=fun _ _ _ _ _ _=>trivial
 o92:=fun _ _ _ _ _ _=>trivial
 o94:=fun _ _ _ _ _ _=>trivial
 o106:=fun _ _ _ _ _ _=>trivial
 o117:=fun _ _ _ _ _ _=>trivial
 o93:=fun _ _ _ _ _ _=>trivial
 o113:=fun _ _ _ _ _ _=>trivial
 o105:=fun _ _ _ _ _ _=>trivial
 o115:=fun _ _ _ _ _ _=>trivial
 o116:=fun _ _ _ _ _ _=>trivial
 o127:=fun _ _ _ _ _ _=>trivial
 o128:=fun _ _ _ _ _ _=>trivial
 o114:=fun _ _ _ _ _ _=>trivial
 o126:=fun _ _ _ _ _ _=>trivial
 o133:=fun _ _ _ _ _ _=>trivial
 o135:=fun _ _ _ _ _ _=>trivial
 o136:=fun _ _ _ _ _ _=>trivial
 o137:=fun _ _ _ _ _ _=>trivial
 o139:=fun _ _ _ _ _ _=>trivial
 o142:=fun _ _ _ _ _ _=>trivial
 o148:=fun _ _ _ _ _ _=>trivial
theorem JL(hl:bm Tryz.prog G (aM p)):FnsOK G (Mh p)where
 o45:=ok45 hl
 o125:=Vq hl
 o90:=ok90 hl
 o75:=ok75 hl
 o74:=ok74 hl
 o72:=ok72 hl
 o73:=ok73 hl
 o48:=ok48 hl
 o104:=RD hl
 o46:=ok46 hl
 o47:=ok47 hl
 o76:=ok76 hl
 o92:=ok92 hl
 o94:=ok94 hl
 o106:=Ts hl
 o117:=T5 hl
 o93:=ok93 hl
 o113:=RQ hl
 o105:=Vr hl
 o115:=Ui hl
 o116:=Uo hl
 o127:=RY hl
 o128:=Tz hl
 o114:=Wj hl
 o126:=VM hl
 o133:=Sg hl
 o135:=WA hl
 o136:=VS hl
 o137:=TY hl
 o139:=SQ hl
 o142:=T1 hl
 o148:=Wp hl
end Go.Sx.Tryz
namespace Go.Sx.Tryz
open Go Go.Sx Go.Proofs
set_option maxRecDepth 100000
variable{G:Nat→Obj→Prop}{p:Fns}
theorem Hd:aQ Tryz.prog G 71 yY:=fun R args bs k r hr=>by
 unfold yY at hr
 split at hr
 ·rename_i c q
  have h1:body (R:=R0) E (aq []) NZ [.int .i64 c,.int .i64 q] [] .ok= .ok (.panic (.iface 28 (.agg [.int .i64 c,.int .i64 q])),[]):=by kernel_rfl
  exact⟨_,hr,bT (aX []) (aP .nil) UL h1⟩
 ·cases hr
theorem Mb(s:List UInt8):body (R:=R0) E (aq []) BO [.str s] [] .ok=bif s==[124,124]then Rs.ok (Out.ret (AV.int IntKind.i64 0),[])else bif s==[38,38]then Rs.ok (Out.ret (AV.int IntKind.i64 ((1:Int))),[])else bif s==[61,61]then bif s==[61,61]then Rs.ok (Out.ret (AV.int IntKind.i64 ((2:Int))),[])else bif s==[60]then bif s==[60]then Rs.ok (Out.ret (AV.int IntKind.i64 ((3:Int))),[])else bif s==[43]then bif s==[43]then Rs.ok (Out.ret (AV.int IntKind.i64 ((4:Int))),[])else bif s==[42]then bif s==[42]then Rs.ok (Out.ret (AV.int IntKind.i64 ((5:Int))),[])else Rs.ok (Out.ret (AV.int IntKind.i64 ((-1:Int))),[])else bif s==[47]then bif s==[47]then Rs.ok (Out.ret (AV.int IntKind.i64 ((5:Int))),[])else Rs.ok (Out.ret (AV.int IntKind.i64 ((-1:Int))),[])else bif s==[37]then Rs.ok (Out.ret (AV.int IntKind.i64 ((5:Int))),[])else Rs.ok (Out.ret (AV.int IntKind.i64 ((-1:Int))),[])else bif s==[45]then Rs.ok (Out.ret (AV.int IntKind.i64 ((4:Int))),[])else bif s==[42]then bif s==[42]then Rs.ok (Out.ret (AV.int IntKind.i64 ((5:Int))),[])else Rs.ok (Out.ret (AV.int IntKind.i64 ((-1:Int))),[])else bif s==[47]then bif s==[47]then Rs.ok (Out.ret (AV.int IntKind.i64 ((5:Int))),[])else Rs.ok (Out.ret (AV.int IntKind.i64 ((-1:Int))),[])else bif s==[37]then Rs.ok (Out.ret (AV.int IntKind.i64 ((5:Int))),[])else Rs.ok (Out.ret (AV.int IntKind.i64 ((-1:Int))),[])else bif s==[60,61]then bif s==[60,61]then Rs.ok (Out.ret (AV.int IntKind.i64 ((3:Int))),[])else bif s==[43]then bif s==[43]then Rs.ok (Out.ret (AV.int IntKind.i64 ((4:Int))),[])else bif s==[42]then bif s==[42]then Rs.ok (Out.ret (AV.int IntKind.i64 ((5:Int))),[])else Rs.ok (Out.ret (AV.int IntKind.i64 ((-1:Int))),[])else bif s==[47]then bif s==[47]then Rs.ok (Out.ret (AV.int IntKind.i64 ((5:Int))),[])else Rs.ok (Out.ret (AV.int IntKind.i64 ((-1:Int))),[])else bif s==[37]then Rs.ok (Out.ret (AV.int IntKind.i64 ((5:Int))),[])else Rs.ok (Out.ret (AV.int IntKind.i64 ((-1:Int))),[])else bif s==[45]then Rs.ok (Out.ret (AV.int IntKind.i64 ((4:Int))),[])else bif s==[42]then bif s==[42]then Rs.ok (Out.ret (AV.int IntKind.i64 ((5:Int))),[])else Rs.ok (Out.ret (AV.int IntKind.i64 ((-1:Int))),[])else bif s==[47]then bif s==[47]then Rs.ok (Out.ret (AV.int IntKind.i64 ((5:Int))),[])else Rs.ok (Out.ret (AV.int IntKind.i64 ((-1:Int))),[])else bif s==[37]then Rs.ok (Out.ret (AV.int IntKind.i64 ((5:Int))),[])else Rs.ok (Out.ret (AV.int IntKind.i64 ((-1:Int))),[])else bif s==[62]then bif s==[62]then Rs.ok (Out.ret (AV.int IntKind.i64 ((3:Int))),[])else bif s==[43]then bif s==[43]then Rs.ok (Out.ret (AV.int IntKind.i64 ((4:Int))),[])else bif s==[42]then bif s==[42]then Rs.ok (Out.ret (AV.int IntKind.i64 ((5:Int))),[])else Rs.ok (Out.ret (AV.int IntKind.i64 ((-1:Int))),[])else bif s==[47]then bif s==[47]then Rs.ok (Out.ret (AV.int IntKind.i64 ((5:Int))),[])else Rs.ok (Out.ret (AV.int IntKind.i64 ((-1:Int))),[])else bif s==[37]then Rs.ok (Out.ret (AV.int IntKind.i64 ((5:Int))),[])else Rs.ok (Out.ret (AV.int IntKind.i64 ((-1:Int))),[])else bif s==[45]then Rs.ok (Out.ret (AV.int IntKind.i64 ((4:Int))),[])else bif s==[42]then bif s==[42]then Rs.ok (Out.ret (AV.int IntKind.i64 ((5:Int))),[])else Rs.ok (Out.ret (AV.int IntKind.i64 ((-1:Int))),[])else bif s==[47]then bif s==[47]then Rs.ok (Out.ret (AV.int IntKind.i64 ((5:Int))),[])else Rs.ok (Out.ret (AV.int IntKind.i64 ((-1:Int))),[])else bif s==[37]then Rs.ok (Out.ret (AV.int IntKind.i64 ((5:Int))),[])else Rs.ok (Out.ret (AV.int IntKind.i64 ((-1:Int))),[])else bif s==[62,61]then Rs.ok (Out.ret (AV.int IntKind.i64 ((3:Int))),[])else bif s==[43]then bif s==[43]then Rs.ok (Out.ret (AV.int IntKind.i64 ((4:Int))),[])else bif s==[42]then bif s==[42]then Rs.ok (Out.ret (AV.int IntKind.i64 ((5:Int))),[])else Rs.ok (Out.ret (AV.int IntKind.i64 ((-1:Int))),[])else bif s==[47]then bif s==[47]then Rs.ok (Out.ret (AV.int IntKind.i64 ((5:Int))),[])else Rs.ok (Out.ret (AV.int IntKind.i64 ((-1:Int))),[])else bif s==[37]then Rs.ok (Out.ret (AV.int IntKind.i64 ((5:Int))),[])else Rs.ok (Out.ret (AV.int IntKind.i64 ((-1:Int))),[])else bif s==[45]then Rs.ok (Out.ret (AV.int IntKind.i64 ((4:Int))),[])else bif s==[42]then bif s==[42]then Rs.ok (Out.ret (AV.int IntKind.i64 ((5:Int))),[])else Rs.ok (Out.ret (AV.int IntKind.i64 ((-1:Int))),[])else bif s==[47]then bif s==[47]then Rs.ok (Out.ret (AV.int IntKind.i64 ((5:Int))),[])else Rs.ok (Out.ret (AV.int IntKind.i64 ((-1:Int))),[])else bif s==[37]then Rs.ok (Out.ret (AV.int IntKind.i64 ((5:Int))),[])else Rs.ok (Out.ret (AV.int IntKind.i64 ((-1:Int))),[])else bif s==[33,61]then Rs.ok (Out.ret (AV.int IntKind.i64 ((2:Int))),[])else bif s==[60]then bif s==[60]then Rs.ok (Out.ret (AV.int IntKind.i64 ((3:Int))),[])else bif s==[43]then bif s==[43]then Rs.ok (Out.ret (AV.int IntKind.i64 ((4:Int))),[])else bif s==[42]then bif s==[42]then Rs.ok (Out.ret (AV.int IntKind.i64 ((5:Int))),[])else Rs.ok (Out.ret (AV.int IntKind.i64 ((-1:Int))),[])else bif s==[47]then bif s==[47]then Rs.ok (Out.ret (AV.int IntKind.i64 ((5:Int))),[])else Rs.ok (Out.ret (AV.int IntKind.i64 ((-1:Int))),[])else bif s==[37]then Rs.ok (Out.ret (AV.int IntKind.i64 ((5:Int))),[])else Rs.ok (Out.ret (AV.int IntKind.i64 ((-1:Int))),[])else bif s==[45]then Rs.ok (Out.ret (AV.int IntKind.i64 ((4:Int))),[])else bif s==[42]then bif s==[42]then Rs.ok (Out.ret (AV.int IntKind.i64 ((5:Int))),[])else Rs.ok (Out.ret (AV.int IntKind.i64 ((-1:Int))),[])else bif s==[47]then bif s==[47]then Rs.ok (Out.ret (AV.int IntKind.i64 ((5:Int))),[])else Rs.ok (Out.ret (AV.int IntKind.i64 ((-1:Int))),[])else bif s==[37]then Rs.ok (Out.ret (AV.int IntKind.i64 ((5:Int))),[])else Rs.ok (Out.ret (AV.int IntKind.i64 ((-1:Int))),[])else bif s==[60,61]then bif s==[60,61]then Rs.ok (Out.ret (AV.int IntKind.i64 ((3:Int))),[])else bif s==[43]then bif s==[43]then Rs.ok (Out.ret (AV.int IntKind.i64 ((4:Int))),[])else bif s==[42]then bif s==[42]then Rs.ok (Out.ret (AV.int IntKind.i64 ((5:Int))),[])else Rs.ok (Out.ret (AV.int IntKind.i64 ((-1:Int))),[])else bif s==[47]then bif s==[47]then Rs.ok (Out.ret (AV.int IntKind.i64 ((5:Int))),[])else Rs.ok (Out.ret (AV.int IntKind.i64 ((-1:Int))),[])else bif s==[37]then Rs.ok (Out.ret (AV.int IntKind.i64 ((5:Int))),[])else Rs.ok (Out.ret (AV.int IntKind.i64 ((-1:Int))),[])else bif s==[45]then Rs.ok (Out.ret (AV.int IntKind.i64 ((4:Int))),[])else bif s==[42]then bif s==[42]then Rs.ok (Out.ret (AV.int IntKind.i64 ((5:Int))),[])else Rs.ok (Out.ret (AV.int IntKind.i64 ((-1:Int))),[])else bif s==[47]then bif s==[47]then Rs.ok (Out.ret (AV.int IntKind.i64 ((5:Int))),[])else Rs.ok (Out.ret (AV.int IntKind.i64 ((-1:Int))),[])else bif s==[37]then Rs.ok (Out.ret (AV.int IntKind.i64 ((5:Int))),[])else Rs.ok (Out.ret (AV.int IntKind.i64 ((-1:Int))),[])else bif s==[62]then bif s==[62]then Rs.ok (Out.ret (AV.int IntKind.i64 ((3:Int))),[])else bif s==[43]then bif s==[43]then Rs.ok (Out.ret (AV.int IntKind.i64 ((4:Int))),[])else bif s==[42]then bif s==[42]then Rs.ok (Out.ret (AV.int IntKind.i64 ((5:Int))),[])else Rs.ok (Out.ret (AV.int IntKind.i64 ((-1:Int))),[])else bif s==[47]then bif s==[47]then Rs.ok (Out.ret (AV.int IntKind.i64 ((5:Int))),[])else Rs.ok (Out.ret (AV.int IntKind.i64 ((-1:Int))),[])else bif s==[37]then Rs.ok (Out.ret (AV.int IntKind.i64 ((5:Int))),[])else Rs.ok (Out.ret (AV.int IntKind.i64 ((-1:Int))),[])else bif s==[45]then Rs.ok (Out.ret (AV.int IntKind.i64 ((4:Int))),[])else bif s==[42]then bif s==[42]then Rs.ok (Out.ret (AV.int IntKind.i64 ((5:Int))),[])else Rs.ok (Out.ret (AV.int IntKind.i64 ((-1:Int))),[])else bif s==[47]then bif s==[47]then Rs.ok (Out.ret (AV.int IntKind.i64 ((5:Int))),[])else Rs.ok (Out.ret (AV.int IntKind.i64 ((-1:Int))),[])else bif s==[37]then Rs.ok (Out.ret (AV.int IntKind.i64 ((5:Int))),[])else Rs.ok (Out.ret (AV.int IntKind.i64 ((-1:Int))),[])else bif s==[62,61]then Rs.ok (Out.ret (AV.int IntKind.i64 ((3:Int))),[])else bif s==[43]then bif s==[43]then Rs.ok (Out.ret (AV.int IntKind.i64 ((4:Int))),[])else bif s==[42]then bif s==[42]then Rs.ok (Out.ret (AV.int IntKind.i64 ((5:Int))),[])else Rs.ok (Out.ret (AV.int IntKind.i64 ((-1:Int))),[])else bif s==[47]then bif s==[47]then Rs.ok (Out.ret (AV.int IntKind.i64 ((5:Int))),[])else Rs.ok (Out.ret (AV.int IntKind.i64 ((-1:Int))),[])else bif s==[37]then Rs.ok (Out.ret (AV.int IntKind.i64 ((5:Int))),[])else Rs.ok (Out.ret (AV.int IntKind.i64 ((-1:Int))),[])else bif s==[45]then Rs.ok (Out.ret (AV.int IntKind.i64 ((4:Int))),[])else bif s==[42]then bif s==[42]then Rs.ok (Out.ret (AV.int IntKind.i64 ((5:Int))),[])else Rs.ok (Out.ret (AV.int IntKind.i64 ((-1:Int))),[])else bif s==[47]then bif s==[47]then Rs.ok (Out.ret (AV.int IntKind.i64 ((5:Int))),[])else Rs.ok (Out.ret (AV.int IntKind.i64 ((-1:Int))),[])else bif s==[37]then Rs.ok (Out.ret (AV.int IntKind.i64 ((5:Int))),[])else Rs.ok (Out.ret (AV.int IntKind.i64 ((-1:Int))),[]):=by kernel_rfl
theorem Jt(x:au cz):SAD Tryz.prog G 134 cz jJ x (Ht x):=by
 obtain⟨s,⟨⟩⟩:=x
 have key:∀s:List UInt8,body (R:=R0) E (aq []) BO [.str s] [] .ok= .ok (.ret (.int .i64 (hZ s)),[]):=fun s=>by
  rw[Mb]
  unfold hZ
  cases (s==([124,124]:List UInt8))with
  |true=>rfl
  |false=>
  cases (s==([38,38]:List UInt8))with
  |true=>rfl
  |false=>
  cases (s==([61,61]:List UInt8))with
  |true=>rfl
  |false=>
  cases (s==([33,61]:List UInt8))with
  |true=>rfl
  |false=>
  cases (s==([60]:List UInt8))with
  |true=>rfl
  |false=>
  cases (s==([60,61]:List UInt8))with
  |true=>rfl
  |false=>
  cases (s==([62]:List UInt8))with
  |true=>rfl
  |false=>
  cases (s==([62,61]:List UInt8))with
  |true=>rfl
  |false=>
  cases (s==([43]:List UInt8))with
  |true=>rfl
  |false=>
  cases (s==([45]:List UInt8))with
  |true=>rfl
  |false=>
  cases (s==([42]:List UInt8))with
  |true=>rfl
  |false=>
  cases (s==([47]:List UInt8))with
  |true=>rfl
  |false=>
  cases (s==([37]:List UInt8))with
  |true=>rfl
  |false=>
  rfl
 exact bT (aX []) (aP .nil) MG (key s)
theorem fc78:FIOK Tryz.prog 78 fi78:=⟨⟨Tryz.f78,Tryz.func78,rfl,rfl,rfl,by kernel_rfl⟩,by kernel_rfl⟩
theorem RB:FIOK Tryz.prog 161 Tg:=⟨⟨Tryz.f161,Tryz.func161,rfl,rfl,rfl,by kernel_rfl⟩,by kernel_rfl⟩
theorem zk:aQ Tryz.prog G 78 (ofT 78 (rq 3)):=by
 refine kz ?_ (GF 3)
 exact Dg fc78 (fun b off n c zs w hz hbig hc=>Any.slices_Clone_int Tryz.laysNm215 b off n c zs w hz hbig hc) (fun n c w=>Any.slices_Clone_int_nil Tryz.laysNm215 n c w) (fun a c w=>Any.slices_Clone_int_zero Tryz.laysNm215 a c w)
theorem Md:aQ Tryz.prog G 161 (ofT 161 Cj):=by
 refine kz ?_ (Mc)
 exact HL RB fun w s c hc hs=>Any.strings_Trim_one Tryz.lays160 s c hc w hs
theorem LQ{f:Nat}{ts rs:Sig}{F:PF ts rs}:INt (As f ts rs F):=fun R args bs k r hr=>by
 unfold As at hr
 split at hr
 ·rename_i xs T tK K a d z nT A
  split at hr
  ·rename_i K' A' x hz hK hA ht
   cases e:F T K' a d A' x with
   |ok y a' d' A''=>
    rw[e]at hr
    refine⟨_,hr,fun R' k' r' hk=>?_⟩
    unfold As
    simp only[hz,hK,hA,ht,e]
    exact hk
   |fault c p=>
    rw[e]at hr
    refine⟨_,hr,fun R' k' r' hk=>?_⟩
    unfold As
    simp only[hz,hK,hA,ht,e]
    exact hk
   |bad=>
    rw[e]at hr
    cases hr
  ·cases hr
 ·cases hr
theorem FE{f:Nat}{ts rs:Sig}{F:PF ts rs}{ret:au rs→AV}{more:au rs→List Blk}:INt (sq f ts rs F ret more):=fun R args bs k r hr=>by
 unfold sq at hr
 split at hr
 ·rename_i xs T tK K a d z nT A
  split at hr
  ·rename_i K' A' x hz hK hA ht
   cases e:F T K' a d A' x with
   |ok y a' d' A''=>
    rw[e]at hr
    refine⟨_,hr,fun R' k' r' hk=>?_⟩
    unfold sq
    simp only[hz,hK,hA,ht,e]
    exact hk
   |fault c p=>
    rw[e]at hr
    refine⟨_,hr,fun R' k' r' hk=>?_⟩
    unfold sq
    simp only[hz,hK,hA,ht,e]
    exact hk
   |bad=>
    rw[e]at hr
    cases hr
  ·cases hr
 ·cases hr
theorem bz{f:Nat}{ts rs:Sig}{F:PF ts rs}:INt (dU f ts rs F):=xG (B5 (uN LQ))
theorem qQ{f:Nat}{ts rs:Sig}{F:PF ts rs}{ret:au rs→AV}{more:au rs→List Blk}:INt (xY f ts rs F ret more):=xG (B5 (uN FE))
theorem Gx:INt yY:=fun R args bs k r hr=>by
 unfold yY at hr⊢
 split at hr
 ·exact⟨_,hr,fun _ _ _ h=>h⟩
 ·cases hr
def nA(G:Nat→Obj→Prop):Prop:=∀x:au cz,lv x=true→SAD Tryz.prog G 140 cz ID x (U8 x)
theorem Cc:pO (Al p):=by
 unfold Al
 refine .cons Gx (.cons bz (.cons bz (.cons bz (.cons bz (.cons bz (.cons bz (.cons bz (.cons bz (.cons bz (.cons bz ?_))))))))))
 refine .cons bz (.cons bz (.cons qQ (.cons bz (.cons bz (.cons qQ (.cons bz (.cons bz (.cons bz (.cons bz (.cons bz (.cons bz ?_)))))))))))
 refine .cons qQ (.cons bz (.cons bz (.cons bz (.cons bz (.cons bz (.cons bz (.cons bz (.cons bz (.cons bz ?_)))))))))
 exact .cons ix (.cons ix (.cons ix (.cons ix (.cons ix (.cons ix (.cons zF .nil))))))
theorem y9:pO ku:=.cons zF .nil
theorem CL:pO zJ:=.cons zF .nil
theorem sb:bm Tryz.prog G ku:=.cons zk .nil
theorem Du:bm Tryz.prog G zJ:=.cons Md .nil
theorem vz(ht:iO G)(hf:nA G)(h:FnsOK G p):bm Tryz.prog G (Al p):=by
 unfold Al
 refine .cons Hd (.cons (bx h.o45) (.cons (bx h.o125) (.cons (bx h.o90) (.cons (bx h.o75) (.cons (bx h.o74) (.cons (bx h.o72) (.cons (bx h.o73) (.cons (bx h.o48) (.cons (bx h.o104) (.cons (bx h.o46) ?_))))))))))
 refine .cons (bx h.o47) (.cons (bx h.o76) (.cons (qM h.o92) (.cons (bx h.o94) (.cons (bx h.o106) (.cons (qM h.o117) (.cons (bx h.o93) (.cons (bx h.o113) (.cons (bx h.o105) (.cons (bx h.o115) (.cons (bx h.o116) (.cons (bx h.o127) ?_)))))))))))
 refine .cons (qM h.o128) (.cons (bx h.o114) (.cons (bx h.o126) (.cons (bx h.o133) (.cons (bx h.o135) (.cons (bx h.o136) (.cons (bx h.o137) (.cons (bx h.o139) (.cons (bx h.o142) (.cons (bx h.o148) ?_)))))))))
 exact .cons (aT fun x hx=>Kg ht x hx) (.cons (aT fun x hx=>FZ ht x hx) (.cons (aT fun x hx=>On ht x hx) (.cons (aT fun x hx=>Ou ht x hx) (.cons (aT fun x _=>Jt x) (.cons (aT hf) (.cons zk .nil))))))
theorem B6(ht:iO G)(hf:nA G)(h:FnsOK G p):bm Tryz.prog G (aM p):=
 .cons (je (aX []) y9 sb TN) (.cons (je (aX []) y9 sb Mw) (.cons (je (aX []) Cc (vz ht hf h) Nj) (.cons (je (aX []) Cc (vz ht hf h) M7) (.cons (je (aX []) CL Du Mp) (vz ht hf h)))))
theorem Jn(ht:iO G)(hf:nA G):∀n,FnsOK G (fns n)
 |0=>Ke
 |n+1=>JL (B6 ht hf (Jn ht hf n))
theorem zH(ht:iO G)(hf:nA G)(n:Nat):bM G 26 [] [] (fun T K a d A _=>sI (fns n) T K a d A):=ok26 (B6 ht hf (Jn ht hf n))
end Go.Sx.Tryz
namespace Go.Sx.Tryz
open Go Go.Sx Go.Proofs
set_option maxRecDepth 100000
def PG:aV:=fun R args bs k=>match args,bs with
 |[.int .u8 c],[]=>(match c==46 with
  |true=>k (.ret (.int .u8 46),[])
  |false=>.err 162)
 |_,_=>.err 162
def jl:List (Nat×aV):=[(162,PG)]
def Tq:List Bool:=[true,false,true,true,true,true,true,true,true,true,true,true,true,true,true,false,false,false]
def iY:List Cut:=[⟨Tq,some ⟨[(0,[]),(2,[]),(3,[]),(4,[]),(5,[]),(6,[]),(7,[]),(8,[]),(9,[]),(10,[]),(11,[]),(12,[]),(13,[]),(14,[]),(15,[]),(16,[]),(17,[])],[]⟩⟩]
def px(s:List UInt8)(mt i:Int)(sd sg:Bool)(nd nm dp:Int):St:=⟨[(0,.str s),(2,.int .u64 mt),(3,.int .i64 0),(4,.bool false),(5,.bool false),(6,.bool false),(7,.int .i64 i),(8,.bool false),(9,.bool false),(10,.int .u64 10),(11,.int .i64 19),(12,.int .u8 101),(13,.bool sd),(14,.bool sg),(15,.int .i64 nd),(16,.int .i64 nm),(17,.int .i64 dp)],[],0⟩
end Go.Sx.Tryz
namespace Go.Sx.Tryz
open Go Go.Sx
set_option maxRecDepth 100000
theorem wQ(J:Jump R0)(s:List UInt8)(mt i:Int)(sd sg:Bool)(nd nm dp:Int):resume (R:=R0) E (aq jl) (aS 0 iY 0) J Tq jF.code 1 (px s mt i sd sg nd nm dp) (bX E 0 jF.results .ok)=bif decide (i<(↑(List.length s):Int))then bif inI i (List.length s)then bif true==((↑(UInt8.toNat (List.getD s (Int.toNat i) 0)):Int)==95)then J 0 {tmps:=[(0,AV.str s),(2,AV.int IntKind.u64 mt),(3,Iz 0),(4,AV.bool false),(5,AV.bool false),(6,AV.bool false),(7,Iz (IntKind.wrap IntKind.i64 (i+1))),(8,AV.bool false),(9,AV.bool true),(10,AV.int IntKind.u64 ((10:Int))),(11,Iz ((19:Int))),(12,AV.int IntKind.u8 ((101:Int))),(13,AV.bool sd),(14,AV.bool sg),(15,Iz nd),(16,Iz nm),(17,Iz dp)],blks:=[],next:=0}else bif true==((↑(UInt8.toNat (List.getD s (Int.toNat i) 0)):Int)==46)then bif sd then bif !sg then Rs.ok (Out.ret (AV.tup [AV.int IntKind.u64 mt,Iz 0,AV.bool false,AV.bool false,AV.bool false,Iz i,AV.bool false]),[])else bif !sd then bif decide (i<(↑(List.length s):Int))then bif inI i (List.length s)then bif (↑(UInt8.toNat (List.getD s (Int.toNat i) 0)):Int)==46 then bif mt !=0 then Rs.ok (Out.ret (AV.tup [AV.int IntKind.u64 mt,Iz (IntKind.wrap IntKind.i64 (nd-nm)),AV.bool false,AV.bool false,AV.bool false,Iz i,AV.bool true]),[])else Rs.ok (Out.ret (AV.tup [AV.int IntKind.u64 mt,Iz 0,AV.bool false,AV.bool false,AV.bool false,Iz i,AV.bool true]),[])else Rs.err 162 else Rs.err 5707 else bif mt !=0 then Rs.ok (Out.ret (AV.tup [AV.int IntKind.u64 mt,Iz (IntKind.wrap IntKind.i64 (nd-nm)),AV.bool false,AV.bool false,AV.bool false,Iz i,AV.bool true]),[])else Rs.ok (Out.ret (AV.tup [AV.int IntKind.u64 mt,Iz 0,AV.bool false,AV.bool false,AV.bool false,Iz i,AV.bool true]),[])else bif decide (i<(↑(List.length s):Int))then bif inI i (List.length s)then bif (↑(UInt8.toNat (List.getD s (Int.toNat i) 0)):Int)==46 then bif mt !=0 then Rs.ok (Out.ret (AV.tup [AV.int IntKind.u64 mt,Iz (IntKind.wrap IntKind.i64 (dp-nm)),AV.bool false,AV.bool false,AV.bool false,Iz i,AV.bool true]),[])else Rs.ok (Out.ret (AV.tup [AV.int IntKind.u64 mt,Iz 0,AV.bool false,AV.bool false,AV.bool false,Iz i,AV.bool true]),[])else Rs.err 162 else Rs.err 5707 else bif mt !=0 then Rs.ok (Out.ret (AV.tup [AV.int IntKind.u64 mt,Iz (IntKind.wrap IntKind.i64 (dp-nm)),AV.bool false,AV.bool false,AV.bool false,Iz i,AV.bool true]),[])else Rs.ok (Out.ret (AV.tup [AV.int IntKind.u64 mt,Iz 0,AV.bool false,AV.bool false,AV.bool false,Iz i,AV.bool true]),[])else J 0 {tmps:=[(0,AV.str s),(2,AV.int IntKind.u64 mt),(3,Iz 0),(4,AV.bool false),(5,AV.bool false),(6,AV.bool false),(7,Iz (IntKind.wrap IntKind.i64 (i+1))),(8,AV.bool false),(9,AV.bool false),(10,AV.int IntKind.u64 ((10:Int))),(11,Iz ((19:Int))),(12,AV.int IntKind.u8 ((101:Int))),(13,AV.bool true),(14,AV.bool sg),(15,Iz nd),(16,Iz nm),(17,Iz nd)],blks:=[],next:=0}else bif decide (48≤(↑(UInt8.toNat (List.getD s (Int.toNat i) 0)):Int))then bif true==decide ((↑(UInt8.toNat (List.getD s (Int.toNat i) 0)):Int)≤57)then bif (↑(UInt8.toNat (List.getD s (Int.toNat i) 0)):Int)==48 then bif nd==0 then J 0 {tmps:=[(0,AV.str s),(2,AV.int IntKind.u64 mt),(3,Iz 0),(4,AV.bool false),(5,AV.bool false),(6,AV.bool false),(7,Iz (IntKind.wrap IntKind.i64 (i+1))),(8,AV.bool false),(9,AV.bool false),(10,AV.int IntKind.u64 ((10:Int))),(11,Iz ((19:Int))),(12,AV.int IntKind.u8 ((101:Int))),(13,AV.bool sd),(14,AV.bool true),(15,Iz nd),(16,Iz nm),(17,Iz (IntKind.wrap IntKind.i64 (dp-1)))],blks:=[],next:=0}else bif decide (nm<19)then J 0 {tmps:=[(0,AV.str s),(2,AV.int IntKind.u64 (IntKind.wrap IntKind.u64 (IntKind.wrap IntKind.u64 (mt*10)+IntKind.wrap IntKind.u64 (IntKind.wrap IntKind.u8 ((↑(UInt8.toNat (List.getD s (Int.toNat i) 0)):Int)-48))))),(3,Iz 0),(4,AV.bool false),(5,AV.bool false),(6,AV.bool false),(7,Iz (IntKind.wrap IntKind.i64 (i+1))),(8,AV.bool false),(9,AV.bool false),(10,AV.int IntKind.u64 ((10:Int))),(11,Iz ((19:Int))),(12,AV.int IntKind.u8 ((101:Int))),(13,AV.bool sd),(14,AV.bool true),(15,Iz (IntKind.wrap IntKind.i64 (nd+1))),(16,Iz (IntKind.wrap IntKind.i64 (nm+1))),(17,Iz dp)],blks:=[],next:=0}else bif (↑(UInt8.toNat (List.getD s (Int.toNat i) 0)):Int) !=48 then J 0 {tmps:=[(0,AV.str s),(2,AV.int IntKind.u64 mt),(3,Iz 0),(4,AV.bool false),(5,AV.bool true),(6,AV.bool false),(7,Iz (IntKind.wrap IntKind.i64 (i+1))),(8,AV.bool false),(9,AV.bool false),(10,AV.int IntKind.u64 ((10:Int))),(11,Iz ((19:Int))),(12,AV.int IntKind.u8 ((101:Int))),(13,AV.bool sd),(14,AV.bool true),(15,Iz (IntKind.wrap IntKind.i64 (nd+1))),(16,Iz nm),(17,Iz dp)],blks:=[],next:=0}else J 0 {tmps:=[(0,AV.str s),(2,AV.int IntKind.u64 mt),(3,Iz 0),(4,AV.bool false),(5,AV.bool false),(6,AV.bool false),(7,Iz (IntKind.wrap IntKind.i64 (i+1))),(8,AV.bool false),(9,AV.bool false),(10,AV.int IntKind.u64 ((10:Int))),(11,Iz ((19:Int))),(12,AV.int IntKind.u8 ((101:Int))),(13,AV.bool sd),(14,AV.bool true),(15,Iz (IntKind.wrap IntKind.i64 (nd+1))),(16,Iz nm),(17,Iz dp)],blks:=[],next:=0}else bif decide (nm<19)then J 0 {tmps:=[(0,AV.str s),(2,AV.int IntKind.u64 (IntKind.wrap IntKind.u64 (IntKind.wrap IntKind.u64 (mt*10)+IntKind.wrap IntKind.u64 (IntKind.wrap IntKind.u8 ((↑(UInt8.toNat (List.getD s (Int.toNat i) 0)):Int)-48))))),(3,Iz 0),(4,AV.bool false),(5,AV.bool false),(6,AV.bool false),(7,Iz (IntKind.wrap IntKind.i64 (i+1))),(8,AV.bool false),(9,AV.bool false),(10,AV.int IntKind.u64 ((10:Int))),(11,Iz ((19:Int))),(12,AV.int IntKind.u8 ((101:Int))),(13,AV.bool sd),(14,AV.bool true),(15,Iz (IntKind.wrap IntKind.i64 (nd+1))),(16,Iz (IntKind.wrap IntKind.i64 (nm+1))),(17,Iz dp)],blks:=[],next:=0}else bif (↑(UInt8.toNat (List.getD s (Int.toNat i) 0)):Int) !=48 then J 0 {tmps:=[(0,AV.str s),(2,AV.int IntKind.u64 mt),(3,Iz 0),(4,AV.bool false),(5,AV.bool true),(6,AV.bool false),(7,Iz (IntKind.wrap IntKind.i64 (i+1))),(8,AV.bool false),(9,AV.bool false),(10,AV.int IntKind.u64 ((10:Int))),(11,Iz ((19:Int))),(12,AV.int IntKind.u8 ((101:Int))),(13,AV.bool sd),(14,AV.bool true),(15,Iz (IntKind.wrap IntKind.i64 (nd+1))),(16,Iz nm),(17,Iz dp)],blks:=[],next:=0}else J 0 {tmps:=[(0,AV.str s),(2,AV.int IntKind.u64 mt),(3,Iz 0),(4,AV.bool false),(5,AV.bool false),(6,AV.bool false),(7,Iz (IntKind.wrap IntKind.i64 (i+1))),(8,AV.bool false),(9,AV.bool false),(10,AV.int IntKind.u64 ((10:Int))),(11,Iz ((19:Int))),(12,AV.int IntKind.u8 ((101:Int))),(13,AV.bool sd),(14,AV.bool true),(15,Iz (IntKind.wrap IntKind.i64 (nd+1))),(16,Iz nm),(17,Iz dp)],blks:=[],next:=0}else bif !sg then Rs.ok (Out.ret (AV.tup [AV.int IntKind.u64 mt,Iz 0,AV.bool false,AV.bool false,AV.bool false,Iz i,AV.bool false]),[])else bif !sd then bif decide (i<(↑(List.length s):Int))then bif inI i (List.length s)then bif (↑(UInt8.toNat (List.getD s (Int.toNat i) 0)):Int)==46 then bif mt !=0 then Rs.ok (Out.ret (AV.tup [AV.int IntKind.u64 mt,Iz (IntKind.wrap IntKind.i64 (nd-nm)),AV.bool false,AV.bool false,AV.bool false,Iz i,AV.bool true]),[])else Rs.ok (Out.ret (AV.tup [AV.int IntKind.u64 mt,Iz 0,AV.bool false,AV.bool false,AV.bool false,Iz i,AV.bool true]),[])else Rs.err 162 else Rs.err 5707 else bif mt !=0 then Rs.ok (Out.ret (AV.tup [AV.int IntKind.u64 mt,Iz (IntKind.wrap IntKind.i64 (nd-nm)),AV.bool false,AV.bool false,AV.bool false,Iz i,AV.bool true]),[])else Rs.ok (Out.ret (AV.tup [AV.int IntKind.u64 mt,Iz 0,AV.bool false,AV.bool false,AV.bool false,Iz i,AV.bool true]),[])else bif decide (i<(↑(List.length s):Int))then bif inI i (List.length s)then bif (↑(UInt8.toNat (List.getD s (Int.toNat i) 0)):Int)==46 then bif mt !=0 then Rs.ok (Out.ret (AV.tup [AV.int IntKind.u64 mt,Iz (IntKind.wrap IntKind.i64 (dp-nm)),AV.bool false,AV.bool false,AV.bool false,Iz i,AV.bool true]),[])else Rs.ok (Out.ret (AV.tup [AV.int IntKind.u64 mt,Iz 0,AV.bool false,AV.bool false,AV.bool false,Iz i,AV.bool true]),[])else Rs.err 162 else Rs.err 5707 else bif mt !=0 then Rs.ok (Out.ret (AV.tup [AV.int IntKind.u64 mt,Iz (IntKind.wrap IntKind.i64 (dp-nm)),AV.bool false,AV.bool false,AV.bool false,Iz i,AV.bool true]),[])else Rs.ok (Out.ret (AV.tup [AV.int IntKind.u64 mt,Iz 0,AV.bool false,AV.bool false,AV.bool false,Iz i,AV.bool true]),[])else bif !sg then Rs.ok (Out.ret (AV.tup [AV.int IntKind.u64 mt,Iz 0,AV.bool false,AV.bool false,AV.bool false,Iz i,AV.bool false]),[])else bif !sd then bif decide (i<(↑(List.length s):Int))then bif inI i (List.length s)then bif (↑(UInt8.toNat (List.getD s (Int.toNat i) 0)):Int)==46 then bif mt !=0 then Rs.ok (Out.ret (AV.tup [AV.int IntKind.u64 mt,Iz (IntKind.wrap IntKind.i64 (nd-nm)),AV.bool false,AV.bool false,AV.bool false,Iz i,AV.bool true]),[])else Rs.ok (Out.ret (AV.tup [AV.int IntKind.u64 mt,Iz 0,AV.bool false,AV.bool false,AV.bool false,Iz i,AV.bool true]),[])else Rs.err 162 else Rs.err 5707 else bif mt !=0 then Rs.ok (Out.ret (AV.tup [AV.int IntKind.u64 mt,Iz (IntKind.wrap IntKind.i64 (nd-nm)),AV.bool false,AV.bool false,AV.bool false,Iz i,AV.bool true]),[])else Rs.ok (Out.ret (AV.tup [AV.int IntKind.u64 mt,Iz 0,AV.bool false,AV.bool false,AV.bool false,Iz i,AV.bool true]),[])else bif decide (i<(↑(List.length s):Int))then bif inI i (List.length s)then bif (↑(UInt8.toNat (List.getD s (Int.toNat i) 0)):Int)==46 then bif mt !=0 then Rs.ok (Out.ret (AV.tup [AV.int IntKind.u64 mt,Iz (IntKind.wrap IntKind.i64 (dp-nm)),AV.bool false,AV.bool false,AV.bool false,Iz i,AV.bool true]),[])else Rs.ok (Out.ret (AV.tup [AV.int IntKind.u64 mt,Iz 0,AV.bool false,AV.bool false,AV.bool false,Iz i,AV.bool true]),[])else Rs.err 162 else Rs.err 5707 else bif mt !=0 then Rs.ok (Out.ret (AV.tup [AV.int IntKind.u64 mt,Iz (IntKind.wrap IntKind.i64 (dp-nm)),AV.bool false,AV.bool false,AV.bool false,Iz i,AV.bool true]),[])else Rs.ok (Out.ret (AV.tup [AV.int IntKind.u64 mt,Iz 0,AV.bool false,AV.bool false,AV.bool false,Iz i,AV.bool true]),[])else Rs.err 2502 else bif !sg then Rs.ok (Out.ret (AV.tup [AV.int IntKind.u64 mt,Iz 0,AV.bool false,AV.bool false,AV.bool false,Iz i,AV.bool false]),[])else bif !sd then bif decide (i<(↑(List.length s):Int))then bif inI i (List.length s)then bif (↑(UInt8.toNat (List.getD s (Int.toNat i) 0)):Int)==46 then bif mt !=0 then Rs.ok (Out.ret (AV.tup [AV.int IntKind.u64 mt,Iz (IntKind.wrap IntKind.i64 (nd-nm)),AV.bool false,AV.bool false,AV.bool false,Iz i,AV.bool true]),[])else Rs.ok (Out.ret (AV.tup [AV.int IntKind.u64 mt,Iz 0,AV.bool false,AV.bool false,AV.bool false,Iz i,AV.bool true]),[])else Rs.err 162 else Rs.err 5707 else bif mt !=0 then Rs.ok (Out.ret (AV.tup [AV.int IntKind.u64 mt,Iz (IntKind.wrap IntKind.i64 (nd-nm)),AV.bool false,AV.bool false,AV.bool false,Iz i,AV.bool true]),[])else Rs.ok (Out.ret (AV.tup [AV.int IntKind.u64 mt,Iz 0,AV.bool false,AV.bool false,AV.bool false,Iz i,AV.bool true]),[])else bif decide (i<(↑(List.length s):Int))then bif inI i (List.length s)then bif (↑(UInt8.toNat (List.getD s (Int.toNat i) 0)):Int)==46 then bif mt !=0 then Rs.ok (Out.ret (AV.tup [AV.int IntKind.u64 mt,Iz (IntKind.wrap IntKind.i64 (dp-nm)),AV.bool false,AV.bool false,AV.bool false,Iz i,AV.bool true]),[])else Rs.ok (Out.ret (AV.tup [AV.int IntKind.u64 mt,Iz 0,AV.bool false,AV.bool false,AV.bool false,Iz i,AV.bool true]),[])else Rs.err 162 else Rs.err 5707 else bif mt !=0 then Rs.ok (Out.ret (AV.tup [AV.int IntKind.u64 mt,Iz (IntKind.wrap IntKind.i64 (dp-nm)),AV.bool false,AV.bool false,AV.bool false,Iz i,AV.bool true]),[])else Rs.ok (Out.ret (AV.tup [AV.int IntKind.u64 mt,Iz 0,AV.bool false,AV.bool false,AV.bool false,Iz i,AV.bool true]),[]):=by kernel_rfl
theorem Hl(J:Jump R0)(s:List UInt8):start (R:=R0) E (aq jl) jF iY J [.str s] [] .ok=bif decide (0≥(↑(List.length s):Int))then Rs.ok (Out.ret (AV.tup [AV.int IntKind.u64 0,Iz 0,AV.bool false,AV.bool false,AV.bool false,Iz 0,AV.bool false]),[])else bif inI 0 (List.length s)then bif (↑(UInt8.toNat (List.getD s (Int.toNat 0) 0)):Int)==43 then bif decide (IntKind.wrap IntKind.i64 (IntKind.wrap IntKind.i64 (0+1)+2)<(↑(List.length s):Int))then bif inI (IntKind.wrap IntKind.i64 (0+1)) (List.length s)then bif (↑(UInt8.toNat (List.getD s (Int.toNat (IntKind.wrap IntKind.i64 (0+1))) 0)):Int)==48 then bif inI (IntKind.wrap IntKind.i64 (IntKind.wrap IntKind.i64 (0+1)+1)) (List.length s)then bif (↑(UInt8.toNat (List.getD s (Int.toNat (IntKind.wrap IntKind.i64 (IntKind.wrap IntKind.i64 (0+1)+1))) 0)):Int)==46 then J 0 {tmps:=[(0,AV.str s),(2,AV.int IntKind.u64 0),(3,Iz 0),(4,AV.bool false),(5,AV.bool false),(6,AV.bool false),(7,Iz ((1:Int))),(8,AV.bool false),(9,AV.bool false),(10,AV.int IntKind.u64 ((10:Int))),(11,Iz ((19:Int))),(12,AV.int IntKind.u8 ((101:Int))),(13,AV.bool false),(14,AV.bool false),(15,Iz 0),(16,Iz 0),(17,Iz 0)],blks:=[],next:=0}else Rs.err 162 else Rs.err 1215 else J 0 {tmps:=[(0,AV.str s),(2,AV.int IntKind.u64 0),(3,Iz 0),(4,AV.bool false),(5,AV.bool false),(6,AV.bool false),(7,Iz ((1:Int))),(8,AV.bool false),(9,AV.bool false),(10,AV.int IntKind.u64 ((10:Int))),(11,Iz ((19:Int))),(12,AV.int IntKind.u8 ((101:Int))),(13,AV.bool false),(14,AV.bool false),(15,Iz 0),(16,Iz 0),(17,Iz 0)],blks:=[],next:=0}else Rs.err 1208 else J 0 {tmps:=[(0,AV.str s),(2,AV.int IntKind.u64 0),(3,Iz 0),(4,AV.bool false),(5,AV.bool false),(6,AV.bool false),(7,Iz ((1:Int))),(8,AV.bool false),(9,AV.bool false),(10,AV.int IntKind.u64 ((10:Int))),(11,Iz ((19:Int))),(12,AV.int IntKind.u8 ((101:Int))),(13,AV.bool false),(14,AV.bool false),(15,Iz 0),(16,Iz 0),(17,Iz 0)],blks:=[],next:=0}else bif (↑(UInt8.toNat (List.getD s (Int.toNat 0) 0)):Int)==45 then bif decide (IntKind.wrap IntKind.i64 (IntKind.wrap IntKind.i64 (0+1)+2)<(↑(List.length s):Int))then bif inI (IntKind.wrap IntKind.i64 (0+1)) (List.length s)then bif (↑(UInt8.toNat (List.getD s (Int.toNat (IntKind.wrap IntKind.i64 (0+1))) 0)):Int)==48 then bif inI (IntKind.wrap IntKind.i64 (IntKind.wrap IntKind.i64 (0+1)+1)) (List.length s)then bif (↑(UInt8.toNat (List.getD s (Int.toNat (IntKind.wrap IntKind.i64 (IntKind.wrap IntKind.i64 (0+1)+1))) 0)):Int)==46 then J 0 {tmps:=[(0,AV.str s),(2,AV.int IntKind.u64 0),(3,Iz 0),(4,AV.bool true),(5,AV.bool false),(6,AV.bool false),(7,Iz ((1:Int))),(8,AV.bool false),(9,AV.bool false),(10,AV.int IntKind.u64 ((10:Int))),(11,Iz ((19:Int))),(12,AV.int IntKind.u8 ((101:Int))),(13,AV.bool false),(14,AV.bool false),(15,Iz 0),(16,Iz 0),(17,Iz 0)],blks:=[],next:=0}else Rs.err 162 else Rs.err 1215 else J 0 {tmps:=[(0,AV.str s),(2,AV.int IntKind.u64 0),(3,Iz 0),(4,AV.bool true),(5,AV.bool false),(6,AV.bool false),(7,Iz ((1:Int))),(8,AV.bool false),(9,AV.bool false),(10,AV.int IntKind.u64 ((10:Int))),(11,Iz ((19:Int))),(12,AV.int IntKind.u8 ((101:Int))),(13,AV.bool false),(14,AV.bool false),(15,Iz 0),(16,Iz 0),(17,Iz 0)],blks:=[],next:=0}else Rs.err 1208 else J 0 {tmps:=[(0,AV.str s),(2,AV.int IntKind.u64 0),(3,Iz 0),(4,AV.bool true),(5,AV.bool false),(6,AV.bool false),(7,Iz ((1:Int))),(8,AV.bool false),(9,AV.bool false),(10,AV.int IntKind.u64 ((10:Int))),(11,Iz ((19:Int))),(12,AV.int IntKind.u8 ((101:Int))),(13,AV.bool false),(14,AV.bool false),(15,Iz 0),(16,Iz 0),(17,Iz 0)],blks:=[],next:=0}else bif decide (IntKind.wrap IntKind.i64 (0+2)<(↑(List.length s):Int))then bif inI 0 (List.length s)then bif (↑(UInt8.toNat (List.getD s (Int.toNat 0) 0)):Int)==48 then bif inI (IntKind.wrap IntKind.i64 (0+1)) (List.length s)then bif (↑(UInt8.toNat (List.getD s (Int.toNat (IntKind.wrap IntKind.i64 (0+1))) 0)):Int)==46 then J 0 {tmps:=[(0,AV.str s),(2,AV.int IntKind.u64 0),(3,Iz 0),(4,AV.bool false),(5,AV.bool false),(6,AV.bool false),(7,Iz 0),(8,AV.bool false),(9,AV.bool false),(10,AV.int IntKind.u64 ((10:Int))),(11,Iz ((19:Int))),(12,AV.int IntKind.u8 ((101:Int))),(13,AV.bool false),(14,AV.bool false),(15,Iz 0),(16,Iz 0),(17,Iz 0)],blks:=[],next:=0}else Rs.err 162 else Rs.err 1215 else J 0 {tmps:=[(0,AV.str s),(2,AV.int IntKind.u64 0),(3,Iz 0),(4,AV.bool false),(5,AV.bool false),(6,AV.bool false),(7,Iz 0),(8,AV.bool false),(9,AV.bool false),(10,AV.int IntKind.u64 ((10:Int))),(11,Iz ((19:Int))),(12,AV.int IntKind.u8 ((101:Int))),(13,AV.bool false),(14,AV.bool false),(15,Iz 0),(16,Iz 0),(17,Iz 0)],blks:=[],next:=0}else Rs.err 1208 else J 0 {tmps:=[(0,AV.str s),(2,AV.int IntKind.u64 0),(3,Iz 0),(4,AV.bool false),(5,AV.bool false),(6,AV.bool false),(7,Iz 0),(8,AV.bool false),(9,AV.bool false),(10,AV.int IntKind.u64 ((10:Int))),(11,Iz ((19:Int))),(12,AV.int IntKind.u8 ((101:Int))),(13,AV.bool false),(14,AV.bool false),(15,Iz 0),(16,Iz 0),(17,Iz 0)],blks:=[],next:=0}else Rs.err 302:=by kernel_rfl
end Go.Sx.Tryz
namespace Go.Sx.Tryz
open Go Go.Sx Go.Proofs
set_option maxRecDepth 100000
variable{G:Nat→Obj→Prop}
abbrev jE(n:Nat):Jump R0:=pieces (R:=R0) E (aq jl) jF iY 0 .ok n
theorem wz{n:Int}(h0:0≤n)(h1:n<18446744073709551616):IntKind.wrap .u64 n=n:=by
 unfold IntKind.wrap
 have hb:IntKind.bits .u64=64:=rfl
 have hs:IntKind.signed .u64=false:=rfl
 simp only[hb,hs,Bool.false_and]
 simp only[Bool.false_eq_true,if_false]
 omega
theorem Qy{n:Int}(h0:0≤n)(h1:n<256):IntKind.wrap .u8 n=n:=by
 unfold IntKind.wrap
 have hb:IntKind.bits .u8=8:=rfl
 have hs:IntKind.signed .u8=false:=rfl
 simp only[hb,hs,Bool.false_and]
 simp only[Bool.false_eq_true,if_false]
 omega
theorem getD_at{s pre q:List UInt8}{c:UInt8}(h:s=pre++c::q):s.getD (Int.toNat (pre.length:Int)) 0=c:=by
 rw[h,Int.toNat_natCast]
 simp[List.getD_eq_getElem?_getD]
theorem fY{c:UInt8}(h:aH (c.toNat:Int)=true):48≤c.toNat∧c.toNat≤57:=by
 unfold aH at h
 simp only[Bool.and_eq_true,decide_eq_true_eq]at h
 omega
theorem p6{s:List UInt8}(hs:s.length≤1048576)(sd:Bool):∀(r pre q:List UInt8) (fuel mt:Nat) (sg:Bool) (nd dp:Int),s=pre++(r++q)→(r.all fun c=>aH c.toNat)=true→0≤nd→nd+r.length≤15→ -20+r.length≤dp→dp≤20→mt<10^(16-r.length)→r.length≤15→(mt≠0→nd≠0)→
  ∃(nd' dp':Int),jE (fuel+r.length) 0 (px s mt pre.length sd sg nd nd dp)=jE fuel 0 (px s (r.foldl (fun m c=>m*10+(c.toNat-48)) mt:Nat) ((pre.length:Int)+r.length) sd (sg|| !r.isEmpty) nd' nd' dp')∧
   nd'-dp'=nd-dp+r.length∧0≤nd'∧nd'≤nd+r.length∧((r.foldl (fun m c=>m*10+(c.toNat-48)) mt)≠0→nd'≠0)
 |[],pre,q,fuel,mt,sg,nd,dp,hp,hd,h0,h1,h2,h3,h4,h5,h6=>by
  refine⟨nd,dp,?_,by simp,h0,by simp,h6⟩
  simp only[List.length_nil,Nat.add_zero,List.foldl_nil,List.isEmpty_nil,Bool.not_true,Bool.or_false]
  rw[show(pre.length:Int)+((0:Nat):Int)=pre.length by omega]
 |c::r,pre,q,fuel,mt,sg,nd,dp,hp,hd,h0,h1,h2,h3,h4,h5,h6=>by
  rw[List.all_cons,Bool.and_eq_true]at hd
  obtain⟨c0,c1⟩:=fY hd.1
  have hlen:pre.length+(r.length+1+q.length)=s.length:=by rw[hp];simp;omega
  have hc:s.getD (Int.toNat (pre.length:Int)) 0=c:=getD_at (q:=r++q) (by rw[hp];rfl)
  have hlt:(pre.length:Int)<s.length:=by omega
  have e1:decide ((pre.length:Int)<s.length)=true:=decide_eq_true hlt
  have e2:inI (pre.length:Int) s.length=true:=by
   simp only[inI,Bool.and_eq_true,decide_eq_true_eq]
   omega
  have e3:(true==((c.toNat:Int)==95))=false:=by
   have:¬((c.toNat:Int)=95):=by omega
   simp[this]
  have e4:(true==((c.toNat:Int)==46))=false:=by
   have:¬((c.toNat:Int)=46):=by omega
   simp[this]
  have e5:decide (48≤(c.toNat:Int))=true:=decide_eq_true (by omega)
  have e6:(true==decide ((c.toNat:Int)≤57))=true:=by
   have:decide ((c.toNat:Int)≤57)=true:=decide_eq_true (by omega)
   rw[this];rfl
  have e7:decide (nd<19)=true:=decide_eq_true (by simp only[List.length_cons]at h1;omega)
  have wi:IntKind.wrap .i64 ((pre.length:Int)+1)=(pre.length:Int)+1:=wrap64 (by omega) (by omega)
  have hpos:10^(16-(r.length+1))≤10^15:=Nat.pow_le_pow_right (by decide) (by omega)
  simp only[List.length_cons]at h1 h2 h4 h5
  have hmt:mt<10^15:=Nat.lt_of_lt_of_le h4 hpos
  have wn:IntKind.wrap .i64 (nd+1)=nd+1:=wrap64 (by omega) (by omega)
  have wd:IntKind.wrap .i64 (dp-1)=dp-1:=wrap64 (by omega) (by omega)
  have wm:IntKind.wrap .u64 (IntKind.wrap .u64 ((mt:Int)*10)+IntKind.wrap .u64 (IntKind.wrap .u8 ((c.toNat:Int)-48)))=((mt*10+(c.toNat-48):Nat):Int):=by
   have w1:IntKind.wrap .u8 ((c.toNat:Int)-48)=(c.toNat:Int)-48:=Qy (by omega) (by omega)
   have w2:IntKind.wrap .u64 ((c.toNat:Int)-48)=(c.toNat:Int)-48:=wz (by omega) (by omega)
   have w3:IntKind.wrap .u64 ((mt:Int)*10)=(mt:Int)*10:=wz (by omega) (by omega)
   rw[w1,w2,w3,wz (by omega) (by omega)]
   omega
  have hmt2:mt*10+(c.toNat-48)<10^(16-r.length):=by
   have:16-r.length=(16-(r.length+1))+1:=by omega
   rw[this,Nat.pow_succ]
   omega
  have hfu:fuel+(r.length+1)=(fuel+r.length)+1:=by omega
  have hpl:(((pre++[c]).length:Nat):Int)=(pre.length:Int)+1:=by simp
  have hpc:s=(pre++[c])++(r++q):=by rw[hp];simp
  have hsg:(sg|| !(c::r).isEmpty)=true:=by simp
  have hstep:=(bg (n:=fuel+r.length) (st:=px s mt pre.length sd sg nd nd dp) (cs:=iY) (E:=E) (K:=aq jl) (fi:=jF) (np:=0) (k:=Rs.ok) (j:=0) rfl).trans (wQ (jE (fuel+r.length)) s mt pre.length sd sg nd nd dp)
  rw[hc,e1,e2,e3,e4,e5,e6,e7,wi,wn,wd,wm]at hstep
  simp only[cond_true,cond_false]at hstep
  show ∃nd' dp',jE (fuel+(r.length+1)) 0 _=_∧_
  rw[hfu,hsg]
  by_cases hz:(c.toNat:Int)=48∧nd=0
  ·have hm0:mt=0:=by
    rcases Nat.eq_zero_or_pos mt with h|h
    ·exact h
    ·exact absurd hz.2 (h6 (by omega))
   have hc48:c.toNat=48:=by omega
   obtain⟨nd',dp',g1,g2,g3,g4,g5⟩:=p6 hs sd r (pre++[c]) q fuel mt true nd (dp-1) hpc hd.2 h0 (by omega) (by omega) (by omega) (by rw[hm0];exact Nat.pos_of_ne_zero (by simp)) (by omega) h6
   refine⟨nd',dp',?_,by rw[g2];simp only[List.length_cons];omega,g3,by simp only[List.length_cons];omega,?_⟩
   ·refine Eq.trans ?_ (Eq.trans g1 ?_)
    ·rw[hpl]
     refine hstep.trans ?_
     rw[show((c.toNat:Int)==48)=true by simp[hc48],show(nd==0)=true by simp[hz.2]]
     exact congrArg _ rfl
    ·have:mt*10+(c.toNat-48)=mt:=by omega
     simp only[List.foldl_cons,this,List.length_cons,hpl,Bool.true_or]
     rw[show(pre.length:Int)+1+(r.length:Int)=(pre.length:Int)+((r.length+1:Nat):Int) by omega]
   ·have:mt*10+(c.toNat-48)=mt:=by omega
    simp only[List.foldl_cons,this]
    exact g5
  ·obtain⟨nd',dp',g1,g2,g3,g4,g5⟩:=p6 hs sd r (pre++[c]) q fuel (mt*10+(c.toNat-48)) true (nd+1) dp hpc hd.2 (by omega) (by omega) (by omega) h3 hmt2 (by omega) (fun _=>by omega)
   refine⟨nd',dp',?_,by rw[g2];simp only[List.length_cons];omega,g3,by simp only[List.length_cons];omega,g5⟩
   refine Eq.trans ?_ (Eq.trans g1 ?_)
   ·rw[hpl]
    refine hstep.trans ?_
    cases h48:((c.toNat:Int)==48)with
    |true=>
     have:(nd==0)=false:=by
      have h48:(c.toNat:Int)=48:=by simpa using h48
      simp
      intro e
      exact hz ⟨h48,e⟩
     rw[this]
     exact congrArg _ rfl
    |false=>exact congrArg _ rfl
   ·simp only[List.foldl_cons,List.length_cons,hpl,Bool.true_or]
    rw[show(pre.length:Int)+1+(r.length:Int)=(pre.length:Int)+((r.length+1:Nat):Int) by omega]
theorem rdFloat{a b:List UInt8}(ha:(a.all fun c=>aH c.toNat)=true)(hb:(b.all fun c=>aH c.toNat)=true)(a1:1≤a.length)(b1:1≤b.length)(hab:a.length+b.length≤15)(hz:1<a.length→at8 a 0≠48):
  start (R:=R0) E (aq jl) jF iY (jE (((1+b.length)+1)+a.length)) [.str (a++46::b)] [] .ok=
   .ok (.ret (.tup [.int .u64 (bu (a++b):Nat),.int .i64 (bif bu (a++b)==0 then 0 else-(b.length:Int)),.bool false,.bool false,.bool false,.int .i64 (a++46::b).length,.bool true]),[]):=by
 obtain⟨c,a',rfl⟩:∃c a',a=c::a':=by
  cases a with
  |nil=>simp at a1
  |cons c a'=>exact⟨c,a',rfl⟩
 generalize hs:(c::a')++46::b=s
 have hlen:s.length=a'.length+1+(b.length+1):=by rw[←hs];simp;omega
 have ha0:=ha
 rw[List.all_cons,Bool.and_eq_true]at ha
 obtain⟨c0,c1⟩:=fY ha.1
 simp only[List.length_cons]at hab a1
 have hs0:s.getD (Int.toNat 0) 0=c:=by rw[←hs];rfl
 have hst:start (R:=R0) E (aq jl) jF iY (jE (((1+b.length)+1)+(a'.length+1))) [.str s] [] .ok=jE (((1+b.length)+1)+(a'.length+1)) 0 (px s 0 0 false false 0 0 0):=by
  refine(Hl (jE _) s).trans ?_
  have e0:decide ((0:Int)≥(s.length:Int))=false:=decide_eq_false (by omega)
  have e1:inI 0 s.length=true:=by
   simp only[inI,Bool.and_eq_true,decide_eq_true_eq]
   omega
  have e2:((c.toNat:Int)==43)=false:=by
   have:¬((c.toNat:Int)=43):=by omega
   simp[this]
  have e3:((c.toNat:Int)==45)=false:=by
   have:¬((c.toNat:Int)=45):=by omega
   simp[this]
  have w2:IntKind.wrap .i64 (0+2)=2:=wrap64 (by decide) (by decide)
  have w1:IntKind.wrap .i64 (0+1)=1:=wrap64 (by decide) (by decide)
  have e4:decide ((2:Int)<(s.length:Int))=true:=decide_eq_true (by omega)
  have e5:inI 1 s.length=true:=by
   simp only[inI,Bool.and_eq_true,decide_eq_true_eq]
   omega
  rw[hs0,e0,e1,e2,e3,w2,w1,e4,e5]
  simp only[cond_true,cond_false]
  cases h48:((c.toNat:Int)==48)with
  |false=>exact congrArg _ rfl
  |true=>
   have h48:(c.toNat:Int)=48:=by simpa using h48
   have ha':a'=[]:=by
    cases a' with
    |nil=>rfl
    |cons x r=>
     exact absurd h48 (hz (by simp))
   subst ha'
   have hs1:s.getD (Int.toNat 1) 0=46:=by rw[←hs];rfl
   rw[hs1]
   exact congrArg _ rfl
 have hbig:s.length≤1048576:=by omega
 show start (R:=R0) E (aq jl) jF iY (jE (((1+b.length)+1)+(a'.length+1))) [.str s] [] .ok=_
 rw[hst]
 obtain⟨nd,dp,g1,g2,g3,g4,g5⟩:=p6 hbig false (c::a') [] (46::b) ((1+b.length)+1) 0 false 0 0 (by rw[←hs];rfl) ha0 (Int.le_refl 0) (by simp only[List.length_cons];omega) (by simp only[List.length_cons];omega) (by decide) (Nat.pos_of_ne_zero (by simp)) (by simp only[List.length_cons];omega) (fun h=>absurd rfl h)
 simp only[List.length_cons]at g2 g4
 refine Eq.trans g1 ?_
 have hm1:(c::a').foldl (fun m c=>m*10+(c.toNat-48)) 0=bu (c::a'):=rfl
 rw[hm1]at g5
 rw[hm1]
 have hmb:bu ((c::a')++b)=b.foldl (fun m c=>m*10+(c.toNat-48)) (bu (c::a')):=by
  unfold bu
  rw[List.foldl_append]
 have hdot:s.getD (Int.toNat ((((c::a').length:Nat):Int))) 0=46:=getD_at (pre:=c::a') (q:=b) (by rw[←hs])
 have hlt:(((c::a').length:Nat):Int)<s.length:=by simp only[List.length_cons];omega
 have hstep:=(bg (n:=1+b.length) (st:=px s (bu (c::a'):Nat) (((c::a').length:Nat):Int) false true nd nd dp) (cs:=iY) (E:=E) (K:=aq jl) (fi:=jF) (np:=0) (k:=Rs.ok) (j:=0) rfl).trans (wQ (jE (1+b.length)) s (bu (c::a'):Nat) (((c::a').length:Nat):Int) false true nd nd dp)
 have e1:decide ((((c::a').length:Nat):Int)<s.length)=true:=decide_eq_true hlt
 have e2:inI (((c::a').length:Nat):Int) s.length=true:=by
  simp only[inI,Bool.and_eq_true,decide_eq_true_eq]
  omega
 have wi:IntKind.wrap .i64 ((((c::a').length:Nat):Int)+1)=(((c::a').length:Nat):Int)+1:=wrap64 (by omega) (by omega)
 rw[hdot,e1,e2,wi]at hstep
 have hz0:([]:List UInt8).length=0:=rfl
 rw[show((([]:List UInt8).length:Nat):Int)+(((c::a').length:Nat):Int)=(((c::a').length:Nat):Int) by simp]
 rw[show(false|| !(c::a').isEmpty)=true from rfl]
 refine Eq.trans hstep ?_
 have hmid:jE (1+b.length) 0 (px s (bu (c::a'):Nat) ((((c::a')++[46]).length:Nat):Int) true true nd nd nd)= .ok (.ret (.tup [.int .u64 (bu (c::a'++b):Nat),.int .i64 (bif bu (c::a'++b)==0 then 0 else-(b.length:Int)),.bool false,.bool false,.bool false,.int .i64 s.length,.bool true]),[]):=by
  have hmant:bu (c::a')<10^(16-b.length):=by
   have key:∀(l:List UInt8) (m:Nat),(l.all fun c=>aH c.toNat)=true→l.foldl (fun m c=>m*10+(c.toNat-48)) m<(m+1)*10^l.length:=by
    intro l
    induction l with
    |nil=>intro m _;simp
    |cons x l ih=>
     intro m h
     rw[List.all_cons,Bool.and_eq_true]at h
     obtain⟨x0,x1⟩:=fY h.1
     have:=ih (m*10+(x.toNat-48)) h.2
     rw[List.foldl_cons,List.length_cons,Nat.pow_succ]
     refine Nat.lt_of_lt_of_le this ?_
     have h2:m*10+(x.toNat-48)+1≤(m+1)*10:=by omega
     calc(m*10+(x.toNat-48)+1)*10^l.length≤((m+1)*10)*10^l.length:=Nat.mul_le_mul_right _ h2
      _=(m+1)*(10^l.length*10):=by rw[Nat.mul_assoc,Nat.mul_comm 10]
   have h1:=key (c::a') 0 ha0
   rw[Nat.zero_add,Nat.one_mul]at h1
   exact Nat.lt_of_lt_of_le h1 (Nat.pow_le_pow_right (by decide) (by simp only[List.length_cons];omega))
  obtain⟨nd',dp',f1,f2,f3,f4,f5⟩:=p6 hbig true b ((c::a')++[46]) [] 1 (bu (c::a')) true nd nd (by rw[←hs];simp) hb g3 (by omega) (by omega) (by omega) hmant (by omega) g5
  refine Eq.trans f1 ?_
  have hend:((((c::a')++[46]).length:Nat):Int)+(b.length:Int)=s.length:=by
   rw[List.length_append,List.length_singleton,List.length_cons,hlen]
   omega
  rw[hend,←hmb,show(true|| !b.isEmpty)=true from rfl]
  have hfin:=(bg (n:=0) (st:=px s (bu (c::a'++b):Nat) (s.length:Int) true true nd' nd' dp') (cs:=iY) (E:=E) (K:=aq jl) (fi:=jF) (np:=0) (k:=Rs.ok) (j:=0) rfl).trans (wQ (jE 0) s (bu (c::a'++b):Nat) (s.length:Int) true true nd' nd' dp')
  have e9:decide ((s.length:Int)<s.length)=false:=decide_eq_false (by omega)
  have w9:IntKind.wrap .i64 (dp'-nd')= -(b.length:Int):=by rw[wrap64 (by omega) (by omega)];omega
  rw[e9,w9]at hfin
  refine Eq.trans hfin ?_
  cases hm:bu (c::a'++b)==0 with
  |true=>
   have hm:bu (c::a'++b)=0:=by simpa using hm
   rw[hm]
   rfl
  |false=>
   have:(((bu (c::a'++b):Nat):Int) !=0)=true:=by
    have hm:bu (c::a'++b)≠0:=by simpa using hm
    simp only[bne_iff_ne,ne_eq]
    omega
   rw[this]
   rfl
 refine Eq.trans ?_ hmid
 have:((((c::a')++[46]).length:Nat):Int)=(((c::a').length:Nat):Int)+1:=by simp
 rw[this]
 exact congrArg _ rfl
end Go.Sx.Tryz
namespace Go.Sx.Tryz
open Go Go.Sx Go.Proofs
set_option maxRecDepth 100000
variable{G:Nat→Obj→Prop}
abbrev Mi:Ty:=.pair (.int .i64) (.pair (.int .i64) .unit)
abbrev rk:Ty:=.pair (.slice aB) (.pair (.int .i64) .unit)
abbrev pg:Sig:=[(false,.slice aE),(true,Mi)]
def ic(x:au cz):au pg:=bif (fB x.1).1==0 then((fB x.1).2.2,((0:Int),(0:Int),()),())else(([]:List Tok),((fB x.1).1,(fB x.1).2.1,()),())
theorem Bp(ht:iO G)(x:au cz):SAD Tryz.prog G 15 cz pg x (ic x):=by
 obtain⟨T,⟨⟩⟩:=x
 have h:=NO (G:=G) (vC ht) T
 show SA Tryz.prog G 15 [.str T] [] (.ret (cV pg (ic (T,()))),[])
 unfold ic
 unfold DR at h
 show SA Tryz.prog G 15 [.str T] [] (.ret (cV pg (bif (fB T).1==0 then((fB T).2.2,((0:Int),(0:Int),()),())else(([]:List Tok),((fB T).1,(fB T).2.1,()),()))),[])
 cases e:(fB T).1==0 with
 |true=>
  rw[e]at h
  exact SA.data (rs:=pg) h (y:=((fB T).2.2,((0:Int),(0:Int),()),())) (m:=[0]) rfl
 |false=>
  rw[e]at h
  exact SA.data (rs:=pg) h (y:=(([]:List Tok),((fB T).1,(fB T).2.1,()),())) (m:=[]) rfl
def u6:List (Nat×aV):=[(15,b8 15 cz pg (fun _=>true) ic)]
def uV:List Cut:=[⟨[true,true,true,true],some ⟨[(2,[]),(3,[]),(5,[])],[[],[],[.keep,.sl aE,.keep,.keep,.own 37 aB,.keep]]⟩⟩]
end Go.Sx.Tryz
namespace Go.Sx.Tryz
open Go Go.Sx Go.Proofs
set_option maxRecDepth 100000
variable{G:Nat→Obj→Prop}
abbrev gJ:Sig:=[(true,rk)]
def trC(L:List Nd)(r:Int):List AV:=[.sl aB L,.int .i64 r]
def nY(x:Nd):Bool:=decide ((ai x).length≤17592186044416)&&decide ((aC x).length≤17592186044416)
def k9(x:au gJ):Bool:=decide (x.1.1.length≤20000)&&x.1.1.all nY
def zB(x:au gJ):au gJ:=((x.1.1,x.1.2.1,()),())
def rF:List Cut:=[⟨[true,true,false,true,false,false],some ⟨[(2,[]),(3,[]),(10,[.sl aB]),(11,[]),(12,[])],[[],[.own 37 aB]]⟩⟩]
def T4(L O:List Nd)(r l k:Int):St:={tmps:=[(2,.ref 0 0),(3,.ref 1 0),(10,.sl aB L),(11,.int .i64 l),(12,.int .i64 k)],blks:=[(0,.cells 25 [.nils,.int .i64 0]),(1,.cells 25 [.own 2 0,.int .i64 r]),(2,.list 37 aB 0 false O)],next:=3}
def TS:List (Nat×aV):=[(49,b8 49 gJ gJ k9 zB)]
end Go.Sx.Tryz
namespace Go.Sx.Tryz
open Go Go.Sx
set_option maxRecDepth 100000
theorem Le(J:Jump R0)(L:List Nd)(r:Int):start (R:=R0) E (aq ku) sG rF J [.agg (trC L r)] [] .ok=J 0 {tmps:=[(2,AV.ref 0 0),(3,AV.ref 1 0),(10,AV.sl aB L),(11,Iz (↑(List.length L):Int)),(12,Iz 0)],blks:=[(0,Blk.cells 25 [AV.nils,Iz 0]),(1,Blk.cells 25 [AV.own 2 0,Iz r]),(2,Blk.list 37 aB 0 false [])],next:=3}:=by kernel_rfl
theorem H5(J:Jump R0)(L O:List Nd)(r l k:Int):resume (R:=R0) E (aq ku) (aS 0 rF 0) J [true,true,false,true,false,false] sG.code 1 (T4 L O r l k) (bX E 0 sG.results .ok)=bif decide (k<l)then bif inI k (List.length L)then bif Nat.ble (List.length (ai (ag L (Int.toNat k)))) 17592186044416 then bif Nat.ble (List.length (aC (ag L (Int.toNat k)))) 17592186044416 then bif decide (List.length O+List.length [(mkN (aj (ag L (Int.toNat k))) (nAt (ag L (Int.toNat k))) (nTo (ag L (Int.toNat k))) (ai (ag L (Int.toNat k))) (aD (ag L (Int.toNat k))) (ak (ag L (Int.toNat k))) (aw (ag L (Int.toNat k))) (ah (ag L (Int.toNat k))) (af (ag L (Int.toNat k))) (nN (ag L (Int.toNat k))) (nW1 (ag L (Int.toNat k))) (nW2 (ag L (Int.toNat k))) (aC (ag L (Int.toNat k))))]<al)then J 0 {tmps:=[(2,AV.ref 0 0),(3,AV.ref 1 0),(10,AV.sl aB L),(11,Iz l),(12,Iz (IntKind.wrap IntKind.i64 (k+1)))],blks:=[(0,Blk.cells 25 [AV.nils,Iz 0]),(1,Blk.cells 25 [AV.own 2 0,Iz r]),(2,Blk.list 37 aB 0 false (O++[(mkN (aj (ag L (Int.toNat k))) (nAt (ag L (Int.toNat k))) (nTo (ag L (Int.toNat k))) (ai (ag L (Int.toNat k))) (aD (ag L (Int.toNat k))) (ak (ag L (Int.toNat k))) (aw (ag L (Int.toNat k))) (ah (ag L (Int.toNat k))) (af (ag L (Int.toNat k))) (nN (ag L (Int.toNat k))) (nW1 (ag L (Int.toNat k))) (nW2 (ag L (Int.toNat k))) (aC (ag L (Int.toNat k))))]))],next:=3}else Rs.err 604 else Rs.err 1000078 else Rs.err 1000078 else Rs.err 400 else Rs.ok (Out.ret (AV.agg [AV.own 0 0,Iz r]),[Blk.list 37 aB 0 false O]):=by kernel_rfl
theorem OM(T:List UInt8)(K:List Tok)(a d:Int)(A:List Nd):body (R:=R0) E (aq TS) N6 [.ref 0 4] (nV T K a d A) .ok=bif k9 ((A,(0:Int),()),())then Rs.ok (Out.ret (AV.agg [AV.sl aB A,Iz (IntKind.wrap IntKind.i64 ((↑(List.length A):Int)-1))]),[Blk.cells 72 [AV.str T,AV.sl aE K,Iz a,Iz d,AV.own 1 1,Iz 0],Blk.list 37 aB 1 true A])else Rs.err 3000049:=by kernel_rfl
theorem Kw(J:Jump R0)(T:List UInt8):start (R:=R0) E (aq u6) me uV J [.str T] [] .ok=bif Prod.fst (Prod.fst (Prod.snd (ic (T,())))) !=0 then Rs.ok (Out.ret (AV.tup [AV.agg [AV.nils,Iz 0],AV.agg [Iz (Prod.fst (Prod.fst (Prod.snd (ic (T,()))))),Iz (Prod.fst (Prod.snd (Prod.fst (Prod.snd (ic (T,()))))))]]),[])else J 0 {tmps:=[(2,AV.ref 0 0),(3,AV.ref 1 0),(5,AV.ref 2 0)],blks:=[(0,Blk.cells 25 [AV.nils,Iz 0]),(1,Blk.cells 28 [Iz (Prod.fst (Prod.fst (Prod.snd (ic (T,()))))),Iz (Prod.fst (Prod.snd (Prod.fst (Prod.snd (ic (T,()))))))]),(2,Blk.cells 72 [AV.str T,AV.sl aE (Prod.fst (ic (T,()))),Iz 0,Iz 0,AV.own 3 0,Iz 0]),(3,Blk.list 37 aB 0 false [])],next:=4}:=by kernel_rfl
end Go.Sx.Tryz
