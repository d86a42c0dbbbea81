/- A part of the proof: see the row's text. -/
import Derived.Test.YtaklpoiaicepoaaGreatDoorZa14
import Derived.Test.YtaklpoiaicepoaaGreatDoorZa15
import Derived.Test.YtaklpoiaicepoaaGreatDoorZa16
import Derived.Test.YtaklpoiaicepoaaGreatDoorZa13
import Derived.Test.YtaklpoiaicepoaaGreatDoorZa12
set_option linter.unusedVariables false
set_option linter.unusedSimpArgs false
noncomputable section
namespace Go.Sx.Tryz
open Go Go.Sx Go.Proofs
set_option maxRecDepth 100000
variable{G:Nat→Obj→Prop}{p:Fns}
theorem ok45(hl:bu Tryz.prog G (aO p)):bQ G 45 [] [tT,tS] (fun T K a d A x=>D7 p T K a d A):=bX Vk hl fun T K a d A _=>Tx p T K a d A
theorem Ti(hl:bu Tryz.prog G (aO p)):bQ G 125 [tI] [tI,tS] (fun T K a d A x=>tF p T K a d A x.1):=bX MS hl fun T K a d A ⟨x1,_⟩=>QE p T K a d A x1
theorem ok90(hl:bu Tryz.prog G (aO p)):bQ G 90 [] [tI] (fun T K a d A x=>C6 p T K a d A):=bX Sn hl fun T K a d A _=>SC p T K a d A
theorem ok75(hl:bu Tryz.prog G (aO p)):bQ G 75 [tS] [tB] (fun T K a d A x=>Ei p T K a d A x.1):=bX VR hl fun T K a d A ⟨x1,_⟩=>TG p T K a d A x1
theorem ok74(hl:bu Tryz.prog G (aO p)):bQ G 74 [tS] [tB] (fun T K a d A x=>CQ p T K a d A x.1):=bX RD hl fun T K a d A ⟨x1,_⟩=>VP p T K a d A x1
theorem ok72(hl:bu Tryz.prog G (aO p)):bQ G 72 [tS] [tI] (fun T K a d A x=>DC p T K a d A x.1):=bX Us hl fun T K a d A ⟨x1,_⟩=>Ug p T K a d A x1
theorem ok73(hl:bu Tryz.prog G (aO p)):bQ G 73 [] [tS] (fun T K a d A x=>Da p T K a d A):=bX VO hl fun T K a d A _=>Uq p T K a d A
theorem ok48(hl:bu Tryz.prog G (aO p)):bQ G 48 [tN,tI] [tI] (fun T K a d A x=>Dt p T K a d A x.1 x.2.1):=bX Sd hl fun T K a d A ⟨x1,x2,_⟩=>WE p T K a d A x1 x2
theorem Wy(hl:bu Tryz.prog G (aO p)):bQ G 104 [] [] (fun T K a d A x=>ux p T K a d A):=bX Nk hl fun T K a d A _=>OT p T K a d A
theorem ok46(hl:bu Tryz.prog G (aO p)):bQ G 46 [tI] [] (fun T K a d A x=>Dy p T K a d A x.1):=bX Uz hl fun T K a d A ⟨x1,_⟩=>UD p T K a d A x1
theorem ok47(hl:bu Tryz.prog G (aO p)):bQ G 47 [] [tI] (fun T K a d A x=>UQ p T K a d A):=ir Sa hl fun T K a d A _=>⟨_,Tp p T K _ _ (Vi p T K _) a d A⟩
theorem ok76(hl:bu Tryz.prog G (aO p)):bQ G 76 [] [tI] (fun T K a d A x=>Dd p T K a d A):=bX TS hl fun T K a d A _=>Rz p T K a d A
theorem ok92(hl:bu Tryz.prog G (aO p)):lH G 92 [] [tL] (fun T K a d A x=>Vc p T K a d A) j8 eY:=tO Nc Wj hl fun T K a d A _=>⟨_,SM p T K _ _ (Vo p T K _) a d A⟩
theorem ok94(hl:bu Tryz.prog G (aO p)):bQ G 94 [tB] [tN] (fun T K a d A x=>D9 p T K a d A x.1):=bX Tb hl fun T K a d A ⟨x1,_⟩=>Tg p T K a d A x1
theorem V3(hl:bu Tryz.prog G (aO p)):bQ G 106 [] [tN] (fun T K a d A x=>Nh p T K a d A):=ir ML hl fun T K a d A _=>⟨_,Oc p T K _ _ (MY p T K _) a d A⟩
theorem RY(hl:bu Tryz.prog G (aO p)):lH G 117 [] [tN] (fun T K a d A x=>uy p T K a d A) HZ uH:=G2 SJ Mi hl fun T K a d A _=>N6 p T K a d A
theorem ok93(hl:bu Tryz.prog G (aO p)):bQ G 93 [] [tI] (fun T K a d A x=>V0 p T K a d A):=ir Up hl fun T K a d A _=>⟨_,Uj p T K _ _ (Ui p T K _) a d A⟩
theorem R8(hl:bu Tryz.prog G (aO p)):bQ G 113 [] [tB] (fun T K a d A x=>uK p T K a d A):=bX MJ hl fun T K a d A _=>NL p T K a d A
theorem Ut(hl:bu Tryz.prog G (aO p)):bQ G 105 [] [tI] (fun T K a d A x=>tV p T K a d A):=bX MZ hl fun T K a d A _=>Oq p T K a d A
theorem SY(hl:bu Tryz.prog G (aO p)):bQ G 115 [tS] [tN,tB] (fun T K a d A x=>vb p T K a d A x.1):=bX M6 hl fun T K a d A ⟨x1,_⟩=>Ox p T K a d A x1
theorem VL(hl:bu Tryz.prog G (aO p)):bQ G 116 [tI] [tI] (fun T K a d A x=>uo p T K a d A x.1):=bX MW hl fun T K a d A ⟨x1,_⟩=>OM p T K a d A x1
theorem Um(hl:bu Tryz.prog G (aO p)):bQ G 127 [] [tI] (fun T K a d A x=>uk p T K a d A):=bX Mx hl fun T K a d A _=>Pv p T K a d A
theorem V5(hl:bu Tryz.prog G (aO p)):lH G 128 [] [tL] (fun T K a d A x=>Nn p T K a d A) j8 eY:=tO Nc Ns hl fun T K a d A _=>⟨_,N9 p T K _ _ (Nq p T K _) a d A⟩
theorem Te(hl:bu Tryz.prog G (aO p)):bQ G 114 [] [tI] (fun T K a d A x=>uU p T K a d A):=bX M3 hl fun T K a d A _=>NC p T K a d A
theorem RE(hl:bu Tryz.prog G (aO p)):bQ G 126 [tI] [tI] (fun T K a d A x=>Cs p T K a d A x.1):=ir M0 hl fun T K a d A ⟨x1,_⟩=>⟨_,OX p T K _ _ (Nf p T K _) a d A x1⟩
theorem VW(hl:bu Tryz.prog G (aO p)):bQ G 133 [] [tI] (fun T K a d A x=>tR p T K a d A):=bX My hl fun T K a d A _=>QA p T K a d A
theorem TN(hl:bu Tryz.prog G (aO p)):bQ G 135 [] [tI] (fun T K a d A x=>Nr p T K a d A):=ir Mp hl fun T K a d A _=>⟨_,Qz p T K _ _ (MU p T K _) a d A⟩
theorem SN(hl:bu Tryz.prog G (aO p)):bQ G 136 [] [tI] (fun T K a d A x=>tD p T K a d A):=bX Nj hl fun T K a d A _=>PY p T K a d A
theorem S1(hl:bu Tryz.prog G (aO p)):bQ G 137 [tI,tI] [tI] (fun T K a d A x=>tJ p T K a d A x.1 x.2.1):=bX MO hl fun T K a d A ⟨x1,x2,_⟩=>OI p T K a d A x1 x2
theorem UB(hl:bu Tryz.prog G (aO p)):bQ G 139 [tN,tI] [tI] (fun T K a d A x=>va p T K a d A x.1 x.2.1):=bX MR hl fun T K a d A ⟨x1,x2,_⟩=>Qa p T K a d A x1 x2
theorem Uw(hl:bu Tryz.prog G (aO p)):bQ G 142 [tT,tS] [tI] (fun T K a d A x=>uD p T K a d A x.1 x.2.1):=bX Mn hl fun T K a d A ⟨x1,x2,_⟩=>Pn p T K a d A x1 x2
theorem SK(hl:bu Tryz.prog G (aO p)):bQ G 148 [] [tN] (fun T K a d A x=>uG p T K a d A):=bX MA hl fun T K a d A _=>NS p T K a d A
theorem ok26(hl:bu Tryz.prog G (aO p)):bQ G 26 [] [] (fun T K a d A x=>tj p T K a d A):=ir Kj hl fun T K a d A _=>⟨_,VC p T K _ _ (Wu p T K _) a d A⟩
def M8(p:Fns):Fns where
 next:=fun T K a d A x=>D7 p T K a d A
 ahead:=fun T K a d A x=>tF p T K a d A x.1
 skip:=fun T K a d A x=>C6 p T K a d A
 isS:=fun T K a d A x=>Ei p T K a d A x.1
 take:=fun T K a d A x=>CQ p T K a d A x.1
 want:=fun T K a d A x=>DC p T K a d A x.1
 name:=fun T K a d A x=>Da p T K a d A
 add:=fun T K a d A x=>Dt p T K a d A x.1 x.2.1
 goIn:=fun T K a d A x=>ux p T K a d A
 few:=fun T K a d A x=>Dy p T K a d A x.1
 klass:=fun T K a d A x=>UQ p T K a d A
 member:=fun T K a d A x=>Dd p T K a d A
 params:=fun T K a d A x=>Vc p T K a d A
 typed:=fun T K a d A x=>D9 p T K a d A x.1
 inner:=fun T K a d A x=>Nh p T K a d A
 base:=fun T K a d A x=>uy p T K a d A
 block:=fun T K a d A x=>V0 p T K a d A
 declares:=fun T K a d A x=>uK p T K a d A
 stat:=fun T K a d A x=>tV p T K a d A
 word:=fun T K a d A x=>vb p T K a d A x.1
 plainS:=fun T K a d A x=>uo p T K a d A x.1
 bracket:=fun T K a d A x=>uk p T K a d A
 args:=fun T K a d A x=>Nn p T K a d A
 value:=fun T K a d A x=>uU p T K a d A
 chain:=fun T K a d A x=>Cs p T K a d A x.1
 unary:=fun T K a d A x=>tR p T K a d A
 behind:=fun T K a d A x=>Nr p T K a d A
 primary:=fun T K a d A x=>tD p T K a d A
 part:=fun T K a d A x=>tJ p T K a d A x.1 x.2.1
 literal:=fun T K a d A x=>va p T K a d A x.1 x.2.1
 kept:=fun T K a d A x=>uD p T K a d A x.1 x.2.1
 made:=fun T K a d A x=>uG p T K a d A
def Vu:Fns where
 next:=fun _ _ _ _ _ _=>.bad
 ahead:=fun _ _ _ _ _ _=>.bad
 skip:=fun _ _ _ _ _ _=>.bad
 isS:=fun _ _ _ _ _ _=>.bad
 take:=fun _ _ _ _ _ _=>.bad
 want:=fun _ _ _ _ _ _=>.bad
 name:=fun _ _ _ _ _ _=>.bad
 add:=fun _ _ _ _ _ _=>.bad
 goIn:=fun _ _ _ _ _ _=>.bad
 few:=fun _ _ _ _ _ _=>.bad
 klass:=fun _ _ _ _ _ _=>.bad
 member:=fun _ _ _ _ _ _=>.bad
 params:=fun _ _ _ _ _ _=>.bad
 typed:=fun _ _ _ _ _ _=>.bad
 inner:=fun _ _ _ _ _ _=>.bad
 base:=fun _ _ _ _ _ _=>.bad
 block:=fun _ _ _ _ _ _=>.bad
 declares:=fun _ _ _ _ _ _=>.bad
 stat:=fun _ _ _ _ _ _=>.bad
 word:=fun _ _ _ _ _ _=>.bad
 plainS:=fun _ _ _ _ _ _=>.bad
 bracket:=fun _ _ _ _ _ _=>.bad
 args:=fun _ _ _ _ _ _=>.bad
 value:=fun _ _ _ _ _ _=>.bad
 chain:=fun _ _ _ _ _ _=>.bad
 unary:=fun _ _ _ _ _ _=>.bad
 behind:=fun _ _ _ _ _ _=>.bad
 primary:=fun _ _ _ _ _ _=>.bad
 part:=fun _ _ _ _ _ _=>.bad
 literal:=fun _ _ _ _ _ _=>.bad
 kept:=fun _ _ _ _ _ _=>.bad
 made:=fun _ _ _ _ _ _=>.bad
def fns:Nat→Fns
 |0=>Vu
 |n+1=>M8 (fns n)
structure FnsOK(G:Nat→Obj→Prop)(p:Fns):Prop where
 o45:bQ G 45 _ _ p.next
 o125:bQ G 125 _ _ p.ahead
 o90:bQ G 90 _ _ p.skip
 o75:bQ G 75 _ _ p.isS
 o74:bQ G 74 _ _ p.take
 o72:bQ G 72 _ _ p.want
 o73:bQ G 73 _ _ p.name
 o48:bQ G 48 _ _ p.add
 o104:bQ G 104 _ _ p.goIn
 o46:bQ G 46 _ _ p.few
 o47:bQ G 47 _ _ p.klass
 o76:bQ G 76 _ _ p.member
 o92:lH G 92 _ _ p.params j8 eY
 o94:bQ G 94 _ _ p.typed
 o106:bQ G 106 _ _ p.inner
 o117:lH G 117 _ _ p.base HZ uH
 o93:bQ G 93 _ _ p.block
 o113:bQ G 113 _ _ p.declares
 o105:bQ G 105 _ _ p.stat
 o115:bQ G 115 _ _ p.word
 o116:bQ G 116 _ _ p.plainS
 o127:bQ G 127 _ _ p.bracket
 o128:lH G 128 _ _ p.args j8 eY
 o114:bQ G 114 _ _ p.value
 o126:bQ G 126 _ _ p.chain
 o133:bQ G 133 _ _ p.unary
 o135:bQ G 135 _ _ p.behind
 o136:bQ G 136 _ _ p.primary
 o137:bQ G 137 _ _ p.part
 o139:bQ G 139 _ _ p.literal
 o142:bQ G 142 _ _ p.kept
 o148:bQ G 148 _ _ p.made
theorem KI:FnsOK G Vu where
 o45:=fun _ _ _ _ _ _=>trivial
 o125:=fun _ _ _ _ _ _=>trivial
 o90:=fun _ _ _ _ _ _=>trivial
 o75:=fun _ _ _ _ _ _=>trivial
 o74:=fun _ _ _ _ _ _=>trivial
 o72:=fun _ _ _ _ _ _=>trivial
 o73:=fun _ _ _ _ _ _=>trivial
 o48:=fun _ _ _ _ _ _=>trivial
 o104:=fun _ _ _ _ _ _=>trivial
 o46:=fun _ _ _ _ _ _=>trivial
 o47:=fun _ _ _ _ _ _=>trivial
 o76:=fun _ _ _ _ _ _=>trivial
 o92:=fun _ _ _ _ _ _=>trivial
 o94:=fun _ _ _ _ _ _=>trivial
 o106:=fun _ _ _ _ _ _=>trivial
 o117:=fun _ _ _ _ _ _=>trivial
 o93:=fun _ _ _ _ _ _=>trivial
 o113:=fun _ _ _ _ _ _=>trivial
 o105:=fun _ _ _ _ _ _=>trivial
 o115:=fun _ _ _ _ _ _=>trivial
 o116:=fun _ _ _ _ _ _=>trivial
 o127:=fun _ _ _ _ _ _=>trivial
 o128:=fun _ _ _ _ _ _=>trivial
 o114:=fun _ _ _ _ _ _=>trivial
 o126:=fun _ _ _ _ _ _=>trivial
 o133:=fun _ _ _ _ _ _=>trivial
 o135:=fun _ _ _ _ _ _=>trivial
 o136:=fun _ _ _ _ _ _=>trivial
 o137:=fun _ _ _ _ _ _=>trivial
 o139:=fun _ _ _ _ _ _=>trivial
 o142:=fun _ _ _ _ _ _=>trivial
 o148:=fun _ _ _ _ _ _=>trivial
theorem GP(hl:bu Tryz.prog G (aO p)):FnsOK G (M8 p)where
 o45:=ok45 hl
 o125:=Ti hl
 o90:=ok90 hl
 o75:=ok75 hl
 o74:=ok74 hl
 o72:=ok72 hl
 o73:=ok73 hl
 o48:=ok48 hl
 o104:=Wy hl
 o46:=ok46 hl
 o47:=ok47 hl
 o76:=ok76 hl
 o92:=ok92 hl
 o94:=ok94 hl
 o106:=V3 hl
 o117:=RY hl
 o93:=ok93 hl
 o113:=R8 hl
 o105:=Ut hl
 o115:=SY hl
 o116:=VL hl
 o127:=Um hl
 o128:=V5 hl
 o114:=Te hl
 o126:=RE hl
 o133:=VW hl
 o135:=TN hl
 o136:=SN hl
 o137:=S1 hl
 o139:=UB hl
 o142:=Uw hl
 o148:=SK hl
end Go.Sx.Tryz
namespace Go.Sx.Tryz
open Go Go.Sx Go.Proofs
set_option maxRecDepth 100000
variable{G:Nat→Obj→Prop}{p:Fns}
theorem Il:aR Tryz.prog G 71 yI:=fun R args bs k r hr=>by
 unfold yI at hr
 split at hr
 ·rename_i c q
  have h1:body (R:=R0) E (ao []) Nx [.int .i64 c,.int .i64 q] [] .ok= .ok (.panic (.iface 28 (.agg [.int .i64 c,.int .i64 q])),[]):=by kernel_rfl
  exact⟨_,hr,b7 (bo []) (aV .nil) Se h1⟩
 ·cases hr
theorem KO(s:List UInt8):body (R:=R0) E (ao []) BZ [.str s] [] .ok=bif s==[124,124]then Rs.ok (Out.ret (AV.int IntKind.i64 0),[])else bif s==[38,38]then Rs.ok (Out.ret (AV.int IntKind.i64 ((1:Int))),[])else bif s==[61,61]then bif s==[61,61]then Rs.ok (Out.ret (AV.int IntKind.i64 ((2:Int))),[])else bif s==[60]then bif s==[60]then Rs.ok (Out.ret (AV.int IntKind.i64 ((3:Int))),[])else bif s==[43]then bif s==[43]then Rs.ok (Out.ret (AV.int IntKind.i64 ((4:Int))),[])else bif s==[42]then bif s==[42]then Rs.ok (Out.ret (AV.int IntKind.i64 ((5:Int))),[])else Rs.ok (Out.ret (AV.int IntKind.i64 ((-1:Int))),[])else bif s==[47]then bif s==[47]then Rs.ok (Out.ret (AV.int IntKind.i64 ((5:Int))),[])else Rs.ok (Out.ret (AV.int IntKind.i64 ((-1:Int))),[])else bif s==[37]then Rs.ok (Out.ret (AV.int IntKind.i64 ((5:Int))),[])else Rs.ok (Out.ret (AV.int IntKind.i64 ((-1:Int))),[])else bif s==[45]then Rs.ok (Out.ret (AV.int IntKind.i64 ((4:Int))),[])else bif s==[42]then bif s==[42]then Rs.ok (Out.ret (AV.int IntKind.i64 ((5:Int))),[])else Rs.ok (Out.ret (AV.int IntKind.i64 ((-1:Int))),[])else bif s==[47]then bif s==[47]then Rs.ok (Out.ret (AV.int IntKind.i64 ((5:Int))),[])else Rs.ok (Out.ret (AV.int IntKind.i64 ((-1:Int))),[])else bif s==[37]then Rs.ok (Out.ret (AV.int IntKind.i64 ((5:Int))),[])else Rs.ok (Out.ret (AV.int IntKind.i64 ((-1:Int))),[])else bif s==[60,61]then bif s==[60,61]then Rs.ok (Out.ret (AV.int IntKind.i64 ((3:Int))),[])else bif s==[43]then bif s==[43]then Rs.ok (Out.ret (AV.int IntKind.i64 ((4:Int))),[])else bif s==[42]then bif s==[42]then Rs.ok (Out.ret (AV.int IntKind.i64 ((5:Int))),[])else Rs.ok (Out.ret (AV.int IntKind.i64 ((-1:Int))),[])else bif s==[47]then bif s==[47]then Rs.ok (Out.ret (AV.int IntKind.i64 ((5:Int))),[])else Rs.ok (Out.ret (AV.int IntKind.i64 ((-1:Int))),[])else bif s==[37]then Rs.ok (Out.ret (AV.int IntKind.i64 ((5:Int))),[])else Rs.ok (Out.ret (AV.int IntKind.i64 ((-1:Int))),[])else bif s==[45]then Rs.ok (Out.ret (AV.int IntKind.i64 ((4:Int))),[])else bif s==[42]then bif s==[42]then Rs.ok (Out.ret (AV.int IntKind.i64 ((5:Int))),[])else Rs.ok (Out.ret (AV.int IntKind.i64 ((-1:Int))),[])else bif s==[47]then bif s==[47]then Rs.ok (Out.ret (AV.int IntKind.i64 ((5:Int))),[])else Rs.ok (Out.ret (AV.int IntKind.i64 ((-1:Int))),[])else bif s==[37]then Rs.ok (Out.ret (AV.int IntKind.i64 ((5:Int))),[])else Rs.ok (Out.ret (AV.int IntKind.i64 ((-1:Int))),[])else bif s==[62]then bif s==[62]then Rs.ok (Out.ret (AV.int IntKind.i64 ((3:Int))),[])else bif s==[43]then bif s==[43]then Rs.ok (Out.ret (AV.int IntKind.i64 ((4:Int))),[])else bif s==[42]then bif s==[42]then Rs.ok (Out.ret (AV.int IntKind.i64 ((5:Int))),[])else Rs.ok (Out.ret (AV.int IntKind.i64 ((-1:Int))),[])else bif s==[47]then bif s==[47]then Rs.ok (Out.ret (AV.int IntKind.i64 ((5:Int))),[])else Rs.ok (Out.ret (AV.int IntKind.i64 ((-1:Int))),[])else bif s==[37]then Rs.ok (Out.ret (AV.int IntKind.i64 ((5:Int))),[])else Rs.ok (Out.ret (AV.int IntKind.i64 ((-1:Int))),[])else bif s==[45]then Rs.ok (Out.ret (AV.int IntKind.i64 ((4:Int))),[])else bif s==[42]then bif s==[42]then Rs.ok (Out.ret (AV.int IntKind.i64 ((5:Int))),[])else Rs.ok (Out.ret (AV.int IntKind.i64 ((-1:Int))),[])else bif s==[47]then bif s==[47]then Rs.ok (Out.ret (AV.int IntKind.i64 ((5:Int))),[])else Rs.ok (Out.ret (AV.int IntKind.i64 ((-1:Int))),[])else bif s==[37]then Rs.ok (Out.ret (AV.int IntKind.i64 ((5:Int))),[])else Rs.ok (Out.ret (AV.int IntKind.i64 ((-1:Int))),[])else bif s==[62,61]then Rs.ok (Out.ret (AV.int IntKind.i64 ((3:Int))),[])else bif s==[43]then bif s==[43]then Rs.ok (Out.ret (AV.int IntKind.i64 ((4:Int))),[])else bif s==[42]then bif s==[42]then Rs.ok (Out.ret (AV.int IntKind.i64 ((5:Int))),[])else Rs.ok (Out.ret (AV.int IntKind.i64 ((-1:Int))),[])else bif s==[47]then bif s==[47]then Rs.ok (Out.ret (AV.int IntKind.i64 ((5:Int))),[])else Rs.ok (Out.ret (AV.int IntKind.i64 ((-1:Int))),[])else bif s==[37]then Rs.ok (Out.ret (AV.int IntKind.i64 ((5:Int))),[])else Rs.ok (Out.ret (AV.int IntKind.i64 ((-1:Int))),[])else bif s==[45]then Rs.ok (Out.ret (AV.int IntKind.i64 ((4:Int))),[])else bif s==[42]then bif s==[42]then Rs.ok (Out.ret (AV.int IntKind.i64 ((5:Int))),[])else Rs.ok (Out.ret (AV.int IntKind.i64 ((-1:Int))),[])else bif s==[47]then bif s==[47]then Rs.ok (Out.ret (AV.int IntKind.i64 ((5:Int))),[])else Rs.ok (Out.ret (AV.int IntKind.i64 ((-1:Int))),[])else bif s==[37]then Rs.ok (Out.ret (AV.int IntKind.i64 ((5:Int))),[])else Rs.ok (Out.ret (AV.int IntKind.i64 ((-1:Int))),[])else bif s==[33,61]then Rs.ok (Out.ret (AV.int IntKind.i64 ((2:Int))),[])else bif s==[60]then bif s==[60]then Rs.ok (Out.ret (AV.int IntKind.i64 ((3:Int))),[])else bif s==[43]then bif s==[43]then Rs.ok (Out.ret (AV.int IntKind.i64 ((4:Int))),[])else bif s==[42]then bif s==[42]then Rs.ok (Out.ret (AV.int IntKind.i64 ((5:Int))),[])else Rs.ok (Out.ret (AV.int IntKind.i64 ((-1:Int))),[])else bif s==[47]then bif s==[47]then Rs.ok (Out.ret (AV.int IntKind.i64 ((5:Int))),[])else Rs.ok (Out.ret (AV.int IntKind.i64 ((-1:Int))),[])else bif s==[37]then Rs.ok (Out.ret (AV.int IntKind.i64 ((5:Int))),[])else Rs.ok (Out.ret (AV.int IntKind.i64 ((-1:Int))),[])else bif s==[45]then Rs.ok (Out.ret (AV.int IntKind.i64 ((4:Int))),[])else bif s==[42]then bif s==[42]then Rs.ok (Out.ret (AV.int IntKind.i64 ((5:Int))),[])else Rs.ok (Out.ret (AV.int IntKind.i64 ((-1:Int))),[])else bif s==[47]then bif s==[47]then Rs.ok (Out.ret (AV.int IntKind.i64 ((5:Int))),[])else Rs.ok (Out.ret (AV.int IntKind.i64 ((-1:Int))),[])else bif s==[37]then Rs.ok (Out.ret (AV.int IntKind.i64 ((5:Int))),[])else Rs.ok (Out.ret (AV.int IntKind.i64 ((-1:Int))),[])else bif s==[60,61]then bif s==[60,61]then Rs.ok (Out.ret (AV.int IntKind.i64 ((3:Int))),[])else bif s==[43]then bif s==[43]then Rs.ok (Out.ret (AV.int IntKind.i64 ((4:Int))),[])else bif s==[42]then bif s==[42]then Rs.ok (Out.ret (AV.int IntKind.i64 ((5:Int))),[])else Rs.ok (Out.ret (AV.int IntKind.i64 ((-1:Int))),[])else bif s==[47]then bif s==[47]then Rs.ok (Out.ret (AV.int IntKind.i64 ((5:Int))),[])else Rs.ok (Out.ret (AV.int IntKind.i64 ((-1:Int))),[])else bif s==[37]then Rs.ok (Out.ret (AV.int IntKind.i64 ((5:Int))),[])else Rs.ok (Out.ret (AV.int IntKind.i64 ((-1:Int))),[])else bif s==[45]then Rs.ok (Out.ret (AV.int IntKind.i64 ((4:Int))),[])else bif s==[42]then bif s==[42]then Rs.ok (Out.ret (AV.int IntKind.i64 ((5:Int))),[])else Rs.ok (Out.ret (AV.int IntKind.i64 ((-1:Int))),[])else bif s==[47]then bif s==[47]then Rs.ok (Out.ret (AV.int IntKind.i64 ((5:Int))),[])else Rs.ok (Out.ret (AV.int IntKind.i64 ((-1:Int))),[])else bif s==[37]then Rs.ok (Out.ret (AV.int IntKind.i64 ((5:Int))),[])else Rs.ok (Out.ret (AV.int IntKind.i64 ((-1:Int))),[])else bif s==[62]then bif s==[62]then Rs.ok (Out.ret (AV.int IntKind.i64 ((3:Int))),[])else bif s==[43]then bif s==[43]then Rs.ok (Out.ret (AV.int IntKind.i64 ((4:Int))),[])else bif s==[42]then bif s==[42]then Rs.ok (Out.ret (AV.int IntKind.i64 ((5:Int))),[])else Rs.ok (Out.ret (AV.int IntKind.i64 ((-1:Int))),[])else bif s==[47]then bif s==[47]then Rs.ok (Out.ret (AV.int IntKind.i64 ((5:Int))),[])else Rs.ok (Out.ret (AV.int IntKind.i64 ((-1:Int))),[])else bif s==[37]then Rs.ok (Out.ret (AV.int IntKind.i64 ((5:Int))),[])else Rs.ok (Out.ret (AV.int IntKind.i64 ((-1:Int))),[])else bif s==[45]then Rs.ok (Out.ret (AV.int IntKind.i64 ((4:Int))),[])else bif s==[42]then bif s==[42]then Rs.ok (Out.ret (AV.int IntKind.i64 ((5:Int))),[])else Rs.ok (Out.ret (AV.int IntKind.i64 ((-1:Int))),[])else bif s==[47]then bif s==[47]then Rs.ok (Out.ret (AV.int IntKind.i64 ((5:Int))),[])else Rs.ok (Out.ret (AV.int IntKind.i64 ((-1:Int))),[])else bif s==[37]then Rs.ok (Out.ret (AV.int IntKind.i64 ((5:Int))),[])else Rs.ok (Out.ret (AV.int IntKind.i64 ((-1:Int))),[])else bif s==[62,61]then Rs.ok (Out.ret (AV.int IntKind.i64 ((3:Int))),[])else bif s==[43]then bif s==[43]then Rs.ok (Out.ret (AV.int IntKind.i64 ((4:Int))),[])else bif s==[42]then bif s==[42]then Rs.ok (Out.ret (AV.int IntKind.i64 ((5:Int))),[])else Rs.ok (Out.ret (AV.int IntKind.i64 ((-1:Int))),[])else bif s==[47]then bif s==[47]then Rs.ok (Out.ret (AV.int IntKind.i64 ((5:Int))),[])else Rs.ok (Out.ret (AV.int IntKind.i64 ((-1:Int))),[])else bif s==[37]then Rs.ok (Out.ret (AV.int IntKind.i64 ((5:Int))),[])else Rs.ok (Out.ret (AV.int IntKind.i64 ((-1:Int))),[])else bif s==[45]then Rs.ok (Out.ret (AV.int IntKind.i64 ((4:Int))),[])else bif s==[42]then bif s==[42]then Rs.ok (Out.ret (AV.int IntKind.i64 ((5:Int))),[])else Rs.ok (Out.ret (AV.int IntKind.i64 ((-1:Int))),[])else bif s==[47]then bif s==[47]then Rs.ok (Out.ret (AV.int IntKind.i64 ((5:Int))),[])else Rs.ok (Out.ret (AV.int IntKind.i64 ((-1:Int))),[])else bif s==[37]then Rs.ok (Out.ret (AV.int IntKind.i64 ((5:Int))),[])else Rs.ok (Out.ret (AV.int IntKind.i64 ((-1:Int))),[]):=by kernel_rfl
theorem JK(x:aA cK):SAD Tryz.prog G 134 cK jI x (GA x):=by
 obtain⟨s,⟨⟩⟩:=x
 have key:∀s:List UInt8,body (R:=R0) E (ao []) BZ [.str s] [] .ok= .ok (.ret (.int .i64 (ie s)),[]):=fun s=>by
  rw[KO]
  unfold ie
  cases (s==([124,124]:List UInt8))with
  |true=>rfl
  |false=>
  cases (s==([38,38]:List UInt8))with
  |true=>rfl
  |false=>
  cases (s==([61,61]:List UInt8))with
  |true=>rfl
  |false=>
  cases (s==([33,61]:List UInt8))with
  |true=>rfl
  |false=>
  cases (s==([60]:List UInt8))with
  |true=>rfl
  |false=>
  cases (s==([60,61]:List UInt8))with
  |true=>rfl
  |false=>
  cases (s==([62]:List UInt8))with
  |true=>rfl
  |false=>
  cases (s==([62,61]:List UInt8))with
  |true=>rfl
  |false=>
  cases (s==([43]:List UInt8))with
  |true=>rfl
  |false=>
  cases (s==([45]:List UInt8))with
  |true=>rfl
  |false=>
  cases (s==([42]:List UInt8))with
  |true=>rfl
  |false=>
  cases (s==([47]:List UInt8))with
  |true=>rfl
  |false=>
  cases (s==([37]:List UInt8))with
  |true=>rfl
  |false=>
  rfl
 exact b7 (bo []) (aV .nil) Nb (key s)
theorem fc78:FIOK Tryz.prog 78 fi78:=⟨⟨Tryz.f78,Tryz.func78,rfl,rfl,rfl,by kernel_rfl⟩,by kernel_rfl⟩
theorem RO:FIOK Tryz.prog 161 SV:=⟨⟨Tryz.f161,Tryz.func161,rfl,rfl,rfl,by kernel_rfl⟩,by kernel_rfl⟩
theorem y9:aR Tryz.prog G 78 (ofT 78 (q9 3)):=by
 refine kb ?_ (G1 3)
 exact Eh fc78 (fun b off n c zs w hz hbig hc=>Any.slices_Clone_int Tryz.laysNm215 b off n c zs w hz hbig hc) (fun n c w=>Any.slices_Clone_int_nil Tryz.laysNm215 n c w) (fun a c w=>Any.slices_Clone_int_zero Tryz.laysNm215 a c w)
theorem KD:aR Tryz.prog G 161 (ofT 161 BC):=by
 refine kb ?_ (Kh)
 exact Hn RO fun w s c hc hs=>Any.strings_Trim_one Tryz.lays160 s c hc w hs
theorem Ma{f:Nat}{ts rs:Sig}{F:PF ts rs}:INt (zC f ts rs F):=fun R args bs k r hr=>by
 unfold zC at hr
 split at hr
 ·rename_i xs T tK K a d z nT A
  split at hr
  ·rename_i K' A' x hz hK hA ht
   cases e:F T K' a d A' x with
   |ok y a' d' A''=>
    rw[e]at hr
    refine⟨_,hr,fun R' k' r' hk=>?_⟩
    unfold zC
    simp only[hz,hK,hA,ht,e]
    exact hk
   |fault c p=>
    rw[e]at hr
    refine⟨_,hr,fun R' k' r' hk=>?_⟩
    unfold zC
    simp only[hz,hK,hA,ht,e]
    exact hk
   |bad=>
    rw[e]at hr
    cases hr
  ·cases hr
 ·cases hr
theorem GF{f:Nat}{ts rs:Sig}{F:PF ts rs}{ret:aA rs→AV}{more:aA rs→List Blk}:INt (rW f ts rs F ret more):=fun R args bs k r hr=>by
 unfold rW at hr
 split at hr
 ·rename_i xs T tK K a d z nT A
  split at hr
  ·rename_i K' A' x hz hK hA ht
   cases e:F T K' a d A' x with
   |ok y a' d' A''=>
    rw[e]at hr
    refine⟨_,hr,fun R' k' r' hk=>?_⟩
    unfold rW
    simp only[hz,hK,hA,ht,e]
    exact hk
   |fault c p=>
    rw[e]at hr
    refine⟨_,hr,fun R' k' r' hk=>?_⟩
    unfold rW
    simp only[hz,hK,hA,ht,e]
    exact hk
   |bad=>
    rw[e]at hr
    cases hr
  ·cases hr
 ·cases hr
theorem bC{f:Nat}{ts rs:Sig}{F:PF ts rs}:INt (dV f ts rs F):=yF (Ca (tP Ma))
theorem rU{f:Nat}{ts rs:Sig}{F:PF ts rs}{ret:aA rs→AV}{more:aA rs→List Blk}:INt (xD f ts rs F ret more):=yF (Ca (tP GF))
theorem EZ:INt yI:=fun R args bs k r hr=>by
 unfold yI at hr⊢
 split at hr
 ·exact⟨_,hr,fun _ _ _ h=>h⟩
 ·cases hr
def nZ(G:Nat→Obj→Prop):Prop:=∀x:aA cK,lp x=true→SAD Tryz.prog G 140 cK Jc x (UA x)
theorem CA:sW (AO p):=by
 unfold AO
 refine .cons EZ (.cons bC (.cons bC (.cons bC (.cons bC (.cons bC (.cons bC (.cons bC (.cons bC (.cons bC (.cons bC ?_))))))))))
 refine .cons bC (.cons bC (.cons rU (.cons bC (.cons bC (.cons rU (.cons bC (.cons bC (.cons bC (.cons bC (.cons bC (.cons bC ?_)))))))))))
 refine .cons rU (.cons bC (.cons bC (.cons bC (.cons bC (.cons bC (.cons bC (.cons bC (.cons bC (.cons bC ?_)))))))))
 exact .cons iz (.cons iz (.cons iz (.cons iz (.cons iz (.cons iz (.cons Aa .nil))))))
theorem yp:sW jO:=.cons Aa .nil
theorem D4:sW Aq:=.cons Aa .nil
theorem q0:bu Tryz.prog G jO:=.cons y9 .nil
theorem Ef:bu Tryz.prog G Aq:=.cons KD .nil
theorem vZ(ht:iG G)(hf:nZ G)(h:FnsOK G p):bu Tryz.prog G (AO p):=by
 unfold AO
 refine .cons Il (.cons (bB h.o45) (.cons (bB h.o125) (.cons (bB h.o90) (.cons (bB h.o75) (.cons (bB h.o74) (.cons (bB h.o72) (.cons (bB h.o73) (.cons (bB h.o48) (.cons (bB h.o104) (.cons (bB h.o46) ?_))))))))))
 refine .cons (bB h.o47) (.cons (bB h.o76) (.cons (sb h.o92) (.cons (bB h.o94) (.cons (bB h.o106) (.cons (sb h.o117) (.cons (bB h.o93) (.cons (bB h.o113) (.cons (bB h.o105) (.cons (bB h.o115) (.cons (bB h.o116) (.cons (bB h.o127) ?_)))))))))))
 refine .cons (sb h.o128) (.cons (bB h.o114) (.cons (bB h.o126) (.cons (bB h.o133) (.cons (bB h.o135) (.cons (bB h.o136) (.cons (bB h.o137) (.cons (bB h.o139) (.cons (bB h.o142) (.cons (bB h.o148) ?_)))))))))
 exact .cons (aZ fun x hx=>KB ht x hx) (.cons (aZ fun x hx=>IU ht x hx) (.cons (aZ fun x hx=>Pz ht x hx) (.cons (aZ fun x hx=>QY ht x hx) (.cons (aZ fun x _=>JK x) (.cons (aZ hf) (.cons y9 .nil))))))
theorem BU(ht:iG G)(hf:nZ G)(h:FnsOK G p):bu Tryz.prog G (aO p):=
 .cons (nM (bo []) yp q0 VM) (.cons (nM (bo []) yp q0 M4) (.cons (nM (bo []) CA (vZ ht hf h) Mu) (.cons (nM (bo []) CA (vZ ht hf h) MC) (.cons (nM (bo []) D4 Ef MN) (vZ ht hf h)))))
theorem Gv(ht:iG G)(hf:nZ G):∀n,FnsOK G (fns n)
 |0=>KI
 |n+1=>GP (BU ht hf (Gv ht hf n))
theorem Aw(ht:iG G)(hf:nZ G)(n:Nat):bQ G 26 [] [] (fun T K a d A _=>tj (fns n) T K a d A):=ok26 (BU ht hf (Gv ht hf n))
end Go.Sx.Tryz
namespace Go.Sx.Tryz
open Go Go.Sx Go.Proofs
set_option maxRecDepth 100000
def NI:aY:=fun R args bs k=>match args,bs with
 |[.int .u8 c],[]=>(match c==46 with
  |true=>k (.ret (.int .u8 46),[])
  |false=>.err 162)
 |_,_=>.err 162
def jn:List (Nat×aY):=[(162,NI)]
def SP:List Bool:=[true,false,true,true,true,true,true,true,true,true,true,true,true,true,true,false,false,false]
def jl:List Cut:=[⟨SP,some ⟨[(0,[]),(2,[]),(3,[]),(4,[]),(5,[]),(6,[]),(7,[]),(8,[]),(9,[]),(10,[]),(11,[]),(12,[]),(13,[]),(14,[]),(15,[]),(16,[]),(17,[])],[]⟩⟩]
def pk(s:List UInt8)(mt i:Int)(sd sg:Bool)(nd nm dp:Int):St:=⟨[(0,.str s),(2,.int .u64 mt),(3,.int .i64 0),(4,.bool false),(5,.bool false),(6,.bool false),(7,.int .i64 i),(8,.bool false),(9,.bool false),(10,.int .u64 10),(11,.int .i64 19),(12,.int .u8 101),(13,.bool sd),(14,.bool sg),(15,.int .i64 nd),(16,.int .i64 nm),(17,.int .i64 dp)],[],0⟩
end Go.Sx.Tryz
namespace Go.Sx.Tryz
open Go Go.Sx
set_option maxRecDepth 100000
theorem vt(J:Jump R0)(s:List UInt8)(mt i:Int)(sd sg:Bool)(nd nm dp:Int):resume (R:=R0) E (ao jn) (aT 0 jl 0) J SP jC.code 1 (pk s mt i sd sg nd nm dp) (bY E 0 jC.results .ok)=bif decide (i<(↑(List.length s):Int))then bif inI i (List.length s)then bif true==((↑(UInt8.toNat (List.getD s (Int.toNat i) 0)):Int)==95)then J 0 {tmps:=[(0,AV.str s),(2,AV.int IntKind.u64 mt),(3,Iz 0),(4,AV.bool false),(5,AV.bool false),(6,AV.bool false),(7,Iz (IntKind.wrap IntKind.i64 (i+1))),(8,AV.bool false),(9,AV.bool true),(10,AV.int IntKind.u64 ((10:Int))),(11,Iz ((19:Int))),(12,AV.int IntKind.u8 ((101:Int))),(13,AV.bool sd),(14,AV.bool sg),(15,Iz nd),(16,Iz nm),(17,Iz dp)],blks:=[],next:=0}else bif true==((↑(UInt8.toNat (List.getD s (Int.toNat i) 0)):Int)==46)then bif sd then bif !sg then Rs.ok (Out.ret (AV.tup [AV.int IntKind.u64 mt,Iz 0,AV.bool false,AV.bool false,AV.bool false,Iz i,AV.bool false]),[])else bif !sd then bif decide (i<(↑(List.length s):Int))then bif inI i (List.length s)then bif (↑(UInt8.toNat (List.getD s (Int.toNat i) 0)):Int)==46 then bif mt !=0 then Rs.ok (Out.ret (AV.tup [AV.int IntKind.u64 mt,Iz (IntKind.wrap IntKind.i64 (nd-nm)),AV.bool false,AV.bool false,AV.bool false,Iz i,AV.bool true]),[])else Rs.ok (Out.ret (AV.tup [AV.int IntKind.u64 mt,Iz 0,AV.bool false,AV.bool false,AV.bool false,Iz i,AV.bool true]),[])else Rs.err 162 else Rs.err 5707 else bif mt !=0 then Rs.ok (Out.ret (AV.tup [AV.int IntKind.u64 mt,Iz (IntKind.wrap IntKind.i64 (nd-nm)),AV.bool false,AV.bool false,AV.bool false,Iz i,AV.bool true]),[])else Rs.ok (Out.ret (AV.tup [AV.int IntKind.u64 mt,Iz 0,AV.bool false,AV.bool false,AV.bool false,Iz i,AV.bool true]),[])else bif decide (i<(↑(List.length s):Int))then bif inI i (List.length s)then bif (↑(UInt8.toNat (List.getD s (Int.toNat i) 0)):Int)==46 then bif mt !=0 then Rs.ok (Out.ret (AV.tup [AV.int IntKind.u64 mt,Iz (IntKind.wrap IntKind.i64 (dp-nm)),AV.bool false,AV.bool false,AV.bool false,Iz i,AV.bool true]),[])else Rs.ok (Out.ret (AV.tup [AV.int IntKind.u64 mt,Iz 0,AV.bool false,AV.bool false,AV.bool false,Iz i,AV.bool true]),[])else Rs.err 162 else Rs.err 5707 else bif mt !=0 then Rs.ok (Out.ret (AV.tup [AV.int IntKind.u64 mt,Iz (IntKind.wrap IntKind.i64 (dp-nm)),AV.bool false,AV.bool false,AV.bool false,Iz i,AV.bool true]),[])else Rs.ok (Out.ret (AV.tup [AV.int IntKind.u64 mt,Iz 0,AV.bool false,AV.bool false,AV.bool false,Iz i,AV.bool true]),[])else J 0 {tmps:=[(0,AV.str s),(2,AV.int IntKind.u64 mt),(3,Iz 0),(4,AV.bool false),(5,AV.bool false),(6,AV.bool false),(7,Iz (IntKind.wrap IntKind.i64 (i+1))),(8,AV.bool false),(9,AV.bool false),(10,AV.int IntKind.u64 ((10:Int))),(11,Iz ((19:Int))),(12,AV.int IntKind.u8 ((101:Int))),(13,AV.bool true),(14,AV.bool sg),(15,Iz nd),(16,Iz nm),(17,Iz nd)],blks:=[],next:=0}else bif decide (48≤(↑(UInt8.toNat (List.getD s (Int.toNat i) 0)):Int))then bif true==decide ((↑(UInt8.toNat (List.getD s (Int.toNat i) 0)):Int)≤57)then bif (↑(UInt8.toNat (List.getD s (Int.toNat i) 0)):Int)==48 then bif nd==0 then J 0 {tmps:=[(0,AV.str s),(2,AV.int IntKind.u64 mt),(3,Iz 0),(4,AV.bool false),(5,AV.bool false),(6,AV.bool false),(7,Iz (IntKind.wrap IntKind.i64 (i+1))),(8,AV.bool false),(9,AV.bool false),(10,AV.int IntKind.u64 ((10:Int))),(11,Iz ((19:Int))),(12,AV.int IntKind.u8 ((101:Int))),(13,AV.bool sd),(14,AV.bool true),(15,Iz nd),(16,Iz nm),(17,Iz (IntKind.wrap IntKind.i64 (dp-1)))],blks:=[],next:=0}else bif decide (nm<19)then J 0 {tmps:=[(0,AV.str s),(2,AV.int IntKind.u64 (IntKind.wrap IntKind.u64 (IntKind.wrap IntKind.u64 (mt*10)+IntKind.wrap IntKind.u64 (IntKind.wrap IntKind.u8 ((↑(UInt8.toNat (List.getD s (Int.toNat i) 0)):Int)-48))))),(3,Iz 0),(4,AV.bool false),(5,AV.bool false),(6,AV.bool false),(7,Iz (IntKind.wrap IntKind.i64 (i+1))),(8,AV.bool false),(9,AV.bool false),(10,AV.int IntKind.u64 ((10:Int))),(11,Iz ((19:Int))),(12,AV.int IntKind.u8 ((101:Int))),(13,AV.bool sd),(14,AV.bool true),(15,Iz (IntKind.wrap IntKind.i64 (nd+1))),(16,Iz (IntKind.wrap IntKind.i64 (nm+1))),(17,Iz dp)],blks:=[],next:=0}else bif (↑(UInt8.toNat (List.getD s (Int.toNat i) 0)):Int) !=48 then J 0 {tmps:=[(0,AV.str s),(2,AV.int IntKind.u64 mt),(3,Iz 0),(4,AV.bool false),(5,AV.bool true),(6,AV.bool false),(7,Iz (IntKind.wrap IntKind.i64 (i+1))),(8,AV.bool false),(9,AV.bool false),(10,AV.int IntKind.u64 ((10:Int))),(11,Iz ((19:Int))),(12,AV.int IntKind.u8 ((101:Int))),(13,AV.bool sd),(14,AV.bool true),(15,Iz (IntKind.wrap IntKind.i64 (nd+1))),(16,Iz nm),(17,Iz dp)],blks:=[],next:=0}else J 0 {tmps:=[(0,AV.str s),(2,AV.int IntKind.u64 mt),(3,Iz 0),(4,AV.bool false),(5,AV.bool false),(6,AV.bool false),(7,Iz (IntKind.wrap IntKind.i64 (i+1))),(8,AV.bool false),(9,AV.bool false),(10,AV.int IntKind.u64 ((10:Int))),(11,Iz ((19:Int))),(12,AV.int IntKind.u8 ((101:Int))),(13,AV.bool sd),(14,AV.bool true),(15,Iz (IntKind.wrap IntKind.i64 (nd+1))),(16,Iz nm),(17,Iz dp)],blks:=[],next:=0}else bif decide (nm<19)then J 0 {tmps:=[(0,AV.str s),(2,AV.int IntKind.u64 (IntKind.wrap IntKind.u64 (IntKind.wrap IntKind.u64 (mt*10)+IntKind.wrap IntKind.u64 (IntKind.wrap IntKind.u8 ((↑(UInt8.toNat (List.getD s (Int.toNat i) 0)):Int)-48))))),(3,Iz 0),(4,AV.bool false),(5,AV.bool false),(6,AV.bool false),(7,Iz (IntKind.wrap IntKind.i64 (i+1))),(8,AV.bool false),(9,AV.bool false),(10,AV.int IntKind.u64 ((10:Int))),(11,Iz ((19:Int))),(12,AV.int IntKind.u8 ((101:Int))),(13,AV.bool sd),(14,AV.bool true),(15,Iz (IntKind.wrap IntKind.i64 (nd+1))),(16,Iz (IntKind.wrap IntKind.i64 (nm+1))),(17,Iz dp)],blks:=[],next:=0}else bif (↑(UInt8.toNat (List.getD s (Int.toNat i) 0)):Int) !=48 then J 0 {tmps:=[(0,AV.str s),(2,AV.int IntKind.u64 mt),(3,Iz 0),(4,AV.bool false),(5,AV.bool true),(6,AV.bool false),(7,Iz (IntKind.wrap IntKind.i64 (i+1))),(8,AV.bool false),(9,AV.bool false),(10,AV.int IntKind.u64 ((10:Int))),(11,Iz ((19:Int))),(12,AV.int IntKind.u8 ((101:Int))),(13,AV.bool sd),(14,AV.bool true),(15,Iz (IntKind.wrap IntKind.i64 (nd+1))),(16,Iz nm),(17,Iz dp)],blks:=[],next:=0}else J 0 {tmps:=[(0,AV.str s),(2,AV.int IntKind.u64 mt),(3,Iz 0),(4,AV.bool false),(5,AV.bool false),(6,AV.bool false),(7,Iz (IntKind.wrap IntKind.i64 (i+1))),(8,AV.bool false),(9,AV.bool false),(10,AV.int IntKind.u64 ((10:Int))),(11,Iz ((19:Int))),(12,AV.int IntKind.u8 ((101:Int))),(13,AV.bool sd),(14,AV.bool true),(15,Iz (IntKind.wrap IntKind.i64 (nd+1))),(16,Iz nm),(17,Iz dp)],blks:=[],next:=0}else bif !sg then Rs.ok (Out.ret (AV.tup [AV.int IntKind.u64 mt,Iz 0,AV.bool false,AV.bool false,AV.bool false,Iz i,AV.bool false]),[])else bif !sd then bif decide (i<(↑(List.length s):Int))then bif inI i (List.length s)then bif (↑(UInt8.toNat (List.getD s (Int.toNat i) 0)):Int)==46 then bif mt !=0 then Rs.ok (Out.ret (AV.tup [AV.int IntKind.u64 mt,Iz (IntKind.wrap IntKind.i64 (nd-nm)),AV.bool false,AV.bool false,AV.bool false,Iz i,AV.bool true]),[])else Rs.ok (Out.ret (AV.tup [AV.int IntKind.u64 mt,Iz 0,AV.bool false,AV.bool false,AV.bool false,Iz i,AV.bool true]),[])else Rs.err 162 else Rs.err 5707 else bif mt !=0 then Rs.ok (Out.ret (AV.tup [AV.int IntKind.u64 mt,Iz (IntKind.wrap IntKind.i64 (nd-nm)),AV.bool false,AV.bool false,AV.bool false,Iz i,AV.bool true]),[])else Rs.ok (Out.ret (AV.tup [AV.int IntKind.u64 mt,Iz 0,AV.bool false,AV.bool false,AV.bool false,Iz i,AV.bool true]),[])else bif decide (i<(↑(List.length s):Int))then bif inI i (List.length s)then bif (↑(UInt8.toNat (List.getD s (Int.toNat i) 0)):Int)==46 then bif mt !=0 then Rs.ok (Out.ret (AV.tup [AV.int IntKind.u64 mt,Iz (IntKind.wrap IntKind.i64 (dp-nm)),AV.bool false,AV.bool false,AV.bool false,Iz i,AV.bool true]),[])else Rs.ok (Out.ret (AV.tup [AV.int IntKind.u64 mt,Iz 0,AV.bool false,AV.bool false,AV.bool false,Iz i,AV.bool true]),[])else Rs.err 162 else Rs.err 5707 else bif mt !=0 then Rs.ok (Out.ret (AV.tup [AV.int IntKind.u64 mt,Iz (IntKind.wrap IntKind.i64 (dp-nm)),AV.bool false,AV.bool false,AV.bool false,Iz i,AV.bool true]),[])else Rs.ok (Out.ret (AV.tup [AV.int IntKind.u64 mt,Iz 0,AV.bool false,AV.bool false,AV.bool false,Iz i,AV.bool true]),[])else bif !sg then Rs.ok (Out.ret (AV.tup [AV.int IntKind.u64 mt,Iz 0,AV.bool false,AV.bool false,AV.bool false,Iz i,AV.bool false]),[])else bif !sd then bif decide (i<(↑(List.length s):Int))then bif inI i (List.length s)then bif (↑(UInt8.toNat (List.getD s (Int.toNat i) 0)):Int)==46 then bif mt !=0 then Rs.ok (Out.ret (AV.tup [AV.int IntKind.u64 mt,Iz (IntKind.wrap IntKind.i64 (nd-nm)),AV.bool false,AV.bool false,AV.bool false,Iz i,AV.bool true]),[])else Rs.ok (Out.ret (AV.tup [AV.int IntKind.u64 mt,Iz 0,AV.bool false,AV.bool false,AV.bool false,Iz i,AV.bool true]),[])else Rs.err 162 else Rs.err 5707 else bif mt !=0 then Rs.ok (Out.ret (AV.tup [AV.int IntKind.u64 mt,Iz (IntKind.wrap IntKind.i64 (nd-nm)),AV.bool false,AV.bool false,AV.bool false,Iz i,AV.bool true]),[])else Rs.ok (Out.ret (AV.tup [AV.int IntKind.u64 mt,Iz 0,AV.bool false,AV.bool false,AV.bool false,Iz i,AV.bool true]),[])else bif decide (i<(↑(List.length s):Int))then bif inI i (List.length s)then bif (↑(UInt8.toNat (List.getD s (Int.toNat i) 0)):Int)==46 then bif mt !=0 then Rs.ok (Out.ret (AV.tup [AV.int IntKind.u64 mt,Iz (IntKind.wrap IntKind.i64 (dp-nm)),AV.bool false,AV.bool false,AV.bool false,Iz i,AV.bool true]),[])else Rs.ok (Out.ret (AV.tup [AV.int IntKind.u64 mt,Iz 0,AV.bool false,AV.bool false,AV.bool false,Iz i,AV.bool true]),[])else Rs.err 162 else Rs.err 5707 else bif mt !=0 then Rs.ok (Out.ret (AV.tup [AV.int IntKind.u64 mt,Iz (IntKind.wrap IntKind.i64 (dp-nm)),AV.bool false,AV.bool false,AV.bool false,Iz i,AV.bool true]),[])else Rs.ok (Out.ret (AV.tup [AV.int IntKind.u64 mt,Iz 0,AV.bool false,AV.bool false,AV.bool false,Iz i,AV.bool true]),[])else Rs.err 2502 else bif !sg then Rs.ok (Out.ret (AV.tup [AV.int IntKind.u64 mt,Iz 0,AV.bool false,AV.bool false,AV.bool false,Iz i,AV.bool false]),[])else bif !sd then bif decide (i<(↑(List.length s):Int))then bif inI i (List.length s)then bif (↑(UInt8.toNat (List.getD s (Int.toNat i) 0)):Int)==46 then bif mt !=0 then Rs.ok (Out.ret (AV.tup [AV.int IntKind.u64 mt,Iz (IntKind.wrap IntKind.i64 (nd-nm)),AV.bool false,AV.bool false,AV.bool false,Iz i,AV.bool true]),[])else Rs.ok (Out.ret (AV.tup [AV.int IntKind.u64 mt,Iz 0,AV.bool false,AV.bool false,AV.bool false,Iz i,AV.bool true]),[])else Rs.err 162 else Rs.err 5707 else bif mt !=0 then Rs.ok (Out.ret (AV.tup [AV.int IntKind.u64 mt,Iz (IntKind.wrap IntKind.i64 (nd-nm)),AV.bool false,AV.bool false,AV.bool false,Iz i,AV.bool true]),[])else Rs.ok (Out.ret (AV.tup [AV.int IntKind.u64 mt,Iz 0,AV.bool false,AV.bool false,AV.bool false,Iz i,AV.bool true]),[])else bif decide (i<(↑(List.length s):Int))then bif inI i (List.length s)then bif (↑(UInt8.toNat (List.getD s (Int.toNat i) 0)):Int)==46 then bif mt !=0 then Rs.ok (Out.ret (AV.tup [AV.int IntKind.u64 mt,Iz (IntKind.wrap IntKind.i64 (dp-nm)),AV.bool false,AV.bool false,AV.bool false,Iz i,AV.bool true]),[])else Rs.ok (Out.ret (AV.tup [AV.int IntKind.u64 mt,Iz 0,AV.bool false,AV.bool false,AV.bool false,Iz i,AV.bool true]),[])else Rs.err 162 else Rs.err 5707 else bif mt !=0 then Rs.ok (Out.ret (AV.tup [AV.int IntKind.u64 mt,Iz (IntKind.wrap IntKind.i64 (dp-nm)),AV.bool false,AV.bool false,AV.bool false,Iz i,AV.bool true]),[])else Rs.ok (Out.ret (AV.tup [AV.int IntKind.u64 mt,Iz 0,AV.bool false,AV.bool false,AV.bool false,Iz i,AV.bool true]),[]):=by kernel_rfl
theorem HJ(J:Jump R0)(s:List UInt8):start (R:=R0) E (ao jn) jC jl J [.str s] [] .ok=bif decide (0≥(↑(List.length s):Int))then Rs.ok (Out.ret (AV.tup [AV.int IntKind.u64 0,Iz 0,AV.bool false,AV.bool false,AV.bool false,Iz 0,AV.bool false]),[])else bif inI 0 (List.length s)then bif (↑(UInt8.toNat (List.getD s (Int.toNat 0) 0)):Int)==43 then bif decide (IntKind.wrap IntKind.i64 (IntKind.wrap IntKind.i64 (0+1)+2)<(↑(List.length s):Int))then bif inI (IntKind.wrap IntKind.i64 (0+1)) (List.length s)then bif (↑(UInt8.toNat (List.getD s (Int.toNat (IntKind.wrap IntKind.i64 (0+1))) 0)):Int)==48 then bif inI (IntKind.wrap IntKind.i64 (IntKind.wrap IntKind.i64 (0+1)+1)) (List.length s)then bif (↑(UInt8.toNat (List.getD s (Int.toNat (IntKind.wrap IntKind.i64 (IntKind.wrap IntKind.i64 (0+1)+1))) 0)):Int)==46 then J 0 {tmps:=[(0,AV.str s),(2,AV.int IntKind.u64 0),(3,Iz 0),(4,AV.bool false),(5,AV.bool false),(6,AV.bool false),(7,Iz ((1:Int))),(8,AV.bool false),(9,AV.bool false),(10,AV.int IntKind.u64 ((10:Int))),(11,Iz ((19:Int))),(12,AV.int IntKind.u8 ((101:Int))),(13,AV.bool false),(14,AV.bool false),(15,Iz 0),(16,Iz 0),(17,Iz 0)],blks:=[],next:=0}else Rs.err 162 else Rs.err 1215 else J 0 {tmps:=[(0,AV.str s),(2,AV.int IntKind.u64 0),(3,Iz 0),(4,AV.bool false),(5,AV.bool false),(6,AV.bool false),(7,Iz ((1:Int))),(8,AV.bool false),(9,AV.bool false),(10,AV.int IntKind.u64 ((10:Int))),(11,Iz ((19:Int))),(12,AV.int IntKind.u8 ((101:Int))),(13,AV.bool false),(14,AV.bool false),(15,Iz 0),(16,Iz 0),(17,Iz 0)],blks:=[],next:=0}else Rs.err 1208 else J 0 {tmps:=[(0,AV.str s),(2,AV.int IntKind.u64 0),(3,Iz 0),(4,AV.bool false),(5,AV.bool false),(6,AV.bool false),(7,Iz ((1:Int))),(8,AV.bool false),(9,AV.bool false),(10,AV.int IntKind.u64 ((10:Int))),(11,Iz ((19:Int))),(12,AV.int IntKind.u8 ((101:Int))),(13,AV.bool false),(14,AV.bool false),(15,Iz 0),(16,Iz 0),(17,Iz 0)],blks:=[],next:=0}else bif (↑(UInt8.toNat (List.getD s (Int.toNat 0) 0)):Int)==45 then bif decide (IntKind.wrap IntKind.i64 (IntKind.wrap IntKind.i64 (0+1)+2)<(↑(List.length s):Int))then bif inI (IntKind.wrap IntKind.i64 (0+1)) (List.length s)then bif (↑(UInt8.toNat (List.getD s (Int.toNat (IntKind.wrap IntKind.i64 (0+1))) 0)):Int)==48 then bif inI (IntKind.wrap IntKind.i64 (IntKind.wrap IntKind.i64 (0+1)+1)) (List.length s)then bif (↑(UInt8.toNat (List.getD s (Int.toNat (IntKind.wrap IntKind.i64 (IntKind.wrap IntKind.i64 (0+1)+1))) 0)):Int)==46 then J 0 {tmps:=[(0,AV.str s),(2,AV.int IntKind.u64 0),(3,Iz 0),(4,AV.bool true),(5,AV.bool false),(6,AV.bool false),(7,Iz ((1:Int))),(8,AV.bool false),(9,AV.bool false),(10,AV.int IntKind.u64 ((10:Int))),(11,Iz ((19:Int))),(12,AV.int IntKind.u8 ((101:Int))),(13,AV.bool false),(14,AV.bool false),(15,Iz 0),(16,Iz 0),(17,Iz 0)],blks:=[],next:=0}else Rs.err 162 else Rs.err 1215 else J 0 {tmps:=[(0,AV.str s),(2,AV.int IntKind.u64 0),(3,Iz 0),(4,AV.bool true),(5,AV.bool false),(6,AV.bool false),(7,Iz ((1:Int))),(8,AV.bool false),(9,AV.bool false),(10,AV.int IntKind.u64 ((10:Int))),(11,Iz ((19:Int))),(12,AV.int IntKind.u8 ((101:Int))),(13,AV.bool false),(14,AV.bool false),(15,Iz 0),(16,Iz 0),(17,Iz 0)],blks:=[],next:=0}else Rs.err 1208 else J 0 {tmps:=[(0,AV.str s),(2,AV.int IntKind.u64 0),(3,Iz 0),(4,AV.bool true),(5,AV.bool false),(6,AV.bool false),(7,Iz ((1:Int))),(8,AV.bool false),(9,AV.bool false),(10,AV.int IntKind.u64 ((10:Int))),(11,Iz ((19:Int))),(12,AV.int IntKind.u8 ((101:Int))),(13,AV.bool false),(14,AV.bool false),(15,Iz 0),(16,Iz 0),(17,Iz 0)],blks:=[],next:=0}else bif decide (IntKind.wrap IntKind.i64 (0+2)<(↑(List.length s):Int))then bif inI 0 (List.length s)then bif (↑(UInt8.toNat (List.getD s (Int.toNat 0) 0)):Int)==48 then bif inI (IntKind.wrap IntKind.i64 (0+1)) (List.length s)then bif (↑(UInt8.toNat (List.getD s (Int.toNat (IntKind.wrap IntKind.i64 (0+1))) 0)):Int)==46 then J 0 {tmps:=[(0,AV.str s),(2,AV.int IntKind.u64 0),(3,Iz 0),(4,AV.bool false),(5,AV.bool false),(6,AV.bool false),(7,Iz 0),(8,AV.bool false),(9,AV.bool false),(10,AV.int IntKind.u64 ((10:Int))),(11,Iz ((19:Int))),(12,AV.int IntKind.u8 ((101:Int))),(13,AV.bool false),(14,AV.bool false),(15,Iz 0),(16,Iz 0),(17,Iz 0)],blks:=[],next:=0}else Rs.err 162 else Rs.err 1215 else J 0 {tmps:=[(0,AV.str s),(2,AV.int IntKind.u64 0),(3,Iz 0),(4,AV.bool false),(5,AV.bool false),(6,AV.bool false),(7,Iz 0),(8,AV.bool false),(9,AV.bool false),(10,AV.int IntKind.u64 ((10:Int))),(11,Iz ((19:Int))),(12,AV.int IntKind.u8 ((101:Int))),(13,AV.bool false),(14,AV.bool false),(15,Iz 0),(16,Iz 0),(17,Iz 0)],blks:=[],next:=0}else Rs.err 1208 else J 0 {tmps:=[(0,AV.str s),(2,AV.int IntKind.u64 0),(3,Iz 0),(4,AV.bool false),(5,AV.bool false),(6,AV.bool false),(7,Iz 0),(8,AV.bool false),(9,AV.bool false),(10,AV.int IntKind.u64 ((10:Int))),(11,Iz ((19:Int))),(12,AV.int IntKind.u8 ((101:Int))),(13,AV.bool false),(14,AV.bool false),(15,Iz 0),(16,Iz 0),(17,Iz 0)],blks:=[],next:=0}else Rs.err 302:=by kernel_rfl
end Go.Sx.Tryz
namespace Go.Sx.Tryz
open Go Go.Sx Go.Proofs
set_option maxRecDepth 100000
variable{G:Nat→Obj→Prop}
abbrev jG(n:Nat):Jump R0:=pieces (R:=R0) E (ao jn) jC jl 0 .ok n
theorem we{n:Int}(h0:0≤n)(h1:n<18446744073709551616):IntKind.wrap .u64 n=n:=by
 unfold IntKind.wrap
 have hb:IntKind.bits .u64=64:=rfl
 have hs:IntKind.signed .u64=false:=rfl
 simp only[hb,hs,Bool.false_and]
 simp only[Bool.false_eq_true,if_false]
 omega
theorem Qw{n:Int}(h0:0≤n)(h1:n<256):IntKind.wrap .u8 n=n:=by
 unfold IntKind.wrap
 have hb:IntKind.bits .u8=8:=rfl
 have hs:IntKind.signed .u8=false:=rfl
 simp only[hb,hs,Bool.false_and]
 simp only[Bool.false_eq_true,if_false]
 omega
theorem getD_at{s pre q:List UInt8}{c:UInt8}(h:s=pre++c::q):s.getD (Int.toNat (pre.length:Int)) 0=c:=by
 rw[h,Int.toNat_natCast]
 simp[List.getD_eq_getElem?_getD]
theorem gr{c:UInt8}(h:aI (c.toNat:Int)=true):48≤c.toNat∧c.toNat≤57:=by
 unfold aI at h
 simp only[Bool.and_eq_true,decide_eq_true_eq]at h
 omega
theorem qy{s:List UInt8}(hs:s.length≤1048576)(sd:Bool):∀(r pre q:List UInt8) (fuel mt:Nat) (sg:Bool) (nd dp:Int),s=pre++(r++q)→(r.all fun c=>aI c.toNat)=true→0≤nd→nd+r.length≤15→ -20+r.length≤dp→dp≤20→mt<10^(16-r.length)→r.length≤15→(mt≠0→nd≠0)→
  ∃(nd' dp':Int),jG (fuel+r.length) 0 (pk s mt pre.length sd sg nd nd dp)=jG fuel 0 (pk s (r.foldl (fun m c=>m*10+(c.toNat-48)) mt:Nat) ((pre.length:Int)+r.length) sd (sg|| !r.isEmpty) nd' nd' dp')∧
   nd'-dp'=nd-dp+r.length∧0≤nd'∧nd'≤nd+r.length∧((r.foldl (fun m c=>m*10+(c.toNat-48)) mt)≠0→nd'≠0)
 |[],pre,q,fuel,mt,sg,nd,dp,hp,hd,h0,h1,h2,h3,h4,h5,h6=>by
  refine⟨nd,dp,?_,by simp,h0,by simp,h6⟩
  simp only[List.length_nil,Nat.add_zero,List.foldl_nil,List.isEmpty_nil,Bool.not_true,Bool.or_false]
  rw[show(pre.length:Int)+((0:Nat):Int)=pre.length by omega]
 |c::r,pre,q,fuel,mt,sg,nd,dp,hp,hd,h0,h1,h2,h3,h4,h5,h6=>by
  rw[List.all_cons,Bool.and_eq_true]at hd
  obtain⟨c0,c1⟩:=gr hd.1
  have hlen:pre.length+(r.length+1+q.length)=s.length:=by rw[hp];simp;omega
  have hc:s.getD (Int.toNat (pre.length:Int)) 0=c:=getD_at (q:=r++q) (by rw[hp];rfl)
  have hlt:(pre.length:Int)<s.length:=by omega
  have e1:decide ((pre.length:Int)<s.length)=true:=decide_eq_true hlt
  have e2:inI (pre.length:Int) s.length=true:=by
   simp only[inI,Bool.and_eq_true,decide_eq_true_eq]
   omega
  have e3:(true==((c.toNat:Int)==95))=false:=by
   have:¬((c.toNat:Int)=95):=by omega
   simp[this]
  have e4:(true==((c.toNat:Int)==46))=false:=by
   have:¬((c.toNat:Int)=46):=by omega
   simp[this]
  have e5:decide (48≤(c.toNat:Int))=true:=decide_eq_true (by omega)
  have e6:(true==decide ((c.toNat:Int)≤57))=true:=by
   have:decide ((c.toNat:Int)≤57)=true:=decide_eq_true (by omega)
   rw[this];rfl
  have e7:decide (nd<19)=true:=decide_eq_true (by simp only[List.length_cons]at h1;omega)
  have wi:IntKind.wrap .i64 ((pre.length:Int)+1)=(pre.length:Int)+1:=wrap64 (by omega) (by omega)
  have hpos:10^(16-(r.length+1))≤10^15:=Nat.pow_le_pow_right (by decide) (by omega)
  simp only[List.length_cons]at h1 h2 h4 h5
  have hmt:mt<10^15:=Nat.lt_of_lt_of_le h4 hpos
  have wn:IntKind.wrap .i64 (nd+1)=nd+1:=wrap64 (by omega) (by omega)
  have wd:IntKind.wrap .i64 (dp-1)=dp-1:=wrap64 (by omega) (by omega)
  have wm:IntKind.wrap .u64 (IntKind.wrap .u64 ((mt:Int)*10)+IntKind.wrap .u64 (IntKind.wrap .u8 ((c.toNat:Int)-48)))=((mt*10+(c.toNat-48):Nat):Int):=by
   have w1:IntKind.wrap .u8 ((c.toNat:Int)-48)=(c.toNat:Int)-48:=Qw (by omega) (by omega)
   have w2:IntKind.wrap .u64 ((c.toNat:Int)-48)=(c.toNat:Int)-48:=we (by omega) (by omega)
   have w3:IntKind.wrap .u64 ((mt:Int)*10)=(mt:Int)*10:=we (by omega) (by omega)
   rw[w1,w2,w3,we (by omega) (by omega)]
   omega
  have hmt2:mt*10+(c.toNat-48)<10^(16-r.length):=by
   have:16-r.length=(16-(r.length+1))+1:=by omega
   rw[this,Nat.pow_succ]
   omega
  have hfu:fuel+(r.length+1)=(fuel+r.length)+1:=by omega
  have hpl:(((pre++[c]).length:Nat):Int)=(pre.length:Int)+1:=by simp
  have hpc:s=(pre++[c])++(r++q):=by rw[hp];simp
  have hsg:(sg|| !(c::r).isEmpty)=true:=by simp
  have hstep:=(bp (n:=fuel+r.length) (st:=pk s mt pre.length sd sg nd nd dp) (cs:=jl) (E:=E) (K:=ao jn) (fi:=jC) (np:=0) (k:=Rs.ok) (j:=0) rfl).trans (vt (jG (fuel+r.length)) s mt pre.length sd sg nd nd dp)
  rw[hc,e1,e2,e3,e4,e5,e6,e7,wi,wn,wd,wm]at hstep
  simp only[cond_true,cond_false]at hstep
  show ∃nd' dp',jG (fuel+(r.length+1)) 0 _=_∧_
  rw[hfu,hsg]
  by_cases hz:(c.toNat:Int)=48∧nd=0
  ·have hm0:mt=0:=by
    rcases Nat.eq_zero_or_pos mt with h|h
    ·exact h
    ·exact absurd hz.2 (h6 (by omega))
   have hc48:c.toNat=48:=by omega
   obtain⟨nd',dp',g1,g2,g3,g4,g5⟩:=qy hs sd r (pre++[c]) q fuel mt true nd (dp-1) hpc hd.2 h0 (by omega) (by omega) (by omega) (by rw[hm0];exact Nat.pos_of_ne_zero (by simp)) (by omega) h6
   refine⟨nd',dp',?_,by rw[g2];simp only[List.length_cons];omega,g3,by simp only[List.length_cons];omega,?_⟩
   ·refine Eq.trans ?_ (Eq.trans g1 ?_)
    ·rw[hpl]
     refine hstep.trans ?_
     rw[show((c.toNat:Int)==48)=true by simp[hc48],show(nd==0)=true by simp[hz.2]]
     exact congrArg _ rfl
    ·have:mt*10+(c.toNat-48)=mt:=by omega
     simp only[List.foldl_cons,this,List.length_cons,hpl,Bool.true_or]
     rw[show(pre.length:Int)+1+(r.length:Int)=(pre.length:Int)+((r.length+1:Nat):Int) by omega]
   ·have:mt*10+(c.toNat-48)=mt:=by omega
    simp only[List.foldl_cons,this]
    exact g5
  ·obtain⟨nd',dp',g1,g2,g3,g4,g5⟩:=qy hs sd r (pre++[c]) q fuel (mt*10+(c.toNat-48)) true (nd+1) dp hpc hd.2 (by omega) (by omega) (by omega) h3 hmt2 (by omega) (fun _=>by omega)
   refine⟨nd',dp',?_,by rw[g2];simp only[List.length_cons];omega,g3,by simp only[List.length_cons];omega,g5⟩
   refine Eq.trans ?_ (Eq.trans g1 ?_)
   ·rw[hpl]
    refine hstep.trans ?_
    cases h48:((c.toNat:Int)==48)with
    |true=>
     have:(nd==0)=false:=by
      have h48:(c.toNat:Int)=48:=by simpa using h48
      simp
      intro e
      exact hz ⟨h48,e⟩
     rw[this]
     exact congrArg _ rfl
    |false=>exact congrArg _ rfl
   ·simp only[List.foldl_cons,List.length_cons,hpl,Bool.true_or]
    rw[show(pre.length:Int)+1+(r.length:Int)=(pre.length:Int)+((r.length+1:Nat):Int) by omega]
theorem rdFloat{a b:List UInt8}(ha:(a.all fun c=>aI c.toNat)=true)(hb:(b.all fun c=>aI c.toNat)=true)(a1:1≤a.length)(b1:1≤b.length)(hab:a.length+b.length≤15)(hz:1<a.length→at8 a 0≠48):
  start (R:=R0) E (ao jn) jC jl (jG (((1+b.length)+1)+a.length)) [.str (a++46::b)] [] .ok=
   .ok (.ret (.tup [.int .u64 (bz (a++b):Nat),.int .i64 (bif bz (a++b)==0 then 0 else-(b.length:Int)),.bool false,.bool false,.bool false,.int .i64 (a++46::b).length,.bool true]),[]):=by
 obtain⟨c,a',rfl⟩:∃c a',a=c::a':=by
  cases a with
  |nil=>simp at a1
  |cons c a'=>exact⟨c,a',rfl⟩
 generalize hs:(c::a')++46::b=s
 have hlen:s.length=a'.length+1+(b.length+1):=by rw[←hs];simp;omega
 have ha0:=ha
 rw[List.all_cons,Bool.and_eq_true]at ha
 obtain⟨c0,c1⟩:=gr ha.1
 simp only[List.length_cons]at hab a1
 have hs0:s.getD (Int.toNat 0) 0=c:=by rw[←hs];rfl
 have hst:start (R:=R0) E (ao jn) jC jl (jG (((1+b.length)+1)+(a'.length+1))) [.str s] [] .ok=jG (((1+b.length)+1)+(a'.length+1)) 0 (pk s 0 0 false false 0 0 0):=by
  refine(HJ (jG _) s).trans ?_
  have e0:decide ((0:Int)≥(s.length:Int))=false:=decide_eq_false (by omega)
  have e1:inI 0 s.length=true:=by
   simp only[inI,Bool.and_eq_true,decide_eq_true_eq]
   omega
  have e2:((c.toNat:Int)==43)=false:=by
   have:¬((c.toNat:Int)=43):=by omega
   simp[this]
  have e3:((c.toNat:Int)==45)=false:=by
   have:¬((c.toNat:Int)=45):=by omega
   simp[this]
  have w2:IntKind.wrap .i64 (0+2)=2:=wrap64 (by decide) (by decide)
  have w1:IntKind.wrap .i64 (0+1)=1:=wrap64 (by decide) (by decide)
  have e4:decide ((2:Int)<(s.length:Int))=true:=decide_eq_true (by omega)
  have e5:inI 1 s.length=true:=by
   simp only[inI,Bool.and_eq_true,decide_eq_true_eq]
   omega
  rw[hs0,e0,e1,e2,e3,w2,w1,e4,e5]
  simp only[cond_true,cond_false]
  cases h48:((c.toNat:Int)==48)with
  |false=>exact congrArg _ rfl
  |true=>
   have h48:(c.toNat:Int)=48:=by simpa using h48
   have ha':a'=[]:=by
    cases a' with
    |nil=>rfl
    |cons x r=>
     exact absurd h48 (hz (by simp))
   subst ha'
   have hs1:s.getD (Int.toNat 1) 0=46:=by rw[←hs];rfl
   rw[hs1]
   exact congrArg _ rfl
 have hbig:s.length≤1048576:=by omega
 show start (R:=R0) E (ao jn) jC jl (jG (((1+b.length)+1)+(a'.length+1))) [.str s] [] .ok=_
 rw[hst]
 obtain⟨nd,dp,g1,g2,g3,g4,g5⟩:=qy hbig false (c::a') [] (46::b) ((1+b.length)+1) 0 false 0 0 (by rw[←hs];rfl) ha0 (Int.le_refl 0) (by simp only[List.length_cons];omega) (by simp only[List.length_cons];omega) (by decide) (Nat.pos_of_ne_zero (by simp)) (by simp only[List.length_cons];omega) (fun h=>absurd rfl h)
 simp only[List.length_cons]at g2 g4
 refine Eq.trans g1 ?_
 have hm1:(c::a').foldl (fun m c=>m*10+(c.toNat-48)) 0=bz (c::a'):=rfl
 rw[hm1]at g5
 rw[hm1]
 have hmb:bz ((c::a')++b)=b.foldl (fun m c=>m*10+(c.toNat-48)) (bz (c::a')):=by
  unfold bz
  rw[List.foldl_append]
 have hdot:s.getD (Int.toNat ((((c::a').length:Nat):Int))) 0=46:=getD_at (pre:=c::a') (q:=b) (by rw[←hs])
 have hlt:(((c::a').length:Nat):Int)<s.length:=by simp only[List.length_cons];omega
 have hstep:=(bp (n:=1+b.length) (st:=pk s (bz (c::a'):Nat) (((c::a').length:Nat):Int) false true nd nd dp) (cs:=jl) (E:=E) (K:=ao jn) (fi:=jC) (np:=0) (k:=Rs.ok) (j:=0) rfl).trans (vt (jG (1+b.length)) s (bz (c::a'):Nat) (((c::a').length:Nat):Int) false true nd nd dp)
 have e1:decide ((((c::a').length:Nat):Int)<s.length)=true:=decide_eq_true hlt
 have e2:inI (((c::a').length:Nat):Int) s.length=true:=by
  simp only[inI,Bool.and_eq_true,decide_eq_true_eq]
  omega
 have wi:IntKind.wrap .i64 ((((c::a').length:Nat):Int)+1)=(((c::a').length:Nat):Int)+1:=wrap64 (by omega) (by omega)
 rw[hdot,e1,e2,wi]at hstep
 have hz0:([]:List UInt8).length=0:=rfl
 rw[show((([]:List UInt8).length:Nat):Int)+(((c::a').length:Nat):Int)=(((c::a').length:Nat):Int) by simp]
 rw[show(false|| !(c::a').isEmpty)=true from rfl]
 refine Eq.trans hstep ?_
 have hmid:jG (1+b.length) 0 (pk s (bz (c::a'):Nat) ((((c::a')++[46]).length:Nat):Int) true true nd nd nd)= .ok (.ret (.tup [.int .u64 (bz (c::a'++b):Nat),.int .i64 (bif bz (c::a'++b)==0 then 0 else-(b.length:Int)),.bool false,.bool false,.bool false,.int .i64 s.length,.bool true]),[]):=by
  have hmant:bz (c::a')<10^(16-b.length):=by
   have key:∀(l:List UInt8) (m:Nat),(l.all fun c=>aI c.toNat)=true→l.foldl (fun m c=>m*10+(c.toNat-48)) m<(m+1)*10^l.length:=by
    intro l
    induction l with
    |nil=>intro m _;simp
    |cons x l ih=>
     intro m h
     rw[List.all_cons,Bool.and_eq_true]at h
     obtain⟨x0,x1⟩:=gr h.1
     have:=ih (m*10+(x.toNat-48)) h.2
     rw[List.foldl_cons,List.length_cons,Nat.pow_succ]
     refine Nat.lt_of_lt_of_le this ?_
     have h2:m*10+(x.toNat-48)+1≤(m+1)*10:=by omega
     calc(m*10+(x.toNat-48)+1)*10^l.length≤((m+1)*10)*10^l.length:=Nat.mul_le_mul_right _ h2
      _=(m+1)*(10^l.length*10):=by rw[Nat.mul_assoc,Nat.mul_comm 10]
   have h1:=key (c::a') 0 ha0
   rw[Nat.zero_add,Nat.one_mul]at h1
   exact Nat.lt_of_lt_of_le h1 (Nat.pow_le_pow_right (by decide) (by simp only[List.length_cons];omega))
  obtain⟨nd',dp',f1,f2,f3,f4,f5⟩:=qy hbig true b ((c::a')++[46]) [] 1 (bz (c::a')) true nd nd (by rw[←hs];simp) hb g3 (by omega) (by omega) (by omega) hmant (by omega) g5
  refine Eq.trans f1 ?_
  have hend:((((c::a')++[46]).length:Nat):Int)+(b.length:Int)=s.length:=by
   rw[List.length_append,List.length_singleton,List.length_cons,hlen]
   omega
  rw[hend,←hmb,show(true|| !b.isEmpty)=true from rfl]
  have hfin:=(bp (n:=0) (st:=pk s (bz (c::a'++b):Nat) (s.length:Int) true true nd' nd' dp') (cs:=jl) (E:=E) (K:=ao jn) (fi:=jC) (np:=0) (k:=Rs.ok) (j:=0) rfl).trans (vt (jG 0) s (bz (c::a'++b):Nat) (s.length:Int) true true nd' nd' dp')
  have e9:decide ((s.length:Int)<s.length)=false:=decide_eq_false (by omega)
  have w9:IntKind.wrap .i64 (dp'-nd')= -(b.length:Int):=by rw[wrap64 (by omega) (by omega)];omega
  rw[e9,w9]at hfin
  refine Eq.trans hfin ?_
  cases hm:bz (c::a'++b)==0 with
  |true=>
   have hm:bz (c::a'++b)=0:=by simpa using hm
   rw[hm]
   rfl
  |false=>
   have:(((bz (c::a'++b):Nat):Int) !=0)=true:=by
    have hm:bz (c::a'++b)≠0:=by simpa using hm
    simp only[bne_iff_ne,ne_eq]
    omega
   rw[this]
   rfl
 refine Eq.trans ?_ hmid
 have:((((c::a')++[46]).length:Nat):Int)=(((c::a').length:Nat):Int)+1:=by simp
 rw[this]
 exact congrArg _ rfl
end Go.Sx.Tryz
namespace Go.Sx.Tryz
open Go Go.Sx Go.Proofs
set_option maxRecDepth 100000
variable{G:Nat→Obj→Prop}
abbrev No:Ty:=.pair (.int .i64) (.pair (.int .i64) .unit)
abbrev Ag:Ty:=.pair (.slice aE) (.pair (.int .i64) .unit)
abbrev ra:Sig:=[(false,.slice aJ),(true,No)]
def mg(x:aA cK):aA ra:=bif (fG x.1).1==0 then((fG x.1).2.2,((0:Int),(0:Int),()),())else(([]:List Tok),((fG x.1).1,(fG x.1).2.1,()),())
theorem La(ht:iG G)(x:aA cK):SAD Tryz.prog G 15 cK ra x (mg x):=by
 obtain⟨T,⟨⟩⟩:=x
 have h:=Og (G:=G) (vK ht) T
 show SA Tryz.prog G 15 [.str T] [] (.ret (cV ra (mg (T,()))),[])
 unfold mg
 unfold Dr at h
 show SA Tryz.prog G 15 [.str T] [] (.ret (cV ra (bif (fG T).1==0 then((fG T).2.2,((0:Int),(0:Int),()),())else(([]:List Tok),((fG T).1,(fG T).2.1,()),()))),[])
 cases e:(fG T).1==0 with
 |true=>
  rw[e]at h
  exact SA.data (rs:=ra) h (y:=((fG T).2.2,((0:Int),(0:Int),()),())) (m:=[0]) rfl
 |false=>
  rw[e]at h
  exact SA.data (rs:=ra) h (y:=(([]:List Tok),((fG T).1,(fG T).2.1,()),())) (m:=[]) rfl
def uZ:List (Nat×aY):=[(15,cm 15 cK ra (fun _=>true) mg)]
def tH:List Cut:=[⟨[true,true,true,true],some ⟨[(2,[]),(3,[]),(5,[])],[[],[],[.keep,.sl aJ,.keep,.keep,.own 37 aE,.keep]]⟩⟩]
end Go.Sx.Tryz
namespace Go.Sx.Tryz
open Go Go.Sx Go.Proofs
set_option maxRecDepth 100000
variable{G:Nat→Obj→Prop}
abbrev gZ:Sig:=[(true,Ag)]
def trC(L:List Nd)(r:Int):List AV:=[.sl aE L,.int .i64 r]
def oy(x:Nd):Bool:=decide ((aj x).length≤17592186044416)&&decide ((aG x).length≤17592186044416)
def lf(x:aA gZ):Bool:=decide (x.1.1.length≤20000)&&x.1.1.all oy
def Ba(x:aA gZ):aA gZ:=((x.1.1,x.1.2.1,()),())
def sC:List Cut:=[⟨[true,true,false,true,false,false],some ⟨[(2,[]),(3,[]),(10,[.sl aE]),(11,[]),(12,[])],[[],[.own 37 aE]]⟩⟩]
def VI(L O:List Nd)(r l k:Int):St:={tmps:=[(2,.ref 0 0),(3,.ref 1 0),(10,.sl aE L),(11,.int .i64 l),(12,.int .i64 k)],blks:=[(0,.cells 25 [.nils,.int .i64 0]),(1,.cells 25 [.own 2 0,.int .i64 r]),(2,.list 37 aE 0 false O)],next:=3}
def Rv:List (Nat×aY):=[(49,cm 49 gZ gZ lf Ba)]
end Go.Sx.Tryz
namespace Go.Sx.Tryz
open Go Go.Sx
set_option maxRecDepth 100000
theorem KC(J:Jump R0)(L:List Nd)(r:Int):start (R:=R0) E (ao jO) tq sC J [.agg (trC L r)] [] .ok=J 0 {tmps:=[(2,AV.ref 0 0),(3,AV.ref 1 0),(10,AV.sl aE L),(11,Iz (↑(List.length L):Int)),(12,Iz 0)],blks:=[(0,Blk.cells 25 [AV.nils,Iz 0]),(1,Blk.cells 25 [AV.own 2 0,Iz r]),(2,Blk.list 37 aE 0 false [])],next:=3}:=by kernel_rfl
theorem Hr(J:Jump R0)(L O:List Nd)(r l k:Int):resume (R:=R0) E (ao jO) (aT 0 sC 0) J [true,true,false,true,false,false] tq.code 1 (VI L O r l k) (bY E 0 tq.results .ok)=bif decide (k<l)then bif inI k (List.length L)then bif Nat.ble (List.length (aj (ag L (Int.toNat k)))) 17592186044416 then bif Nat.ble (List.length (aG (ag L (Int.toNat k)))) 17592186044416 then bif decide (List.length O+List.length [(mkN (ak (ag L (Int.toNat k))) (nAt (ag L (Int.toNat k))) (nTo (ag L (Int.toNat k))) (aj (ag L (Int.toNat k))) (aH (ag L (Int.toNat k))) (al (ag L (Int.toNat k))) (au (ag L (Int.toNat k))) (ah (ag L (Int.toNat k))) (af (ag L (Int.toNat k))) (nN (ag L (Int.toNat k))) (nW1 (ag L (Int.toNat k))) (nW2 (ag L (Int.toNat k))) (aG (ag L (Int.toNat k))))]<aq)then J 0 {tmps:=[(2,AV.ref 0 0),(3,AV.ref 1 0),(10,AV.sl aE L),(11,Iz l),(12,Iz (IntKind.wrap IntKind.i64 (k+1)))],blks:=[(0,Blk.cells 25 [AV.nils,Iz 0]),(1,Blk.cells 25 [AV.own 2 0,Iz r]),(2,Blk.list 37 aE 0 false (O++[(mkN (ak (ag L (Int.toNat k))) (nAt (ag L (Int.toNat k))) (nTo (ag L (Int.toNat k))) (aj (ag L (Int.toNat k))) (aH (ag L (Int.toNat k))) (al (ag L (Int.toNat k))) (au (ag L (Int.toNat k))) (ah (ag L (Int.toNat k))) (af (ag L (Int.toNat k))) (nN (ag L (Int.toNat k))) (nW1 (ag L (Int.toNat k))) (nW2 (ag L (Int.toNat k))) (aG (ag L (Int.toNat k))))]))],next:=3}else Rs.err 604 else Rs.err 1000078 else Rs.err 1000078 else Rs.err 400 else Rs.ok (Out.ret (AV.agg [AV.own 0 0,Iz r]),[Blk.list 37 aE 0 false O]):=by kernel_rfl
theorem Nt(T:List UInt8)(K:List Tok)(a d:Int)(A:List Nd):body (R:=R0) E (ao Rv) Qt [.ref 0 4] (oL T K a d A) .ok=bif lf ((A,(0:Int),()),())then Rs.ok (Out.ret (AV.agg [AV.sl aE A,Iz (IntKind.wrap IntKind.i64 ((↑(List.length A):Int)-1))]),[Blk.cells 72 [AV.str T,AV.sl aJ K,Iz a,Iz d,AV.own 1 1,Iz 0],Blk.list 37 aE 1 true A])else Rs.err 3000049:=by kernel_rfl
theorem Lw(J:Jump R0)(T:List UInt8):start (R:=R0) E (ao uZ) mi tH J [.str T] [] .ok=bif Prod.fst (Prod.fst (Prod.snd (mg (T,())))) !=0 then Rs.ok (Out.ret (AV.tup [AV.agg [AV.nils,Iz 0],AV.agg [Iz (Prod.fst (Prod.fst (Prod.snd (mg (T,()))))),Iz (Prod.fst (Prod.snd (Prod.fst (Prod.snd (mg (T,()))))))]]),[])else J 0 {tmps:=[(2,AV.ref 0 0),(3,AV.ref 1 0),(5,AV.ref 2 0)],blks:=[(0,Blk.cells 25 [AV.nils,Iz 0]),(1,Blk.cells 28 [Iz (Prod.fst (Prod.fst (Prod.snd (mg (T,()))))),Iz (Prod.fst (Prod.snd (Prod.fst (Prod.snd (mg (T,()))))))]),(2,Blk.cells 72 [AV.str T,AV.sl aJ (Prod.fst (mg (T,()))),Iz 0,Iz 0,AV.own 3 0,Iz 0]),(3,Blk.list 37 aE 0 false [])],next:=4}:=by kernel_rfl
end Go.Sx.Tryz
