/- A part of the proof: see the row's text. -/
import Derived.Test.YtehaoepopklboaaGreatDoorZh12
import Derived.Shelf.Strconv.Quote
import Derived.Shelf.Strconv.Itoa4
import Derived.Shelf.Strings.Repeat
import Derived.Shelf.Strings.Count
import Derived.Lib.LaidPrint
import Derived.Lib.LaidU8T
set_option linter.unusedVariables false
set_option linter.unusedSimpArgs false
noncomputable section
namespace Go.Proofs
open Go.Shelf
def Tryz.lays177_ren:Go.Shelf.Ren:=⟨fun|177=>118|250=>130|289=>140|197=>89|323=>163|260=>116|339=>182|340=>183|242=>184|119=>185|345=>197|346=>198|278=>199|n=>n,fun|9=>9|5=>5|4=>4|3=>3|37=>63|21=>21|105=>124|46=>96|119=>150|0=>0|139=>153|138=>152|49=>207|234=>208|131=>76|51=>126|236=>210|n=>n,fun|3=>1|4=>2|20=>7|21=>8|22=>9|23=>10|24=>11|n=>n⟩
theorem Tryz.lays177:Go.Proofs.Lays.n177 Tryz.prog Tryz.lays177_ren:={
 mixed:=by kernel_rfl
 f119:=Tryz.func185.trans (congrArg some (by kernel_rfl))
 f177:=Tryz.func118.trans (congrArg some (by kernel_rfl))
 f197:=Tryz.func89.trans (congrArg some (by kernel_rfl))
 f242:=Tryz.func184.trans (congrArg some (by kernel_rfl))
 f250:=Tryz.func130.trans (congrArg some (by kernel_rfl))
 f260:=Tryz.func116.trans (congrArg some (by kernel_rfl))
 f278:=Tryz.func199.trans (congrArg some (by kernel_rfl))
 f289:=Tryz.func140.trans (congrArg some (by kernel_rfl))
 f323:=Tryz.func163.trans (congrArg some (by kernel_rfl))
 f339:=Tryz.func182.trans (congrArg some (by kernel_rfl))
 f340:=Tryz.func183.trans (congrArg some (by kernel_rfl))
 f345:=Tryz.func197.trans (congrArg some (by kernel_rfl))
 f346:=Tryz.func198.trans (congrArg some (by kernel_rfl))
 t0:=Tryz.underlying0
 a0:=Tryz.isAgg0
 z0:=Tryz.sizeOf0
 v0:=Tryz.zeroValue0
 t3:=Tryz.underlying3
 a3:=Tryz.isAgg3
 z3:=Tryz.sizeOf3
 v3:=Tryz.zeroValue3
 t4:=Tryz.underlying4
 a4:=Tryz.isAgg4
 z4:=Tryz.sizeOf4
 v4:=Tryz.zeroValue4
 t5:=Tryz.underlying5
 a5:=Tryz.isAgg5
 z5:=Tryz.sizeOf5
 v5:=Tryz.zeroValue5
 t9:=Tryz.underlying9
 a9:=Tryz.isAgg9
 z9:=Tryz.sizeOf9
 v9:=Tryz.zeroValue9
 t21:=Tryz.underlying21
 a21:=Tryz.isAgg21
 z21:=Tryz.sizeOf21
 v21:=Tryz.zeroValue21
 t37:=Tryz.underlying63
 a37:=Tryz.isAgg63
 z37:=Tryz.sizeOf63
 v37:=Tryz.zeroValue63
 t46:=Tryz.underlying96
 a46:=Tryz.isAgg96
 z46:=Tryz.sizeOf96
 v46:=Tryz.zeroValue96
 t49:=Tryz.underlying207
 a49:=Tryz.isAgg207
 z49:=Tryz.sizeOf207
 v49:=Tryz.zeroValue207
 t51:=Tryz.underlying126
 a51:=Tryz.isAgg126
 z51:=Tryz.sizeOf126
 v51:=Tryz.zeroValue126
 t105:=Tryz.underlying124
 a105:=Tryz.isAgg124
 z105:=Tryz.sizeOf124
 v105:=Tryz.zeroValue124
 t119:=Tryz.underlying150
 a119:=Tryz.isAgg150
 z119:=Tryz.sizeOf150
 t131:=Tryz.underlying76
 a131:=Tryz.isAgg76
 z131:=Tryz.sizeOf76
 v131:=Tryz.zeroValue76
 t138:=Tryz.underlying152
 a138:=Tryz.isAgg152
 z138:=Tryz.sizeOf152
 v138:=Tryz.zeroValue152
 t139:=Tryz.underlying153
 a139:=Tryz.isAgg153
 z139:=Tryz.sizeOf153
 v139:=Tryz.zeroValue153
 t234:=Tryz.underlying208
 a234:=Tryz.isAgg208
 z234:=Tryz.sizeOf208
 v234:=Tryz.zeroValue208
 t236:=Tryz.underlying210
 a236:=Tryz.isAgg210
 z236:=Tryz.sizeOf210
 v236:=Tryz.zeroValue210
 g3:=by kernel_rfl
 g4:=by kernel_rfl
 g20:=by kernel_rfl
 g21:=by kernel_rfl
 g22:=by kernel_rfl
 g23:=by kernel_rfl
 g24:=by kernel_rfl}
def Tryz.laysM173_ren:Go.Shelf.Ren:=⟨fun|173=>119|246=>131|283=>141|284=>142|285=>143|286=>144|129=>165|317=>164|318=>166|319=>167|320=>168|337=>186|338=>187|n=>n,fun|2=>2|3=>3|9=>9|4=>4|171=>162|0=>0|53=>129|37=>63|5=>5|173=>165|212=>183|51=>126|20=>20|213=>184|46=>96|232=>212|233=>213|n=>n,fun|17=>4|18=>12|19=>13|n=>n⟩
theorem Tryz.laysM173:Go.Proofs.LaysM.n173 Tryz.prog Tryz.laysM173_ren:={
 mixed:=by kernel_rfl
 f129:=Tryz.func165.trans (congrArg some (by kernel_rfl))
 f173:=Tryz.func119.trans (congrArg some (by kernel_rfl))
 f246:=Tryz.func131.trans (congrArg some (by kernel_rfl))
 f283:=Tryz.func141.trans (congrArg some (by kernel_rfl))
 f284:=Tryz.func142.trans (congrArg some (by kernel_rfl))
 f285:=Tryz.func143.trans (congrArg some (by kernel_rfl))
 f286:=Tryz.func144.trans (congrArg some (by kernel_rfl))
 f317:=Tryz.func164.trans (congrArg some (by kernel_rfl))
 f318:=Tryz.func166.trans (congrArg some (by kernel_rfl))
 f319:=Tryz.func167.trans (congrArg some (by kernel_rfl))
 f320:=Tryz.func168.trans (congrArg some (by kernel_rfl))
 f337:=Tryz.func186.trans (congrArg some (by kernel_rfl))
 f338:=Tryz.func187.trans (congrArg some (by kernel_rfl))
 t0:=Tryz.underlying0
 a0:=Tryz.isAgg0
 z0:=Tryz.sizeOf0
 v0:=Tryz.zeroValue0
 t2:=Tryz.underlying2
 a2:=Tryz.isAgg2
 z2:=Tryz.sizeOf2
 v2:=Tryz.zeroValue2
 t3:=Tryz.underlying3
 a3:=Tryz.isAgg3
 z3:=Tryz.sizeOf3
 v3:=Tryz.zeroValue3
 t4:=Tryz.underlying4
 a4:=Tryz.isAgg4
 z4:=Tryz.sizeOf4
 v4:=Tryz.zeroValue4
 t5:=Tryz.underlying5
 a5:=Tryz.isAgg5
 z5:=Tryz.sizeOf5
 v5:=Tryz.zeroValue5
 t9:=Tryz.underlying9
 a9:=Tryz.isAgg9
 z9:=Tryz.sizeOf9
 v9:=Tryz.zeroValue9
 t20:=Tryz.underlying20
 a20:=Tryz.isAgg20
 z20:=Tryz.sizeOf20
 v20:=Tryz.zeroValue20
 t37:=Tryz.underlying63
 a37:=Tryz.isAgg63
 z37:=Tryz.sizeOf63
 v37:=Tryz.zeroValue63
 t46:=Tryz.underlying96
 a46:=Tryz.isAgg96
 z46:=Tryz.sizeOf96
 v46:=Tryz.zeroValue96
 t51:=Tryz.underlying126
 a51:=Tryz.isAgg126
 z51:=Tryz.sizeOf126
 v51:=Tryz.zeroValue126
 t53:=Tryz.underlying129
 a53:=Tryz.isAgg129
 z53:=Tryz.sizeOf129
 v53:=Tryz.zeroValue129
 t171:=Tryz.underlying162
 a171:=Tryz.isAgg162
 z171:=Tryz.sizeOf162
 v171:=Tryz.zeroValue162
 t173:=Tryz.underlying165
 a173:=Tryz.isAgg165
 z173:=Tryz.sizeOf165
 v173:=Tryz.zeroValue165
 t212:=Tryz.underlying183
 a212:=Tryz.isAgg183
 z212:=Tryz.sizeOf183
 v212:=Tryz.zeroValue183
 t213:=Tryz.underlying184
 a213:=Tryz.isAgg184
 z213:=Tryz.sizeOf184
 t232:=Tryz.underlying212
 a232:=Tryz.isAgg212
 z232:=Tryz.sizeOf212
 v232:=Tryz.zeroValue212
 t233:=Tryz.underlying213
 a233:=Tryz.isAgg213
 z233:=Tryz.sizeOf213
 v233:=Tryz.zeroValue213
 g17:=by kernel_rfl
 g18:=by kernel_rfl
 g19:=by kernel_rfl
 i0:=by kernel_rfl
 i2:=by kernel_rfl
 i3:=by kernel_rfl
 i4:=by kernel_rfl
 i5:=by kernel_rfl
 i9:=by kernel_rfl
 i20:=by kernel_rfl
 i37:=by kernel_rfl
 i46:=by kernel_rfl
 i51:=by kernel_rfl
 i53:=by kernel_rfl
 i171:=by kernel_rfl
 i173:=by kernel_rfl
 i212:=by kernel_rfl
 i232:=by kernel_rfl
 i233:=by kernel_rfl
 m17:=by kernel_rfl
 m18:=by kernel_rfl
 m19:=by kernel_rfl}
def Tryz.lays105_ren:Go.Shelf.Ren:=⟨fun|105=>22|212=>54|99=>26|165=>55|166=>28|170=>56|169=>30|263=>90|264=>91|206=>60|240=>63|241=>92|276=>95|277=>117|n=>n,fun|9=>9|3=>3|4=>4|20=>20|0=>0|46=>96|109=>97|5=>5|72=>65|76=>70|51=>126|146=>127|53=>129|148=>130|70=>62|37=>63|75=>69|127=>108|164=>135|80=>73|n=>n,fun|n=>n⟩
theorem Tryz.lays105:Go.Proofs.Lays.n105 Tryz.prog Tryz.lays105_ren:={
 mixed:=by kernel_rfl
 f99:=Tryz.func26.trans (congrArg some (by kernel_rfl))
 f105:=Tryz.func22.trans (congrArg some (by kernel_rfl))
 f165:=Tryz.func55.trans (congrArg some (by kernel_rfl))
 f166:=Tryz.func28.trans (congrArg some (by kernel_rfl))
 f169:=Tryz.func30.trans (congrArg some (by kernel_rfl))
 f170:=Tryz.func56.trans (congrArg some (by kernel_rfl))
 f206:=Tryz.func60.trans (congrArg some (by kernel_rfl))
 f212:=Tryz.func54.trans (congrArg some (by kernel_rfl))
 f240:=Tryz.func63.trans (congrArg some (by kernel_rfl))
 f241:=Tryz.func92.trans (congrArg some (by kernel_rfl))
 f263:=Tryz.func90.trans (congrArg some (by kernel_rfl))
 f264:=Tryz.func91.trans (congrArg some (by kernel_rfl))
 f276:=Tryz.func95.trans (congrArg some (by kernel_rfl))
 f277:=Tryz.func117.trans (congrArg some (by kernel_rfl))
 t0:=Tryz.underlying0
 a0:=Tryz.isAgg0
 z0:=Tryz.sizeOf0
 v0:=Tryz.zeroValue0
 t3:=Tryz.underlying3
 a3:=Tryz.isAgg3
 z3:=Tryz.sizeOf3
 v3:=Tryz.zeroValue3
 t4:=Tryz.underlying4
 a4:=Tryz.isAgg4
 z4:=Tryz.sizeOf4
 v4:=Tryz.zeroValue4
 t5:=Tryz.underlying5
 a5:=Tryz.isAgg5
 z5:=Tryz.sizeOf5
 v5:=Tryz.zeroValue5
 t9:=Tryz.underlying9
 a9:=Tryz.isAgg9
 z9:=Tryz.sizeOf9
 v9:=Tryz.zeroValue9
 t20:=Tryz.underlying20
 a20:=Tryz.isAgg20
 z20:=Tryz.sizeOf20
 v20:=Tryz.zeroValue20
 t37:=Tryz.underlying63
 a37:=Tryz.isAgg63
 z37:=Tryz.sizeOf63
 v37:=Tryz.zeroValue63
 t46:=Tryz.underlying96
 a46:=Tryz.isAgg96
 z46:=Tryz.sizeOf96
 v46:=Tryz.zeroValue96
 t51:=Tryz.underlying126
 a51:=Tryz.isAgg126
 z51:=Tryz.sizeOf126
 v51:=Tryz.zeroValue126
 t53:=Tryz.underlying129
 a53:=Tryz.isAgg129
 z53:=Tryz.sizeOf129
 v53:=Tryz.zeroValue129
 t70:=Tryz.underlying62
 a70:=Tryz.isAgg62
 z70:=Tryz.sizeOf62
 v70:=Tryz.zeroValue62
 t72:=Tryz.underlying65
 a72:=Tryz.isAgg65
 z72:=Tryz.sizeOf65
 v72:=Tryz.zeroValue65
 t75:=Tryz.underlying69
 a75:=Tryz.isAgg69
 z75:=Tryz.sizeOf69
 v75:=Tryz.zeroValue69
 t76:=Tryz.underlying70
 a76:=Tryz.isAgg70
 z76:=Tryz.sizeOf70
 v76:=Tryz.zeroValue70
 t109:=Tryz.underlying97
 a109:=Tryz.isAgg97
 z109:=Tryz.sizeOf97
 v109:=Tryz.zeroValue97
 t127:=Tryz.underlying108
 a127:=Tryz.isAgg108
 z127:=Tryz.sizeOf108
 v127:=Tryz.zeroValue108
 t146:=Tryz.underlying127
 a146:=Tryz.isAgg127
 z146:=Tryz.sizeOf127
 v146:=Tryz.zeroValue127
 t148:=Tryz.underlying130
 a148:=Tryz.isAgg130
 z148:=Tryz.sizeOf130
 v148:=Tryz.zeroValue130
 t164:=Tryz.underlying135
 a164:=Tryz.isAgg135
 z164:=Tryz.sizeOf135
 v164:=Tryz.zeroValue135}
theorem Tryz.Builder_Extra_105:Builder.Extra Tryz.prog Tryz.lays105_ren:={
 sizeBuilder:=by kernel_rfl
 liesBuilder:=by kernel_rfl
 t5:=Tryz.underlying5
 a5:=Tryz.isAgg5
 z5:=Tryz.sizeOf5
 v5:=Tryz.zeroValue5
 infoByte:=by kernel_rfl
 cellsByte:=by kernel_rfl
 sizeByte:=by kernel_rfl
 neB5:=by decide}
end Go.Proofs
namespace Go.Sx.Tryz
open Go Go.Sx Go.Proofs
set_option maxRecDepth 100000
abbrev TT:Type:=List UInt8
abbrev KK:Type:=List Tok
abbrev NN:Type:=List Nd
abbrev Ok(ts:Sig)(α:Type):Type:=Nat→AV→List Blk→ai ts→Int→Int→List Nd→α
abbrev Bd(α:Type):Type 1:={β:Type}→PR β→(β→Int→Int→List Nd→α)→α
abbrev oR{ts:Sig}(T:TT)(K:KK):Ok ts (Rs R0):=fun g v l _ a d A=>.ok (.ret v,bsG g T K a d A++l)
abbrev bR{β:Type}(r:PR β)(k:β→Int→Int→List Nd→Rs R0):Rs R0:=PR.bindR r k fl0
abbrev oP{ts:Sig}:Ok ts (PR (ai ts)):=fun _ _ _ y a d A=>.ok y a d A
abbrev eP{α:Type}(_:Nat):PR α:=.bad
theorem mkA{ts:Sig}{T:TT}{K:KK}{b x:Rs R0}{r:PR (ai ts)}(e:b=x)(h:Ans ts T K x r):Ans ts T K b r:=e▸h
theorem mkG{ts:Sig}{ret:ai ts→AV}{more:ai ts→List Blk}{T:TT}{K:KK}{b x:Rs R0}{r:PR (ai ts)}(e:b=x)(h:bU ts ret more T K x r):bU ts ret more T K b r:=e▸h
theorem An{P:Prop}(h:P:=by repeat (first|exact Ans.bad|exact Ans.flt|exact⟨_,_,_,[],rfl,rfl,rfl⟩|exact⟨_,_,_,_,rfl,rfl,rfl⟩|refine Ans.bif (fun _=>?_) (fun _=>?_)|refine Ans.bind (fun _ _ _ _ _=>?_) (fun _ _=>Ans.flt))):P:=h
theorem AnG{P:Prop}(h:P:=by repeat (first|exact bU.bad|exact bU.flt|exact⟨_,rfl⟩|refine bU.bif (fun _=>?_) (fun _=>?_)|refine bU.bind (fun _ _ _ _ _=>?_) (fun _ _=>bU.flt))):P:=h
end Go.Sx.Tryz
namespace Go.Sx.Tryz
open Go Go.Sx Go.Proofs
set_option maxRecDepth 100000
def xV{α:Type}(O:Ok [] α)(W:Int→Int→α)(V:Nat→α)(B:Bd α)(p:Fns)(T:TT)(K:KK)(a d:Int)(A:NN)(x1:Int):α:=bif decide (x1>64)then(B (Fns.next p T K a d A ()) fun y7 a7 d7 A7=>W ((2:Int)) (ag y7.1))else O 0 (AV.tup []) [] () a d A
def AQ(p:Fns)(T:TT)(K:KK)(a d:Int)(A:NN)(x1:Int):PR (ai []):=xV oP PR.fault eP PR.bind p T K a d A x1
theorem Ll(p:Fns)(T:TT)(K:KK)(a d:Int)(A:NN)(x1:Int):Ans [] T K (body (R:=R0) E (an (aY p)) JN [.ref 0 0,.int .i64 x1] (bsP T K a d A) .ok) (AQ p T K a d A x1):=mkA (x:=xV (oR T K) fl0 .err bR p T K a d A x1) (by kernel_rfl) (by unfold AQ xV;exact An)
def yH{α:Type}(O:Ok [tB] α)(W:Int→Int→α)(V:Nat→α)(B:Bd α)(p:Fns)(T:TT)(K:KK)(a d:Int)(A:NN)(x1:List UInt8):α:=(B (Fns.next p T K a d A ()) fun y7 a7 d7 A7=>bif az y7.1==1 then O 1 (AV.bool (y7.2.1==x1)) [] (y7.2.1==x1,()) a7 d7 A7 else bif az y7.1==5 then O 1 (AV.bool (y7.2.1==x1)) [] (y7.2.1==x1,()) a7 d7 A7 else O 1 (AV.bool false) [] (false,()) a7 d7 A7)
def AJ(p:Fns)(T:TT)(K:KK)(a d:Int)(A:NN)(x1:List UInt8):PR (ai [tB]):=yH oP PR.fault eP PR.bind p T K a d A x1
theorem ML(p:Fns)(T:TT)(K:KK)(a d:Int)(A:NN)(x1:List UInt8):Ans [tB] T K (body (R:=R0) E (an (aY p)) Em [.ref 0 0,.str x1] (bsP T K a d A) .ok) (AJ p T K a d A x1):=mkA (x:=yH (oR T K) fl0 .err bR p T K a d A x1) (by kernel_rfl) (by unfold AJ yH;exact An)
def yZ{α:Type}(O:Ok [tB] α)(W:Int→Int→α)(V:Nat→α)(B:Bd α)(p:Fns)(T:TT)(K:KK)(a d:Int)(A:NN)(x1:List UInt8):α:=(B (Fns.isS p T K a d A (x1,())) fun y7 a7 d7 A7=>bif !y7.1 then O 1 (AV.bool false) [] (false,()) a7 d7 A7 else(B (Fns.skip p T K a7 d7 A7 ()) fun y11 a11 d11 A11=>O 2 (AV.bool true) [] (true,()) a11 d11 A11))
def zN(p:Fns)(T:TT)(K:KK)(a d:Int)(A:NN)(x1:List UInt8):PR (ai [tB]):=yZ oP PR.fault eP PR.bind p T K a d A x1
theorem Lr(p:Fns)(T:TT)(K:KK)(a d:Int)(A:NN)(x1:List UInt8):Ans [tB] T K (body (R:=R0) E (an (aY p)) Cw [.ref 0 0,.str x1] (bsP T K a d A) .ok) (zN p T K a d A x1):=mkA (x:=yZ (oR T K) fl0 .err bR p T K a d A x1) (by kernel_rfl) (by unfold zN yZ;exact An)
def yi{α:Type}(O:Ok [tI] α)(W:Int→Int→α)(V:Nat→α)(B:Bd α)(p:Fns)(T:TT)(K:KK)(a d:Int)(A:NN)(x1:List UInt8):α:=(B (Fns.isS p T K a d A (x1,())) fun y7 a7 d7 A7=>bif !y7.1 then(B (Fns.next p T K a7 d7 A7 ()) fun y11 a11 d11 A11=>W ((80:Int)) (ag y11.1))else(B (Fns.skip p T K a7 d7 A7 ()) fun y11 a11 d11 A11=>O 2 (Iz y11.1) [] (y11.1,()) a11 d11 A11))
def zz(p:Fns)(T:TT)(K:KK)(a d:Int)(A:NN)(x1:List UInt8):PR (ai [tI]):=yi oP PR.fault eP PR.bind p T K a d A x1
theorem NJ(p:Fns)(T:TT)(K:KK)(a d:Int)(A:NN)(x1:List UInt8):Ans [tI] T K (body (R:=R0) E (an (aY p)) H5 [.ref 0 0,.str x1] (bsP T K a d A) .ok) (zz p T K a d A x1):=mkA (x:=yi (oR T K) fl0 .err bR p T K a d A x1) (by kernel_rfl) (by unfold zz yi;exact An)
def yj{α:Type}(O:Ok [tS] α)(W:Int→Int→α)(V:Nat→α)(B:Bd α)(p:Fns)(T:TT)(K:KK)(a d:Int)(A:NN):α:=(B (Fns.next p T K a d A ()) fun y6 a6 d6 A6=>bif az y6.1 !=1 then W ((80:Int)) (ag y6.1)else bif cW (y6.2.1,())then bif !bT y6.2.1 then W ((80:Int)) (ag y6.1)else(B (Fns.skip p T K a6 d6 A6 ()) fun y10 a10 d10 A10=>O 2 (AV.str y6.2.1) [] (y6.2.1,()) a10 d10 A10)else V 3000014)
def zJ(p:Fns)(T:TT)(K:KK)(a d:Int)(A:NN):PR (ai [tS]):=yj oP PR.fault eP PR.bind p T K a d A
theorem NX(p:Fns)(T:TT)(K:KK)(a d:Int)(A:NN):Ans [tS] T K (body (R:=R0) E (an (aY p)) Iv [.ref 0 0] (bsP T K a d A) .ok) (zJ p T K a d A):=mkA (x:=yj (oR T K) fl0 .err bR p T K a d A) (by kernel_rfl) (by unfold zJ yj;exact An)
def rT{α:Type}(O:Ok [] α)(W:Int→Int→α)(V:Nat→α)(B:Bd α)(p:Fns)(T:TT)(K:KK)(a d:Int)(A:NN):α:=bif decide (IntKind.wrap IntKind.i64 (d+1)>60)then(B (Fns.next p T K a (IntKind.wrap IntKind.i64 (d+1)) A ()) fun y6 a6 d6 A6=>W ((6:Int)) (ag y6.1))else O 0 (AV.tup []) [] () a (IntKind.wrap IntKind.i64 (d+1)) A
def re(p:Fns)(T:TT)(K:KK)(a d:Int)(A:NN):PR (ai []):=rT oP PR.fault eP PR.bind p T K a d A
theorem KI(p:Fns)(T:TT)(K:KK)(a d:Int)(A:NN):Ans [] T K (body (R:=R0) E (an (aY p)) Cy [.ref 0 0] (bsP T K a d A) .ok) (re p T K a d A):=mkA (x:=rT (oR T K) fl0 .err bR p T K a d A) (by kernel_rfl) (by unfold re rT;exact An)
def rV{α:Type}(O:Ok [tI] α)(W:Int→Int→α)(V:Nat→α)(B:Bd α)(p:Fns)(T:TT)(K:KK)(a d:Int)(A:NN):α:=(B (Fns.want p T K a d A ([40],())) fun y6 a6 d6 A6=>(B (Fns.value p T K a6 d6 A6 ()) fun y10 a10 d10 A10=>(B (Fns.want p T K a10 d10 A10 ([41],())) fun y14 a14 d14 A14=>O 3 (Iz y10.1) [] (y10.1,()) a14 d14 A14)))
def qv(p:Fns)(T:TT)(K:KK)(a d:Int)(A:NN):PR (ai [tI]):=rV oP PR.fault eP PR.bind p T K a d A
theorem Jb(p:Fns)(T:TT)(K:KK)(a d:Int)(A:NN):Ans [tI] T K (body (R:=R0) E (an (aY p)) Cu [.ref 0 0] (bsP T K a d A) .ok) (qv p T K a d A):=mkA (x:=rV (oR T K) fl0 .err bR p T K a d A) (by kernel_rfl) (by unfold qv rV;exact An)
def tE{α:Type}(O:Ok [tI] α)(W:Int→Int→α)(V:Nat→α)(B:Bd α)(p:Fns)(T:TT)(K:KK)(a d:Int)(A:NN):α:=(B (Fns.goIn p T K a d A ()) fun y6 a6 d6 A6=>(B (Fns.chain p T K a6 d6 A6 (0,())) fun y10 a10 d10 A10=>O 2 (Iz y10.1) [] (y10.1,()) a10 (IntKind.wrap IntKind.i64 (d10-1)) A10))
def qF(p:Fns)(T:TT)(K:KK)(a d:Int)(A:NN):PR (ai [tI]):=tE oP PR.fault eP PR.bind p T K a d A
theorem Je(p:Fns)(T:TT)(K:KK)(a d:Int)(A:NN):Ans [tI] T K (body (R:=R0) E (an (aY p)) Dc [.ref 0 0] (bsP T K a d A) .ok) (qF p T K a d A):=mkA (x:=tE (oR T K) fl0 .err bR p T K a d A) (by kernel_rfl) (by unfold qF tE;exact An)
def tk{α:Type}(O:Ok [tI] α)(W:Int→Int→α)(V:Nat→α)(B:Bd α)(p:Fns)(T:TT)(K:KK)(a d:Int)(A:NN):α:=(B (Fns.next p T K a d A ()) fun y6 a6 d6 A6=>bif az y6.1 !=5 then(B (Fns.behind p T K a6 d6 A6 ()) fun y10 a10 d10 A10=>O 2 (Iz y10.1) [] (y10.1,()) a10 d10 A10)else bif !y6.2.1==[33]then bif !y6.2.1==[45]then(B (Fns.behind p T K a6 d6 A6 ()) fun y10 a10 d10 A10=>O 2 (Iz y10.1) [] (y10.1,()) a10 d10 A10)else(B (Fns.goIn p T K a6 d6 A6 ()) fun y10 a10 d10 A10=>(B (Fns.skip p T K a10 d10 A10 ()) fun y14 a14 d14 A14=>(B (Fns.unary p T K a14 d14 A14 ()) fun y18 a18 d18 A18=>bif y6.2.1==[45]then(B (Fns.add p T K a18 (IntKind.wrap IntKind.i64 (d18-1)) A18 ((mkN 32 0 0 ([y18.1]) [] 0 [] 0 [] 0 0 0 []),ag y6.1,())) fun y22 a22 d22 A22=>O 5 (Iz y22.1) [] (y22.1,()) a22 d22 A22)else(B (Fns.add p T K a18 (IntKind.wrap IntKind.i64 (d18-1)) A18 ((mkN 33 0 0 ([y18.1]) [] 0 [] 0 [] 0 0 0 []),ag y6.1,())) fun y22 a22 d22 A22=>O 5 (Iz y22.1) [] (y22.1,()) a22 d22 A22))))else(B (Fns.goIn p T K a6 d6 A6 ()) fun y10 a10 d10 A10=>(B (Fns.skip p T K a10 d10 A10 ()) fun y14 a14 d14 A14=>(B (Fns.unary p T K a14 d14 A14 ()) fun y18 a18 d18 A18=>bif y6.2.1==[45]then(B (Fns.add p T K a18 (IntKind.wrap IntKind.i64 (d18-1)) A18 ((mkN 32 0 0 ([y18.1]) [] 0 [] 0 [] 0 0 0 []),ag y6.1,())) fun y22 a22 d22 A22=>O 5 (Iz y22.1) [] (y22.1,()) a22 d22 A22)else(B (Fns.add p T K a18 (IntKind.wrap IntKind.i64 (d18-1)) A18 ((mkN 33 0 0 ([y18.1]) [] 0 [] 0 [] 0 0 0 []),ag y6.1,())) fun y22 a22 d22 A22=>O 5 (Iz y22.1) [] (y22.1,()) a22 d22 A22)))))
def rA(p:Fns)(T:TT)(K:KK)(a d:Int)(A:NN):PR (ai [tI]):=tk oP PR.fault eP PR.bind p T K a d A
theorem JF(p:Fns)(T:TT)(K:KK)(a d:Int)(A:NN):Ans [tI] T K (body (R:=R0) E (an (aY p)) DJ [.ref 0 0] (bsP T K a d A) .ok) (rA p T K a d A):=mkA (x:=tk (oR T K) fl0 .err bR p T K a d A) (by kernel_rfl) (by unfold rA tk;exact An)
def yK{α:Type}(O:Ok [tT,tS] α)(W:Int→Int→α)(V:Nat→α)(B:Bd α)(p:Fns)(T:TT)(K:KK)(a d:Int)(A:NN):α:=bif inI a (List.length K)then bif inB (ag (af K a)) (tTo (af K a)) (List.length T)then O 0 (AV.tup [AV.agg [Iz (az (af K a)),Iz (ag (af K a)),Iz (tTo (af K a))],AV.str (List.drop (Int.toNat (ag (af K a))) (List.take (Int.toNat (tTo (af K a))) T))]) [] ((tkn (az (af K a)) (ag (af K a)) (tTo (af K a))),List.drop (Int.toNat (ag (af K a))) (List.take (Int.toNat (tTo (af K a))) T),()) a d A else V 211 else V 108
def z6(p:Fns)(T:TT)(K:KK)(a d:Int)(A:NN):PR (ai [tT,tS]):=yK oP PR.fault eP PR.bind p T K a d A
theorem KV(p:Fns)(T:TT)(K:KK)(a d:Int)(A:NN):Ans [tT,tS] T K (body (R:=R0) E (an (aY p)) I1 [.ref 0 0] (bsP T K a d A) .ok) (z6 p T K a d A):=mkA (x:=yK (oR T K) fl0 .err bR p T K a d A) (by kernel_rfl) (by unfold z6 yK;exact An)
def r9{α:Type}(O:Ok [tI,tS] α)(W:Int→Int→α)(V:Nat→α)(B:Bd α)(p:Fns)(T:TT)(K:KK)(a d:Int)(A:NN)(x1:Int):α:=bif decide (IntKind.wrap IntKind.i64 (a+x1)≥(↑(List.length K):Int))then O 0 (AV.tup [Iz 0,AV.str []]) [] (0,[],()) a d A else bif inI (IntKind.wrap IntKind.i64 (a+x1)) (List.length K)then bif inB (ag (af K (IntKind.wrap IntKind.i64 (a+x1)))) (tTo (af K (IntKind.wrap IntKind.i64 (a+x1)))) (List.length T)then O 0 (AV.tup [Iz (az (af K (IntKind.wrap IntKind.i64 (a+x1)))),AV.str (List.drop (Int.toNat (ag (af K (IntKind.wrap IntKind.i64 (a+x1))))) (List.take (Int.toNat (tTo (af K (IntKind.wrap IntKind.i64 (a+x1))))) T))]) [] (az (af K (IntKind.wrap IntKind.i64 (a+x1))),List.drop (Int.toNat (ag (af K (IntKind.wrap IntKind.i64 (a+x1))))) (List.take (Int.toNat (tTo (af K (IntKind.wrap IntKind.i64 (a+x1))))) T),()) a d A else V 412 else V 310
def qa(p:Fns)(T:TT)(K:KK)(a d:Int)(A:NN)(x1:Int):PR (ai [tI,tS]):=r9 oP PR.fault eP PR.bind p T K a d A x1
theorem I7(p:Fns)(T:TT)(K:KK)(a d:Int)(A:NN)(x1:Int):Ans [tI,tS] T K (body (R:=R0) E (an (aY p)) Bx [.ref 0 0,.int .i64 x1] (bsP T K a d A) .ok) (qa p T K a d A x1):=mkA (x:=r9 (oR T K) fl0 .err bR p T K a d A x1) (by kernel_rfl) (by unfold qa r9;exact An)
def zo{α:Type}(O:Ok [tI] α)(W:Int→Int→α)(V:Nat→α)(B:Bd α)(p:Fns)(T:TT)(K:KK)(a d:Int)(A:NN):α:=bif inI a (List.length K)then bif az (af K a) !=0 then O 0 (Iz (tTo (af K a))) [] (tTo (af K a),()) (IntKind.wrap IntKind.i64 (a+1)) d A else O 0 (Iz (tTo (af K a))) [] (tTo (af K a),()) a d A else V 108
def Ay(p:Fns)(T:TT)(K:KK)(a d:Int)(A:NN):PR (ai [tI]):=zo oP PR.fault eP PR.bind p T K a d A
theorem Lp(p:Fns)(T:TT)(K:KK)(a d:Int)(A:NN):Ans [tI] T K (body (R:=R0) E (an (aY p)) Dm [.ref 0 0] (bsP T K a d A) .ok) (Ay p T K a d A):=mkA (x:=zo (oR T K) fl0 .err bR p T K a d A) (by kernel_rfl) (by unfold Ay zo;exact An)
def su{α:Type}(O:Ok [tI] α)(W:Int→Int→α)(V:Nat→α)(B:Bd α)(p:Fns)(T:TT)(K:KK)(a d:Int)(A:NN)(x1:Nd)(x2:Int):α:=(B (Fns.next p T K a d A ()) fun y8 a8 d8 A8=>bif x2 !=0 then W x2 (ag y8.1)else(B (Fns.skip p T K a8 d8 A8 ()) fun y12 a12 d12 A12=>(B (Fns.add p T K a12 d12 A12 ((mkN (ae x1) (nAt x1) (nTo x1) (aa x1) (aw x1) (ax x1) (aA x1) (ak x1) (ah x1) (nN x1) (nW1 x1) (nW2 x1) (aF x1)),ag y8.1,())) fun y16 a16 d16 A16=>O 3 (Iz y16.1) [] (y16.1,()) a16 d16 A16)))
def qS(p:Fns)(T:TT)(K:KK)(a d:Int)(A:NN)(x1:Nd)(x2:Int):PR (ai [tI]):=su oP PR.fault eP PR.bind p T K a d A x1 x2
theorem IC(p:Fns)(T:TT)(K:KK)(a d:Int)(A:NN)(x1:Nd)(x2:Int):Ans [tI] T K (body (R:=R0) E (an (aY p)) Ef [.ref 0 0,.agg (flat aB x1),.int .i64 x2] (bsP T K a d A) .ok) (qS p T K a d A x1 x2):=mkA (x:=su (oR T K) fl0 .err bR p T K a d A x1 x2) (by kernel_rfl) (by unfold qS su;exact An)
end Go.Sx.Tryz
namespace Go.Sx.Tryz
open Go Go.Sx Go.Proofs
set_option maxRecDepth 100000
def yU{α:Type}(O:Ok [tI] α)(W:Int→Int→α)(V:Nat→α)(B:Bd α)(p:Fns)(T:TT)(K:KK)(a d:Int)(A:NN)(x1:Nd)(x2:Int):α:=bif decide (a>0)then bif inI (IntKind.wrap IntKind.i64 (a-1)) (List.length K)then bif decide ((↑(List.length A):Int)≥16384)then W ((2:Int)) x2 else bif Nat.ble (List.length (aa x1)) 17592186044416 then bif Nat.ble (List.length (aF x1)) 17592186044416 then bif decide (List.length A+List.length [(mkN (ae x1) (x2) (bif decide (x2<tTo (af K (IntKind.wrap IntKind.i64 (a-1))))then tTo (af K (IntKind.wrap IntKind.i64 (a-1)))else x2) (aa x1) (aw x1) (ax x1) (aA x1) (ak x1) (ah x1) (nN x1) (nW1 x1) (nW2 x1) (aF x1))]<ar)then bif decide (IntKind.wrap IntKind.i64 ((↑(List.length (A++[(mkN (ae x1) (x2) (bif decide (x2<tTo (af K (IntKind.wrap IntKind.i64 (a-1))))then tTo (af K (IntKind.wrap IntKind.i64 (a-1)))else x2) (aa x1) (aw x1) (ax x1) (aA x1) (ak x1) (ah x1) (nN x1) (nW1 x1) (nW2 x1) (aF x1))])):Int)-1)≥8192)then W ((2:Int)) x2 else O 1 (Iz (IntKind.wrap IntKind.i64 ((↑(List.length (A++[(mkN (ae x1) (x2) (bif decide (x2<tTo (af K (IntKind.wrap IntKind.i64 (a-1))))then tTo (af K (IntKind.wrap IntKind.i64 (a-1)))else x2) (aa x1) (aw x1) (ax x1) (aA x1) (ak x1) (ah x1) (nN x1) (nW1 x1) (nW2 x1) (aF x1))])):Int)-1))) [] (IntKind.wrap IntKind.i64 ((↑(List.length (A++[(mkN (ae x1) (x2) (bif decide (x2<tTo (af K (IntKind.wrap IntKind.i64 (a-1))))then tTo (af K (IntKind.wrap IntKind.i64 (a-1)))else x2) (aa x1) (aw x1) (ax x1) (aA x1) (ak x1) (ah x1) (nN x1) (nW1 x1) (nW2 x1) (aF x1))])):Int)-1),()) a d (A++[(mkN (ae x1) (x2) (bif decide (x2<tTo (af K (IntKind.wrap IntKind.i64 (a-1))))then tTo (af K (IntKind.wrap IntKind.i64 (a-1)))else x2) (aa x1) (aw x1) (ax x1) (aA x1) (ak x1) (ah x1) (nN x1) (nW1 x1) (nW2 x1) (aF x1))])else V 408 else V 1000066 else V 1000066 else V 310 else bif decide ((↑(List.length A):Int)≥16384)then W ((2:Int)) x2 else bif Nat.ble (List.length (aa x1)) 17592186044416 then bif Nat.ble (List.length (aF x1)) 17592186044416 then bif decide (List.length A+List.length [(mkN (ae x1) x2 x2 (aa x1) (aw x1) (ax x1) (aA x1) (ak x1) (ah x1) (nN x1) (nW1 x1) (nW2 x1) (aF x1))]<ar)then bif decide (IntKind.wrap IntKind.i64 ((↑(List.length (A++[(mkN (ae x1) x2 x2 (aa x1) (aw x1) (ax x1) (aA x1) (ak x1) (ah x1) (nN x1) (nW1 x1) (nW2 x1) (aF x1))])):Int)-1)≥8192)then W ((2:Int)) x2 else O 1 (Iz (IntKind.wrap IntKind.i64 ((↑(List.length (A++[(mkN (ae x1) x2 x2 (aa x1) (aw x1) (ax x1) (aA x1) (ak x1) (ah x1) (nN x1) (nW1 x1) (nW2 x1) (aF x1))])):Int)-1))) [] (IntKind.wrap IntKind.i64 ((↑(List.length (A++[(mkN (ae x1) x2 x2 (aa x1) (aw x1) (ax x1) (aA x1) (ak x1) (ah x1) (nN x1) (nW1 x1) (nW2 x1) (aF x1))])):Int)-1),()) a d (A++[(mkN (ae x1) x2 x2 (aa x1) (aw x1) (ax x1) (aA x1) (ak x1) (ah x1) (nN x1) (nW1 x1) (nW2 x1) (aF x1))])else V 408 else V 1000066 else V 1000066
def zX(p:Fns)(T:TT)(K:KK)(a d:Int)(A:NN)(x1:Nd)(x2:Int):PR (ai [tI]):=yU oP PR.fault eP PR.bind p T K a d A x1 x2
theorem NV(p:Fns)(T:TT)(K:KK)(a d:Int)(A:NN)(x1:Nd)(x2:Int):Ans [tI] T K (body (R:=R0) E (an (aY p)) IP [.ref 0 0,.agg (flat aB x1),.int .i64 x2] (bsP T K a d A) .ok) (zX p T K a d A x1 x2):=mkA (x:=yU (oR T K) fl0 .err bR p T K a d A x1 x2) (by kernel_rfl) (by unfold zX yU;exact An)
def zr{α:Type}(O:Ok [tI] α)(W:Int→Int→α)(V:Nat→α)(B:Bd α)(p:Fns)(T:TT)(K:KK)(a d:Int)(A:NN):α:=(B (Fns.next p T K a d A ()) fun y6 a6 d6 A6=>bif az y6.1==1 then bif y6.2.1==[105,110,105,116]then(B (Fns.skip p T K a6 d6 A6 ()) fun y10 a10 d10 A10=>(B (Fns.params p T K a10 d10 A10 ()) fun y14 a14 d14 A14=>(B (Fns.block p T K a14 d14 A14 ()) fun y18 a18 d18 A18=>bif decide (List.length y14.1+List.length [y18.1]<ar)then(B (Fns.add p T K a18 d18 A18 ((mkN 5 0 0 (y14.1++([y18.1]:List Int)) [] 0 [] 0 [] 0 0 0 []),ag y6.1,())) fun y22 a22 d22 A22=>O 5 (Iz y22.1) [] (y22.1,()) a22 d22 A22)else V 505)))else(B (Fns.typed p T K a6 d6 A6 (true,())) fun y10 a10 d10 A10=>(B (Fns.name p T K a10 d10 A10 ()) fun y14 a14 d14 A14=>(B (Fns.isS p T K a14 d14 A14 ([40],())) fun y18 a18 d18 A18=>bif y18.1 then(B (Fns.params p T K a18 d18 A18 ()) fun y22 a22 d22 A22=>(B (Fns.block p T K a22 d22 A22 ()) fun y26 a26 d26 A26=>bif decide (List.length y22.1+List.length [y26.1]<ar)then(B (Fns.add p T K a26 d26 A26 ((mkN 6 (nAt y10.1) (nTo y10.1) (y22.1++([y26.1]:List Int)) y14.1 (ax y10.1) (aA y10.1) (ak y10.1) (ah y10.1) (nN y10.1) (nW1 y10.1) (nW2 y10.1) (aF y10.1)),ag y6.1,())) fun y30 a30 d30 A30=>O 7 (Iz y30.1) [] (y30.1,()) a30 d30 A30)else V 1105))else bif ax y10.1==6 then W ((80:Int)) (ag y6.1)else(B (Fns.want p T K a18 d18 A18 ([59],())) fun y22 a22 d22 A22=>(B (Fns.add p T K a22 d22 A22 ((mkN 4 (nAt y10.1) (nTo y10.1) (aa y10.1) y14.1 (ax y10.1) (aA y10.1) (ak y10.1) (ah y10.1) (nN y10.1) (nW1 y10.1) (nW2 y10.1) (aF y10.1)),ag y6.1,())) fun y26 a26 d26 A26=>O 6 (Iz y26.1) [] (y26.1,()) a26 d26 A26)))))else(B (Fns.typed p T K a6 d6 A6 (true,())) fun y10 a10 d10 A10=>(B (Fns.name p T K a10 d10 A10 ()) fun y14 a14 d14 A14=>(B (Fns.isS p T K a14 d14 A14 ([40],())) fun y18 a18 d18 A18=>bif y18.1 then(B (Fns.params p T K a18 d18 A18 ()) fun y22 a22 d22 A22=>(B (Fns.block p T K a22 d22 A22 ()) fun y26 a26 d26 A26=>bif decide (List.length y22.1+List.length [y26.1]<ar)then(B (Fns.add p T K a26 d26 A26 ((mkN 6 (nAt y10.1) (nTo y10.1) (y22.1++([y26.1]:List Int)) y14.1 (ax y10.1) (aA y10.1) (ak y10.1) (ah y10.1) (nN y10.1) (nW1 y10.1) (nW2 y10.1) (aF y10.1)),ag y6.1,())) fun y30 a30 d30 A30=>O 7 (Iz y30.1) [] (y30.1,()) a30 d30 A30)else V 1105))else bif ax y10.1==6 then W ((80:Int)) (ag y6.1)else(B (Fns.want p T K a18 d18 A18 ([59],())) fun y22 a22 d22 A22=>(B (Fns.add p T K a22 d22 A22 ((mkN 4 (nAt y10.1) (nTo y10.1) (aa y10.1) y14.1 (ax y10.1) (aA y10.1) (ak y10.1) (ah y10.1) (nN y10.1) (nW1 y10.1) (nW2 y10.1) (aF y10.1)),ag y6.1,())) fun y26 a26 d26 A26=>O 6 (Iz y26.1) [] (y26.1,()) a26 d26 A26))))))
def Az(p:Fns)(T:TT)(K:KK)(a d:Int)(A:NN):PR (ai [tI]):=zr oP PR.fault eP PR.bind p T K a d A
theorem LM(p:Fns)(T:TT)(K:KK)(a d:Int)(A:NN):Ans [tI] T K (body (R:=R0) E (an (aY p)) Ch [.ref 0 0] (bsP T K a d A) .ok) (Az p T K a d A):=mkA (x:=zr (oR T K) fl0 .err bR p T K a d A) (by kernel_rfl) (by unfold Az zr;exact An)
def sM{α:Type}(O:Ok [tN] α)(W:Int→Int→α)(V:Nat→α)(B:Bd α)(p:Fns)(T:TT)(K:KK)(a d:Int)(A:NN):α:=(B (Fns.next p T K a d A ()) fun y6 a6 d6 A6=>bif az y6.1 !=1 then W ((80:Int)) (ag y6.1)else bif y6.2.1==[105,110,116]then(B (Fns.skip p T K a6 d6 A6 ()) fun y10 a10 d10 A10=>O 2 (AV.agg [Iz 0,Iz 0,Iz 0,AV.nils,AV.str [],Iz ((1:Int)),AV.str [],Iz 0,AV.str [32],Iz 0,Iz (ag y6.1),Iz (tTo y6.1),AV.own 2 0]) [Blk.list 3 (Ty.int IntKind.i64) 0 false [y10.1]] ((mkN 0 0 0 [] [] ((1:Int)) [] 0 [32] 0 (ag y6.1) (tTo y6.1) ([y10.1])),()) a10 d10 A10)else bif y6.2.1==[98,111,111,108]then(B (Fns.skip p T K a6 d6 A6 ()) fun y10 a10 d10 A10=>O 2 (AV.agg [Iz 0,Iz 0,Iz 0,AV.nils,AV.str [],Iz ((2:Int)),AV.str [],Iz 0,AV.str [32],Iz 0,Iz (ag y6.1),Iz (tTo y6.1),AV.own 2 0]) [Blk.list 3 (Ty.int IntKind.i64) 0 false [y10.1]] ((mkN 0 0 0 [] [] ((2:Int)) [] 0 [32] 0 (ag y6.1) (tTo y6.1) ([y10.1])),()) a10 d10 A10)else bif y6.2.1==[100,111,117,98,108,101]then(B (Fns.skip p T K a6 d6 A6 ()) fun y10 a10 d10 A10=>O 2 (AV.agg [Iz 0,Iz 0,Iz 0,AV.nils,AV.str [],Iz ((3:Int)),AV.str [],Iz 0,AV.str [32],Iz 0,Iz (ag y6.1),Iz (tTo y6.1),AV.own 2 0]) [Blk.list 3 (Ty.int IntKind.i64) 0 false [y10.1]] ((mkN 0 0 0 [] [] ((3:Int)) [] 0 [32] 0 (ag y6.1) (tTo y6.1) ([y10.1])),()) a10 d10 A10)else bif y6.2.1==[115,116,114]then(B (Fns.skip p T K a6 d6 A6 ()) fun y10 a10 d10 A10=>O 2 (AV.agg [Iz 0,Iz 0,Iz 0,AV.nils,AV.str [],Iz ((4:Int)),AV.str [],Iz 0,AV.str [32],Iz 0,Iz (ag y6.1),Iz (tTo y6.1),AV.own 2 0]) [Blk.list 3 (Ty.int IntKind.i64) 0 false [y10.1]] ((mkN 0 0 0 [] [] ((4:Int)) [] 0 [32] 0 (ag y6.1) (tTo y6.1) ([y10.1])),()) a10 d10 A10)else bif cW (y6.2.1,())then bif !bT y6.2.1 then W ((80:Int)) (ag y6.1)else(B (Fns.skip p T K a6 d6 A6 ()) fun y10 a10 d10 A10=>O 2 (AV.agg [Iz 0,Iz 0,Iz 0,AV.nils,AV.str [],Iz ((5:Int)),AV.str y6.2.1,Iz 0,AV.str [32],Iz 0,Iz (ag y6.1),Iz (tTo y6.1),AV.own 2 0]) [Blk.list 3 (Ty.int IntKind.i64) 0 false [y10.1]] ((mkN 0 0 0 [] [] ((5:Int)) y6.2.1 0 [32] 0 (ag y6.1) (tTo y6.1) ([y10.1])),()) a10 d10 A10)else V 3000014)
def p9(p:Fns)(T:TT)(K:KK)(a d:Int)(A:NN):PR (ai [tN]):=sM oP PR.fault eP PR.bind p T K a d A
theorem Jv(p:Fns)(T:TT)(K:KK)(a d:Int)(A:NN):bU [tN] Dh rv T K (body (R:=R0) E (an (aY p)) DM [.ref 0 0] (bsP T K a d A) .ok) (p9 p T K a d A):=mkG (x:=sM (oR T K) fl0 .err bR p T K a d A) (by kernel_rfl) (by unfold p9 sM;exact AnG)
def r5{α:Type}(O:Ok [tB] α)(W:Int→Int→α)(V:Nat→α)(B:Bd α)(p:Fns)(T:TT)(K:KK)(a d:Int)(A:NN):α:=(B (Fns.ahead p T K a d A (0,())) fun y6 a6 d6 A6=>bif y6.1 !=1 then O 1 (AV.bool false) [] (false,()) a6 d6 A6 else bif cW (y6.2.1,())then bif !bT y6.2.1 then bif decide (List.length [32]+List.length y6.2.1<2^62)then bif decide (List.length ([32]++y6.2.1)+List.length [32]<2^62)then O 1 (AV.bool (Lib.contains [32,105,110,116,32,98,111,111,108,32,100,111,117,98,108,101,32,115,116,114,32,79,112,116,105,111,110,32] ([32]++y6.2.1++([32]:List UInt8)))) [] (Lib.contains [32,105,110,116,32,98,111,111,108,32,100,111,117,98,108,101,32,115,116,114,32,79,112,116,105,111,110,32] ([32]++y6.2.1++([32]:List UInt8)),()) a6 d6 A6 else V 502 else V 501 else(B (Fns.ahead p T K a6 d6 A6 (1,())) fun y10 a10 d10 A10=>(B (Fns.ahead p T K a10 d10 A10 (2,())) fun y14 a14 d14 A14=>bif y10.1==1 then bif cW (y10.2.1,())then bif bT y10.2.1 then O 3 (AV.bool true) [] (true,()) a14 d14 A14 else bif y10.1==5 then bif y10.2.1==[63]then O 3 (AV.bool true) [] (true,()) a14 d14 A14 else bif y10.2.1==[91]then O 3 (AV.bool (y14.2.1==[93])) [] (y14.2.1==[93],()) a14 d14 A14 else O 3 (AV.bool false) [] (false,()) a14 d14 A14 else O 3 (AV.bool false) [] (false,()) a14 d14 A14 else V 3000014 else bif y10.1==5 then bif y10.2.1==[63]then O 3 (AV.bool true) [] (true,()) a14 d14 A14 else bif y10.2.1==[91]then O 3 (AV.bool (y14.2.1==[93])) [] (y14.2.1==[93],()) a14 d14 A14 else O 3 (AV.bool false) [] (false,()) a14 d14 A14 else O 3 (AV.bool false) [] (false,()) a14 d14 A14))else V 3000014)
def qg(p:Fns)(T:TT)(K:KK)(a d:Int)(A:NN):PR (ai [tB]):=r5 oP PR.fault eP PR.bind p T K a d A
theorem JC(p:Fns)(T:TT)(K:KK)(a d:Int)(A:NN):Ans [tB] T K (body (R:=R0) E (an (aY p)) Eo [.ref 0 0] (bsP T K a d A) .ok) (qg p T K a d A):=mkA (x:=r5 (oR T K) fl0 .err bR p T K a d A) (by kernel_rfl) (by unfold qg r5;exact An)
def tF{α:Type}(O:Ok [tI] α)(W:Int→Int→α)(V:Nat→α)(B:Bd α)(p:Fns)(T:TT)(K:KK)(a d:Int)(A:NN):α:=(B (Fns.next p T K a d A ()) fun y6 a6 d6 A6=>bif az y6.1==5 then bif y6.2.1==[123]then(B (Fns.block p T K a6 d6 A6 ()) fun y10 a10 d10 A10=>O 2 (Iz y10.1) [] (y10.1,()) a10 d10 A10)else(B (Fns.declares p T K a6 d6 A6 ()) fun y10 a10 d10 A10=>bif y10.1 then(B (Fns.typed p T K a10 d10 A10 (false,())) fun y14 a14 d14 A14=>(B (Fns.name p T K a14 d14 A14 ()) fun y18 a18 d18 A18=>(B (Fns.take p T K a18 d18 A18 ([61],())) fun y22 a22 d22 A22=>bif y22.1 then(B (Fns.value p T K a22 d22 A22 ()) fun y26 a26 d26 A26=>(B (Fns.want p T K a26 d26 A26 ([59],())) fun y30 a30 d30 A30=>(B (Fns.add p T K a30 d30 A30 ((mkN 9 (nAt y14.1) (nTo y14.1) ([y26.1]) y18.1 (ax y14.1) (aA y14.1) (ak y14.1) (ah y14.1) (nN y14.1) (nW1 y14.1) (nW2 y14.1) (aF y14.1)),ag y6.1,())) fun y34 a34 d34 A34=>O 8 (Iz y34.1) [] (y34.1,()) a34 d34 A34)))else(B (Fns.want p T K a22 d22 A22 ([59],())) fun y26 a26 d26 A26=>(B (Fns.add p T K a26 d26 A26 ((mkN 9 (nAt y14.1) (nTo y14.1) (aa y14.1) y18.1 (ax y14.1) (aA y14.1) (ak y14.1) (ah y14.1) (nN y14.1) (nW1 y14.1) (nW2 y14.1) (aF y14.1)),ag y6.1,())) fun y30 a30 d30 A30=>O 7 (Iz y30.1) [] (y30.1,()) a30 d30 A30)))))else bif az y6.1==1 then(B (Fns.word p T K a10 d10 A10 (y6.2.1,())) fun y14 a14 d14 A14=>bif y14.2.1 then(B (Fns.add p T K a14 d14 A14 ((mkN (ae y14.1) (nAt y14.1) (nTo y14.1) (aa y14.1) (aw y14.1) (ax y14.1) (aA y14.1) (ak y14.1) (ah y14.1) (nN y14.1) (nW1 y14.1) (nW2 y14.1) (aF y14.1)),ag y6.1,())) fun y18 a18 d18 A18=>O 4 (Iz y18.1) [] (y18.1,()) a18 d18 A18)else(B (Fns.plainS p T K a14 d14 A14 (ag y6.1,())) fun y18 a18 d18 A18=>O 4 (Iz y18.1) [] (y18.1,()) a18 d18 A18))else(B (Fns.plainS p T K a10 d10 A10 (ag y6.1,())) fun y14 a14 d14 A14=>O 3 (Iz y14.1) [] (y14.1,()) a14 d14 A14))else(B (Fns.declares p T K a6 d6 A6 ()) fun y10 a10 d10 A10=>bif y10.1 then(B (Fns.typed p T K a10 d10 A10 (false,())) fun y14 a14 d14 A14=>(B (Fns.name p T K a14 d14 A14 ()) fun y18 a18 d18 A18=>(B (Fns.take p T K a18 d18 A18 ([61],())) fun y22 a22 d22 A22=>bif y22.1 then(B (Fns.value p T K a22 d22 A22 ()) fun y26 a26 d26 A26=>(B (Fns.want p T K a26 d26 A26 ([59],())) fun y30 a30 d30 A30=>(B (Fns.add p T K a30 d30 A30 ((mkN 9 (nAt y14.1) (nTo y14.1) ([y26.1]) y18.1 (ax y14.1) (aA y14.1) (ak y14.1) (ah y14.1) (nN y14.1) (nW1 y14.1) (nW2 y14.1) (aF y14.1)),ag y6.1,())) fun y34 a34 d34 A34=>O 8 (Iz y34.1) [] (y34.1,()) a34 d34 A34)))else(B (Fns.want p T K a22 d22 A22 ([59],())) fun y26 a26 d26 A26=>(B (Fns.add p T K a26 d26 A26 ((mkN 9 (nAt y14.1) (nTo y14.1) (aa y14.1) y18.1 (ax y14.1) (aA y14.1) (ak y14.1) (ah y14.1) (nN y14.1) (nW1 y14.1) (nW2 y14.1) (aF y14.1)),ag y6.1,())) fun y30 a30 d30 A30=>O 7 (Iz y30.1) [] (y30.1,()) a30 d30 A30)))))else bif az y6.1==1 then(B (Fns.word p T K a10 d10 A10 (y6.2.1,())) fun y14 a14 d14 A14=>bif y14.2.1 then(B (Fns.add p T K a14 d14 A14 ((mkN (ae y14.1) (nAt y14.1) (nTo y14.1) (aa y14.1) (aw y14.1) (ax y14.1) (aA y14.1) (ak y14.1) (ah y14.1) (nN y14.1) (nW1 y14.1) (nW2 y14.1) (aF y14.1)),ag y6.1,())) fun y18 a18 d18 A18=>O 4 (Iz y18.1) [] (y18.1,()) a18 d18 A18)else(B (Fns.plainS p T K a14 d14 A14 (ag y6.1,())) fun y18 a18 d18 A18=>O 4 (Iz y18.1) [] (y18.1,()) a18 d18 A18))else(B (Fns.plainS p T K a10 d10 A10 (ag y6.1,())) fun y14 a14 d14 A14=>O 3 (Iz y14.1) [] (y14.1,()) a14 d14 A14)))
def qh(p:Fns)(T:TT)(K:KK)(a d:Int)(A:NN):PR (ai [tI]):=tF oP PR.fault eP PR.bind p T K a d A
theorem IQ(p:Fns)(T:TT)(K:KK)(a d:Int)(A:NN):Ans [tI] T K (body (R:=R0) E (an (aY p)) Ci [.ref 0 0] (bsP T K a d A) .ok) (qh p T K a d A):=mkA (x:=tF (oR T K) fl0 .err bR p T K a d A) (by kernel_rfl) (by unfold qh tF;exact An)
def tz{α:Type}(O:Ok [tI] α)(W:Int→Int→α)(V:Nat→α)(B:Bd α)(p:Fns)(T:TT)(K:KK)(a d:Int)(A:NN)(x1:Int)(x2:Int):α:=(B (Fns.take p T K a d A ([108,101,110,103,116,104],())) fun y8 a8 d8 A8=>bif y8.1 then(B (Fns.add p T K a8 d8 A8 ((mkN 28 0 0 ([x1]) [] 0 [] 0 [] 0 0 0 []),x2,())) fun y12 a12 d12 A12=>O 2 (Iz y12.1) [] (y12.1,()) a12 d12 A12)else(B (Fns.take p T K a8 d8 A8 ([118,97,108],())) fun y12 a12 d12 A12=>bif y12.1 then(B (Fns.add p T K a12 d12 A12 ((mkN 45 0 0 ([x1]) [] 0 [] 0 [] 0 0 0 []),x2,())) fun y16 a16 d16 A16=>O 3 (Iz y16.1) [] (y16.1,()) a16 d16 A16)else(B (Fns.name p T K a12 d12 A12 ()) fun y16 a16 d16 A16=>(B (Fns.isS p T K a16 d16 A16 ([40],())) fun y20 a20 d20 A20=>bif y20.1 then(B (Fns.args p T K a20 d20 A20 ()) fun y24 a24 d24 A24=>bif decide (List.length [x1]+List.length y24.1<ar)then(B (Fns.add p T K a24 d24 A24 ((mkN 29 0 0 ([x1]++(Prod.fst y24:List Int)) y16.1 0 [] 0 [] 0 0 0 []),x2,())) fun y28 a28 d28 A28=>O 6 (Iz y28.1) [] (y28.1,()) a28 d28 A28)else V 704)else(B (Fns.add p T K a20 d20 A20 ((mkN 26 0 0 ([x1]) y16.1 0 [] 0 [] 0 0 0 []),x2,())) fun y24 a24 d24 A24=>O 5 (Iz y24.1) [] (y24.1,()) a24 d24 A24)))))
def rC(p:Fns)(T:TT)(K:KK)(a d:Int)(A:NN)(x1:Int)(x2:Int):PR (ai [tI]):=tz oP PR.fault eP PR.bind p T K a d A x1 x2
theorem IJ(p:Fns)(T:TT)(K:KK)(a d:Int)(A:NN)(x1:Int)(x2:Int):Ans [tI] T K (body (R:=R0) E (an (aY p)) De [.ref 0 0,.int .i64 x1,.int .i64 x2] (bsP T K a d A) .ok) (rC p T K a d A x1 x2):=mkA (x:=tz (oR T K) fl0 .err bR p T K a d A x1 x2) (by kernel_rfl) (by unfold rC tz;exact An)
end Go.Sx.Tryz
namespace Go.Sx.Tryz
open Go Go.Sx Go.Proofs
set_option maxRecDepth 100000
def yO{α:Type}(O:Ok [tN] α)(W:Int→Int→α)(V:Nat→α)(B:Bd α)(p:Fns)(T:TT)(K:KK)(a d:Int)(A:NN)(x1:Bool):α:=(B (Fns.next p T K a d A ()) fun y7 a7 d7 A7=>bif y7.2.1==[79,112,116,105,111,110]then bif az y7.1==1 then(B (Fns.skip p T K a7 d7 A7 ()) fun y11 a11 d11 A11=>(B (Fns.want p T K a11 d11 A11 ([60],())) fun y15 a15 d15 A15=>(B (Fns.inner p T K a15 d15 A15 ()) fun y19 a19 d19 A19=>(B (Fns.want p T K a19 d19 A19 ([62],())) fun y23 a23 d23 A23=>bif ax y19.1 !=5 then bif ak y19.1==0 then W ((5:Int)) (ag y7.1)else bif inI (ak y19.1) (List.length (ah y19.1))then bif (↑(UInt8.toNat (List.getD (ah y19.1) (Int.toNat (ak y19.1)) 0)):Int) !=32 then W ((5:Int)) (ag y7.1)else bif inB 0 (ak y19.1) (List.length (ah y19.1))then bif decide (List.length (List.drop (Int.toNat 0) (List.take (Int.toNat (ak y19.1)) (ah y19.1)))+List.length [111]<2^62)then bif inI (IntKind.wrap IntKind.i64 (a23-1)) (List.length K)then O 5 (AV.agg [Iz (ae y19.1),Iz (nAt y19.1),Iz (nTo y19.1),AV.sl (Ty.int IntKind.i64) (aa y19.1),AV.str (aw y19.1),Iz (ax y19.1),AV.str (aA y19.1),Iz (ak y19.1),AV.str (List.drop (Int.toNat 0) (List.take (Int.toNat (ak y19.1)) (ah y19.1))++[111]),Iz (nN y19.1),Iz (ag y7.1),Iz (tTo (af K (IntKind.wrap IntKind.i64 (a23-1)))),AV.sl (Ty.int IntKind.i64) (aF y19.1)]) [] ((mkN (ae y19.1) (nAt y19.1) (nTo y19.1) (aa y19.1) (aw y19.1) (ax y19.1) (aA y19.1) (ak y19.1) (List.drop (Int.toNat 0) (List.take (Int.toNat (ak y19.1)) (ah y19.1))++[111]) (nN y19.1) (ag y7.1) (tTo (af K (IntKind.wrap IntKind.i64 (a23-1)))) (aF y19.1)),()) a23 d23 A23 else V 1112 else V 1005 else V 1004 else V 813 else bif inI (ak y19.1) (List.length (ah y19.1))then bif (↑(UInt8.toNat (List.getD (ah y19.1) (Int.toNat (ak y19.1)) 0)):Int) !=32 then W ((5:Int)) (ag y7.1)else bif inB 0 (ak y19.1) (List.length (ah y19.1))then bif decide (List.length (List.drop (Int.toNat 0) (List.take (Int.toNat (ak y19.1)) (ah y19.1)))+List.length [111]<2^62)then bif inI (IntKind.wrap IntKind.i64 (a23-1)) (List.length K)then O 5 (AV.agg [Iz (ae y19.1),Iz (nAt y19.1),Iz (nTo y19.1),AV.sl (Ty.int IntKind.i64) (aa y19.1),AV.str (aw y19.1),Iz (ax y19.1),AV.str (aA y19.1),Iz (ak y19.1),AV.str (List.drop (Int.toNat 0) (List.take (Int.toNat (ak y19.1)) (ah y19.1))++[111]),Iz (nN y19.1),Iz (ag y7.1),Iz (tTo (af K (IntKind.wrap IntKind.i64 (a23-1)))),AV.sl (Ty.int IntKind.i64) (aF y19.1)]) [] ((mkN (ae y19.1) (nAt y19.1) (nTo y19.1) (aa y19.1) (aw y19.1) (ax y19.1) (aA y19.1) (ak y19.1) (List.drop (Int.toNat 0) (List.take (Int.toNat (ak y19.1)) (ah y19.1))++[111]) (nN y19.1) (ag y7.1) (tTo (af K (IntKind.wrap IntKind.i64 (a23-1)))) (aF y19.1)),()) a23 d23 A23 else V 1112 else V 1005 else V 1004 else V 813))))else bif x1 then bif az y7.1==1 then bif y7.2.1==[118,111,105,100]then(B (Fns.skip p T K a7 d7 A7 ()) fun y11 a11 d11 A11=>O 2 (AV.agg [Iz 0,Iz 0,Iz 0,AV.nils,AV.str [],Iz ((6:Int)),AV.str [],Iz 0,AV.str [32],Iz 0,Iz (ag y7.1),Iz (tTo y7.1),AV.own 2 0]) [Blk.list 3 (Ty.int IntKind.i64) 0 false [y11.1]] ((mkN 0 0 0 [] [] ((6:Int)) [] 0 [32] 0 (ag y7.1) (tTo y7.1) ([y11.1])),()) a11 d11 A11)else(B (Fns.inner p T K a7 d7 A7 ()) fun y11 a11 d11 A11=>O 2 (AV.agg [Iz (ae y11.1),Iz (nAt y11.1),Iz (nTo y11.1),AV.sl (Ty.int IntKind.i64) (aa y11.1),AV.str (aw y11.1),Iz (ax y11.1),AV.str (aA y11.1),Iz (ak y11.1),AV.str (ah y11.1),Iz (nN y11.1),Iz (nW1 y11.1),Iz (nW2 y11.1),AV.sl (Ty.int IntKind.i64) (aF y11.1)]) [] ((mkN (ae y11.1) (nAt y11.1) (nTo y11.1) (aa y11.1) (aw y11.1) (ax y11.1) (aA y11.1) (ak y11.1) (ah y11.1) (nN y11.1) (nW1 y11.1) (nW2 y11.1) (aF y11.1)),()) a11 d11 A11)else(B (Fns.inner p T K a7 d7 A7 ()) fun y11 a11 d11 A11=>O 2 (AV.agg [Iz (ae y11.1),Iz (nAt y11.1),Iz (nTo y11.1),AV.sl (Ty.int IntKind.i64) (aa y11.1),AV.str (aw y11.1),Iz (ax y11.1),AV.str (aA y11.1),Iz (ak y11.1),AV.str (ah y11.1),Iz (nN y11.1),Iz (nW1 y11.1),Iz (nW2 y11.1),AV.sl (Ty.int IntKind.i64) (aF y11.1)]) [] ((mkN (ae y11.1) (nAt y11.1) (nTo y11.1) (aa y11.1) (aw y11.1) (ax y11.1) (aA y11.1) (ak y11.1) (ah y11.1) (nN y11.1) (nW1 y11.1) (nW2 y11.1) (aF y11.1)),()) a11 d11 A11)else(B (Fns.inner p T K a7 d7 A7 ()) fun y11 a11 d11 A11=>O 2 (AV.agg [Iz (ae y11.1),Iz (nAt y11.1),Iz (nTo y11.1),AV.sl (Ty.int IntKind.i64) (aa y11.1),AV.str (aw y11.1),Iz (ax y11.1),AV.str (aA y11.1),Iz (ak y11.1),AV.str (ah y11.1),Iz (nN y11.1),Iz (nW1 y11.1),Iz (nW2 y11.1),AV.sl (Ty.int IntKind.i64) (aF y11.1)]) [] ((mkN (ae y11.1) (nAt y11.1) (nTo y11.1) (aa y11.1) (aw y11.1) (ax y11.1) (aA y11.1) (ak y11.1) (ah y11.1) (nN y11.1) (nW1 y11.1) (nW2 y11.1) (aF y11.1)),()) a11 d11 A11)else bif x1 then bif az y7.1==1 then bif y7.2.1==[118,111,105,100]then(B (Fns.skip p T K a7 d7 A7 ()) fun y11 a11 d11 A11=>O 2 (AV.agg [Iz 0,Iz 0,Iz 0,AV.nils,AV.str [],Iz ((6:Int)),AV.str [],Iz 0,AV.str [32],Iz 0,Iz (ag y7.1),Iz (tTo y7.1),AV.own 2 0]) [Blk.list 3 (Ty.int IntKind.i64) 0 false [y11.1]] ((mkN 0 0 0 [] [] ((6:Int)) [] 0 [32] 0 (ag y7.1) (tTo y7.1) ([y11.1])),()) a11 d11 A11)else(B (Fns.inner p T K a7 d7 A7 ()) fun y11 a11 d11 A11=>O 2 (AV.agg [Iz (ae y11.1),Iz (nAt y11.1),Iz (nTo y11.1),AV.sl (Ty.int IntKind.i64) (aa y11.1),AV.str (aw y11.1),Iz (ax y11.1),AV.str (aA y11.1),Iz (ak y11.1),AV.str (ah y11.1),Iz (nN y11.1),Iz (nW1 y11.1),Iz (nW2 y11.1),AV.sl (Ty.int IntKind.i64) (aF y11.1)]) [] ((mkN (ae y11.1) (nAt y11.1) (nTo y11.1) (aa y11.1) (aw y11.1) (ax y11.1) (aA y11.1) (ak y11.1) (ah y11.1) (nN y11.1) (nW1 y11.1) (nW2 y11.1) (aF y11.1)),()) a11 d11 A11)else(B (Fns.inner p T K a7 d7 A7 ()) fun y11 a11 d11 A11=>O 2 (AV.agg [Iz (ae y11.1),Iz (nAt y11.1),Iz (nTo y11.1),AV.sl (Ty.int IntKind.i64) (aa y11.1),AV.str (aw y11.1),Iz (ax y11.1),AV.str (aA y11.1),Iz (ak y11.1),AV.str (ah y11.1),Iz (nN y11.1),Iz (nW1 y11.1),Iz (nW2 y11.1),AV.sl (Ty.int IntKind.i64) (aF y11.1)]) [] ((mkN (ae y11.1) (nAt y11.1) (nTo y11.1) (aa y11.1) (aw y11.1) (ax y11.1) (aA y11.1) (ak y11.1) (ah y11.1) (nN y11.1) (nW1 y11.1) (nW2 y11.1) (aF y11.1)),()) a11 d11 A11)else(B (Fns.inner p T K a7 d7 A7 ()) fun y11 a11 d11 A11=>O 2 (AV.agg [Iz (ae y11.1),Iz (nAt y11.1),Iz (nTo y11.1),AV.sl (Ty.int IntKind.i64) (aa y11.1),AV.str (aw y11.1),Iz (ax y11.1),AV.str (aA y11.1),Iz (ak y11.1),AV.str (ah y11.1),Iz (nN y11.1),Iz (nW1 y11.1),Iz (nW2 y11.1),AV.sl (Ty.int IntKind.i64) (aF y11.1)]) [] ((mkN (ae y11.1) (nAt y11.1) (nTo y11.1) (aa y11.1) (aw y11.1) (ax y11.1) (aA y11.1) (ak y11.1) (ah y11.1) (nN y11.1) (nW1 y11.1) (nW2 y11.1) (aF y11.1)),()) a11 d11 A11))
def Ah(p:Fns)(T:TT)(K:KK)(a d:Int)(A:NN)(x1:Bool):PR (ai [tN]):=yO oP PR.fault eP PR.bind p T K a d A x1
theorem Mt(p:Fns)(T:TT)(K:KK)(a d:Int)(A:NN)(x1:Bool):Ans [tN] T K (body (R:=R0) E (an (aY p)) Cz [.ref 0 0,.bool x1] (bsP T K a d A) .ok) (Ah p T K a d A x1):=mkA (x:=yO (oR T K) fl0 .err bR p T K a d A x1) (by kernel_rfl) (by unfold Ah yO;exact An)
def tD{α:Type}(O:Ok [tN,tB] α)(W:Int→Int→α)(V:Nat→α)(B:Bd α)(p:Fns)(T:TT)(K:KK)(a d:Int)(A:NN)(x1:List UInt8):α:=bif x1==[105,102]then(B (Fns.skip p T K a d A ()) fun y7 a7 d7 A7=>(B (Fns.bracket p T K a7 d7 A7 ()) fun y11 a11 d11 A11=>(B (Fns.block p T K a11 d11 A11 ()) fun y15 a15 d15 A15=>(B (Fns.take p T K a15 d15 A15 ([101,108,115,101],())) fun y19 a19 d19 A19=>bif y19.1 then(B (Fns.block p T K a19 d19 A19 ()) fun y23 a23 d23 A23=>O 5 (AV.tup [AV.agg [Iz ((11:Int)),Iz 0,Iz 0,AV.own 2 1,AV.str [],Iz 0,AV.str [],Iz 0,AV.str [],Iz 0,Iz 0,Iz 0,AV.nils],AV.bool true]) [Blk.list 3 (Ty.int IntKind.i64) 1 false ([y11.1,y15.1]++[y23.1])] ((mkN ((11:Int)) 0 0 ([y11.1,y15.1]++[y23.1]) [] 0 [] 0 [] 0 0 0 []),true,()) a23 d23 A23)else O 4 (AV.tup [AV.agg [Iz ((11:Int)),Iz 0,Iz 0,AV.own 2 0,AV.str [],Iz 0,AV.str [],Iz 0,AV.str [],Iz 0,Iz 0,Iz 0,AV.nils],AV.bool true]) [Blk.list 3 (Ty.int IntKind.i64) 0 false [y11.1,y15.1]] ((mkN ((11:Int)) 0 0 ([y11.1,y15.1]) [] 0 [] 0 [] 0 0 0 []),true,()) a19 d19 A19))))else bif x1==[119,104,105,108,101]then(B (Fns.skip p T K a d A ()) fun y7 a7 d7 A7=>(B (Fns.bracket p T K a7 d7 A7 ()) fun y11 a11 d11 A11=>(B (Fns.block p T K a11 d11 A11 ()) fun y15 a15 d15 A15=>O 3 (AV.tup [AV.agg [Iz ((12:Int)),Iz 0,Iz 0,AV.own 2 0,AV.str [],Iz 0,AV.str [],Iz 0,AV.str [],Iz 0,Iz 0,Iz 0,AV.nils],AV.bool true]) [Blk.list 3 (Ty.int IntKind.i64) 0 false [y11.1,y15.1]] ((mkN ((12:Int)) 0 0 ([y11.1,y15.1]) [] 0 [] 0 [] 0 0 0 []),true,()) a15 d15 A15)))else bif x1==[98,114,101,97,107]then(B (Fns.skip p T K a d A ()) fun y7 a7 d7 A7=>(B (Fns.want p T K a7 d7 A7 ([59],())) fun y11 a11 d11 A11=>O 2 (AV.tup [AV.agg [Iz ((13:Int)),Iz 0,Iz 0,AV.nils,AV.str [],Iz 0,AV.str [],Iz 0,AV.str [],Iz 0,Iz 0,Iz 0,AV.nils],AV.bool true]) [] ((mkN ((13:Int)) 0 0 [] [] 0 [] 0 [] 0 0 0 []),true,()) a11 d11 A11))else bif x1==[99,111,110,116,105,110,117,101]then(B (Fns.skip p T K a d A ()) fun y7 a7 d7 A7=>(B (Fns.want p T K a7 d7 A7 ([59],())) fun y11 a11 d11 A11=>O 2 (AV.tup [AV.agg [Iz ((14:Int)),Iz 0,Iz 0,AV.nils,AV.str [],Iz 0,AV.str [],Iz 0,AV.str [],Iz 0,Iz 0,Iz 0,AV.nils],AV.bool true]) [] ((mkN ((14:Int)) 0 0 [] [] 0 [] 0 [] 0 0 0 []),true,()) a11 d11 A11))else bif x1==[114,101,116,117,114,110]then(B (Fns.skip p T K a d A ()) fun y7 a7 d7 A7=>(B (Fns.isS p T K a7 d7 A7 ([59],())) fun y11 a11 d11 A11=>bif !y11.1 then(B (Fns.value p T K a11 d11 A11 ()) fun y15 a15 d15 A15=>(B (Fns.want p T K a15 d15 A15 ([59],())) fun y19 a19 d19 A19=>O 4 (AV.tup [AV.agg [Iz ((15:Int)),Iz 0,Iz 0,AV.own 2 0,AV.str [],Iz 0,AV.str [],Iz 0,AV.str [],Iz 0,Iz 0,Iz 0,AV.nils],AV.bool true]) [Blk.list 3 (Ty.int IntKind.i64) 0 false [y15.1]] ((mkN ((15:Int)) 0 0 ([y15.1]) [] 0 [] 0 [] 0 0 0 []),true,()) a19 d19 A19))else(B (Fns.want p T K a11 d11 A11 ([59],())) fun y15 a15 d15 A15=>O 3 (AV.tup [AV.agg [Iz ((15:Int)),Iz 0,Iz 0,AV.nils,AV.str [],Iz 0,AV.str [],Iz 0,AV.str [],Iz 0,Iz 0,Iz 0,AV.nils],AV.bool true]) [] ((mkN ((15:Int)) 0 0 [] [] 0 [] 0 [] 0 0 0 []),true,()) a15 d15 A15)))else bif x1==[112,114,105,110,116]then(B (Fns.skip p T K a d A ()) fun y7 a7 d7 A7=>(B (Fns.bracket p T K a7 d7 A7 ()) fun y11 a11 d11 A11=>(B (Fns.want p T K a11 d11 A11 ([59],())) fun y15 a15 d15 A15=>O 3 (AV.tup [AV.agg [Iz ((16:Int)),Iz 0,Iz 0,AV.own 2 0,AV.str [],Iz 0,AV.str [],Iz 0,AV.str [],Iz 0,Iz 0,Iz 0,AV.nils],AV.bool true]) [Blk.list 3 (Ty.int IntKind.i64) 0 false [y11.1]] ((mkN ((16:Int)) 0 0 ([y11.1]) [] 0 [] 0 [] 0 0 0 []),true,()) a15 d15 A15)))else bif x1==[115,117,112,101,114]then(B (Fns.skip p T K a d A ()) fun y7 a7 d7 A7=>(B (Fns.args p T K a7 d7 A7 ()) fun y11 a11 d11 A11=>(B (Fns.want p T K a11 d11 A11 ([59],())) fun y15 a15 d15 A15=>O 3 (AV.tup [AV.agg [Iz ((17:Int)),Iz 0,Iz 0,AV.own 2 0,AV.str [],Iz 0,AV.str [],Iz 0,AV.str [],Iz 0,Iz 0,Iz 0,AV.nils],AV.bool true]) [Blk.list 3 (Ty.int IntKind.i64) 0 false y11.1] ((mkN ((17:Int)) 0 0 y11.1 [] 0 [] 0 [] 0 0 0 []),true,()) a15 d15 A15)))else O 0 (AV.tup [AV.agg [Iz 0,Iz 0,Iz 0,AV.nils,AV.str [],Iz 0,AV.str [],Iz 0,AV.str [],Iz 0,Iz 0,Iz 0,AV.nils],AV.bool false]) [] ((mkN 0 0 0 [] [] 0 [] 0 [] 0 0 0 []),false,()) a d A
def qJ(p:Fns)(T:TT)(K:KK)(a d:Int)(A:NN)(x1:List UInt8):PR (ai [tN,tB]):=tD oP PR.fault eP PR.bind p T K a d A x1
theorem Iy(p:Fns)(T:TT)(K:KK)(a d:Int)(A:NN)(x1:List UInt8):Ans [tN,tB] T K (body (R:=R0) E (an (aY p)) CD [.ref 0 0,.str x1] (bsP T K a d A) .ok) (qJ p T K a d A x1):=mkA (x:=tD (oR T K) fl0 .err bR p T K a d A x1) (by kernel_rfl) (by unfold qJ tD;exact An)
def sT{α:Type}(O:Ok [tI] α)(W:Int→Int→α)(V:Nat→α)(B:Bd α)(p:Fns)(T:TT)(K:KK)(a d:Int)(A:NN):α:=(B (Fns.next p T K a d A ()) fun y6 a6 d6 A6=>bif az y6.1==2 then bif gD (y6.2.1,())then(B (Fns.literal p T K a6 d6 A6 ((mkN 19 0 0 [] [] 0 [] 0 [] (Prod.fst (sV y6.2.1)) 0 0 []),Prod.snd (sV y6.2.1),())) fun y10 a10 d10 A10=>O 2 (Iz y10.1) [] (y10.1,()) a10 d10 A10)else V 3000231 else bif az y6.1==3 then bif gD (y6.2.1,())then(B (Fns.literal p T K a6 d6 A6 ((mkN 20 0 0 [] y6.2.1 0 [] 0 [] (IntKind.wrap IntKind.i64 (Prod.fst (lj y6.2.1))) 0 0 []),Prod.snd (lj y6.2.1),())) fun y10 a10 d10 A10=>O 2 (Iz y10.1) [] (y10.1,()) a10 d10 A10)else V 3000127 else bif az y6.1==4 then bif gD (y6.2.1,())then(B (Fns.literal p T K a6 d6 A6 ((mkN 22 0 0 [] (Prod.fst (r8 y6.2.1)) 0 [] 0 [] 0 0 0 []),Prod.snd (r8 y6.2.1),())) fun y10 a10 d10 A10=>O 2 (Iz y10.1) [] (y10.1,()) a10 d10 A10)else V 3000233 else bif az y6.1==5 then bif y6.2.1==[40]then(B (Fns.bracket p T K a6 d6 A6 ()) fun y10 a10 d10 A10=>O 2 (Iz y10.1) [] (y10.1,()) a10 d10 A10)else W ((80:Int)) (ag y6.1)else bif az y6.1==1 then bif cW (y6.2.1,())then bif bT y6.2.1 then(B (Fns.literal p T K a6 d6 A6 ((mkN 25 0 0 [] y6.2.1 0 [] 0 [] 0 0 0 []),0,())) fun y10 a10 d10 A10=>O 2 (Iz y10.1) [] (y10.1,()) a10 d10 A10)else(B (Fns.kept p T K a6 d6 A6 ((tkn (az y6.1) (ag y6.1) (tTo y6.1)),y6.2.1,())) fun y10 a10 d10 A10=>O 2 (Iz y10.1) [] (y10.1,()) a10 d10 A10)else V 3000014 else W ((80:Int)) (ag y6.1))
def qZ(p:Fns)(T:TT)(K:KK)(a d:Int)(A:NN):PR (ai [tI]):=sT oP PR.fault eP PR.bind p T K a d A
theorem Kj(p:Fns)(T:TT)(K:KK)(a d:Int)(A:NN):Ans [tI] T K (body (R:=R0) E (an (aY p)) BK [.ref 0 0] (bsP T K a d A) .ok) (qZ p T K a d A):=mkA (x:=sT (oR T K) fl0 .err bR p T K a d A) (by kernel_rfl) (by unfold qZ sT;exact An)
end Go.Sx.Tryz
namespace Go.Sx.Tryz
open Go Go.Sx Go.Proofs
set_option maxRecDepth 100000
def tG{α:Type}(O:Ok [tI] α)(W:Int→Int→α)(V:Nat→α)(B:Bd α)(p:Fns)(T:TT)(K:KK)(a d:Int)(A:NN)(x1:Tok)(x2:List UInt8):α:=bif x2==[116,114,117,101]then(B (Fns.literal p T K a d A ((mkN 21 0 0 [] [] 0 [] 0 [] 1 0 0 []),0,())) fun y8 a8 d8 A8=>O 1 (Iz y8.1) [] (y8.1,()) a8 d8 A8)else bif x2==[102,97,108,115,101]then(B (Fns.literal p T K a d A ((mkN 21 0 0 [] [] 0 [] 0 [] 0 0 0 []),0,())) fun y8 a8 d8 A8=>O 1 (Iz y8.1) [] (y8.1,()) a8 d8 A8)else bif x2==[110,117,108,108]then(B (Fns.literal p T K a d A ((mkN 23 0 0 [] [] 0 [] 0 [] 0 0 0 []),0,())) fun y8 a8 d8 A8=>O 1 (Iz y8.1) [] (y8.1,()) a8 d8 A8)else bif x2==[110,111,110,101]then(B (Fns.literal p T K a d A ((mkN 42 0 0 [] [] 0 [] 0 [] 0 0 0 []),0,())) fun y8 a8 d8 A8=>O 1 (Iz y8.1) [] (y8.1,()) a8 d8 A8)else bif x2==[116,104,105,115]then(B (Fns.literal p T K a d A ((mkN 24 0 0 [] [] 0 [] 0 [] 0 0 0 []),0,())) fun y8 a8 d8 A8=>O 1 (Iz y8.1) [] (y8.1,()) a8 d8 A8)else bif x2==[105,110,112,117,116]then(B (Fns.skip p T K a d A ()) fun y8 a8 d8 A8=>(B (Fns.want p T K a8 d8 A8 ([40],())) fun y12 a12 d12 A12=>(B (Fns.want p T K a12 d12 A12 ([41],())) fun y16 a16 d16 A16=>(B (Fns.add p T K a16 d16 A16 ((mkN 38 0 0 [] [] 0 [] 0 [] 0 0 0 []),ag x1,())) fun y20 a20 d20 A20=>O 4 (Iz y20.1) [] (y20.1,()) a20 d20 A20))))else bif x2==[115,111,109,101]then bif x2==[115,111,109,101]then(B (Fns.skip p T K a d A ()) fun y8 a8 d8 A8=>(B (Fns.bracket p T K a8 d8 A8 ()) fun y12 a12 d12 A12=>bif x2==[97,115,107]then(B (Fns.add p T K a12 d12 A12 ((mkN 39 0 0 ([y12.1]) [] 0 [] 0 [] 0 0 0 []),ag x1,())) fun y16 a16 d16 A16=>O 3 (Iz y16.1) [] (y16.1,()) a16 d16 A16)else bif x2==[116,111,105,110,116]then(B (Fns.add p T K a12 d12 A12 ((mkN 36 0 0 ([y12.1]) [] 0 [] 0 [] 0 0 0 []),ag x1,())) fun y16 a16 d16 A16=>O 3 (Iz y16.1) [] (y16.1,()) a16 d16 A16)else bif x2==[116,111,100,111,117,98,108,101]then(B (Fns.add p T K a12 d12 A12 ((mkN 37 0 0 ([y12.1]) [] 0 [] 0 [] 0 0 0 []),ag x1,())) fun y16 a16 d16 A16=>O 3 (Iz y16.1) [] (y16.1,()) a16 d16 A16)else(B (Fns.add p T K a12 d12 A12 ((mkN 41 0 0 ([y12.1]) [] 0 [] 0 [] 0 0 0 []),ag x1,())) fun y16 a16 d16 A16=>O 3 (Iz y16.1) [] (y16.1,()) a16 d16 A16)))else bif x2==[99,97,115,116]then(B (Fns.skip p T K a d A ()) fun y8 a8 d8 A8=>(B (Fns.want p T K a8 d8 A8 ([60],())) fun y12 a12 d12 A12=>(B (Fns.typed p T K a12 d12 A12 (false,())) fun y16 a16 d16 A16=>(B (Fns.want p T K a16 d16 A16 ([62],())) fun y20 a20 d20 A20=>(B (Fns.bracket p T K a20 d20 A20 ()) fun y24 a24 d24 A24=>(B (Fns.add p T K a24 d24 A24 ((mkN 35 (nAt y16.1) (nTo y16.1) ([y24.1]) (aw y16.1) (ax y16.1) (aA y16.1) (ak y16.1) (ah y16.1) (nN y16.1) (nW1 y16.1) (nW2 y16.1) (aF y16.1)),ag x1,())) fun y28 a28 d28 A28=>O 6 (Iz y28.1) [] (y28.1,()) a28 d28 A28))))))else bif x2==[110,101,119]then(B (Fns.skip p T K a d A ()) fun y8 a8 d8 A8=>(B (Fns.made p T K a8 d8 A8 ()) fun y12 a12 d12 A12=>(B (Fns.add p T K a12 d12 A12 ((mkN (ae y12.1) (nAt y12.1) (nTo y12.1) (aa y12.1) (aw y12.1) (ax y12.1) (aA y12.1) (ak y12.1) (ah y12.1) (nN y12.1) (nW1 y12.1) (nW2 y12.1) (aF y12.1)),ag x1,())) fun y16 a16 d16 A16=>O 3 (Iz y16.1) [] (y16.1,()) a16 d16 A16)))else W ((80:Int)) (ag x1)else bif x2==[97,115,107]then bif x2==[97,115,107]then(B (Fns.skip p T K a d A ()) fun y8 a8 d8 A8=>(B (Fns.bracket p T K a8 d8 A8 ()) fun y12 a12 d12 A12=>bif x2==[97,115,107]then(B (Fns.add p T K a12 d12 A12 ((mkN 39 0 0 ([y12.1]) [] 0 [] 0 [] 0 0 0 []),ag x1,())) fun y16 a16 d16 A16=>O 3 (Iz y16.1) [] (y16.1,()) a16 d16 A16)else bif x2==[116,111,105,110,116]then(B (Fns.add p T K a12 d12 A12 ((mkN 36 0 0 ([y12.1]) [] 0 [] 0 [] 0 0 0 []),ag x1,())) fun y16 a16 d16 A16=>O 3 (Iz y16.1) [] (y16.1,()) a16 d16 A16)else bif x2==[116,111,100,111,117,98,108,101]then(B (Fns.add p T K a12 d12 A12 ((mkN 37 0 0 ([y12.1]) [] 0 [] 0 [] 0 0 0 []),ag x1,())) fun y16 a16 d16 A16=>O 3 (Iz y16.1) [] (y16.1,()) a16 d16 A16)else(B (Fns.add p T K a12 d12 A12 ((mkN 41 0 0 ([y12.1]) [] 0 [] 0 [] 0 0 0 []),ag x1,())) fun y16 a16 d16 A16=>O 3 (Iz y16.1) [] (y16.1,()) a16 d16 A16)))else bif x2==[99,97,115,116]then(B (Fns.skip p T K a d A ()) fun y8 a8 d8 A8=>(B (Fns.want p T K a8 d8 A8 ([60],())) fun y12 a12 d12 A12=>(B (Fns.typed p T K a12 d12 A12 (false,())) fun y16 a16 d16 A16=>(B (Fns.want p T K a16 d16 A16 ([62],())) fun y20 a20 d20 A20=>(B (Fns.bracket p T K a20 d20 A20 ()) fun y24 a24 d24 A24=>(B (Fns.add p T K a24 d24 A24 ((mkN 35 (nAt y16.1) (nTo y16.1) ([y24.1]) (aw y16.1) (ax y16.1) (aA y16.1) (ak y16.1) (ah y16.1) (nN y16.1) (nW1 y16.1) (nW2 y16.1) (aF y16.1)),ag x1,())) fun y28 a28 d28 A28=>O 6 (Iz y28.1) [] (y28.1,()) a28 d28 A28))))))else bif x2==[110,101,119]then(B (Fns.skip p T K a d A ()) fun y8 a8 d8 A8=>(B (Fns.made p T K a8 d8 A8 ()) fun y12 a12 d12 A12=>(B (Fns.add p T K a12 d12 A12 ((mkN (ae y12.1) (nAt y12.1) (nTo y12.1) (aa y12.1) (aw y12.1) (ax y12.1) (aA y12.1) (ak y12.1) (ah y12.1) (nN y12.1) (nW1 y12.1) (nW2 y12.1) (aF y12.1)),ag x1,())) fun y16 a16 d16 A16=>O 3 (Iz y16.1) [] (y16.1,()) a16 d16 A16)))else W ((80:Int)) (ag x1)else bif x2==[116,111,105,110,116]then bif x2==[116,111,105,110,116]then(B (Fns.skip p T K a d A ()) fun y8 a8 d8 A8=>(B (Fns.bracket p T K a8 d8 A8 ()) fun y12 a12 d12 A12=>bif x2==[97,115,107]then(B (Fns.add p T K a12 d12 A12 ((mkN 39 0 0 ([y12.1]) [] 0 [] 0 [] 0 0 0 []),ag x1,())) fun y16 a16 d16 A16=>O 3 (Iz y16.1) [] (y16.1,()) a16 d16 A16)else bif x2==[116,111,105,110,116]then(B (Fns.add p T K a12 d12 A12 ((mkN 36 0 0 ([y12.1]) [] 0 [] 0 [] 0 0 0 []),ag x1,())) fun y16 a16 d16 A16=>O 3 (Iz y16.1) [] (y16.1,()) a16 d16 A16)else bif x2==[116,111,100,111,117,98,108,101]then(B (Fns.add p T K a12 d12 A12 ((mkN 37 0 0 ([y12.1]) [] 0 [] 0 [] 0 0 0 []),ag x1,())) fun y16 a16 d16 A16=>O 3 (Iz y16.1) [] (y16.1,()) a16 d16 A16)else(B (Fns.add p T K a12 d12 A12 ((mkN 41 0 0 ([y12.1]) [] 0 [] 0 [] 0 0 0 []),ag x1,())) fun y16 a16 d16 A16=>O 3 (Iz y16.1) [] (y16.1,()) a16 d16 A16)))else bif x2==[99,97,115,116]then(B (Fns.skip p T K a d A ()) fun y8 a8 d8 A8=>(B (Fns.want p T K a8 d8 A8 ([60],())) fun y12 a12 d12 A12=>(B (Fns.typed p T K a12 d12 A12 (false,())) fun y16 a16 d16 A16=>(B (Fns.want p T K a16 d16 A16 ([62],())) fun y20 a20 d20 A20=>(B (Fns.bracket p T K a20 d20 A20 ()) fun y24 a24 d24 A24=>(B (Fns.add p T K a24 d24 A24 ((mkN 35 (nAt y16.1) (nTo y16.1) ([y24.1]) (aw y16.1) (ax y16.1) (aA y16.1) (ak y16.1) (ah y16.1) (nN y16.1) (nW1 y16.1) (nW2 y16.1) (aF y16.1)),ag x1,())) fun y28 a28 d28 A28=>O 6 (Iz y28.1) [] (y28.1,()) a28 d28 A28))))))else bif x2==[110,101,119]then(B (Fns.skip p T K a d A ()) fun y8 a8 d8 A8=>(B (Fns.made p T K a8 d8 A8 ()) fun y12 a12 d12 A12=>(B (Fns.add p T K a12 d12 A12 ((mkN (ae y12.1) (nAt y12.1) (nTo y12.1) (aa y12.1) (aw y12.1) (ax y12.1) (aA y12.1) (ak y12.1) (ah y12.1) (nN y12.1) (nW1 y12.1) (nW2 y12.1) (aF y12.1)),ag x1,())) fun y16 a16 d16 A16=>O 3 (Iz y16.1) [] (y16.1,()) a16 d16 A16)))else W ((80:Int)) (ag x1)else bif x2==[116,111,100,111,117,98,108,101]then(B (Fns.skip p T K a d A ()) fun y8 a8 d8 A8=>(B (Fns.bracket p T K a8 d8 A8 ()) fun y12 a12 d12 A12=>bif x2==[97,115,107]then(B (Fns.add p T K a12 d12 A12 ((mkN 39 0 0 ([y12.1]) [] 0 [] 0 [] 0 0 0 []),ag x1,())) fun y16 a16 d16 A16=>O 3 (Iz y16.1) [] (y16.1,()) a16 d16 A16)else bif x2==[116,111,105,110,116]then(B (Fns.add p T K a12 d12 A12 ((mkN 36 0 0 ([y12.1]) [] 0 [] 0 [] 0 0 0 []),ag x1,())) fun y16 a16 d16 A16=>O 3 (Iz y16.1) [] (y16.1,()) a16 d16 A16)else bif x2==[116,111,100,111,117,98,108,101]then(B (Fns.add p T K a12 d12 A12 ((mkN 37 0 0 ([y12.1]) [] 0 [] 0 [] 0 0 0 []),ag x1,())) fun y16 a16 d16 A16=>O 3 (Iz y16.1) [] (y16.1,()) a16 d16 A16)else(B (Fns.add p T K a12 d12 A12 ((mkN 41 0 0 ([y12.1]) [] 0 [] 0 [] 0 0 0 []),ag x1,())) fun y16 a16 d16 A16=>O 3 (Iz y16.1) [] (y16.1,()) a16 d16 A16)))else bif x2==[99,97,115,116]then(B (Fns.skip p T K a d A ()) fun y8 a8 d8 A8=>(B (Fns.want p T K a8 d8 A8 ([60],())) fun y12 a12 d12 A12=>(B (Fns.typed p T K a12 d12 A12 (false,())) fun y16 a16 d16 A16=>(B (Fns.want p T K a16 d16 A16 ([62],())) fun y20 a20 d20 A20=>(B (Fns.bracket p T K a20 d20 A20 ()) fun y24 a24 d24 A24=>(B (Fns.add p T K a24 d24 A24 ((mkN 35 (nAt y16.1) (nTo y16.1) ([y24.1]) (aw y16.1) (ax y16.1) (aA y16.1) (ak y16.1) (ah y16.1) (nN y16.1) (nW1 y16.1) (nW2 y16.1) (aF y16.1)),ag x1,())) fun y28 a28 d28 A28=>O 6 (Iz y28.1) [] (y28.1,()) a28 d28 A28))))))else bif x2==[110,101,119]then(B (Fns.skip p T K a d A ()) fun y8 a8 d8 A8=>(B (Fns.made p T K a8 d8 A8 ()) fun y12 a12 d12 A12=>(B (Fns.add p T K a12 d12 A12 ((mkN (ae y12.1) (nAt y12.1) (nTo y12.1) (aa y12.1) (aw y12.1) (ax y12.1) (aA y12.1) (ak y12.1) (ah y12.1) (nN y12.1) (nW1 y12.1) (nW2 y12.1) (aF y12.1)),ag x1,())) fun y16 a16 d16 A16=>O 3 (Iz y16.1) [] (y16.1,()) a16 d16 A16)))else W ((80:Int)) (ag x1)
def rm(p:Fns)(T:TT)(K:KK)(a d:Int)(A:NN)(x1:Tok)(x2:List UInt8):PR (ai [tI]):=tG oP PR.fault eP PR.bind p T K a d A x1 x2
theorem JU(p:Fns)(T:TT)(K:KK)(a d:Int)(A:NN)(x1:Tok)(x2:List UInt8):Ans [tI] T K (body (R:=R0) E (an (aY p)) Dg [.ref 0 0,.agg (flat aH x1),.str x2] (bsP T K a d A) .ok) (rm p T K a d A x1 x2):=mkA (x:=tG (oR T K) fl0 .err bR p T K a d A x1 x2) (by kernel_rfl) (by unfold rm tG;exact An)
end Go.Sx.Tryz
