/- A part of the proof: see the row's text. -/
import Derived.Test.YtaklpoiaicepoaaGreatDoorProg
import Derived.Test.YtaklpoiaicepoaaGreatDoorZa00
import Derived.Test.YtaklpoiaicepoaaGreatDoorZa06
import Derived.KernelRfl
import Derived.Test.YtaklpoiaicepoaaGreatDoorZa08
import Derived.Shelf.Strings.Search3
import Derived.Shelf.Strings.Prefix
import Derived.Shelf.Small.Strs
set_option linter.unusedVariables false
set_option linter.unusedSimpArgs false
noncomputable section
namespace Go.Sx.Tryz
open Go Go.Sx
set_option maxRecDepth 20000
noncomputable section
def zI:AV:=.int .i64 0
def zS:AV:=.str []
def yC(l:List Ty):Ty:=l.foldr .pair .unit
def sf(a b c:Nat):Fld:=⟨a,b,false,c,false⟩
def sg(a b c:Nat):Fld:=⟨a,b,true,c,false⟩
def ti0:TI:=⟨1,0,[.undef],false,false,none,.other⟩
def ti1:TI:=⟨1,8,[.nilf],false,false,none,.other⟩
def ti2:TI:=⟨1,8,[zI],false,false,some (.int .i64),(.int .i64)⟩
def ti3:TI:=⟨1,8,[zI],false,false,some (.int .i64),(.int .i64)⟩
def ti4:TI:=⟨1,1,[(.bool false)],false,false,some .bool,.scalar⟩
def ti5:TI:=⟨1,1,[(.int .u8 0)],false,false,some (.int .u8),(.int .u8)⟩
def ti9:TI:=⟨1,16,[zS],false,false,some .str,.str⟩
def OE:TI:=⟨1,16,[.nili],false,false,none,.iface⟩
def Oq:TI:=⟨1,24,[.nils],false,false,some (.slice (.pair (.int .i64) (.pair (.int .i64) (.pair (.int .i64) (.pair (.slice (.int .i64)) (.pair .str (.pair (.int .i64) (.pair .str (.pair (.int .i64) (.pair .str (.pair (.int .i64) (.pair (.int .i64) (.pair (.int .i64) (.pair (.slice (.int .i64)) .unit)))))))))))))),(.slice 37)⟩
def QF:TI:=⟨2,32,[.nils,zI],true,true,some (.pair (.slice (.pair (.int .i64) (.pair (.int .i64) (.pair (.int .i64) (.pair (.slice (.int .i64)) (.pair .str (.pair (.int .i64) (.pair .str (.pair (.int .i64) (.pair .str (.pair (.int .i64) (.pair (.int .i64) (.pair (.int .i64) (.pair (.slice (.int .i64)) .unit)))))))))))))) (yC [(.int .i64)])),(.struct [sf 0 1 23,sf 1 1 3])⟩
def Qf:TI:=⟨1,8,[zI],false,false,some (.int .i64),(.int .i64)⟩
def QP:TI:=⟨2,16,[zI,zI],true,true,some (yC [(.int .i64),(.int .i64)]),(.struct [sf 0 1 26,sf 1 1 3])⟩
def OX:TI:=⟨2,16,[zI,zI],true,true,some (yC [(.int .i64),(.int .i64)]),(.struct [sf 0 1 3,sf 1 1 3])⟩
def PH:TI:=⟨1,24,[.nils],false,false,some (.slice (.int .i64)),(.slice 3)⟩
def OZ:TI:=⟨4,48,[zI,zS,zI,zS],true,true,some (yC [(.int .i64),.str,(.int .i64),.str]),(.struct [sf 0 1 3,sf 1 1 9,sf 2 1 3,sf 3 1 9])⟩
def OW:TI:=⟨13,160,[zI,zI,zI,.nils,zS,zI,zS,zI,zS,zI,zI,zI,.nils],true,true,some (.pair (.int .i64) (.pair (.int .i64) (.pair (.int .i64) (.pair (.slice (.int .i64)) (.pair .str (.pair (.int .i64) (.pair .str (.pair (.int .i64) (.pair .str (.pair (.int .i64) (.pair (.int .i64) (.pair (.int .i64) (.pair (.slice (.int .i64)) .unit))))))))))))),(.struct [sf 0 1 3,sg 1 2 32,sf 3 1 33,sf 4 1 9,sg 5 4 35,sf 9 1 2,sg 10 2 32,sf 12 1 33])⟩
def Of:TI:=⟨1,24,[.nils],false,false,some (.slice (yC [(.int .i64),(.int .i64),(.int .i64)])),(.slice 50)⟩
def N8:TI:=⟨1,8,[.nilp],false,false,none,(.ptr 48)⟩
def OC:TI:=⟨1,24,[.nils],false,false,some (.slice (.int .u8)),(.slice 5)⟩
def P7:TI:=⟨2,32,[.nilp,.nils],true,true,none,(.struct [sf 0 1 45,sf 1 1 46])⟩
def Ps:TI:=⟨3,24,[zI,zI,zI],true,true,some (yC [(.int .i64),(.int .i64),(.int .i64)]),(.struct [sf 0 1 3,sg 1 2 32])⟩
def NO:TI:=⟨1,16,[.nili],false,false,none,.iface⟩
def OO:TI:=⟨1,8,[.nilp],false,false,none,(.ptr 72)⟩
def Qu:TI:=⟨2,32,[.nils,zI],true,true,some (.pair (.slice (.pair (.int .i64) (.pair (.int .i64) (.pair (.int .i64) (.pair (.slice (.int .i64)) (.pair .str (.pair (.int .i64) (.pair .str (.pair (.int .i64) (.pair .str (.pair (.int .i64) (.pair (.int .i64) (.pair (.int .i64) (.pair (.slice (.int .i64)) .unit)))))))))))))) (yC [(.int .i64)])),(.struct [sg 0 2 25])⟩
def O5:TI:=⟨6,88,[zS,.nils,zI,zI,.nils,zI],true,true,some (.pair .str (.pair (.slice (yC [(.int .i64),(.int .i64),(.int .i64)])) (.pair (.int .i64) (.pair (.int .i64) (.pair (.slice (.pair (.int .i64) (.pair (.int .i64) (.pair (.int .i64) (.pair (.slice (.int .i64)) (.pair .str (.pair (.int .i64) (.pair .str (.pair (.int .i64) (.pair .str (.pair (.int .i64) (.pair (.int .i64) (.pair (.int .i64) (.pair (.slice (.int .i64)) .unit)))))))))))))) (yC [(.int .i64)])))))),(.struct [sf 0 1 9,sf 1 1 42,sf 2 1 3,sf 3 1 3,sg 4 2 70])⟩
def PY:TI:=⟨1,8,[.nilp],false,false,none,(.ptr 79)⟩
def QH:TI:=⟨1,8,[.nilp],false,false,none,(.ptr 86)⟩
def PW:TI:=⟨3,48,[zS,zI,.nils],true,true,some (.pair .str (.pair (.int .i64) (.pair (.slice (yC [(.int .i64),(.int .i64),(.int .i64)])) .unit))),(.struct [sf 0 1 9,sf 1 1 3,sf 2 1 42])⟩
def N1:TI:=⟨1,8,[.nilp],false,false,none,(.ptr 5)⟩
def PI:TI:=⟨1,8,[(.int .u64 0)],false,false,some (.int .u64),(.int .u64)⟩
def IS:TI:=⟨1,24,[.nils],false,false,some (.slice .bool),(.slice 4)⟩
def G9:TI:=⟨5,40,[zS,zI,zI,(.bool false),(.bool false)],true,true,some (yC [.str,(.int .i64),(.int .i64),.bool,.bool]),(.struct [sf 0 1 9,sf 1 1 3,sf 2 1 3,sf 3 1 4,sf 4 1 4])⟩
def Im:TI:=⟨1,8,[.nilf],false,false,none,.other⟩
def G3:TI:=⟨1,8,[(.int .u64 0)],false,false,some (.int .u64),(.int .u64)⟩
def IP:TI:=⟨230,1840,[zS,zI,zI,(.bool false),(.bool false),zS,zI,zI,(.bool false),(.bool false),zS,zI,zI,(.bool false),(.bool false),zS,zI,zI,(.bool false),(.bool false),zS,zI,zI,(.bool false),(.bool false),zS,zI,zI,(.bool false),(.bool false),zS,zI,zI,(.bool false),(.bool false),zS,zI,zI,(.bool false),(.bool false),zS,zI,zI,(.bool false),(.bool false),zS,zI,zI,(.bool false),(.bool false),zS,zI,zI,(.bool false),(.bool false),zS,zI,zI,(.bool false),(.bool false),zS,zI,zI,(.bool false),(.bool false),zS,zI,zI,(.bool false),(.bool false),zS,zI,zI,(.bool false),(.bool false),zS,zI,zI,(.bool false),(.bool false),zS,zI,zI,(.bool false),(.bool false),zS,zI,zI,(.bool false),(.bool false),zS,zI,zI,(.bool false),(.bool false),zS,zI,zI,(.bool false),(.bool false),zS,zI,zI,(.bool false),(.bool false),zS,zI,zI,(.bool false),(.bool false),zS,zI,zI,(.bool false),(.bool false),zS,zI,zI,(.bool false),(.bool false),zS,zI,zI,(.bool false),(.bool false),zS,zI,zI,(.bool false),(.bool false),zS,zI,zI,(.bool false),(.bool false),zS,zI,zI,(.bool false),(.bool false),zS,zI,zI,(.bool false),(.bool false),zS,zI,zI,(.bool false),(.bool false),zS,zI,zI,(.bool false),(.bool false),zS,zI,zI,(.bool false),(.bool false),zS,zI,zI,(.bool false),(.bool false),zS,zI,zI,(.bool false),(.bool false),zS,zI,zI,(.bool false),(.bool false),zS,zI,zI,(.bool false),(.bool false),zS,zI,zI,(.bool false),(.bool false),zS,zI,zI,(.bool false),(.bool false),zS,zI,zI,(.bool false),(.bool false),zS,zI,zI,(.bool false),(.bool false),zS,zI,zI,(.bool false),(.bool false),zS,zI,zI,(.bool false),(.bool false),zS,zI,zI,(.bool false),(.bool false),zS,zI,zI,(.bool false),(.bool false),zS,zI,zI,(.bool false),(.bool false),zS,zI,zI,(.bool false),(.bool false)],true,false,none,(.array 46 106)⟩
def Ji:TI:=⟨1,8,[.nilp],false,false,none,(.ptr 37)⟩
def JM:TI:=⟨1,8,[(.flt .f64 0)],false,false,some (.flt .f64),.other⟩
def H7:TI:=⟨1,8,[zI],false,false,some (.int .i64),(.int .i64)⟩
def HP:TI:=⟨1,8,[.nilp],false,false,none,(.ptr 202)⟩
def Iv:TI:=⟨1,8,[.nilp],false,false,none,(.ptr 210)⟩
def GU:TI:=⟨1,8,[.nilp],false,false,none,(.ptr 218)⟩
def tis:List (Option TI):=[some ti0,some ti1,some ti2,some ti3,some ti4,some ti5,none,none,none,some ti9,none,none,none,none,none,none,none,none,none,none,some OE,none,none,some Oq,none,some QF,some Qf,none,some QP,none,none,none,some OX,some PH,none,some OZ,none,some OW,none,none,none,none,some Of,none,none,some N8,some OC,none,some P7,none,some Ps,none,some NO,none,none,none,none,none,none,none,none,none,none,none,none,none,none,none,some OO,none,some Qu,none,some O5,none,none,none,none,none,none,none,none,none,none,some PY,some QH,none,some PW,none,none,none,none,some N1,none,none,some PI,none,none,none,none,none,none,none,none,none,some IS,none,some G9,none,none,none,none,none,some Im,none,none,none,none,none,none,none,none,none,none,none,some G3,none,none,none,none,none,none,some IP,none,none,none,none,none,none,none,none,none,none,none,none,none,none,none,none,none,none,none,none,none,none,none,none,none,none,none,none,none,some Ji,none,none,none,none,none,none,none,none,none,none,none,none,none,none,none,none,none,none,none,none,none,none,some JM,none,none,none,none,none,none,none,some H7,none,none,some HP,none,none,none,none,none,none,none,none,none,none,none,none,some Iv,none,none,none,none,none,none,none,some GU]
def fi6:FI:=⟨(Go.Proofs.Tryz.f6.body).getD .skip,117,[.tmp 4]⟩
def fi9:FI:=⟨(Go.Proofs.Tryz.f9.body).getD .skip,34,[.tmp 0]⟩
def nv:FI:=⟨(Go.Proofs.Tryz.f10.body).getD .skip,28,[.cell 2 25,.cell 3 28]⟩
def Kk:FI:=⟨(Go.Proofs.Tryz.f11.body).getD .skip,24,[.tmp 4]⟩
def fi12:FI:=⟨(Go.Proofs.Tryz.f12.body).getD .skip,8,[.tmp 4]⟩
def fi14:FI:=⟨(Go.Proofs.Tryz.f14.body).getD .skip,9,[.tmp 4]⟩
def AR:FI:=⟨(Go.Proofs.Tryz.f15.body).getD .skip,78,[.tmp 2,.cell 3 28]⟩
def Mt:FI:=⟨(Go.Proofs.Tryz.f16.body).getD .skip,19,[.tmp 4,.tmp 5]⟩
def LF:FI:=⟨(Go.Proofs.Tryz.f17.body).getD .skip,17,[.tmp 4]⟩
def fi19:FI:=⟨(Go.Proofs.Tryz.f19.body).getD .skip,14,[.tmp 2]⟩
def Pk:FI:=⟨(Go.Proofs.Tryz.f21.body).getD .skip,9,[.tmp 2]⟩
def kv:FI:=⟨(Go.Proofs.Tryz.f23.body).getD .skip,73,[.tmp 4]⟩
def Qm:FI:=⟨(Go.Proofs.Tryz.f25.body).getD .skip,18,[]⟩
def FX:FI:=⟨(Go.Proofs.Tryz.f26.body).getD .skip,27,[]⟩
def Ow:FI:=⟨(Go.Proofs.Tryz.f27.body).getD .skip,15,[.cell 2 25]⟩
def fT:FI:=⟨(Go.Proofs.Tryz.f28.body).getD .skip,142,[.tmp 2]⟩
def sQ:FI:=⟨(Go.Proofs.Tryz.f29.body).getD .skip,69,[]⟩
def ir:FI:=⟨(Go.Proofs.Tryz.f36.body).getD .skip,44,[]⟩
def CP:FI:=⟨(Go.Proofs.Tryz.f37.body).getD .skip,110,[.tmp 2,.tmp 3]⟩
def fi38:FI:=⟨(Go.Proofs.Tryz.f38.body).getD .skip,20,[]⟩
def OK:FI:=⟨(Go.Proofs.Tryz.f45.body).getD .skip,27,[.cell 2 50,.tmp 3]⟩
def Qz:FI:=⟨(Go.Proofs.Tryz.f46.body).getD .skip,17,[]⟩
def Gm:FI:=⟨(Go.Proofs.Tryz.f47.body).getD .skip,64,[.tmp 2]⟩
def Pu:FI:=⟨(Go.Proofs.Tryz.f48.body).getD .skip,54,[.tmp 6]⟩
def uF:FI:=⟨(Go.Proofs.Tryz.f49.body).getD .skip,32,[.cell 2 25]⟩
def L8:FI:=⟨(Go.Proofs.Tryz.f50.body).getD .skip,13,[.cell 2 106]⟩
def uS:FI:=⟨(Go.Proofs.Tryz.f51.body).getD .skip,86,[.tmp 2]⟩
def fi52:FI:=⟨(Go.Proofs.Tryz.f52.body).getD .skip,5,[.tmp 2]⟩
def uY:FI:=⟨(Go.Proofs.Tryz.f53.body).getD .skip,47,[.tmp 2]⟩
def fi54:FI:=⟨(Go.Proofs.Tryz.f54.body).getD .skip,8,[.tmp 4]⟩
def jf:FI:=⟨(Go.Proofs.Tryz.f59.body).getD .skip,34,[]⟩
def Lm:FI:=⟨(Go.Proofs.Tryz.f60.body).getD .skip,17,[.tmp 2]⟩
def Mm:FI:=⟨(Go.Proofs.Tryz.f61.body).getD .skip,21,[.tmp 2]⟩
def Ma:FI:=⟨(Go.Proofs.Tryz.f62.body).getD .skip,9,[.tmp 2]⟩
def KU:FI:=⟨(Go.Proofs.Tryz.f63.body).getD .skip,9,[.tmp 2]⟩
def uM:FI:=⟨(Go.Proofs.Tryz.f64.body).getD .skip,90,[.tmp 2]⟩
def zf:FI:=⟨(Go.Proofs.Tryz.f65.body).getD .skip,50,[.tmp 2]⟩
def N5:FI:=⟨(Go.Proofs.Tryz.f71.body).getD .skip,8,[]⟩
def N2:FI:=⟨(Go.Proofs.Tryz.f72.body).getD .skip,22,[.tmp 4]⟩
def PM:FI:=⟨(Go.Proofs.Tryz.f73.body).getD .skip,25,[.tmp 2]⟩
def PO:FI:=⟨(Go.Proofs.Tryz.f74.body).getD .skip,11,[.tmp 4]⟩
def P6:FI:=⟨(Go.Proofs.Tryz.f75.body).getD .skip,25,[.tmp 4]⟩
def Qh:FI:=⟨(Go.Proofs.Tryz.f76.body).getD .skip,75,[.tmp 2]⟩
def O4:FI:=⟨(Go.Proofs.Tryz.f77.body).getD .skip,40,[.tmp 4,.tmp 5]⟩
def fi78:FI:=⟨(Go.Proofs.Tryz.f78.body).getD .skip,8,[.tmp 2]⟩
def Rw:FI:=⟨(Go.Proofs.Tryz.f79.body).getD .skip,47,[.cell 0 131]⟩
def fi88:FI:=⟨(Go.Proofs.Tryz.f88.body).getD .skip,8,[.tmp 4]⟩
def QJ:FI:=⟨(Go.Proofs.Tryz.f90.body).getD .skip,27,[.tmp 2]⟩
def uE:FI:=⟨(Go.Proofs.Tryz.f91.body).getD .skip,38,[.tmp 2]⟩
def FW:FI:=⟨(Go.Proofs.Tryz.f92.body).getD .skip,43,[.tmp 2]⟩
def F1:FI:=⟨(Go.Proofs.Tryz.f93.body).getD .skip,39,[.tmp 2]⟩
def OH:FI:=⟨(Go.Proofs.Tryz.f94.body).getD .skip,100,[.cell 4 37]⟩
def Eb:FI:=⟨(Go.Proofs.Tryz.f103.body).getD .skip,16,[.tmp 2]⟩
def He:FI:=⟨(Go.Proofs.Tryz.f104.body).getD .skip,25,[]⟩
def H4:FI:=⟨(Go.Proofs.Tryz.f105.body).getD .skip,65,[.tmp 2]⟩
def vk:FI:=⟨(Go.Proofs.Tryz.f106.body).getD .skip,13,[.cell 2 37]⟩
def Jm:FI:=⟨(Go.Proofs.Tryz.f113.body).getD .skip,53,[.tmp 2]⟩
def II:FI:=⟨(Go.Proofs.Tryz.f114.body).getD .skip,16,[.tmp 2]⟩
def Ie:FI:=⟨(Go.Proofs.Tryz.f115.body).getD .skip,80,[.cell 4 37,.tmp 5]⟩
def IV:FI:=⟨(Go.Proofs.Tryz.f116.body).getD .skip,66,[.tmp 4]⟩
def Hx:FI:=⟨(Go.Proofs.Tryz.f117.body).getD .skip,60,[.cell 2 37]⟩
def Ja:FI:=⟨(Go.Proofs.Tryz.f118.body).getD .skip,63,[.tmp 4]⟩
def HF:FI:=⟨(Go.Proofs.Tryz.f119.body).getD .skip,76,[.tmp 4]⟩
def HM:FI:=⟨(Go.Proofs.Tryz.f125.body).getD .skip,44,[.tmp 4,.tmp 5]⟩
def wE:FI:=⟨(Go.Proofs.Tryz.f126.body).getD .skip,78,[.tmp 4]⟩
def Hs:FI:=⟨(Go.Proofs.Tryz.f127.body).getD .skip,11,[.tmp 2]⟩
def wa:FI:=⟨(Go.Proofs.Tryz.f128.body).getD .skip,25,[.tmp 2]⟩
def HY:FI:=⟨(Go.Proofs.Tryz.f129.body).getD .skip,23,[.cell 4 37]⟩
def Hu:FI:=⟨(Go.Proofs.Tryz.f133.body).getD .skip,49,[.tmp 2]⟩
def Ea:FI:=⟨(Go.Proofs.Tryz.f134.body).getD .skip,23,[.tmp 2]⟩
def ve:FI:=⟨(Go.Proofs.Tryz.f135.body).getD .skip,51,[.tmp 2]⟩
def HH:FI:=⟨(Go.Proofs.Tryz.f136.body).getD .skip,78,[.tmp 2]⟩
def HS:FI:=⟨(Go.Proofs.Tryz.f137.body).getD .skip,44,[.tmp 6]⟩
def D9:FI:=⟨(Go.Proofs.Tryz.f138.body).getD .skip,27,[.tmp 2,.tmp 3]⟩
def Hn:FI:=⟨(Go.Proofs.Tryz.f139.body).getD .skip,29,[.tmp 6]⟩
def qL:FI:=⟨(Go.Proofs.Tryz.f140.body).getD .skip,62,[.tmp 2,.tmp 3]⟩
def mH:FI:=⟨(Go.Proofs.Tryz.f141.body).getD .skip,56,[.tmp 2,.tmp 3]⟩
def Jh:FI:=⟨(Go.Proofs.Tryz.f142.body).getD .skip,96,[.tmp 6]⟩
def oC:FI:=⟨(Go.Proofs.Tryz.f143.body).getD .skip,22,[.tmp 2]⟩
def Q3:FI:=⟨(Go.Proofs.Tryz.f144.body).getD .skip,25,[.tmp 6,.tmp 7]⟩
def NC:FI:=⟨(Go.Proofs.Tryz.f145.body).getD .skip,22,[.tmp 4,.tmp 5]⟩
def MQ:FI:=⟨(Go.Proofs.Tryz.f146.body).getD .skip,7,[.tmp 2]⟩
def JR:FI:=⟨(Go.Proofs.Tryz.f148.body).getD .skip,43,[.cell 2 37]⟩
def Mx:FI:=⟨(Go.Proofs.Tryz.f151.body).getD .skip,23,[.tmp 4,.tmp 5]⟩
def J1:FI:=⟨(Go.Proofs.Tryz.f154.body).getD .skip,7,[.tmp 2]⟩
def MS:FI:=⟨(Go.Proofs.Tryz.f160.body).getD .skip,27,[.tmp 4,.tmp 5,.tmp 6]⟩
def Q4:FI:=⟨(Go.Proofs.Tryz.f161.body).getD .skip,43,[.tmp 4]⟩
def M5:FI:=⟨(Go.Proofs.Tryz.f162.body).getD .skip,5,[.tmp 2]⟩
def Ri:FI:=⟨(Go.Proofs.Tryz.f168.body).getD .skip,143,[.tmp 2,.tmp 3,.tmp 4]⟩
def HN:FI:=⟨(Go.Proofs.Tryz.f173.body).getD .skip,50,[.tmp 2,.tmp 3,.tmp 4]⟩
def km:FI:=⟨(Go.Proofs.Tryz.f174.body).getD .skip,253,[.tmp 2,.tmp 3,.tmp 4,.tmp 5,.tmp 6,.tmp 7,.tmp 8]⟩
def fis:List (Option FI):=[none,none,none,none,none,none,some fi6,none,none,some fi9,some nv,some Kk,none,none,none,some AR,some Mt,some LF,none,none,none,some Pk,none,some kv,none,some Qm,some FX,some Ow,some fT,some sQ,none,none,none,none,none,none,some ir,some CP,none,none,none,none,none,none,none,some OK,some Qz,some Gm,some Pu,some uF,some L8,some uS,none,some uY,none,none,none,none,none,some jf,some Lm,some Mm,some Ma,some KU,some uM,some zf,none,none,none,none,none,some N5,some N2,some PM,some PO,some P6,some Qh,some O4,none,some Rw,none,none,none,none,none,none,none,none,none,none,some QJ,some uE,some FW,some F1,some OH,none,none,none,none,none,none,none,none,some Eb,some He,some H4,some vk,none,none,none,none,none,none,some Jm,some II,some Ie,some IV,some Hx,some Ja,some HF,none,none,none,none,none,some HM,some wE,some Hs,some wa,some HY,none,none,none,some Hu,some Ea,some ve,some HH,some HS,some D9,some Hn,some qL,some mH,some Jh,some oC,none,none,some MQ,none,some JR,none,none,none,none,none,some J1,none,none,none,none,none,none,none,some M5,none,none,none,none,none,none,none,none,none,none,some HN,some km]
def E0:Env:=⟨tis,fis,[]⟩
end
end Go.Sx.Tryz
namespace Go.Sx
open Go
def xW(P:Program)(i:Nat)(l:List (Option TI)):Prop:=∀j ti,nth l j=some (some ti)→cR P (i+j) ti.ty=some ti
theorem xW.nil{P:Program}{i:Nat}:xW P i []:=fun j ti h=>by cases j<;>cases h
theorem xW.none{P:Program}{i:Nat}{l:List (Option TI)}(h:xW P (i+1) l):xW P i (Option.none::l):=fun j ti hj=>by
 cases j with
 |zero=>cases hj
 |succ j=>have:=h j ti hj;rwa [show i+(j+1)=i+1+j by omega]
theorem xW.some{P:Program}{i:Nat}{x:TI}{l:List (Option TI)}(hx:cR P i x.ty=Option.some x)(h:xW P (i+1) l):xW P i (Option.some x::l):=fun j ti hj=>by
 cases j with
 |zero=>cases hj;exact hx
 |succ j=>have:=h j ti hj;rwa [show i+(j+1)=i+1+j by omega]
def xZ(P:Program)(i:Nat)(l:List (Option FI)):Prop:=∀j fi,nth l j=some (some fi)→FIOK P (i+j) fi
theorem xZ.nil{P:Program}{i:Nat}:xZ P i []:=fun j ti h=>by cases j<;>cases h
theorem xZ.none{P:Program}{i:Nat}{l:List (Option FI)}(h:xZ P (i+1) l):xZ P i (Option.none::l):=fun j ti hj=>by
 cases j with
 |zero=>cases hj
 |succ j=>have:=h j ti hj;rwa [show i+(j+1)=i+1+j by omega]
theorem xZ.some{P:Program}{i:Nat}{x:FI}{l:List (Option FI)}(hx:FIOK P i x)(h:xZ P (i+1) l):xZ P i (Option.some x::l):=fun j ti hj=>by
 cases j with
 |zero=>cases hj;exact hx
 |succ j=>have:=h j ti hj;rwa [show i+(j+1)=i+1+j by omega]
end Go.Sx
namespace Go.Sx.Tryz
open Go Go.Sx Go.Proofs
set_option maxRecDepth 100000
theorem tc0:cR Tryz.prog 0 ti0.ty=some ti0:=by kernel_rfl
theorem tc1:cR Tryz.prog 1 ti1.ty=some ti1:=by kernel_rfl
theorem tc2:cR Tryz.prog 2 ti2.ty=some ti2:=by kernel_rfl
theorem tc3:cR Tryz.prog 3 ti3.ty=some ti3:=by kernel_rfl
theorem tc4:cR Tryz.prog 4 ti4.ty=some ti4:=by kernel_rfl
theorem tc5:cR Tryz.prog 5 ti5.ty=some ti5:=by kernel_rfl
theorem tc9:cR Tryz.prog 9 ti9.ty=some ti9:=by kernel_rfl
theorem tc20:cR Tryz.prog 20 OE.ty=some OE:=by kernel_rfl
theorem tc23:cR Tryz.prog 23 Oq.ty=some Oq:=by kernel_rfl
theorem tc25:cR Tryz.prog 25 QF.ty=some QF:=by kernel_rfl
theorem tc26:cR Tryz.prog 26 Qf.ty=some Qf:=by kernel_rfl
theorem tc28:cR Tryz.prog 28 QP.ty=some QP:=by kernel_rfl
theorem tc32:cR Tryz.prog 32 OX.ty=some OX:=by kernel_rfl
theorem tc33:cR Tryz.prog 33 PH.ty=some PH:=by kernel_rfl
theorem tc35:cR Tryz.prog 35 OZ.ty=some OZ:=by kernel_rfl
theorem tc37:cR Tryz.prog 37 OW.ty=some OW:=by kernel_rfl
theorem tc42:cR Tryz.prog 42 Of.ty=some Of:=by kernel_rfl
theorem tc45:cR Tryz.prog 45 N8.ty=some N8:=by kernel_rfl
theorem tc46:cR Tryz.prog 46 OC.ty=some OC:=by kernel_rfl
theorem tc48:cR Tryz.prog 48 P7.ty=some P7:=by kernel_rfl
theorem tc50:cR Tryz.prog 50 Ps.ty=some Ps:=by kernel_rfl
theorem tc52:cR Tryz.prog 52 NO.ty=some NO:=by kernel_rfl
theorem tc68:cR Tryz.prog 68 OO.ty=some OO:=by kernel_rfl
theorem tc70:cR Tryz.prog 70 Qu.ty=some Qu:=by kernel_rfl
theorem tc72:cR Tryz.prog 72 O5.ty=some O5:=by kernel_rfl
theorem tc83:cR Tryz.prog 83 PY.ty=some PY:=by kernel_rfl
theorem tc84:cR Tryz.prog 84 QH.ty=some QH:=by kernel_rfl
theorem tc86:cR Tryz.prog 86 PW.ty=some PW:=by kernel_rfl
theorem tc91:cR Tryz.prog 91 N1.ty=some N1:=by kernel_rfl
theorem tc94:cR Tryz.prog 94 PI.ty=some PI:=by kernel_rfl
theorem RB:cR Tryz.prog 104 IS.ty=some IS:=by kernel_rfl
theorem Sv:cR Tryz.prog 106 G9.ty=some G9:=by kernel_rfl
theorem SK:cR Tryz.prog 112 Im.ty=some Im:=by kernel_rfl
theorem RO:cR Tryz.prog 124 G3.ty=some G3:=by kernel_rfl
theorem TQ:cR Tryz.prog 131 IP.ty=some IP:=by kernel_rfl
theorem TS:cR Tryz.prog 161 Ji.ty=some Ji:=by kernel_rfl
theorem R7:cR Tryz.prog 184 JM.ty=some JM:=by kernel_rfl
theorem Sr:cR Tryz.prog 192 H7.ty=some H7:=by kernel_rfl
theorem R6:cR Tryz.prog 195 HP.ty=some HP:=by kernel_rfl
theorem R9:cR Tryz.prog 208 Iv.ty=some Iv:=by kernel_rfl
theorem S0:cR Tryz.prog 216 GU.ty=some GU:=by kernel_rfl
theorem tchk:xW Tryz.prog 0 tis:=
 (.some tc0 (.some tc1 (.some tc2 (.some tc3 (.some tc4 (.some tc5 (.none (.none (.none (.some tc9 (.none (.none (.none (.none (.none (.none (.none (.none (.none (.none (.some tc20 (.none (.none (.some tc23 (.none (.some tc25 (.some tc26 (.none (.some tc28 (.none (.none (.none (.some tc32 (.some tc33 (.none (.some tc35 (.none (.some tc37 (.none (.none (.none (.none (.some tc42 (.none (.none (.some tc45 (.some tc46 (.none (.some tc48 (.none (.some tc50 (.none (.some tc52 (.none (.none (.none (.none (.none (.none (.none (.none (.none (.none (.none (.none (.none (.none (.none (.some tc68 (.none (.some tc70 (.none (.some tc72 (.none (.none (.none (.none (.none (.none (.none (.none (.none (.none (.some tc83 (.some tc84 (.none (.some tc86 (.none (.none (.none (.none (.some tc91 (.none (.none (.some tc94 (.none (.none (.none (.none (.none (.none (.none (.none (.none (.some RB (.none (.some Sv (.none (.none (.none (.none (.none (.some SK (.none (.none (.none (.none (.none (.none (.none (.none (.none (.none (.none (.some RO (.none (.none (.none (.none (.none (.none (.some TQ (.none (.none (.none (.none (.none (.none (.none (.none (.none (.none (.none (.none (.none (.none (.none (.none (.none (.none (.none (.none (.none (.none (.none (.none (.none (.none (.none (.none (.none (.some TS (.none (.none (.none (.none (.none (.none (.none (.none (.none (.none (.none (.none (.none (.none (.none (.none (.none (.none (.none (.none (.none (.none (.some R7 (.none (.none (.none (.none (.none (.none (.none (.some Sr (.none (.none (.some R6 (.none (.none (.none (.none (.none (.none (.none (.none (.none (.none (.none (.none (.some R9 (.none (.none (.none (.none (.none (.none (.none (.some S0 .nil)))))))))))))))))))))))))))))))))))))))))))))))))))))))))))))))))))))))))))))))))))))))))))))))))))))))))))))))))))))))))))))))))))))))))))))))))))))))))))))))))))))))))))))))))))))))))))))))))))))))))))))))))))))))))
theorem fc6:FIOK Tryz.prog 6 fi6:=⟨⟨Tryz.f6,Tryz.func6,rfl,rfl,rfl,by kernel_rfl⟩,by kernel_rfl⟩
theorem fc9:FIOK Tryz.prog 9 fi9:=⟨⟨Tryz.f9,Tryz.func9,rfl,rfl,rfl,by kernel_rfl⟩,by kernel_rfl⟩
theorem Oo:FIOK Tryz.prog 10 nv:=⟨⟨Tryz.f10,Tryz.func10,rfl,rfl,rfl,by kernel_rfl⟩,by kernel_rfl⟩
theorem SI:FIOK Tryz.prog 11 Kk:=⟨⟨Tryz.f11,Tryz.func11,rfl,rfl,rfl,by kernel_rfl⟩,by kernel_rfl⟩
theorem OR:FIOK Tryz.prog 15 AR:=⟨⟨Tryz.f15,Tryz.func15,rfl,rfl,rfl,by kernel_rfl⟩,by kernel_rfl⟩
theorem S3:FIOK Tryz.prog 16 Mt:=⟨⟨Tryz.f16,Tryz.func16,rfl,rfl,rfl,by kernel_rfl⟩,by kernel_rfl⟩
theorem Q5:FIOK Tryz.prog 17 LF:=⟨⟨Tryz.f17,Tryz.func17,rfl,rfl,rfl,by kernel_rfl⟩,by kernel_rfl⟩
theorem S4:FIOK Tryz.prog 21 Pk:=⟨⟨Tryz.f21,Tryz.func21,rfl,rfl,rfl,by kernel_rfl⟩,by kernel_rfl⟩
theorem SB:FIOK Tryz.prog 23 kv:=⟨⟨Tryz.f23,Tryz.func23,rfl,rfl,rfl,by kernel_rfl⟩,by kernel_rfl⟩
theorem fc25:FIOK Tryz.prog 25 Qm:=⟨⟨Tryz.f25,Tryz.func25,rfl,rfl,rfl,by kernel_rfl⟩,by kernel_rfl⟩
theorem L7:FIOK Tryz.prog 26 FX:=⟨⟨Tryz.f26,Tryz.func26,rfl,rfl,rfl,by kernel_rfl⟩,by kernel_rfl⟩
theorem NW:FIOK Tryz.prog 27 Ow:=⟨⟨Tryz.f27,Tryz.func27,rfl,rfl,rfl,by kernel_rfl⟩,by kernel_rfl⟩
theorem TA:FIOK Tryz.prog 28 fT:=⟨⟨Tryz.f28,Tryz.func28,rfl,rfl,rfl,by kernel_rfl⟩,by kernel_rfl⟩
theorem SU:FIOK Tryz.prog 29 sQ:=⟨⟨Tryz.f29,Tryz.func29,rfl,rfl,rfl,by kernel_rfl⟩,by kernel_rfl⟩
theorem Su:FIOK Tryz.prog 36 ir:=⟨⟨Tryz.f36,Tryz.func36,rfl,rfl,rfl,by kernel_rfl⟩,by kernel_rfl⟩
theorem Tf:FIOK Tryz.prog 37 CP:=⟨⟨Tryz.f37,Tryz.func37,rfl,rfl,rfl,by kernel_rfl⟩,by kernel_rfl⟩
theorem TL:FIOK Tryz.prog 45 OK:=⟨⟨Tryz.f45,Tryz.func45,rfl,rfl,rfl,by kernel_rfl⟩,by kernel_rfl⟩
theorem SO:FIOK Tryz.prog 46 Qz:=⟨⟨Tryz.f46,Tryz.func46,rfl,rfl,rfl,by kernel_rfl⟩,by kernel_rfl⟩
theorem S7:FIOK Tryz.prog 47 Gm:=⟨⟨Tryz.f47,Tryz.func47,rfl,rfl,rfl,by kernel_rfl⟩,by kernel_rfl⟩
theorem Si:FIOK Tryz.prog 48 Pu:=⟨⟨Tryz.f48,Tryz.func48,rfl,rfl,rfl,by kernel_rfl⟩,by kernel_rfl⟩
theorem Q8:FIOK Tryz.prog 49 uF:=⟨⟨Tryz.f49,Tryz.func49,rfl,rfl,rfl,by kernel_rfl⟩,by kernel_rfl⟩
theorem Rv:FIOK Tryz.prog 50 L8:=⟨⟨Tryz.f50,Tryz.func50,rfl,rfl,rfl,by kernel_rfl⟩,by kernel_rfl⟩
theorem Sk:FIOK Tryz.prog 51 uS:=⟨⟨Tryz.f51,Tryz.func51,rfl,rfl,rfl,by kernel_rfl⟩,by kernel_rfl⟩
theorem SE:FIOK Tryz.prog 53 uY:=⟨⟨Tryz.f53,Tryz.func53,rfl,rfl,rfl,by kernel_rfl⟩,by kernel_rfl⟩
theorem RT:FIOK Tryz.prog 59 jf:=⟨⟨Tryz.f59,Tryz.func59,rfl,rfl,rfl,by kernel_rfl⟩,by kernel_rfl⟩
theorem Tz:FIOK Tryz.prog 60 Lm:=⟨⟨Tryz.f60,Tryz.func60,rfl,rfl,rfl,by kernel_rfl⟩,by kernel_rfl⟩
theorem Tc:FIOK Tryz.prog 61 Mm:=⟨⟨Tryz.f61,Tryz.func61,rfl,rfl,rfl,by kernel_rfl⟩,by kernel_rfl⟩
theorem Sn:FIOK Tryz.prog 62 Ma:=⟨⟨Tryz.f62,Tryz.func62,rfl,rfl,rfl,by kernel_rfl⟩,by kernel_rfl⟩
theorem Tw:FIOK Tryz.prog 63 KU:=⟨⟨Tryz.f63,Tryz.func63,rfl,rfl,rfl,by kernel_rfl⟩,by kernel_rfl⟩
theorem Sz:FIOK Tryz.prog 64 uM:=⟨⟨Tryz.f64,Tryz.func64,rfl,rfl,rfl,by kernel_rfl⟩,by kernel_rfl⟩
theorem RP:FIOK Tryz.prog 65 zf:=⟨⟨Tryz.f65,Tryz.func65,rfl,rfl,rfl,by kernel_rfl⟩,by kernel_rfl⟩
theorem RL:FIOK Tryz.prog 71 N5:=⟨⟨Tryz.f71,Tryz.func71,rfl,rfl,rfl,by kernel_rfl⟩,by kernel_rfl⟩
theorem Tp:FIOK Tryz.prog 72 N2:=⟨⟨Tryz.f72,Tryz.func72,rfl,rfl,rfl,by kernel_rfl⟩,by kernel_rfl⟩
theorem RA:FIOK Tryz.prog 73 PM:=⟨⟨Tryz.f73,Tryz.func73,rfl,rfl,rfl,by kernel_rfl⟩,by kernel_rfl⟩
theorem Tt:FIOK Tryz.prog 74 PO:=⟨⟨Tryz.f74,Tryz.func74,rfl,rfl,rfl,by kernel_rfl⟩,by kernel_rfl⟩
theorem Sd:FIOK Tryz.prog 75 P6:=⟨⟨Tryz.f75,Tryz.func75,rfl,rfl,rfl,by kernel_rfl⟩,by kernel_rfl⟩
theorem SX:FIOK Tryz.prog 76 Qh:=⟨⟨Tryz.f76,Tryz.func76,rfl,rfl,rfl,by kernel_rfl⟩,by kernel_rfl⟩
theorem RN:FIOK Tryz.prog 77 O4:=⟨⟨Tryz.f77,Tryz.func77,rfl,rfl,rfl,by kernel_rfl⟩,by kernel_rfl⟩
theorem fc79:FIOK Tryz.prog 79 Rw:=⟨⟨Tryz.f79,Tryz.func79,rfl,rfl,rfl,by kernel_rfl⟩,by kernel_rfl⟩
theorem Tu:FIOK Tryz.prog 90 QJ:=⟨⟨Tryz.f90,Tryz.func90,rfl,rfl,rfl,by kernel_rfl⟩,by kernel_rfl⟩
theorem SN:FIOK Tryz.prog 91 uE:=⟨⟨Tryz.f91,Tryz.func91,rfl,rfl,rfl,by kernel_rfl⟩,by kernel_rfl⟩
theorem TO:FIOK Tryz.prog 92 FW:=⟨⟨Tryz.f92,Tryz.func92,rfl,rfl,rfl,by kernel_rfl⟩,by kernel_rfl⟩
theorem RZ:FIOK Tryz.prog 93 F1:=⟨⟨Tryz.f93,Tryz.func93,rfl,rfl,rfl,by kernel_rfl⟩,by kernel_rfl⟩
theorem SV:FIOK Tryz.prog 94 OH:=⟨⟨Tryz.f94,Tryz.func94,rfl,rfl,rfl,by kernel_rfl⟩,by kernel_rfl⟩
theorem Nk:FIOK Tryz.prog 103 Eb:=⟨⟨Tryz.f103,Tryz.func103,rfl,rfl,rfl,by kernel_rfl⟩,by kernel_rfl⟩
theorem MX:FIOK Tryz.prog 104 He:=⟨⟨Tryz.f104,Tryz.func104,rfl,rfl,rfl,by kernel_rfl⟩,by kernel_rfl⟩
theorem Nw:FIOK Tryz.prog 105 H4:=⟨⟨Tryz.f105,Tryz.func105,rfl,rfl,rfl,by kernel_rfl⟩,by kernel_rfl⟩
theorem M3:FIOK Tryz.prog 106 vk:=⟨⟨Tryz.f106,Tryz.func106,rfl,rfl,rfl,by kernel_rfl⟩,by kernel_rfl⟩
theorem Nj:FIOK Tryz.prog 113 Jm:=⟨⟨Tryz.f113,Tryz.func113,rfl,rfl,rfl,by kernel_rfl⟩,by kernel_rfl⟩
theorem Nn:FIOK Tryz.prog 114 II:=⟨⟨Tryz.f114,Tryz.func114,rfl,rfl,rfl,by kernel_rfl⟩,by kernel_rfl⟩
theorem MV:FIOK Tryz.prog 115 Ie:=⟨⟨Tryz.f115,Tryz.func115,rfl,rfl,rfl,by kernel_rfl⟩,by kernel_rfl⟩
theorem M9:FIOK Tryz.prog 116 IV:=⟨⟨Tryz.f116,Tryz.func116,rfl,rfl,rfl,by kernel_rfl⟩,by kernel_rfl⟩
theorem MK:FIOK Tryz.prog 117 Hx:=⟨⟨Tryz.f117,Tryz.func117,rfl,rfl,rfl,by kernel_rfl⟩,by kernel_rfl⟩
theorem Ng:FIOK Tryz.prog 118 Ja:=⟨⟨Tryz.f118,Tryz.func118,rfl,rfl,rfl,by kernel_rfl⟩,by kernel_rfl⟩
theorem MZ:FIOK Tryz.prog 119 HF:=⟨⟨Tryz.f119,Tryz.func119,rfl,rfl,rfl,by kernel_rfl⟩,by kernel_rfl⟩
theorem MY:FIOK Tryz.prog 125 HM:=⟨⟨Tryz.f125,Tryz.func125,rfl,rfl,rfl,by kernel_rfl⟩,by kernel_rfl⟩
theorem ME:FIOK Tryz.prog 126 wE:=⟨⟨Tryz.f126,Tryz.func126,rfl,rfl,rfl,by kernel_rfl⟩,by kernel_rfl⟩
theorem Ni:FIOK Tryz.prog 127 Hs:=⟨⟨Tryz.f127,Tryz.func127,rfl,rfl,rfl,by kernel_rfl⟩,by kernel_rfl⟩
theorem Np:FIOK Tryz.prog 128 wa:=⟨⟨Tryz.f128,Tryz.func128,rfl,rfl,rfl,by kernel_rfl⟩,by kernel_rfl⟩
theorem NB:FIOK Tryz.prog 129 HY:=⟨⟨Tryz.f129,Tryz.func129,rfl,rfl,rfl,by kernel_rfl⟩,by kernel_rfl⟩
theorem M6:FIOK Tryz.prog 133 Hu:=⟨⟨Tryz.f133,Tryz.func133,rfl,rfl,rfl,by kernel_rfl⟩,by kernel_rfl⟩
theorem MD:FIOK Tryz.prog 134 Ea:=⟨⟨Tryz.f134,Tryz.func134,rfl,rfl,rfl,by kernel_rfl⟩,by kernel_rfl⟩
theorem Na:FIOK Tryz.prog 135 ve:=⟨⟨Tryz.f135,Tryz.func135,rfl,rfl,rfl,by kernel_rfl⟩,by kernel_rfl⟩
theorem NF:FIOK Tryz.prog 136 HH:=⟨⟨Tryz.f136,Tryz.func136,rfl,rfl,rfl,by kernel_rfl⟩,by kernel_rfl⟩
theorem ND:FIOK Tryz.prog 137 HS:=⟨⟨Tryz.f137,Tryz.func137,rfl,rfl,rfl,by kernel_rfl⟩,by kernel_rfl⟩
theorem MA:FIOK Tryz.prog 138 D9:=⟨⟨Tryz.f138,Tryz.func138,rfl,rfl,rfl,by kernel_rfl⟩,by kernel_rfl⟩
theorem MO:FIOK Tryz.prog 139 Hn:=⟨⟨Tryz.f139,Tryz.func139,rfl,rfl,rfl,by kernel_rfl⟩,by kernel_rfl⟩
theorem M8:FIOK Tryz.prog 140 qL:=⟨⟨Tryz.f140,Tryz.func140,rfl,rfl,rfl,by kernel_rfl⟩,by kernel_rfl⟩
theorem MM:FIOK Tryz.prog 141 mH:=⟨⟨Tryz.f141,Tryz.func141,rfl,rfl,rfl,by kernel_rfl⟩,by kernel_rfl⟩
theorem Nt:FIOK Tryz.prog 142 Jh:=⟨⟨Tryz.f142,Tryz.func142,rfl,rfl,rfl,by kernel_rfl⟩,by kernel_rfl⟩
theorem MP:FIOK Tryz.prog 143 oC:=⟨⟨Tryz.f143,Tryz.func143,rfl,rfl,rfl,by kernel_rfl⟩,by kernel_rfl⟩
theorem NA:FIOK Tryz.prog 146 MQ:=⟨⟨Tryz.f146,Tryz.func146,rfl,rfl,rfl,by kernel_rfl⟩,by kernel_rfl⟩
theorem My:FIOK Tryz.prog 148 JR:=⟨⟨Tryz.f148,Tryz.func148,rfl,rfl,rfl,by kernel_rfl⟩,by kernel_rfl⟩
theorem Nf:FIOK Tryz.prog 154 J1:=⟨⟨Tryz.f154,Tryz.func154,rfl,rfl,rfl,by kernel_rfl⟩,by kernel_rfl⟩
theorem Nq:FIOK Tryz.prog 162 M5:=⟨⟨Tryz.f162,Tryz.func162,rfl,rfl,rfl,by kernel_rfl⟩,by kernel_rfl⟩
theorem H9:FIOK Tryz.prog 173 HN:=⟨⟨Tryz.f173,Tryz.func173,rfl,rfl,rfl,by kernel_rfl⟩,by kernel_rfl⟩
theorem Jk:FIOK Tryz.prog 174 km:=⟨⟨Tryz.f174,Tryz.func174,rfl,rfl,rfl,by kernel_rfl⟩,by kernel_rfl⟩
theorem fchk:xZ Tryz.prog 0 fis:=
 (.none (.none (.none (.none (.none (.none (.some fc6 (.none (.none (.some fc9 (.some Oo (.some SI (.none (.none (.none (.some OR (.some S3 (.some Q5 (.none (.none (.none (.some S4 (.none (.some SB (.none (.some fc25 (.some L7 (.some NW (.some TA (.some SU (.none (.none (.none (.none (.none (.none (.some Su (.some Tf (.none (.none (.none (.none (.none (.none (.none (.some TL (.some SO (.some S7 (.some Si (.some Q8 (.some Rv (.some Sk (.none (.some SE (.none (.none (.none (.none (.none (.some RT (.some Tz (.some Tc (.some Sn (.some Tw (.some Sz (.some RP (.none (.none (.none (.none (.none (.some RL (.some Tp (.some RA (.some Tt (.some Sd (.some SX (.some RN (.none (.some fc79 (.none (.none (.none (.none (.none (.none (.none (.none (.none (.none (.some Tu (.some SN (.some TO (.some RZ (.some SV (.none (.none (.none (.none (.none (.none (.none (.none (.some Nk (.some MX (.some Nw (.some M3 (.none (.none (.none (.none (.none (.none (.some Nj (.some Nn (.some MV (.some M9 (.some MK (.some Ng (.some MZ (.none (.none (.none (.none (.none (.some MY (.some ME (.some Ni (.some Np (.some NB (.none (.none (.none (.some M6 (.some MD (.some Na (.some NF (.some ND (.some MA (.some MO (.some M8 (.some MM (.some Nt (.some MP (.none (.none (.some NA (.none (.some My (.none (.none (.none (.none (.none (.some Nf (.none (.none (.none (.none (.none (.none (.none (.some Nq (.none (.none (.none (.none (.none (.none (.none (.none (.none (.none (.some H9 (.some Jk .nil)))))))))))))))))))))))))))))))))))))))))))))))))))))))))))))))))))))))))))))))))))))))))))))))))))))))))))))))))))))))))))))))))))))))))))))))))))))))))))))))))))))))))))))))
theorem bb(intr:List (Option aX)):EnvOK ⟨tis,fis,intr⟩ Tryz.prog:=⟨fun t ti h=>by
 have h2:nth tis t=some (some ti):=by
  unfold Env.T at h
  split at h
  ·rename_i x hx;rw[hx,h]
  ·cases h
 have:=tchk t ti h2
 rwa [Nat.zero_add]at this,by kernel_rfl⟩
theorem TE:∀f fi,nth fis f=some (some fi)→FIOK Tryz.prog f fi:=fun f fi h=>by
 have:=fchk f fi h
 rwa [Nat.zero_add]at this
end Go.Sx.Tryz
namespace Go.Sx.Tryz
open Go Go.Sx Go.Proofs
set_option maxRecDepth 100000
abbrev E:Env:=E0
abbrev Iz(n:Int):AV:=.int .i64 n
abbrev aK:Ty:=.pair (.int .i64) (.pair (.int .i64) (.pair (.int .i64) .unit))
abbrev Tok:Type:=aK.den
def ak(x:Tok):Int:=x.1
def ab(x:Tok):Int:=x.2.1
def tTo(x:Tok):Int:=x.2.2.1
abbrev jr:Sig:=[(false,.int .u8)]
abbrev dt:Sig:=[(false,.bool)]
abbrev cZ:Sig:=[(false,.str)]
abbrev iu:Sig:=[(false,.int .i64)]
abbrev uC(c:Bool):R0:=(.ret (.bool c),[])
def isLet(c:Int):Bool:=(decide (c≥97)&&decide (c≤122))||((decide (c≥65)&&decide (c≤90))||c==95)
def aC(c:Int):Bool:=decide (c≥48)&&decide (c≤57)
def aG(c:Int):Bool:=c==32||(c==9||(c==10||c==13))
def fp(c:Int):Bool:=isLet c||aC c
def LW(x:an jr):an dt:=(isLet x.1,())
def Ml(x:an jr):an dt:=(aC x.1,())
def SF(x:an jr):an dt:=(aG x.1,())
def Te(x:an jr):an dt:=(fp x.1,())
def nq:List (Nat×aX):=[(60,cq 60 jr dt (fun _=>true) SF),(61,cq 61 jr dt (fun _=>true) LW),(62,cq 62 jr dt (fun _=>true) Te),(63,cq 63 jr dt (fun _=>true) Ml)]
def bsR(T:List UInt8)(a:Int)(K:List Tok):List Blk:=[.cells 86 [.str T,.int .i64 a,.own 1 0],.list 50 aK 0 false K]
def uI(T:List UInt8)(a:Int)(K:List Tok):List Blk:=[.cells 86 [.str T,.int .i64 a,.own 1 1],.list 50 aK 1 false K]
def jl:List Cut:=[⟨[false,false],some ⟨[(0,[]),(1,[])],[[],[]]⟩⟩]
def yJ(T:List UInt8)(a:Int)(K:List Tok)(f:Nat):St:={tmps:=[(0,.ref 0 0),(1,.fn f [])],blks:=[(0,.cells 86 [.str T,.int .i64 a,.own 1 1]),(1,.list 50 aK 1 false K)],next:=2}
end Go.Sx.Tryz
namespace Go.Sx.Tryz
open Go Go.Sx Go.Proofs
set_option maxRecDepth 100000
def ax(p:Int→Bool)(s:List UInt8):Nat:=(s.takeWhile fun c=>p c.toNat).length
def jm:Nat→List UInt8→Nat
 |0,_=>0
 |n+1,s=>let b:=ax aG s
  bif Lib.hasPrefix (s.drop b) [47,47]then
   let c:=ax (fun c=>c !=10) (s.drop b)
   b+c+jm n (s.drop (b+c))
  else b
def cz(s:List UInt8):Nat:=jm (s.length+1) s
def sc:List UInt8:=[34,92,110,116]
def cG:Nat→List UInt8→Nat×Int
 |_,[]=>(0,61)
 |0,_=>(0,61)
 |n+1,c::r=>bif (c.toNat:Int)==34 then(1,0)else bif (c.toNat:Int)==10 then(0,61)else bif decide ((c.toNat:Int)<32)||decide ((c.toNat:Int)>126)then(0,60)
  else bif (c.toNat:Int)==92 then(match r with
   |[]=>(0,61)
   |d::r'=>bif decide (Lib.indexByte sc (d.toNat:Int).toNat.toUInt8<0)then(0,5)else let q:=cG n r'
    (q.1+2,q.2))
  else let q:=cG n r
   (q.1+1,q.2)
def dL(s:List UInt8):Nat×Int:=let q:=cG s.length (s.drop 1)
 (q.1+1,q.2)
def fj:List UInt8:=[61,61,32,33,61,32,60,61,32,62,61,32,38,38,32,124,124,32]
def tP:List UInt8:=[123,125,40,41,91,93,59,44,46,61,60,62,43,45,42,47,37,33,63]
def at8(s:List UInt8)(i:Nat):Int:=((s.getD i 0).toNat:Int)
def sI(s:List UInt8):Nat×Int:=
 bif decide ((s.length:Int)>1)&&(Lib.contains fj (s.take 2++[32])&&(at8 s 0 !=32&&at8 s 1 !=32))then(2,0)
 else bif decide (Lib.indexByte tP (at8 s 0).toNat.toUInt8≥0)then(1,0)else(0,60)
def ed(s:List UInt8):Int×Int×Nat:=
 bif isLet (at8 s 0)then
  let n:=ax fp s
  bif decide ((n:Int)>64)then(0,2,n)else(1,0,n)
 else bif aC (at8 s 0)then
  let n:=ax aC s
  bif decide (((n:Int)+1)<s.length)&&(at8 s n==46&&aC (at8 s (n+1)))then
   let m:=n+1+ax aC (s.drop (n+1))
   bif decide ((m:Int)>20)then(0,2,m)else(3,0,m)
  else bif decide ((n:Int)>20)then(0,2,n)else(2,0,n)
 else bif at8 s 0==34 then
  let q:=dL s
  bif q.2==0&&decide ((q.1:Int)>256)then(4,2,q.1)else(4,q.2,q.1)
 else let q:=sI s
  (5,q.2,q.1)
def aA(T:List UInt8)(a:Int):List UInt8:=T.drop a.toNat
def whI(p:Int→Bool)(T:List UInt8)(a:Int):Int:=a+ax p (aA T a)
def cQ(T:List UInt8)(a:Int):Int:=a+cz (aA T a)
def ld(T:List UInt8)(a:Int):Int:=a+(dL (aA T a)).1
def rp(T:List UInt8)(a:Int):Int:=(dL (aA T a)).2
def GI(T:List UInt8)(a:Int):Int:=a+(sI (aA T a)).1
def Gv(T:List UInt8)(a:Int):Int:=(sI (aA T a)).2
def aL(T:List UInt8)(a:Int):Int:=a+(ed (aA T a)).2.2
def gx(T:List UInt8)(a:Int):Int:=(ed (aA T a)).1
def fM(T:List UInt8)(a:Int):Int:=(ed (aA T a)).2.1
def okA(T:List UInt8)(a:Int):Bool:=decide (0≤a)&&(decide (a≤T.length)&&decide ((T.length:Int)≤1099511627776))
def lg(T:List UInt8)(a:Int):Bool:=decide (0≤a)&&(decide (a<T.length)&&decide ((T.length:Int)≤1099511627776))
def rdC(f:Nat)(rs:Sig)(p:List UInt8→Int→Bool)(F:List UInt8→Int→an rs)(A:List UInt8→Int→Int):aX:=fun R args bs k=>match args,bs with
 |[.ref 0 0],[.cells 86 [.str T,.int .i64 a,.own 1 0],.list 50 tK 0 false K]=>(match ey tK aK K with
  |some K=>(match p T a with
   |true=>k (.ret (du rs (F T a)),uI T (A T a) K)
   |false=>.err (3000000+f))
  |none=>.err f)
 |_,_=>.err f
def pOf(f:Nat):Int→Bool:=bif Nat.beq f 60 then aG else bif Nat.beq f 62 then fp else aC
def whC:aX:=fun R args bs k=>match args,bs with
 |[.ref 0 0,.fn f []],[.cells 86 [.str T,.int .i64 a,.own 1 0],.list 50 tK 0 false K]=>(match ey tK aK K with
  |some K=>(match(Nat.beq f 60||(Nat.beq f 62||Nat.beq f 63))&&okA T a with
   |true=>k (.ret (.tup []),uI T (whI (pOf f) T a) K)
   |false=>.err 3000059)
  |none=>.err 59)
 |_,_=>.err 59
abbrev mq:Sig:=[(false,.str),(false,.str)]
abbrev Du:Sig:=[(false,.str),(false,.int .u8)]
def hpX(x:an mq):an dt:=(Lib.hasPrefix x.1 x.2.1,())
def Px(x:an mq):an dt:=(Lib.contains x.1 x.2.1,())
def ibS(s:List UInt8)(c:Int):Int:=Lib.indexByte s c.toNat.toUInt8
def ibX(x:an Du):an iu:=(ibS x.1 x.2.1,())
def conB(s:List UInt8):Bool:=Nat.ble s.length 4000000000
def Pj(x:an mq):Bool:=conB x.1
def gk:List (Nat×aX):=[(12,cq 12 mq dt (fun _=>true) hpX),(14,cq 14 mq dt Pj Px),(88,cq 88 Du iu (fun _=>true) ibX)]
def gf:List (Nat×aX):=(59,fA 59 whC)::gk
def gN:List Cut:=[⟨[false,false],some ⟨[(0,[])],[[],[]]⟩⟩,⟨[false,false,false,true,true,false,false],some ⟨[(0,[])],[[],[]]⟩⟩]
def mkR(T:List UInt8)(a:Int)(K:List Tok):St:={tmps:=[(0,.ref 0 0)],blks:=[(0,.cells 86 [.str T,.int .i64 a,.own 1 1]),(1,.list 50 aK 1 false K)],next:=2}
def AG:List Cut:=[⟨[true,true,false,true],some ⟨[(0,[]),(3,[]),(31,[])],[[],[]]⟩⟩]
def N9(T:List UInt8)(a:Int)(K:List Tok)(s:List UInt8)(b:Bool):St:={tmps:=[(0,.ref 0 0),(3,.str s),(31,.bool b)],blks:=[(0,.cells 86 [.str T,.int .i64 a,.own 1 1]),(1,.list 50 aK 1 false K)],next:=2}
def r9:List Cut:=[⟨[true,true,false,false,false],some ⟨[(0,[])],[[],[]]⟩⟩]
end Go.Sx.Tryz
namespace Go.Sx.Tryz
open Go Go.Sx
set_option maxRecDepth 100000
theorem Qk(c:Int):body (R:=R0) E (au []) Lm [.int .u8 c] [] .ok=bif c==32 then Rs.ok (Out.ret (AV.bool true),[])else bif c==9 then Rs.ok (Out.ret (AV.bool true),[])else bif c==10 then Rs.ok (Out.ret (AV.bool true),[])else Rs.ok (Out.ret (AV.bool (c==13)),[]):=by kernel_rfl
theorem Pq(c:Int):body (R:=R0) E (au []) Mm [.int .u8 c] [] .ok=bif decide (c≥97)then bif decide (c≤122)then Rs.ok (Out.ret (AV.bool true),[])else bif decide (c≥65)then bif decide (c≤90)then Rs.ok (Out.ret (AV.bool true),[])else Rs.ok (Out.ret (AV.bool (c==95)),[])else Rs.ok (Out.ret (AV.bool (c==95)),[])else bif decide (c≥65)then bif decide (c≤90)then Rs.ok (Out.ret (AV.bool true),[])else Rs.ok (Out.ret (AV.bool (c==95)),[])else Rs.ok (Out.ret (AV.bool (c==95)),[]):=by kernel_rfl
theorem Od(c:Int):body (R:=R0) E (au []) KU [.int .u8 c] [] .ok=bif decide (c≥48)then Rs.ok (Out.ret (AV.bool (decide (c≤57))),[])else Rs.ok (Out.ret (AV.bool false),[]):=by kernel_rfl
theorem Hh(J:Jump R0)(T:List UInt8)(a:Int)(K:List Tok):start E (au nq) jf jl J [.ref 0 0,.fn 60 []] (bsR T a K) .ok=J 0 {tmps:=[(0,AV.ref 0 0),(1,AV.fn 60 [])],blks:=[(0,Blk.cells 86 [AV.str T,Iz a,AV.own 1 1]),(1,Blk.list 50 aK 1 false K)],next:=2}:=by kernel_rfl
theorem K7(J:Jump R0)(T:List UInt8)(a:Int)(K:List Tok):resume E (au nq) (aT 2 jl 0) J [false,false] jf.code 1 (yJ T a K 60) (cv E 2 jf.results .ok)=bif decide (a<(↑(List.length T):Int))then bif inI a (List.length T)then bif aG (↑(UInt8.toNat (List.getD T (Int.toNat a) 0)):Int)then J 0 {tmps:=[(0,AV.ref 0 0),(1,AV.fn 60 [])],blks:=[(0,Blk.cells 86 [AV.str T,Iz (IntKind.wrap IntKind.i64 (a+1)),AV.own 1 1]),(1,Blk.list 50 aK 1 false K)],next:=2}else Rs.ok (Out.ret (AV.tup []),[Blk.cells 86 [AV.str T,Iz a,AV.own 1 1],Blk.list 50 aK 1 false K])else Rs.err 20 else Rs.ok (Out.ret (AV.tup []),[Blk.cells 86 [AV.str T,Iz a,AV.own 1 1],Blk.list 50 aK 1 false K]):=by kernel_rfl
theorem JC(J:Jump R0)(T:List UInt8)(a:Int)(K:List Tok):start E (au nq) jf jl J [.ref 0 0,.fn 62 []] (bsR T a K) .ok=J 0 {tmps:=[(0,AV.ref 0 0),(1,AV.fn 62 [])],blks:=[(0,Blk.cells 86 [AV.str T,Iz a,AV.own 1 1]),(1,Blk.list 50 aK 1 false K)],next:=2}:=by kernel_rfl
theorem Lw(J:Jump R0)(T:List UInt8)(a:Int)(K:List Tok):resume E (au nq) (aT 2 jl 0) J [false,false] jf.code 1 (yJ T a K 62) (cv E 2 jf.results .ok)=bif decide (a<(↑(List.length T):Int))then bif inI a (List.length T)then bif fp (↑(UInt8.toNat (List.getD T (Int.toNat a) 0)):Int)then J 0 {tmps:=[(0,AV.ref 0 0),(1,AV.fn 62 [])],blks:=[(0,Blk.cells 86 [AV.str T,Iz (IntKind.wrap IntKind.i64 (a+1)),AV.own 1 1]),(1,Blk.list 50 aK 1 false K)],next:=2}else Rs.ok (Out.ret (AV.tup []),[Blk.cells 86 [AV.str T,Iz a,AV.own 1 1],Blk.list 50 aK 1 false K])else Rs.err 20 else Rs.ok (Out.ret (AV.tup []),[Blk.cells 86 [AV.str T,Iz a,AV.own 1 1],Blk.list 50 aK 1 false K]):=by kernel_rfl
theorem Hz(J:Jump R0)(T:List UInt8)(a:Int)(K:List Tok):start E (au nq) jf jl J [.ref 0 0,.fn 63 []] (bsR T a K) .ok=J 0 {tmps:=[(0,AV.ref 0 0),(1,AV.fn 63 [])],blks:=[(0,Blk.cells 86 [AV.str T,Iz a,AV.own 1 1]),(1,Blk.list 50 aK 1 false K)],next:=2}:=by kernel_rfl
theorem KX(J:Jump R0)(T:List UInt8)(a:Int)(K:List Tok):resume E (au nq) (aT 2 jl 0) J [false,false] jf.code 1 (yJ T a K 63) (cv E 2 jf.results .ok)=bif decide (a<(↑(List.length T):Int))then bif inI a (List.length T)then bif aC (↑(UInt8.toNat (List.getD T (Int.toNat a) 0)):Int)then J 0 {tmps:=[(0,AV.ref 0 0),(1,AV.fn 63 [])],blks:=[(0,Blk.cells 86 [AV.str T,Iz (IntKind.wrap IntKind.i64 (a+1)),AV.own 1 1]),(1,Blk.list 50 aK 1 false K)],next:=2}else Rs.ok (Out.ret (AV.tup []),[Blk.cells 86 [AV.str T,Iz a,AV.own 1 1],Blk.list 50 aK 1 false K])else Rs.err 20 else Rs.ok (Out.ret (AV.tup []),[Blk.cells 86 [AV.str T,Iz a,AV.own 1 1],Blk.list 50 aK 1 false K]):=by kernel_rfl
theorem Mo(J:Jump R0)(T:List UInt8)(a:Int)(K:List Tok):start E (au gf) ir gN J [.ref 0 0] (bsR T a K) .ok=J 0 {tmps:=[(0,AV.ref 0 0)],blks:=[(0,Blk.cells 86 [AV.str T,Iz a,AV.own 1 1]),(1,Blk.list 50 aK 1 false K)],next:=2}:=by kernel_rfl
theorem DO(J:Jump R0)(T:List UInt8)(a:Int)(K:List Tok):resume E (au gf) (aT 2 gN 0) J [false,false] ir.code 1 (mkR T a K) (cv E 2 ir.results .ok)=bif (Nat.beq 60 60||(Nat.beq 60 62||Nat.beq 60 63))&&okA T a then bif inB (whI (pOf 60) T a) (↑(List.length T):Int) (List.length T)then bif !Lib.hasPrefix (List.drop (Int.toNat (whI (pOf 60) T a)) (List.take (Int.toNat (↑(List.length T):Int)) T)) [47,47]then Rs.ok (Out.ret (AV.tup []),[Blk.cells 86 [AV.str T,Iz (whI (pOf 60) T a),AV.own 1 2],Blk.list 50 aK 2 false K])else J 1 {tmps:=[(0,AV.ref 0 0)],blks:=[(0,Blk.cells 86 [AV.str T,Iz (whI (pOf 60) T a),AV.own 1 1]),(1,Blk.list 50 aK 1 false K)],next:=2}else Rs.err 108 else Rs.err 3000059:=by kernel_rfl
theorem xh(J:Jump R0)(T:List UInt8)(a:Int)(K:List Tok):resume E (au gf) (aT 2 gN 0) J [false,false,false,true,true,false,false] ir.code 1 (mkR T a K) (cv E 2 ir.results .ok)=bif decide (a<(↑(List.length T):Int))then bif inI a (List.length T)then bif (↑(UInt8.toNat (List.getD T (Int.toNat a) 0)):Int) !=10 then J 1 {tmps:=[(0,AV.ref 0 0)],blks:=[(0,Blk.cells 86 [AV.str T,Iz (IntKind.wrap IntKind.i64 (a+1)),AV.own 1 1]),(1,Blk.list 50 aK 1 false K)],next:=2}else J 0 {tmps:=[(0,AV.ref 0 0)],blks:=[(0,Blk.cells 86 [AV.str T,Iz a,AV.own 1 1]),(1,Blk.list 50 aK 1 false K)],next:=2}else Rs.err 219 else J 0 {tmps:=[(0,AV.ref 0 0)],blks:=[(0,Blk.cells 86 [AV.str T,Iz a,AV.own 1 1]),(1,Blk.list 50 aK 1 false K)],next:=2}:=by kernel_rfl
theorem KQ(J:Jump R0)(T:List UInt8)(a:Int)(K:List Tok):start E (au gk) zf AG J [.ref 0 0] (bsR T a K) .ok=bif inB a (↑(List.length T):Int) (List.length T)then bif decide ((↑(List.length (List.drop (Int.toNat a) (List.take (Int.toNat (↑(List.length T):Int)) T))):Int)>1)then bif inB 0 2 (List.length (List.drop (Int.toNat a) (List.take (Int.toNat (↑(List.length T):Int)) T)))then bif decide (List.length (List.drop (Int.toNat 0) (List.take (Int.toNat 2) (List.drop (Int.toNat a) (List.take (Int.toNat (↑(List.length T):Int)) T))))+List.length [32]<2^62)then bif Lib.contains [61,61,32,33,61,32,60,61,32,62,61,32,38,38,32,124,124,32] (List.drop (Int.toNat 0) (List.take (Int.toNat 2) (List.drop (Int.toNat a) (List.take (Int.toNat (↑(List.length T):Int)) T)))++[32])then bif inI 0 (List.length (List.drop (Int.toNat a) (List.take (Int.toNat (↑(List.length T):Int)) T)))then bif (↑(UInt8.toNat (List.getD (List.drop (Int.toNat a) (List.take (Int.toNat (↑(List.length T):Int)) T)) (Int.toNat 0) 0)):Int) !=32 then bif inI 1 (List.length (List.drop (Int.toNat a) (List.take (Int.toNat (↑(List.length T):Int)) T)))then J 0 {tmps:=[(0,AV.ref 0 0),(3,AV.str (List.drop (Int.toNat a) (List.take (Int.toNat (↑(List.length T):Int)) T))),(31,AV.bool ((↑(UInt8.toNat (List.getD (List.drop (Int.toNat a) (List.take (Int.toNat (↑(List.length T):Int)) T)) (Int.toNat 1) 0)):Int) !=32))],blks:=[(0,Blk.cells 86 [AV.str T,Iz a,AV.own 1 1]),(1,Blk.list 50 aK 1 false K)],next:=2}else Rs.err 216 else J 0 {tmps:=[(0,AV.ref 0 0),(3,AV.str (List.drop (Int.toNat a) (List.take (Int.toNat (↑(List.length T):Int)) T))),(31,AV.bool false)],blks:=[(0,Blk.cells 86 [AV.str T,Iz a,AV.own 1 1]),(1,Blk.list 50 aK 1 false K)],next:=2}else Rs.err 211 else J 0 {tmps:=[(0,AV.ref 0 0),(3,AV.str (List.drop (Int.toNat a) (List.take (Int.toNat (↑(List.length T):Int)) T))),(31,AV.bool false)],blks:=[(0,Blk.cells 86 [AV.str T,Iz a,AV.own 1 1]),(1,Blk.list 50 aK 1 false K)],next:=2}else Rs.err 206 else Rs.err 205 else J 0 {tmps:=[(0,AV.ref 0 0),(3,AV.str (List.drop (Int.toNat a) (List.take (Int.toNat (↑(List.length T):Int)) T))),(31,AV.bool false)],blks:=[(0,Blk.cells 86 [AV.str T,Iz a,AV.own 1 1]),(1,Blk.list 50 aK 1 false K)],next:=2}else Rs.err 108:=by kernel_rfl
theorem Kf(J:Jump R0)(T:List UInt8)(a:Int)(K:List Tok)(s:List UInt8)(b:Bool):resume E (au gk) (aT 2 AG 0) J [true,true,false,true] zf.code 1 (N9 T a K s b) (cv E 2 zf.results .ok)=bif b then Rs.ok (Out.ret (Iz 0),[Blk.cells 86 [AV.str T,Iz (IntKind.wrap IntKind.i64 (a+2)),AV.own 1 1],Blk.list 50 aK 1 false K])else bif inI 0 (List.length s)then bif decide (ibS [123,125,40,41,91,93,59,44,46,61,60,62,43,45,42,47,37,33,63] (↑(UInt8.toNat (List.getD s (Int.toNat 0) 0)):Int)≥0)then Rs.ok (Out.ret (Iz 0),[Blk.cells 86 [AV.str T,Iz (IntKind.wrap IntKind.i64 (a+1)),AV.own 1 1],Blk.list 50 aK 1 false K])else Rs.ok (Out.ret (Iz (Int.ofNat 60)),[Blk.cells 86 [AV.str T,Iz a,AV.own 1 1],Blk.list 50 aK 1 false K])else Rs.err 501:=by kernel_rfl
theorem LU(J:Jump R0)(T:List UInt8)(a:Int)(K:List Tok):start E (au gk) uM r9 J [.ref 0 0] (bsR T a K) .ok=J 0 {tmps:=[(0,AV.ref 0 0)],blks:=[(0,Blk.cells 86 [AV.str T,Iz (IntKind.wrap IntKind.i64 (a+1)),AV.own 1 1]),(1,Blk.list 50 aK 1 false K)],next:=2}:=by kernel_rfl
theorem It(J:Jump R0)(T:List UInt8)(a:Int)(K:List Tok):resume E (au gk) (aT 2 r9 0) J [true,true,false,false,false] uM.code 1 (mkR T a K) (cv E 2 uM.results .ok)=bif decide (a<(↑(List.length T):Int))then bif inI a (List.length T)then bif (↑(UInt8.toNat (List.getD T (Int.toNat a) 0)):Int)==34 then Rs.ok (Out.ret (Iz 0),[Blk.cells 86 [AV.str T,Iz (IntKind.wrap IntKind.i64 (a+1)),AV.own 1 1],Blk.list 50 aK 1 false K])else bif (↑(UInt8.toNat (List.getD T (Int.toNat a) 0)):Int)==10 then Rs.ok (Out.ret (Iz (Int.ofNat 61)),[Blk.cells 86 [AV.str T,Iz a,AV.own 1 1],Blk.list 50 aK 1 false K])else bif decide ((↑(UInt8.toNat (List.getD T (Int.toNat a) 0)):Int)<32)then Rs.ok (Out.ret (Iz (Int.ofNat 60)),[Blk.cells 86 [AV.str T,Iz a,AV.own 1 1],Blk.list 50 aK 1 false K])else bif decide ((↑(UInt8.toNat (List.getD T (Int.toNat a) 0)):Int)>126)then Rs.ok (Out.ret (Iz (Int.ofNat 60)),[Blk.cells 86 [AV.str T,Iz a,AV.own 1 1],Blk.list 50 aK 1 false K])else bif (↑(UInt8.toNat (List.getD T (Int.toNat a) 0)):Int)==92 then bif decide (IntKind.wrap IntKind.i64 (a+1)≥(↑(List.length T):Int))then Rs.ok (Out.ret (Iz (Int.ofNat 61)),[Blk.cells 86 [AV.str T,Iz a,AV.own 1 1],Blk.list 50 aK 1 false K])else bif inI (IntKind.wrap IntKind.i64 (a+1)) (List.length T)then bif decide (ibS [34,92,110,116] (↑(UInt8.toNat (List.getD T (Int.toNat (IntKind.wrap IntKind.i64 (a+1))) 0)):Int)<0)then Rs.ok (Out.ret (Iz (Int.ofNat 5)),[Blk.cells 86 [AV.str T,Iz a,AV.own 1 1],Blk.list 50 aK 1 false K])else J 0 {tmps:=[(0,AV.ref 0 0)],blks:=[(0,Blk.cells 86 [AV.str T,Iz (IntKind.wrap IntKind.i64 (IntKind.wrap IntKind.i64 (a+1)+1)),AV.own 1 1]),(1,Blk.list 50 aK 1 false K)],next:=2}else Rs.err 1409 else J 0 {tmps:=[(0,AV.ref 0 0)],blks:=[(0,Blk.cells 86 [AV.str T,Iz (IntKind.wrap IntKind.i64 (a+1)),AV.own 1 1]),(1,Blk.list 50 aK 1 false K)],next:=2}else Rs.err 308 else Rs.ok (Out.ret (Iz (Int.ofNat 61)),[Blk.cells 86 [AV.str T,Iz a,AV.own 1 1],Blk.list 50 aK 1 false K]):=by kernel_rfl
end Go.Sx.Tryz
namespace Go.Sx.Tryz
open Go Go.Sx Go.Proofs
set_option maxRecDepth 100000
variable{G:Nat→Obj→Prop}
theorem mw(T:List UInt8)(a:Int):List.drop (Int.toNat a) (List.take (Int.toNat (T.length:Int)) T)=aA T a:=by
 rw[Int.toNat_natCast,List.take_length]
 rfl
theorem Bc{T pre r:List UInt8}(h:T=pre++r):aA T (pre.length:Int)=r:=by
 unfold aA
 rw[h,Int.toNat_natCast,List.drop_left]
theorem gY{T:List UInt8}{a:Int}(h0:0≤a)(h1:a≤T.length):((aA T a).length:Int)=T.length-a:=by
 unfold aA
 rw[List.length_drop]
 omega
theorem G7{T:List UInt8}{a:Int}(h0:0≤a)(i:Nat):(aA T a).getD i 0=T.getD (a.toNat+i) 0:=by
 unfold aA
 simp[List.getD,List.getElem?_drop]
theorem tE(pre:List UInt8)(c:UInt8)(r:List UInt8):inI (pre.length:Int) (pre++c::r).length=true:=by
 simp only[inI,List.length_append,List.length_cons,Bool.and_eq_true,decide_eq_true_eq]
 omega
theorem OY(x:an jr):SAD Tryz.prog G 60 jr dt x (SF x):=by
 obtain⟨c,⟨⟩⟩:=x
 have key:∀c:Int,body (R:=R0) E (au []) Lm [.int .u8 c] [] .ok=Rs.ok (uC (aG c)):=fun c=>by
  rw[Qk]
  unfold aG
  cases (c==(32:Int))<;>cases (c==(9:Int))<;>cases (c==(10:Int))<;>rfl
 exact cg (bb []) (aQ .nil) Tz (key c)
theorem Cl(x:an jr):SAD Tryz.prog G 61 jr dt x (LW x):=by
 obtain⟨c,⟨⟩⟩:=x
 have key:∀c:Int,body (R:=R0) E (au []) Mm [.int .u8 c] [] .ok=Rs.ok (uC (isLet c)):=fun c=>by
  rw[Pq]
  unfold isLet
  cases decide (c≥97)<;>cases decide (c≤122)<;>cases decide (c≥65)<;>cases decide (c≤90)<;>rfl
 exact cg (bb []) (aQ .nil) Tc (key c)
theorem CC(x:an jr):SAD Tryz.prog G 63 jr dt x (Ml x):=by
 obtain⟨c,⟨⟩⟩:=x
 have key:∀c:Int,body (R:=R0) E (au []) KU [.int .u8 c] [] .ok=Rs.ok (uC (aC c)):=fun c=>by
  rw[Od]
  unfold aC
  cases decide (c≥48)<;>cases decide (c≤57)<;>rfl
 exact cg (bb []) (aQ .nil) Tw (key c)
def NH:List (Nat×aX):=[(61,cq 61 jr dt (fun _=>true) LW),(63,cq 63 jr dt (fun _=>true) Ml)]
theorem Ky(c:Int):body (R:=R0) E (au NH) Ma [.int .u8 c] [] .ok=bif isLet c then Rs.ok (Out.ret (AV.bool true),[])else Rs.ok (Out.ret (AV.bool (aC c)),[]):=by kernel_rfl
theorem O1(x:an jr):SAD Tryz.prog G 62 jr dt x (Te x):=by
 obtain⟨c,⟨⟩⟩:=x
 have key:∀c:Int,body (R:=R0) E (au NH) Ma [.int .u8 c] [] .ok=Rs.ok (uC (fp c)):=fun c=>by
  rw[Ky]
  unfold fp
  cases isLet c<;>rfl
 exact cg (bb []) (aQ (.cons (aW fun x _=>Cl x) (.cons (aW fun x _=>CC x) .nil))) Sn (key c)
theorem DS:bw Tryz.prog G nq:=.cons (aW fun x _=>OY x) (.cons (aW fun x _=>Cl x) (.cons (aW fun x _=>O1 x) (.cons (aW fun x _=>CC x) .nil)))
def fZ(g:Nat)(v:AV)(T:List UInt8)(a:Int)(K:List Tok):R0:=(.ret v,[.cells 86 [.str T,.int .i64 a,.own 1 g],.list 50 aK g false K])
theorem qf(T:List UInt8)(a:Int)(K:List Tok):FV (bsR T a K):=fun ee tt gg sh l hm=>by
 simp only[bsR,List.mem_cons,List.not_mem_nil,or_false,reduceCtorEq,false_or]at hm
 cases hm
 rfl
theorem AP{f g:Nat}{args:List AV}{v:AV}{T:List UInt8}{a a':Int}{K K':List Tok}(h:SA Tryz.prog G f args (bsR T a K) (fZ g v T a' K'))(hv:∀get,gV get (fun _=>1) v=some v)(hp:bN v=true):
  SA Tryz.prog G f args (bsR T a K) (.ret v,uI T a' K'):=by
 refine SA.bump (q:=fun _=>1) h (qf T a K) (fun _ _=>Nat.le_refl _) (hv _) ?_ (by rw[hp];rfl)
 simp[gBs,gB,eN,gA,aw,aH,uI]
theorem su{f:Nat}{rs:Sig}{p:List UInt8→Int→Bool}{F:List UInt8→Int→an rs}{A:List UInt8→Int→Int}
  (h:∀(T:List UInt8) (a:Int) (K:List Tok),p T a=true→SA Tryz.prog G f [.ref 0 0] (bsR T a K) (.ret (du rs (F T a)),uI T (A T a) K)):aP Tryz.prog G f (rdC f rs p F A):=fun R args bs k r hr=>by
 unfold rdC at hr
 split at hr
 ·split at hr
  ·rename_i K' hc
   split at hr
   ·rename_i hd
    obtain⟨e,hK⟩:=ik hc
    subst e
    subst hK
    exact⟨_,hr,h _ _ _ hd⟩
   ·cases hr
  ·cases hr
 ·cases hr
theorem fG(p:Int→Bool)(c:UInt8)(r:List UInt8):ax p (c::r)=bif p c.toNat then ax p r+1 else 0:=by
 unfold ax
 rw[List.takeWhile_cons]
 cases p (c.toNat:Int)<;>rfl
theorem eH(p:Int→Bool):∀s:List UInt8,ax p s≤s.length
 |[]=>Nat.le_refl _
 |c::s=>by
  rw[fG]
  have:=eH p s
  cases p (c.toNat:Int)<;>simp<;>omega
theorem Db{f:Nat}{p:Int→Bool}(heq:∀(J:Jump R0) (T:List UInt8) (a:Int) (K:List Tok),resume E (au nq) (aT 2 jl 0) J [false,false] jf.code 1 (yJ T a K f) (cv E 2 jf.results .ok)=
  bif decide (a<(T.length:Int))then bif inI a T.length then bif p ((List.getD T (Int.toNat a) 0).toNat:Int)then J 0 (yJ T (IntKind.wrap .i64 (a+1)) K f)else .ok (fZ 1 (.tup []) T a K)else .err 20 else .ok (fZ 1 (.tup []) T a K))
  {T:List UInt8} {K:List Tok} (hT:(T.length:Int)≤1099511627776):∀(r pre:List UInt8) (fuel:Nat),T=pre++r→r.length<fuel→pieces (R:=R0) E (au nq) jf jl 2 .ok fuel 0 (yJ T pre.length K f)= .ok (fZ 1 (.tup []) T ((pre.length:Int)+ax p r) K)
 |r,pre,0,_,hf=>by omega
 |[],pre,fuel+1,hp,_=>by
  refine(heq (pieces (R:=R0) E (au nq) jf jl 2 .ok fuel) T pre.length K).trans ?_
  have h1:¬((pre.length:Int)<T.length):=by rw[hp,List.append_nil];omega
  simp only[h1,decide_false,cond_false]
  show _=Rs.ok (fZ 1 (.tup []) T ((pre.length:Int)+0) K)
  rw[Int.add_zero]
 |c::r,pre,fuel+1,hp,hf=>by
  have hlen:pre.length+1+r.length=T.length:=by rw[hp];simp;omega
  have ih:=Db (K:=K) heq hT r (pre++[c]) fuel (by simp[hp]) (by simpa using hf)
  refine(heq (pieces (R:=R0) E (au nq) jf jl 2 .ok fuel) T pre.length K).trans ?_
  have h1:(pre.length:Int)<T.length:=by omega
  have h2:inI (pre.length:Int) T.length=true:=by rw[hp];exact tE _ _ _
  have h3:List.getD T pre.length 0=c:=by rw[hp];exact eu _ _ _
  have h4:IntKind.wrap .i64 ((pre.length:Int)+1)=(pre.length:Int)+1:=wrap64 (by omega) (by omega)
  have h5:(((pre++[c]).length:Nat):Int)=(pre.length:Int)+1:=by simp
  simp only[h1,h2,h3,h4,Int.toNat_natCast,decide_true,cond_true]
  rw[fG]
  cases p (c.toNat:Int)
  ·simp only[cond_false]
   show _=Rs.ok (fZ 1 (.tup []) T ((pre.length:Int)+0) K)
   rw[Int.add_zero]
  ·simp only[cond_true]
   rw[h5]at ih
   rw[ih]
   congr 2
   omega
theorem sr{T:List UInt8}{a:Int}(h0:0≤a)(h1:a≤T.length):∃pre,T=pre++aA T a∧(pre.length:Int)=a:=by
 refine⟨T.take a.toNat,?_,?_⟩
 ·unfold aA
  rw[List.take_append_drop]
 ·rw[List.length_take];omega
theorem jK{T:List UInt8}{a:Int}:okA T a=true↔0≤a∧a≤T.length∧(T.length:Int)≤1099511627776:=by simp only[okA,Bool.and_eq_true,decide_eq_true_eq]
theorem jj{T:List UInt8}{a:Int}:lg T a=true↔0≤a∧a<T.length∧(T.length:Int)≤1099511627776:=by simp only[lg,Bool.and_eq_true,decide_eq_true_eq]
theorem HO:aP Tryz.prog G 59 whC:=fun R args bs k r hr=>by
 unfold whC at hr
 split at hr
 ·rename_i f T a tK K
  split at hr
  ·rename_i K' hc
   split at hr
   ·rename_i hd
    obtain⟨e,hK⟩:=ik hc
    subst e
    subst hK
    simp only[Bool.and_eq_true,Bool.or_eq_true]at hd
    obtain⟨hf,ha⟩:=hd
    obtain⟨a0,a1,a2⟩:=jK.1 ha
    obtain⟨pre,hp,hl⟩:=sr a0 a1
    refine⟨_,hr,?_⟩
    have fin:∀{f:Nat} {p:Int→Bool},pOf f=p→(∀(J:Jump R0) (T:List UInt8) (a:Int) (K:List Tok),start E (au nq) jf jl J [.ref 0 0,.fn f []] (bsR T a K) .ok=J 0 (yJ T a K f))→(∀(J:Jump R0) (T:List UInt8) (a:Int) (K:List Tok),resume E (au nq) (aT 2 jl 0) J [false,false] jf.code 1 (yJ T a K f) (cv E 2 jf.results .ok)=
      bif decide (a<(T.length:Int))then bif inI a T.length then bif p ((List.getD T (Int.toNat a) 0).toNat:Int)then J 0 (yJ T (IntKind.wrap .i64 (a+1)) K f)else .ok (fZ 1 (.tup []) T a K)else .err 20 else .ok (fZ 1 (.tup []) T a K))→
      SA Tryz.prog G 59 [.ref 0 0,.fn f []] (bsR T a K) (.ret (.tup []),uI T (whI (pOf f) T a) K):=fun{f p} hpf hs hl0=>by
     have h:=Db (K:=K) hl0 a2 (aA T a) pre ((aA T a).length+1) hp (by omega)
     rw[hl]at h
     have h2:=(hs (pieces (R:=R0) E (au nq) jf jl 2 .ok ((aA T a).length+1)) T a K).trans h
     rw[←hpf]at h2
     exact AP (bu (bb []) (aQ DS) RT (.inl (qf T a K)) h2) (fun _=>rfl) rfl
    rcases hf with hf|hf|hf
    ·have:=beq_eq hf
     subst this
     exact fin (p:=aG) rfl Hh K7
    ·have:=beq_eq hf
     subst this
     exact fin (p:=fp) rfl JC Lw
    ·have:=beq_eq hf
     subst this
     exact fin (p:=aC) rfl Hz KX
   ·cases hr
  ·cases hr
 ·cases hr
end Go.Sx.Tryz
