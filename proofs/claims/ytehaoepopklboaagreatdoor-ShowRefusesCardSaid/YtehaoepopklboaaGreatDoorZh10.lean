/- A part of the proof: see the row's text. -/
import Derived.Test.YtehaoepopklboaaGreatDoorProg
import Derived.Test.YtehaoepopklboaaGreatDoorZh00
import Derived.Test.YtehaoepopklboaaGreatDoorZh06
import Derived.KernelRfl
import Derived.Test.YtehaoepopklboaaGreatDoorZh08
import Derived.Shelf.Strings.Search3
import Derived.Shelf.Strings.Prefix
import Derived.Shelf.Small.Strs
set_option linter.unusedVariables false
set_option linter.unusedSimpArgs false
noncomputable section
namespace Go.Sx.Tryz
open Go Go.Sx
set_option maxRecDepth 20000
noncomputable section
def zI:AV:=.int .i64 0
def zS:AV:=.str []
def yC(l:List Ty):Ty:=l.foldr .pair .unit
def sf(a b c:Nat):Fld:=⟨a,b,false,c,false⟩
def sg(a b c:Nat):Fld:=⟨a,b,true,c,false⟩
def ti0:TI:=⟨1,0,[.undef],false,false,none,.other⟩
def ti1:TI:=⟨1,8,[.nilf],false,false,none,.other⟩
def ti2:TI:=⟨1,8,[zI],false,false,some (.int .i64),(.int .i64)⟩
def ti3:TI:=⟨1,8,[zI],false,false,some (.int .i64),(.int .i64)⟩
def ti4:TI:=⟨1,1,[(.bool false)],false,false,some .bool,.scalar⟩
def ti5:TI:=⟨1,1,[(.int .u8 0)],false,false,some (.int .u8),(.int .u8)⟩
def ti9:TI:=⟨1,16,[zS],false,false,some .str,.str⟩
def JX:TI:=⟨1,16,[.nili],false,false,none,.iface⟩
def KD:TI:=⟨1,8,[zI],false,false,some (.int .i64),(.int .i64)⟩
def IF:TI:=⟨1,24,[.nils],false,false,some (.slice (.pair (.int .i64) (.pair (.int .i64) (.pair (.int .i64) (.pair (.slice (.int .i64)) (.pair .str (.pair (.int .i64) (.pair .str (.pair (.int .i64) (.pair .str (.pair (.int .i64) (.pair (.int .i64) (.pair (.int .i64) (.pair (.slice (.int .i64)) .unit)))))))))))))),(.slice 52)⟩
def Ig:TI:=⟨2,32,[.nils,zI],true,true,some (.pair (.slice (.pair (.int .i64) (.pair (.int .i64) (.pair (.int .i64) (.pair (.slice (.int .i64)) (.pair .str (.pair (.int .i64) (.pair .str (.pair (.int .i64) (.pair .str (.pair (.int .i64) (.pair (.int .i64) (.pair (.int .i64) (.pair (.slice (.int .i64)) .unit)))))))))))))) (yC [(.int .i64)])),(.struct [sf 0 1 26,sf 1 1 3])⟩
def IL:TI:=⟨2,16,[zI,zI],true,true,some (yC [(.int .i64),(.int .i64)]),(.struct [sf 0 1 23,sf 1 1 3])⟩
def H2:TI:=⟨1,24,[.nils],false,false,some (.slice (yC [(.int .i64),(.int .i64),(.int .i64)])),(.slice 46)⟩
def IK:TI:=⟨2,16,[zI,zI],true,true,some (yC [(.int .i64),(.int .i64)]),(.struct [sf 0 1 3,sf 1 1 3])⟩
def IG:TI:=⟨3,24,[zI,zI,zI],true,true,some (yC [(.int .i64),(.int .i64),(.int .i64)]),(.struct [sf 0 1 3,sg 1 2 44])⟩
def Ji:TI:=⟨1,24,[.nils],false,false,some (.slice (.int .i64)),(.slice 3)⟩
def Jr:TI:=⟨4,48,[zI,zS,zI,zS],true,true,some (yC [(.int .i64),.str,(.int .i64),.str]),(.struct [sf 0 1 3,sf 1 1 9,sf 2 1 3,sf 3 1 9])⟩
def KJ:TI:=⟨13,160,[zI,zI,zI,.nils,zS,zI,zS,zI,zS,zI,zI,zI,.nils],true,true,some (.pair (.int .i64) (.pair (.int .i64) (.pair (.int .i64) (.pair (.slice (.int .i64)) (.pair .str (.pair (.int .i64) (.pair .str (.pair (.int .i64) (.pair .str (.pair (.int .i64) (.pair (.int .i64) (.pair (.int .i64) (.pair (.slice (.int .i64)) .unit))))))))))))),(.struct [sf 0 1 3,sg 1 2 44,sf 3 1 48,sf 4 1 9,sg 5 4 50,sf 9 1 2,sg 10 2 44,sf 12 1 48])⟩
def Ia:TI:=⟨1,8,[.nilp],false,false,none,(.ptr 67)⟩
def Iq:TI:=⟨1,8,[.nilp],false,false,none,(.ptr 65)⟩
def Ju:TI:=⟨1,24,[.nils],false,false,some (.slice (.int .u8)),(.slice 5)⟩
def Kw:TI:=⟨2,32,[.nilp,.nils],true,true,none,(.struct [sf 0 1 62,sf 1 1 63])⟩
def Kh:TI:=⟨5,72,[.nilp,.nils,.nils,zI,zI],true,true,none,(.struct [sg 0 2 65,sg 2 2 28,sf 4 1 23])⟩
def Jx:TI:=⟨1,16,[.nili],false,false,none,.iface⟩
def Ka:TI:=⟨2,32,[.nils,zI],true,true,some (.pair (.slice (.pair (.int .i64) (.pair (.int .i64) (.pair (.int .i64) (.pair (.slice (.int .i64)) (.pair .str (.pair (.int .i64) (.pair .str (.pair (.int .i64) (.pair .str (.pair (.int .i64) (.pair (.int .i64) (.pair (.int .i64) (.pair (.slice (.int .i64)) .unit)))))))))))))) (yC [(.int .i64)])),(.struct [sg 0 2 28])⟩
def JE:TI:=⟨1,8,[.nilf],false,false,none,.other⟩
def Kc:TI:=⟨1,8,[.nilp],false,false,none,(.ptr 85)⟩
def Jy:TI:=⟨6,88,[zS,.nils,zI,zI,.nils,zI],true,true,some (.pair .str (.pair (.slice (yC [(.int .i64),(.int .i64),(.int .i64)])) (.pair (.int .i64) (.pair (.int .i64) (.pair (.slice (.pair (.int .i64) (.pair (.int .i64) (.pair (.int .i64) (.pair (.slice (.int .i64)) (.pair .str (.pair (.int .i64) (.pair .str (.pair (.int .i64) (.pair .str (.pair (.int .i64) (.pair (.int .i64) (.pair (.int .i64) (.pair (.slice (.int .i64)) .unit)))))))))))))) (yC [(.int .i64)])))))),(.struct [sf 0 1 9,sf 1 1 39,sf 2 1 3,sf 3 1 3,sg 4 2 75])⟩
def Iw:TI:=⟨1,8,[.nilp],false,false,none,(.ptr 89)⟩
def J6:TI:=⟨3,48,[zS,zI,.nils],true,true,some (.pair .str (.pair (.int .i64) (.pair (.slice (yC [(.int .i64),(.int .i64),(.int .i64)])) .unit))),(.struct [sf 0 1 9,sf 1 1 3,sf 2 1 39])⟩
def JD:TI:=⟨1,8,[(.int .u64 0)],false,false,some (.int .u64),(.int .u64)⟩
def C8:TI:=⟨1,24,[.nils],false,false,some (.slice .bool),(.slice 4)⟩
def DQ:TI:=⟨5,40,[zS,zI,zI,(.bool false),(.bool false)],true,true,some (yC [.str,(.int .i64),(.int .i64),.bool,.bool]),(.struct [sf 0 1 9,sf 1 1 3,sf 2 1 3,sf 3 1 4,sf 4 1 4])⟩
def B3:TI:=⟨1,8,[.nilp],false,false,none,(.ptr 5)⟩
def DE:TI:=⟨1,24,[.nils],false,false,some (.slice .str),(.slice 9)⟩
def Dr:TI:=⟨1,8,[(.int .u64 0)],false,false,some (.int .u64),(.int .u64)⟩
def Ec:TI:=⟨230,1840,[zS,zI,zI,(.bool false),(.bool false),zS,zI,zI,(.bool false),(.bool false),zS,zI,zI,(.bool false),(.bool false),zS,zI,zI,(.bool false),(.bool false),zS,zI,zI,(.bool false),(.bool false),zS,zI,zI,(.bool false),(.bool false),zS,zI,zI,(.bool false),(.bool false),zS,zI,zI,(.bool false),(.bool false),zS,zI,zI,(.bool false),(.bool false),zS,zI,zI,(.bool false),(.bool false),zS,zI,zI,(.bool false),(.bool false),zS,zI,zI,(.bool false),(.bool false),zS,zI,zI,(.bool false),(.bool false),zS,zI,zI,(.bool false),(.bool false),zS,zI,zI,(.bool false),(.bool false),zS,zI,zI,(.bool false),(.bool false),zS,zI,zI,(.bool false),(.bool false),zS,zI,zI,(.bool false),(.bool false),zS,zI,zI,(.bool false),(.bool false),zS,zI,zI,(.bool false),(.bool false),zS,zI,zI,(.bool false),(.bool false),zS,zI,zI,(.bool false),(.bool false),zS,zI,zI,(.bool false),(.bool false),zS,zI,zI,(.bool false),(.bool false),zS,zI,zI,(.bool false),(.bool false),zS,zI,zI,(.bool false),(.bool false),zS,zI,zI,(.bool false),(.bool false),zS,zI,zI,(.bool false),(.bool false),zS,zI,zI,(.bool false),(.bool false),zS,zI,zI,(.bool false),(.bool false),zS,zI,zI,(.bool false),(.bool false),zS,zI,zI,(.bool false),(.bool false),zS,zI,zI,(.bool false),(.bool false),zS,zI,zI,(.bool false),(.bool false),zS,zI,zI,(.bool false),(.bool false),zS,zI,zI,(.bool false),(.bool false),zS,zI,zI,(.bool false),(.bool false),zS,zI,zI,(.bool false),(.bool false),zS,zI,zI,(.bool false),(.bool false),zS,zI,zI,(.bool false),(.bool false),zS,zI,zI,(.bool false),(.bool false),zS,zI,zI,(.bool false),(.bool false),zS,zI,zI,(.bool false),(.bool false),zS,zI,zI,(.bool false),(.bool false),zS,zI,zI,(.bool false),(.bool false),zS,zI,zI,(.bool false),(.bool false)],true,false,none,(.array 46 104)⟩
def Cp:TI:=⟨1,8,[(.flt .f64 0)],false,false,some (.flt .f64),.other⟩
def BQ:TI:=⟨1,8,[.nilp],false,false,none,(.ptr 52)⟩
def Bu:TI:=⟨1,8,[.nilp],false,false,none,(.ptr 173)⟩
def Cm:TI:=⟨1,8,[zI],false,false,some (.int .i64),(.int .i64)⟩
def C4:TI:=⟨1,8,[.nilp],false,false,none,(.ptr 205)⟩
def Cv:TI:=⟨1,8,[.nilp],false,false,none,(.ptr 221)⟩
def D0:TI:=⟨1,8,[.nilp],false,false,none,(.ptr 239)⟩
def tis:List (Option TI):=[some ti0,some ti1,some ti2,some ti3,some ti4,some ti5,none,none,none,some ti9,none,none,none,none,none,none,none,none,none,none,some JX,none,none,some KD,none,none,some IF,none,some Ig,none,none,none,none,none,none,some IL,none,none,none,some H2,none,none,none,none,some IK,none,some IG,none,some Ji,none,some Jr,none,some KJ,none,none,none,none,none,none,none,none,some Ia,some Iq,some Ju,none,some Kw,none,some Kh,none,some Jx,none,none,none,none,none,some Ka,none,none,none,none,none,none,some JE,some Kc,none,some Jy,none,some Iw,none,some J6,none,none,none,none,none,none,some JD,none,none,none,none,none,some C8,none,some DQ,none,none,none,some B3,none,none,none,some DE,none,none,none,none,none,none,none,none,none,none,none,none,none,none,none,none,some Dr,none,none,none,some Ec,none,none,none,none,none,none,none,none,none,none,none,none,none,none,none,none,none,none,none,none,none,none,some Cp,none,none,none,none,none,none,none,none,none,none,none,none,none,some BQ,none,none,none,none,none,none,some Bu,none,none,none,none,none,none,none,none,none,none,none,none,none,none,some Cm,some C4,none,none,none,none,none,none,none,none,none,none,none,none,none,none,none,none,none,none,none,none,none,none,none,none,none,some Cv,none,none,none,none,none,none,none,none,none,none,none,none,none,none,none,none,none,some D0]
def fi3:FI:=⟨(Go.Proofs.Tryz.f3.body).getD .skip,76,[.tmp 6]⟩
def fi9:FI:=⟨(Go.Proofs.Tryz.f9.body).getD .skip,43,[.tmp 0]⟩
def pG:FI:=⟨(Go.Proofs.Tryz.f10.body).getD .skip,52,[.tmp 2,.tmp 3]⟩
def Mx:FI:=⟨(Go.Proofs.Tryz.f11.body).getD .skip,27,[.cell 2 28]⟩
def K0:FI:=⟨(Go.Proofs.Tryz.f12.body).getD .skip,53,[.cell 2 28]⟩
def Jw:FI:=⟨(Go.Proofs.Tryz.f13.body).getD .skip,56,[.cell 2 28]⟩
def pM:FI:=⟨(Go.Proofs.Tryz.f14.body).getD .skip,38,[.tmp 2]⟩
def jZ:FI:=⟨(Go.Proofs.Tryz.f15.body).getD .skip,28,[.cell 2 28,.cell 3 35]⟩
def u4:FI:=⟨(Go.Proofs.Tryz.f17.body).getD .skip,78,[.tmp 2,.cell 3 35]⟩
def K8:FI:=⟨(Go.Proofs.Tryz.f19.body).getD .skip,88,[.tmp 4,.tmp 5]⟩
def fi20:FI:=⟨(Go.Proofs.Tryz.f20.body).getD .skip,9,[.tmp 4]⟩
def fi22:FI:=⟨(Go.Proofs.Tryz.f22.body).getD .skip,125,[.tmp 4]⟩
def fi26:FI:=⟨(Go.Proofs.Tryz.f26.body).getD .skip,8,[.tmp 4]⟩
def dQ:FI:=⟨(Go.Proofs.Tryz.f27.body).getD .skip,142,[.tmp 2]⟩
def BR:FI:=⟨(Go.Proofs.Tryz.f28.body).getD .skip,19,[.tmp 4,.tmp 5]⟩
def MV:FI:=⟨(Go.Proofs.Tryz.f29.body).getD .skip,97,[]⟩
def fi30:FI:=⟨(Go.Proofs.Tryz.f30.body).getD .skip,14,[.tmp 2]⟩
def Ke:FI:=⟨(Go.Proofs.Tryz.f31.body).getD .skip,40,[.tmp 4,.tmp 5]⟩
def Km:FI:=⟨(Go.Proofs.Tryz.f32.body).getD .skip,15,[.cell 2 28]⟩
def Jz:FI:=⟨(Go.Proofs.Tryz.f33.body).getD .skip,17,[.tmp 2]⟩
def ND:FI:=⟨(Go.Proofs.Tryz.f34.body).getD .skip,9,[.tmp 2]⟩
def LY:FI:=⟨(Go.Proofs.Tryz.f35.body).getD .skip,49,[.tmp 2]⟩
def MG:FI:=⟨(Go.Proofs.Tryz.f36.body).getD .skip,29,[.tmp 2]⟩
def Gs:FI:=⟨(Go.Proofs.Tryz.f37.body).getD .skip,21,[.tmp 2]⟩
def Ff:FI:=⟨(Go.Proofs.Tryz.f38.body).getD .skip,9,[.tmp 2]⟩
def E5:FI:=⟨(Go.Proofs.Tryz.f39.body).getD .skip,16,[.tmp 2]⟩
def JH:FI:=⟨(Go.Proofs.Tryz.f40.body).getD .skip,18,[]⟩
def zK:FI:=⟨(Go.Proofs.Tryz.f41.body).getD .skip,27,[]⟩
def fh:FI:=⟨(Go.Proofs.Tryz.f42.body).getD .skip,44,[]⟩
def wR:FI:=⟨(Go.Proofs.Tryz.f43.body).getD .skip,110,[.tmp 2,.tmp 3]⟩
def Ij:FI:=⟨(Go.Proofs.Tryz.f45.body).getD .skip,9,[.tmp 2]⟩
def Lz:FI:=⟨(Go.Proofs.Tryz.f46.body).getD .skip,39,[]⟩
def NL:FI:=⟨(Go.Proofs.Tryz.f47.body).getD .skip,62,[]⟩
def JL:FI:=⟨(Go.Proofs.Tryz.f48.body).getD .skip,9,[.tmp 2]⟩
def Ni:FI:=⟨(Go.Proofs.Tryz.f49.body).getD .skip,91,[]⟩
def K7:FI:=⟨(Go.Proofs.Tryz.f50.body).getD .skip,89,[]⟩
def L8:FI:=⟨(Go.Proofs.Tryz.f51.body).getD .skip,8,[.tmp 4]⟩
def EG:FI:=⟨(Go.Proofs.Tryz.f61.body).getD .skip,13,[.cell 2 104]⟩
def pH:FI:=⟨(Go.Proofs.Tryz.f62.body).getD .skip,86,[.tmp 2]⟩
def fi63:FI:=⟨(Go.Proofs.Tryz.f63.body).getD .skip,20,[]⟩
def JB:FI:=⟨(Go.Proofs.Tryz.f64.body).getD .skip,13,[]⟩
def LC:FI:=⟨(Go.Proofs.Tryz.f65.body).getD .skip,14,[]⟩
def fi66:FI:=⟨(Go.Proofs.Tryz.f66.body).getD .skip,8,[.tmp 2]⟩
def pS:FI:=⟨(Go.Proofs.Tryz.f67.body).getD .skip,32,[.cell 2 28]⟩
def fi68:FI:=⟨(Go.Proofs.Tryz.f68.body).getD .skip,8,[.tmp 4]⟩
def I1:FI:=⟨(Go.Proofs.Tryz.f69.body).getD .skip,27,[.cell 2 46,.tmp 3]⟩
def JN:FI:=⟨(Go.Proofs.Tryz.f70.body).getD .skip,17,[]⟩
def z8:FI:=⟨(Go.Proofs.Tryz.f71.body).getD .skip,64,[.tmp 2]⟩
def IP:FI:=⟨(Go.Proofs.Tryz.f72.body).getD .skip,54,[.tmp 6]⟩
def fQ:FI:=⟨(Go.Proofs.Tryz.f73.body).getD .skip,34,[]⟩
def E7:FI:=⟨(Go.Proofs.Tryz.f74.body).getD .skip,17,[.tmp 2]⟩
def EZ:FI:=⟨(Go.Proofs.Tryz.f75.body).getD .skip,9,[.tmp 2]⟩
def pL:FI:=⟨(Go.Proofs.Tryz.f76.body).getD .skip,90,[.tmp 2]⟩
def uG:FI:=⟨(Go.Proofs.Tryz.f77.body).getD .skip,50,[.tmp 2]⟩
def I3:FI:=⟨(Go.Proofs.Tryz.f79.body).getD .skip,16,[.tmp 2]⟩
def Lm:FI:=⟨(Go.Proofs.Tryz.f80.body).getD .skip,155,[]⟩
def Nr:FI:=⟨(Go.Proofs.Tryz.f81.body).getD .skip,10,[]⟩
def NU:FI:=⟨(Go.Proofs.Tryz.f82.body).getD .skip,157,[]⟩
def NH:FI:=⟨(Go.Proofs.Tryz.f83.body).getD .skip,22,[]⟩
def MC:FI:=⟨(Go.Proofs.Tryz.f84.body).getD .skip,21,[]⟩
def NI:FI:=⟨(Go.Proofs.Tryz.f85.body).getD .skip,43,[]⟩
def Nx:FI:=⟨(Go.Proofs.Tryz.f86.body).getD .skip,16,[.tmp 4]⟩
def Lf:FI:=⟨(Go.Proofs.Tryz.f94.body).getD .skip,47,[.cell 0 133]⟩
def Ii:FI:=⟨(Go.Proofs.Tryz.f97.body).getD .skip,8,[]⟩
def H5:FI:=⟨(Go.Proofs.Tryz.f98.body).getD .skip,22,[.tmp 4]⟩
def Iv:FI:=⟨(Go.Proofs.Tryz.f99.body).getD .skip,25,[.tmp 2]⟩
def Cw:FI:=⟨(Go.Proofs.Tryz.f100.body).getD .skip,11,[.tmp 4]⟩
def Em:FI:=⟨(Go.Proofs.Tryz.f101.body).getD .skip,25,[.tmp 4]⟩
def Ch:FI:=⟨(Go.Proofs.Tryz.f102.body).getD .skip,75,[.tmp 2]⟩
def xK:FI:=⟨(Go.Proofs.Tryz.f103.body).getD .skip,23,[.tmp 2]⟩
def GD:FI:=⟨(Go.Proofs.Tryz.f104.body).getD .skip,74,[]⟩
def CB:FI:=⟨(Go.Proofs.Tryz.f105.body).getD .skip,6,[.tmp 2]⟩
def GN:FI:=⟨(Go.Proofs.Tryz.f106.body).getD .skip,62,[]⟩
def GP:FI:=⟨(Go.Proofs.Tryz.f107.body).getD .skip,98,[]⟩
def G4:FI:=⟨(Go.Proofs.Tryz.f108.body).getD .skip,31,[]⟩
def jM:FI:=⟨(Go.Proofs.Tryz.f109.body).getD .skip,47,[.tmp 2]⟩
def GI:FI:=⟨(Go.Proofs.Tryz.f110.body).getD .skip,21,[.tmp 4]⟩
def KU:FI:=⟨(Go.Proofs.Tryz.f119.body).getD .skip,8,[.tmp 4]⟩
def yg:FI:=⟨(Go.Proofs.Tryz.f120.body).getD .skip,17,[.tmp 4]⟩
def Dm:FI:=⟨(Go.Proofs.Tryz.f122.body).getD .skip,27,[.tmp 2]⟩
def p7:FI:=⟨(Go.Proofs.Tryz.f123.body).getD .skip,43,[.tmp 2]⟩
def ra:FI:=⟨(Go.Proofs.Tryz.f124.body).getD .skip,39,[.tmp 2]⟩
def Cz:FI:=⟨(Go.Proofs.Tryz.f125.body).getD .skip,100,[.cell 4 52]⟩
def yq:FI:=⟨(Go.Proofs.Tryz.f126.body).getD .skip,7,[.tmp 2]⟩
def mn:FI:=⟨(Go.Proofs.Tryz.f127.body).getD .skip,62,[.tmp 2,.tmp 3]⟩
def qH:FI:=⟨(Go.Proofs.Tryz.f128.body).getD .skip,46,[.tmp 2,.tmp 3]⟩
def Cy:FI:=⟨(Go.Proofs.Tryz.f132.body).getD .skip,25,[]⟩
def Ci:FI:=⟨(Go.Proofs.Tryz.f133.body).getD .skip,65,[.tmp 2]⟩
def rG:FI:=⟨(Go.Proofs.Tryz.f134.body).getD .skip,13,[.cell 2 52]⟩
def KQ:FI:=⟨(Go.Proofs.Tryz.f135.body).getD .skip,43,[.tmp 4]⟩
def kv:FI:=⟨(Go.Proofs.Tryz.f136.body).getD .skip,22,[.tmp 2]⟩
def GS:FI:=⟨(Go.Proofs.Tryz.f137.body).getD .skip,22,[.tmp 4,.tmp 5]⟩
def GK:FI:=⟨(Go.Proofs.Tryz.f138.body).getD .skip,7,[.tmp 2]⟩
def Eo:FI:=⟨(Go.Proofs.Tryz.f145.body).getD .skip,53,[.tmp 2]⟩
def Dc:FI:=⟨(Go.Proofs.Tryz.f146.body).getD .skip,16,[.tmp 2]⟩
def CD:FI:=⟨(Go.Proofs.Tryz.f147.body).getD .skip,80,[.cell 4 52,.tmp 5]⟩
def CC:FI:=⟨(Go.Proofs.Tryz.f148.body).getD .skip,66,[.tmp 4]⟩
def DM:FI:=⟨(Go.Proofs.Tryz.f149.body).getD .skip,60,[.cell 2 52]⟩
def Dz:FI:=⟨(Go.Proofs.Tryz.f150.body).getD .skip,63,[.tmp 4]⟩
def CT:FI:=⟨(Go.Proofs.Tryz.f151.body).getD .skip,76,[.tmp 4]⟩
def Hu:FI:=⟨(Go.Proofs.Tryz.f159.body).getD .skip,23,[.tmp 4,.tmp 5]⟩
def Bx:FI:=⟨(Go.Proofs.Tryz.f169.body).getD .skip,44,[.tmp 4,.tmp 5]⟩
def qV:FI:=⟨(Go.Proofs.Tryz.f170.body).getD .skip,78,[.tmp 4]⟩
def Cu:FI:=⟨(Go.Proofs.Tryz.f171.body).getD .skip,11,[.tmp 2]⟩
def qo:FI:=⟨(Go.Proofs.Tryz.f172.body).getD .skip,25,[.tmp 2]⟩
def BU:FI:=⟨(Go.Proofs.Tryz.f173.body).getD .skip,23,[.cell 4 52]⟩
def GX:FI:=⟨(Go.Proofs.Tryz.f177.body).getD .skip,27,[.tmp 4,.tmp 5,.tmp 6]⟩
def DJ:FI:=⟨(Go.Proofs.Tryz.f188.body).getD .skip,49,[.tmp 2]⟩
def xS:FI:=⟨(Go.Proofs.Tryz.f189.body).getD .skip,23,[.tmp 2]⟩
def M8:FI:=⟨(Go.Proofs.Tryz.f193.body).getD .skip,143,[.tmp 2,.tmp 3,.tmp 4]⟩
def rz:FI:=⟨(Go.Proofs.Tryz.f200.body).getD .skip,51,[.tmp 2]⟩
def C9:FI:=⟨(Go.Proofs.Tryz.f201.body).getD .skip,50,[.tmp 2,.tmp 3,.tmp 4]⟩
def hH:FI:=⟨(Go.Proofs.Tryz.f202.body).getD .skip,253,[.tmp 2,.tmp 3,.tmp 4,.tmp 5,.tmp 6,.tmp 7,.tmp 8]⟩
def BK:FI:=⟨(Go.Proofs.Tryz.f215.body).getD .skip,78,[.tmp 2]⟩
def De:FI:=⟨(Go.Proofs.Tryz.f216.body).getD .skip,44,[.tmp 6]⟩
def Ht:FI:=⟨(Go.Proofs.Tryz.f220.body).getD .skip,5,[.tmp 2]⟩
def zt:FI:=⟨(Go.Proofs.Tryz.f231.body).getD .skip,27,[.tmp 2,.tmp 3]⟩
def Ef:FI:=⟨(Go.Proofs.Tryz.f232.body).getD .skip,29,[.tmp 6]⟩
def jI:FI:=⟨(Go.Proofs.Tryz.f233.body).getD .skip,56,[.tmp 2,.tmp 3]⟩
def Dg:FI:=⟨(Go.Proofs.Tryz.f234.body).getD .skip,96,[.tmp 6]⟩
def NG:FI:=⟨(Go.Proofs.Tryz.f238.body).getD .skip,25,[.tmp 6,.tmp 7]⟩
def BL:FI:=⟨(Go.Proofs.Tryz.f239.body).getD .skip,43,[.cell 2 52]⟩
def fis:List (Option FI):=[none,none,none,some fi3,none,none,none,none,none,some fi9,some pG,some Mx,some K0,some Jw,some pM,some jZ,none,some u4,none,some K8,none,none,none,none,none,none,none,some dQ,some BR,some MV,none,some Ke,some Km,some Jz,some ND,some LY,some MG,some Gs,some Ff,some E5,some JH,some zK,some fh,some wR,none,some Ij,some Lz,some NL,some JL,some Ni,some K7,some L8,none,none,none,none,none,none,none,none,none,some EG,some pH,none,some JB,some LC,none,some pS,none,some I1,some JN,some z8,some IP,some fQ,some E7,some EZ,some pL,some uG,none,some I3,some Lm,some Nr,some NU,some NH,some MC,some NI,some Nx,none,none,none,none,none,none,none,some Lf,none,none,some Ii,some H5,some Iv,some Cw,some Em,some Ch,some xK,some GD,some CB,some GN,some GP,some G4,some jM,some GI,none,none,none,none,none,none,none,none,none,some yg,none,some Dm,some p7,some ra,some Cz,some yq,some mn,some qH,none,none,none,some Cy,some Ci,some rG,none,some kv,none,some GK,none,none,none,none,none,none,some Eo,some Dc,some CD,some CC,some DM,some Dz,some CT,none,none,none,none,none,none,none,none,none,none,none,none,none,none,none,none,none,some Bx,some qV,some Cu,some qo,some BU,none,none,none,none,none,none,none,none,none,none,none,none,none,none,some DJ,some xS,none,none,none,none,none,none,none,none,none,none,some rz,some C9,some hH,none,none,none,none,none,none,none,none,none,none,none,none,some BK,some De,none,none,none,some Ht,none,none,none,none,none,none,none,none,none,none,some zt,some Ef,some jI,some Dg,none,none,none,none,some BL]
def E0:Env:=⟨tis,fis,[]⟩
end
end Go.Sx.Tryz
namespace Go.Sx
open Go
def sk(P:Program)(i:Nat)(l:List (Option TI)):Prop:=∀j ti,nth l j=some (some ti)→b5 P (i+j) ti.ty=some ti
theorem sk.nil{P:Program}{i:Nat}:sk P i []:=fun j ti h=>by cases j<;>cases h
theorem sk.none{P:Program}{i:Nat}{l:List (Option TI)}(h:sk P (i+1) l):sk P i (Option.none::l):=fun j ti hj=>by
 cases j with
 |zero=>cases hj
 |succ j=>have:=h j ti hj;rwa [show i+(j+1)=i+1+j by omega]
theorem sk.some{P:Program}{i:Nat}{x:TI}{l:List (Option TI)}(hx:b5 P i x.ty=Option.some x)(h:sk P (i+1) l):sk P i (Option.some x::l):=fun j ti hj=>by
 cases j with
 |zero=>cases hj;exact hx
 |succ j=>have:=h j ti hj;rwa [show i+(j+1)=i+1+j by omega]
def tM(P:Program)(i:Nat)(l:List (Option FI)):Prop:=∀j fi,nth l j=some (some fi)→FIOK P (i+j) fi
theorem tM.nil{P:Program}{i:Nat}:tM P i []:=fun j ti h=>by cases j<;>cases h
theorem tM.none{P:Program}{i:Nat}{l:List (Option FI)}(h:tM P (i+1) l):tM P i (Option.none::l):=fun j ti hj=>by
 cases j with
 |zero=>cases hj
 |succ j=>have:=h j ti hj;rwa [show i+(j+1)=i+1+j by omega]
theorem tM.some{P:Program}{i:Nat}{x:FI}{l:List (Option FI)}(hx:FIOK P i x)(h:tM P (i+1) l):tM P i (Option.some x::l):=fun j ti hj=>by
 cases j with
 |zero=>cases hj;exact hx
 |succ j=>have:=h j ti hj;rwa [show i+(j+1)=i+1+j by omega]
end Go.Sx
namespace Go.Sx.Tryz
open Go Go.Sx Go.Proofs
set_option maxRecDepth 100000
theorem tc0:b5 Tryz.prog 0 ti0.ty=some ti0:=by kernel_rfl
theorem tc1:b5 Tryz.prog 1 ti1.ty=some ti1:=by kernel_rfl
theorem tc2:b5 Tryz.prog 2 ti2.ty=some ti2:=by kernel_rfl
theorem tc3:b5 Tryz.prog 3 ti3.ty=some ti3:=by kernel_rfl
theorem tc4:b5 Tryz.prog 4 ti4.ty=some ti4:=by kernel_rfl
theorem tc5:b5 Tryz.prog 5 ti5.ty=some ti5:=by kernel_rfl
theorem tc9:b5 Tryz.prog 9 ti9.ty=some ti9:=by kernel_rfl
theorem tc20:b5 Tryz.prog 20 JX.ty=some JX:=by kernel_rfl
theorem tc23:b5 Tryz.prog 23 KD.ty=some KD:=by kernel_rfl
theorem tc26:b5 Tryz.prog 26 IF.ty=some IF:=by kernel_rfl
theorem tc28:b5 Tryz.prog 28 Ig.ty=some Ig:=by kernel_rfl
theorem tc35:b5 Tryz.prog 35 IL.ty=some IL:=by kernel_rfl
theorem tc39:b5 Tryz.prog 39 H2.ty=some H2:=by kernel_rfl
theorem tc44:b5 Tryz.prog 44 IK.ty=some IK:=by kernel_rfl
theorem tc46:b5 Tryz.prog 46 IG.ty=some IG:=by kernel_rfl
theorem tc48:b5 Tryz.prog 48 Ji.ty=some Ji:=by kernel_rfl
theorem tc50:b5 Tryz.prog 50 Jr.ty=some Jr:=by kernel_rfl
theorem tc52:b5 Tryz.prog 52 KJ.ty=some KJ:=by kernel_rfl
theorem tc61:b5 Tryz.prog 61 Ia.ty=some Ia:=by kernel_rfl
theorem tc62:b5 Tryz.prog 62 Iq.ty=some Iq:=by kernel_rfl
theorem tc63:b5 Tryz.prog 63 Ju.ty=some Ju:=by kernel_rfl
theorem tc65:b5 Tryz.prog 65 Kw.ty=some Kw:=by kernel_rfl
theorem tc67:b5 Tryz.prog 67 Kh.ty=some Kh:=by kernel_rfl
theorem tc69:b5 Tryz.prog 69 Jx.ty=some Jx:=by kernel_rfl
theorem tc75:b5 Tryz.prog 75 Ka.ty=some Ka:=by kernel_rfl
theorem tc82:b5 Tryz.prog 82 JE.ty=some JE:=by kernel_rfl
theorem tc83:b5 Tryz.prog 83 Kc.ty=some Kc:=by kernel_rfl
theorem tc85:b5 Tryz.prog 85 Jy.ty=some Jy:=by kernel_rfl
theorem tc87:b5 Tryz.prog 87 Iw.ty=some Iw:=by kernel_rfl
theorem tc89:b5 Tryz.prog 89 J6.ty=some J6:=by kernel_rfl
theorem tc96:b5 Tryz.prog 96 JD.ty=some JD:=by kernel_rfl
theorem K9:b5 Tryz.prog 102 C8.ty=some C8:=by kernel_rfl
theorem NK:b5 Tryz.prog 104 DQ.ty=some DQ:=by kernel_rfl
theorem Nw:b5 Tryz.prog 108 B3.ty=some B3:=by kernel_rfl
theorem LL:b5 Tryz.prog 112 DE.ty=some DE:=by kernel_rfl
theorem LV:b5 Tryz.prog 129 Dr.ty=some Dr:=by kernel_rfl
theorem LU:b5 Tryz.prog 133 Ec.ty=some Ec:=by kernel_rfl
theorem MZ:b5 Tryz.prog 156 Cp.ty=some Cp:=by kernel_rfl
theorem Mq:b5 Tryz.prog 170 BQ.ty=some BQ:=by kernel_rfl
theorem M6:b5 Tryz.prog 177 Bu.ty=some Bu:=by kernel_rfl
theorem KO:b5 Tryz.prog 192 Cm.ty=some Cm:=by kernel_rfl
theorem Mh:b5 Tryz.prog 193 C4.ty=some C4:=by kernel_rfl
theorem K6:b5 Tryz.prog 219 Cv.ty=some Cv:=by kernel_rfl
theorem NQ:b5 Tryz.prog 237 D0.ty=some D0:=by kernel_rfl
theorem tchk:sk Tryz.prog 0 tis:=
 (.some tc0 (.some tc1 (.some tc2 (.some tc3 (.some tc4 (.some tc5 (.none (.none (.none (.some tc9 (.none (.none (.none (.none (.none (.none (.none (.none (.none (.none (.some tc20 (.none (.none (.some tc23 (.none (.none (.some tc26 (.none (.some tc28 (.none (.none (.none (.none (.none (.none (.some tc35 (.none (.none (.none (.some tc39 (.none (.none (.none (.none (.some tc44 (.none (.some tc46 (.none (.some tc48 (.none (.some tc50 (.none (.some tc52 (.none (.none (.none (.none (.none (.none (.none (.none (.some tc61 (.some tc62 (.some tc63 (.none (.some tc65 (.none (.some tc67 (.none (.some tc69 (.none (.none (.none (.none (.none (.some tc75 (.none (.none (.none (.none (.none (.none (.some tc82 (.some tc83 (.none (.some tc85 (.none (.some tc87 (.none (.some tc89 (.none (.none (.none (.none (.none (.none (.some tc96 (.none (.none (.none (.none (.none (.some K9 (.none (.some NK (.none (.none (.none (.some Nw (.none (.none (.none (.some LL (.none (.none (.none (.none (.none (.none (.none (.none (.none (.none (.none (.none (.none (.none (.none (.none (.some LV (.none (.none (.none (.some LU (.none (.none (.none (.none (.none (.none (.none (.none (.none (.none (.none (.none (.none (.none (.none (.none (.none (.none (.none (.none (.none (.none (.some MZ (.none (.none (.none (.none (.none (.none (.none (.none (.none (.none (.none (.none (.none (.some Mq (.none (.none (.none (.none (.none (.none (.some M6 (.none (.none (.none (.none (.none (.none (.none (.none (.none (.none (.none (.none (.none (.none (.some KO (.some Mh (.none (.none (.none (.none (.none (.none (.none (.none (.none (.none (.none (.none (.none (.none (.none (.none (.none (.none (.none (.none (.none (.none (.none (.none (.none (.some K6 (.none (.none (.none (.none (.none (.none (.none (.none (.none (.none (.none (.none (.none (.none (.none (.none (.none (.some NQ .nil))))))))))))))))))))))))))))))))))))))))))))))))))))))))))))))))))))))))))))))))))))))))))))))))))))))))))))))))))))))))))))))))))))))))))))))))))))))))))))))))))))))))))))))))))))))))))))))))))))))))))))))))))))))))))))))))))))))))))))))
theorem fc3:FIOK Tryz.prog 3 fi3:=⟨⟨Tryz.f3,Tryz.func3,rfl,rfl,rfl,by kernel_rfl⟩,by kernel_rfl⟩
theorem fc9:FIOK Tryz.prog 9 fi9:=⟨⟨Tryz.f9,Tryz.func9,rfl,rfl,rfl,by kernel_rfl⟩,by kernel_rfl⟩
theorem Lw:FIOK Tryz.prog 10 pG:=⟨⟨Tryz.f10,Tryz.func10,rfl,rfl,rfl,by kernel_rfl⟩,by kernel_rfl⟩
theorem fc11:FIOK Tryz.prog 11 Mx:=⟨⟨Tryz.f11,Tryz.func11,rfl,rfl,rfl,by kernel_rfl⟩,by kernel_rfl⟩
theorem fc12:FIOK Tryz.prog 12 K0:=⟨⟨Tryz.f12,Tryz.func12,rfl,rfl,rfl,by kernel_rfl⟩,by kernel_rfl⟩
theorem MH:FIOK Tryz.prog 13 Jw:=⟨⟨Tryz.f13,Tryz.func13,rfl,rfl,rfl,by kernel_rfl⟩,by kernel_rfl⟩
theorem MO:FIOK Tryz.prog 14 pM:=⟨⟨Tryz.f14,Tryz.func14,rfl,rfl,rfl,by kernel_rfl⟩,by kernel_rfl⟩
theorem JQ:FIOK Tryz.prog 15 jZ:=⟨⟨Tryz.f15,Tryz.func15,rfl,rfl,rfl,by kernel_rfl⟩,by kernel_rfl⟩
theorem JY:FIOK Tryz.prog 17 u4:=⟨⟨Tryz.f17,Tryz.func17,rfl,rfl,rfl,by kernel_rfl⟩,by kernel_rfl⟩
theorem fc19:FIOK Tryz.prog 19 K8:=⟨⟨Tryz.f19,Tryz.func19,rfl,rfl,rfl,by kernel_rfl⟩,by kernel_rfl⟩
theorem NT:FIOK Tryz.prog 27 dQ:=⟨⟨Tryz.f27,Tryz.func27,rfl,rfl,rfl,by kernel_rfl⟩,by kernel_rfl⟩
theorem Ib:FIOK Tryz.prog 28 BR:=⟨⟨Tryz.f28,Tryz.func28,rfl,rfl,rfl,by kernel_rfl⟩,by kernel_rfl⟩
theorem Nh:FIOK Tryz.prog 29 MV:=⟨⟨Tryz.f29,Tryz.func29,rfl,rfl,rfl,by kernel_rfl⟩,by kernel_rfl⟩
theorem KX:FIOK Tryz.prog 31 Ke:=⟨⟨Tryz.f31,Tryz.func31,rfl,rfl,rfl,by kernel_rfl⟩,by kernel_rfl⟩
theorem H0:FIOK Tryz.prog 32 Km:=⟨⟨Tryz.f32,Tryz.func32,rfl,rfl,rfl,by kernel_rfl⟩,by kernel_rfl⟩
theorem Le:FIOK Tryz.prog 33 Jz:=⟨⟨Tryz.f33,Tryz.func33,rfl,rfl,rfl,by kernel_rfl⟩,by kernel_rfl⟩
theorem fc34:FIOK Tryz.prog 34 ND:=⟨⟨Tryz.f34,Tryz.func34,rfl,rfl,rfl,by kernel_rfl⟩,by kernel_rfl⟩
theorem fc35:FIOK Tryz.prog 35 LY:=⟨⟨Tryz.f35,Tryz.func35,rfl,rfl,rfl,by kernel_rfl⟩,by kernel_rfl⟩
theorem fc36:FIOK Tryz.prog 36 MG:=⟨⟨Tryz.f36,Tryz.func36,rfl,rfl,rfl,by kernel_rfl⟩,by kernel_rfl⟩
theorem M1:FIOK Tryz.prog 37 Gs:=⟨⟨Tryz.f37,Tryz.func37,rfl,rfl,rfl,by kernel_rfl⟩,by kernel_rfl⟩
theorem Li:FIOK Tryz.prog 38 Ff:=⟨⟨Tryz.f38,Tryz.func38,rfl,rfl,rfl,by kernel_rfl⟩,by kernel_rfl⟩
theorem Nj:FIOK Tryz.prog 39 E5:=⟨⟨Tryz.f39,Tryz.func39,rfl,rfl,rfl,by kernel_rfl⟩,by kernel_rfl⟩
theorem fc40:FIOK Tryz.prog 40 JH:=⟨⟨Tryz.f40,Tryz.func40,rfl,rfl,rfl,by kernel_rfl⟩,by kernel_rfl⟩
theorem Fy:FIOK Tryz.prog 41 zK:=⟨⟨Tryz.f41,Tryz.func41,rfl,rfl,rfl,by kernel_rfl⟩,by kernel_rfl⟩
theorem Lo:FIOK Tryz.prog 42 fh:=⟨⟨Tryz.f42,Tryz.func42,rfl,rfl,rfl,by kernel_rfl⟩,by kernel_rfl⟩
theorem Nq:FIOK Tryz.prog 43 wR:=⟨⟨Tryz.f43,Tryz.func43,rfl,rfl,rfl,by kernel_rfl⟩,by kernel_rfl⟩
theorem Mn:FIOK Tryz.prog 45 Ij:=⟨⟨Tryz.f45,Tryz.func45,rfl,rfl,rfl,by kernel_rfl⟩,by kernel_rfl⟩
theorem K1:FIOK Tryz.prog 46 Lz:=⟨⟨Tryz.f46,Tryz.func46,rfl,rfl,rfl,by kernel_rfl⟩,by kernel_rfl⟩
theorem Lt:FIOK Tryz.prog 47 NL:=⟨⟨Tryz.f47,Tryz.func47,rfl,rfl,rfl,by kernel_rfl⟩,by kernel_rfl⟩
theorem KY:FIOK Tryz.prog 48 JL:=⟨⟨Tryz.f48,Tryz.func48,rfl,rfl,rfl,by kernel_rfl⟩,by kernel_rfl⟩
theorem Mp:FIOK Tryz.prog 49 Ni:=⟨⟨Tryz.f49,Tryz.func49,rfl,rfl,rfl,by kernel_rfl⟩,by kernel_rfl⟩
theorem MY:FIOK Tryz.prog 50 K7:=⟨⟨Tryz.f50,Tryz.func50,rfl,rfl,rfl,by kernel_rfl⟩,by kernel_rfl⟩
theorem fc51:FIOK Tryz.prog 51 L8:=⟨⟨Tryz.f51,Tryz.func51,rfl,rfl,rfl,by kernel_rfl⟩,by kernel_rfl⟩
theorem Mb:FIOK Tryz.prog 61 EG:=⟨⟨Tryz.f61,Tryz.func61,rfl,rfl,rfl,by kernel_rfl⟩,by kernel_rfl⟩
theorem KW:FIOK Tryz.prog 62 pH:=⟨⟨Tryz.f62,Tryz.func62,rfl,rfl,rfl,by kernel_rfl⟩,by kernel_rfl⟩
theorem NW:FIOK Tryz.prog 64 JB:=⟨⟨Tryz.f64,Tryz.func64,rfl,rfl,rfl,by kernel_rfl⟩,by kernel_rfl⟩
theorem Ly:FIOK Tryz.prog 65 LC:=⟨⟨Tryz.f65,Tryz.func65,rfl,rfl,rfl,by kernel_rfl⟩,by kernel_rfl⟩
theorem Mw:FIOK Tryz.prog 67 pS:=⟨⟨Tryz.f67,Tryz.func67,rfl,rfl,rfl,by kernel_rfl⟩,by kernel_rfl⟩
theorem Lv:FIOK Tryz.prog 69 I1:=⟨⟨Tryz.f69,Tryz.func69,rfl,rfl,rfl,by kernel_rfl⟩,by kernel_rfl⟩
theorem NB:FIOK Tryz.prog 70 JN:=⟨⟨Tryz.f70,Tryz.func70,rfl,rfl,rfl,by kernel_rfl⟩,by kernel_rfl⟩
theorem Nk:FIOK Tryz.prog 71 z8:=⟨⟨Tryz.f71,Tryz.func71,rfl,rfl,rfl,by kernel_rfl⟩,by kernel_rfl⟩
theorem K4:FIOK Tryz.prog 72 IP:=⟨⟨Tryz.f72,Tryz.func72,rfl,rfl,rfl,by kernel_rfl⟩,by kernel_rfl⟩
theorem MU:FIOK Tryz.prog 73 fQ:=⟨⟨Tryz.f73,Tryz.func73,rfl,rfl,rfl,by kernel_rfl⟩,by kernel_rfl⟩
theorem L7:FIOK Tryz.prog 74 E7:=⟨⟨Tryz.f74,Tryz.func74,rfl,rfl,rfl,by kernel_rfl⟩,by kernel_rfl⟩
theorem L4:FIOK Tryz.prog 75 EZ:=⟨⟨Tryz.f75,Tryz.func75,rfl,rfl,rfl,by kernel_rfl⟩,by kernel_rfl⟩
theorem Mi:FIOK Tryz.prog 76 pL:=⟨⟨Tryz.f76,Tryz.func76,rfl,rfl,rfl,by kernel_rfl⟩,by kernel_rfl⟩
theorem Lc:FIOK Tryz.prog 77 uG:=⟨⟨Tryz.f77,Tryz.func77,rfl,rfl,rfl,by kernel_rfl⟩,by kernel_rfl⟩
theorem LN:FIOK Tryz.prog 79 I3:=⟨⟨Tryz.f79,Tryz.func79,rfl,rfl,rfl,by kernel_rfl⟩,by kernel_rfl⟩
theorem Ns:FIOK Tryz.prog 80 Lm:=⟨⟨Tryz.f80,Tryz.func80,rfl,rfl,rfl,by kernel_rfl⟩,by kernel_rfl⟩
theorem Ln:FIOK Tryz.prog 81 Nr:=⟨⟨Tryz.f81,Tryz.func81,rfl,rfl,rfl,by kernel_rfl⟩,by kernel_rfl⟩
theorem M5:FIOK Tryz.prog 82 NU:=⟨⟨Tryz.f82,Tryz.func82,rfl,rfl,rfl,by kernel_rfl⟩,by kernel_rfl⟩
theorem LQ:FIOK Tryz.prog 83 NH:=⟨⟨Tryz.f83,Tryz.func83,rfl,rfl,rfl,by kernel_rfl⟩,by kernel_rfl⟩
theorem MB:FIOK Tryz.prog 84 MC:=⟨⟨Tryz.f84,Tryz.func84,rfl,rfl,rfl,by kernel_rfl⟩,by kernel_rfl⟩
theorem No:FIOK Tryz.prog 85 NI:=⟨⟨Tryz.f85,Tryz.func85,rfl,rfl,rfl,by kernel_rfl⟩,by kernel_rfl⟩
theorem fc86:FIOK Tryz.prog 86 Nx:=⟨⟨Tryz.f86,Tryz.func86,rfl,rfl,rfl,by kernel_rfl⟩,by kernel_rfl⟩
theorem fc94:FIOK Tryz.prog 94 Lf:=⟨⟨Tryz.f94,Tryz.func94,rfl,rfl,rfl,by kernel_rfl⟩,by kernel_rfl⟩
theorem Nf:FIOK Tryz.prog 97 Ii:=⟨⟨Tryz.f97,Tryz.func97,rfl,rfl,rfl,by kernel_rfl⟩,by kernel_rfl⟩
theorem Ms:FIOK Tryz.prog 98 H5:=⟨⟨Tryz.f98,Tryz.func98,rfl,rfl,rfl,by kernel_rfl⟩,by kernel_rfl⟩
theorem Mf:FIOK Tryz.prog 99 Iv:=⟨⟨Tryz.f99,Tryz.func99,rfl,rfl,rfl,by kernel_rfl⟩,by kernel_rfl⟩
theorem HX:FIOK Tryz.prog 100 Cw:=⟨⟨Tryz.f100,Tryz.func100,rfl,rfl,rfl,by kernel_rfl⟩,by kernel_rfl⟩
theorem He:FIOK Tryz.prog 101 Em:=⟨⟨Tryz.f101,Tryz.func101,rfl,rfl,rfl,by kernel_rfl⟩,by kernel_rfl⟩
theorem HH:FIOK Tryz.prog 102 Ch:=⟨⟨Tryz.f102,Tryz.func102,rfl,rfl,rfl,by kernel_rfl⟩,by kernel_rfl⟩
theorem GJ:FIOK Tryz.prog 103 xK:=⟨⟨Tryz.f103,Tryz.func103,rfl,rfl,rfl,by kernel_rfl⟩,by kernel_rfl⟩
theorem GY:FIOK Tryz.prog 104 GD:=⟨⟨Tryz.f104,Tryz.func104,rfl,rfl,rfl,by kernel_rfl⟩,by kernel_rfl⟩
theorem HW:FIOK Tryz.prog 105 CB:=⟨⟨Tryz.f105,Tryz.func105,rfl,rfl,rfl,by kernel_rfl⟩,by kernel_rfl⟩
theorem Gx:FIOK Tryz.prog 106 GN:=⟨⟨Tryz.f106,Tryz.func106,rfl,rfl,rfl,by kernel_rfl⟩,by kernel_rfl⟩
theorem Hf:FIOK Tryz.prog 107 GP:=⟨⟨Tryz.f107,Tryz.func107,rfl,rfl,rfl,by kernel_rfl⟩,by kernel_rfl⟩
theorem Hp:FIOK Tryz.prog 108 G4:=⟨⟨Tryz.f108,Tryz.func108,rfl,rfl,rfl,by kernel_rfl⟩,by kernel_rfl⟩
theorem HF:FIOK Tryz.prog 109 jM:=⟨⟨Tryz.f109,Tryz.func109,rfl,rfl,rfl,by kernel_rfl⟩,by kernel_rfl⟩
theorem Lx:FIOK Tryz.prog 110 GI:=⟨⟨Tryz.f110,Tryz.func110,rfl,rfl,rfl,by kernel_rfl⟩,by kernel_rfl⟩
theorem Hk:FIOK Tryz.prog 120 yg:=⟨⟨Tryz.f120,Tryz.func120,rfl,rfl,rfl,by kernel_rfl⟩,by kernel_rfl⟩
theorem Gz:FIOK Tryz.prog 122 Dm:=⟨⟨Tryz.f122,Tryz.func122,rfl,rfl,rfl,by kernel_rfl⟩,by kernel_rfl⟩
theorem GC:FIOK Tryz.prog 123 p7:=⟨⟨Tryz.f123,Tryz.func123,rfl,rfl,rfl,by kernel_rfl⟩,by kernel_rfl⟩
theorem HP:FIOK Tryz.prog 124 ra:=⟨⟨Tryz.f124,Tryz.func124,rfl,rfl,rfl,by kernel_rfl⟩,by kernel_rfl⟩
theorem G7:FIOK Tryz.prog 125 Cz:=⟨⟨Tryz.f125,Tryz.func125,rfl,rfl,rfl,by kernel_rfl⟩,by kernel_rfl⟩
theorem DL:FIOK Tryz.prog 126 yq:=⟨⟨Tryz.f126,Tryz.func126,rfl,rfl,rfl,by kernel_rfl⟩,by kernel_rfl⟩
theorem Hj:FIOK Tryz.prog 127 mn:=⟨⟨Tryz.f127,Tryz.func127,rfl,rfl,rfl,by kernel_rfl⟩,by kernel_rfl⟩
theorem HI:FIOK Tryz.prog 128 qH:=⟨⟨Tryz.f128,Tryz.func128,rfl,rfl,rfl,by kernel_rfl⟩,by kernel_rfl⟩
theorem GO:FIOK Tryz.prog 132 Cy:=⟨⟨Tryz.f132,Tryz.func132,rfl,rfl,rfl,by kernel_rfl⟩,by kernel_rfl⟩
theorem GQ:FIOK Tryz.prog 133 Ci:=⟨⟨Tryz.f133,Tryz.func133,rfl,rfl,rfl,by kernel_rfl⟩,by kernel_rfl⟩
theorem HN:FIOK Tryz.prog 134 rG:=⟨⟨Tryz.f134,Tryz.func134,rfl,rfl,rfl,by kernel_rfl⟩,by kernel_rfl⟩
theorem Hx:FIOK Tryz.prog 136 kv:=⟨⟨Tryz.f136,Tryz.func136,rfl,rfl,rfl,by kernel_rfl⟩,by kernel_rfl⟩
theorem HO:FIOK Tryz.prog 138 GK:=⟨⟨Tryz.f138,Tryz.func138,rfl,rfl,rfl,by kernel_rfl⟩,by kernel_rfl⟩
theorem GG:FIOK Tryz.prog 145 Eo:=⟨⟨Tryz.f145,Tryz.func145,rfl,rfl,rfl,by kernel_rfl⟩,by kernel_rfl⟩
theorem Hg:FIOK Tryz.prog 146 Dc:=⟨⟨Tryz.f146,Tryz.func146,rfl,rfl,rfl,by kernel_rfl⟩,by kernel_rfl⟩
theorem Hq:FIOK Tryz.prog 147 CD:=⟨⟨Tryz.f147,Tryz.func147,rfl,rfl,rfl,by kernel_rfl⟩,by kernel_rfl⟩
theorem HY:FIOK Tryz.prog 148 CC:=⟨⟨Tryz.f148,Tryz.func148,rfl,rfl,rfl,by kernel_rfl⟩,by kernel_rfl⟩
theorem Ho:FIOK Tryz.prog 149 DM:=⟨⟨Tryz.f149,Tryz.func149,rfl,rfl,rfl,by kernel_rfl⟩,by kernel_rfl⟩
theorem HE:FIOK Tryz.prog 150 Dz:=⟨⟨Tryz.f150,Tryz.func150,rfl,rfl,rfl,by kernel_rfl⟩,by kernel_rfl⟩
theorem HA:FIOK Tryz.prog 151 CT:=⟨⟨Tryz.f151,Tryz.func151,rfl,rfl,rfl,by kernel_rfl⟩,by kernel_rfl⟩
theorem Hv:FIOK Tryz.prog 169 Bx:=⟨⟨Tryz.f169,Tryz.func169,rfl,rfl,rfl,by kernel_rfl⟩,by kernel_rfl⟩
theorem HK:FIOK Tryz.prog 170 qV:=⟨⟨Tryz.f170,Tryz.func170,rfl,rfl,rfl,by kernel_rfl⟩,by kernel_rfl⟩
theorem Hi:FIOK Tryz.prog 171 Cu:=⟨⟨Tryz.f171,Tryz.func171,rfl,rfl,rfl,by kernel_rfl⟩,by kernel_rfl⟩
theorem HG:FIOK Tryz.prog 172 qo:=⟨⟨Tryz.f172,Tryz.func172,rfl,rfl,rfl,by kernel_rfl⟩,by kernel_rfl⟩
theorem Hr:FIOK Tryz.prog 173 BU:=⟨⟨Tryz.f173,Tryz.func173,rfl,rfl,rfl,by kernel_rfl⟩,by kernel_rfl⟩
theorem GL:FIOK Tryz.prog 188 DJ:=⟨⟨Tryz.f188,Tryz.func188,rfl,rfl,rfl,by kernel_rfl⟩,by kernel_rfl⟩
theorem G8:FIOK Tryz.prog 189 xS:=⟨⟨Tryz.f189,Tryz.func189,rfl,rfl,rfl,by kernel_rfl⟩,by kernel_rfl⟩
theorem HC:FIOK Tryz.prog 200 rz:=⟨⟨Tryz.f200,Tryz.func200,rfl,rfl,rfl,by kernel_rfl⟩,by kernel_rfl⟩
theorem Cb:FIOK Tryz.prog 201 C9:=⟨⟨Tryz.f201,Tryz.func201,rfl,rfl,rfl,by kernel_rfl⟩,by kernel_rfl⟩
theorem DR:FIOK Tryz.prog 202 hH:=⟨⟨Tryz.f202,Tryz.func202,rfl,rfl,rfl,by kernel_rfl⟩,by kernel_rfl⟩
theorem G3:FIOK Tryz.prog 215 BK:=⟨⟨Tryz.f215,Tryz.func215,rfl,rfl,rfl,by kernel_rfl⟩,by kernel_rfl⟩
theorem GZ:FIOK Tryz.prog 216 De:=⟨⟨Tryz.f216,Tryz.func216,rfl,rfl,rfl,by kernel_rfl⟩,by kernel_rfl⟩
theorem G6:FIOK Tryz.prog 220 Ht:=⟨⟨Tryz.f220,Tryz.func220,rfl,rfl,rfl,by kernel_rfl⟩,by kernel_rfl⟩
theorem Hd:FIOK Tryz.prog 231 zt:=⟨⟨Tryz.f231,Tryz.func231,rfl,rfl,rfl,by kernel_rfl⟩,by kernel_rfl⟩
theorem HB:FIOK Tryz.prog 232 Ef:=⟨⟨Tryz.f232,Tryz.func232,rfl,rfl,rfl,by kernel_rfl⟩,by kernel_rfl⟩
theorem HS:FIOK Tryz.prog 233 jI:=⟨⟨Tryz.f233,Tryz.func233,rfl,rfl,rfl,by kernel_rfl⟩,by kernel_rfl⟩
theorem Hw:FIOK Tryz.prog 234 Dg:=⟨⟨Tryz.f234,Tryz.func234,rfl,rfl,rfl,by kernel_rfl⟩,by kernel_rfl⟩
theorem G9:FIOK Tryz.prog 239 BL:=⟨⟨Tryz.f239,Tryz.func239,rfl,rfl,rfl,by kernel_rfl⟩,by kernel_rfl⟩
theorem fchk:tM Tryz.prog 0 fis:=
 (.none (.none (.none (.some fc3 (.none (.none (.none (.none (.none (.some fc9 (.some Lw (.some fc11 (.some fc12 (.some MH (.some MO (.some JQ (.none (.some JY (.none (.some fc19 (.none (.none (.none (.none (.none (.none (.none (.some NT (.some Ib (.some Nh (.none (.some KX (.some H0 (.some Le (.some fc34 (.some fc35 (.some fc36 (.some M1 (.some Li (.some Nj (.some fc40 (.some Fy (.some Lo (.some Nq (.none (.some Mn (.some K1 (.some Lt (.some KY (.some Mp (.some MY (.some fc51 (.none (.none (.none (.none (.none (.none (.none (.none (.none (.some Mb (.some KW (.none (.some NW (.some Ly (.none (.some Mw (.none (.some Lv (.some NB (.some Nk (.some K4 (.some MU (.some L7 (.some L4 (.some Mi (.some Lc (.none (.some LN (.some Ns (.some Ln (.some M5 (.some LQ (.some MB (.some No (.some fc86 (.none (.none (.none (.none (.none (.none (.none (.some fc94 (.none (.none (.some Nf (.some Ms (.some Mf (.some HX (.some He (.some HH (.some GJ (.some GY (.some HW (.some Gx (.some Hf (.some Hp (.some HF (.some Lx (.none (.none (.none (.none (.none (.none (.none (.none (.none (.some Hk (.none (.some Gz (.some GC (.some HP (.some G7 (.some DL (.some Hj (.some HI (.none (.none (.none (.some GO (.some GQ (.some HN (.none (.some Hx (.none (.some HO (.none (.none (.none (.none (.none (.none (.some GG (.some Hg (.some Hq (.some HY (.some Ho (.some HE (.some HA (.none (.none (.none (.none (.none (.none (.none (.none (.none (.none (.none (.none (.none (.none (.none (.none (.none (.some Hv (.some HK (.some Hi (.some HG (.some Hr (.none (.none (.none (.none (.none (.none (.none (.none (.none (.none (.none (.none (.none (.none (.some GL (.some G8 (.none (.none (.none (.none (.none (.none (.none (.none (.none (.none (.some HC (.some Cb (.some DR (.none (.none (.none (.none (.none (.none (.none (.none (.none (.none (.none (.none (.some G3 (.some GZ (.none (.none (.none (.some G6 (.none (.none (.none (.none (.none (.none (.none (.none (.none (.none (.some Hd (.some HB (.some HS (.some Hw (.none (.none (.none (.none (.some G9 .nil))))))))))))))))))))))))))))))))))))))))))))))))))))))))))))))))))))))))))))))))))))))))))))))))))))))))))))))))))))))))))))))))))))))))))))))))))))))))))))))))))))))))))))))))))))))))))))))))))))))))))))))))))))))))))))))))))))))))))))))))
theorem aS(intr:List (Option aQ)):EnvOK ⟨tis,fis,intr⟩ Tryz.prog:=⟨fun t ti h=>by
 have h2:nth tis t=some (some ti):=by
  unfold Env.T at h
  split at h
  ·rename_i x hx;rw[hx,h]
  ·cases h
 have:=tchk t ti h2
 rwa [Nat.zero_add]at this,by kernel_rfl⟩
theorem Gd:∀f fi,nth fis f=some (some fi)→FIOK Tryz.prog f fi:=fun f fi h=>by
 have:=fchk f fi h
 rwa [Nat.zero_add]at this
end Go.Sx.Tryz
namespace Go.Sx.Tryz
open Go Go.Sx Go.Proofs
set_option maxRecDepth 100000
abbrev E:Env:=E0
abbrev Iz(n:Int):AV:=.int .i64 n
abbrev aH:Ty:=.pair (.int .i64) (.pair (.int .i64) (.pair (.int .i64) .unit))
abbrev Tok:Type:=aH.den
def az(x:Tok):Int:=x.1
def ag(x:Tok):Int:=x.2.1
def tTo(x:Tok):Int:=x.2.2.1
abbrev fZ:Sig:=[(false,.int .u8)]
abbrev cd:Sig:=[(false,.bool)]
abbrev bB:Sig:=[(false,.str)]
abbrev bP:Sig:=[(false,.int .i64)]
abbrev pT(c:Bool):R0:=(.ret (.bool c),[])
def isLet(c:Int):Bool:=(decide (c≥97)&&decide (c≤122))||((decide (c≥65)&&decide (c≤90))||c==95)
def aM(c:Int):Bool:=decide (c≥48)&&decide (c≤57)
def bt(c:Int):Bool:=c==32||(c==9||(c==10||c==13))
def fu(c:Int):Bool:=isLet c||aM c
def EE(x:ai fZ):ai cd:=(isLet x.1,())
def EF(x:ai fZ):ai cd:=(aM x.1,())
def Mv(x:ai fZ):ai cd:=(bt x.1,())
def NR(x:ai fZ):ai cd:=(fu x.1,())
def jS:List (Nat×aQ):=[(74,bg 74 fZ cd (fun _=>true) Mv),(37,bg 37 fZ cd (fun _=>true) EE),(75,bg 75 fZ cd (fun _=>true) NR),(38,bg 38 fZ cd (fun _=>true) EF)]
def bsR(T:List UInt8)(a:Int)(K:List Tok):List Blk:=[.cells 89 [.str T,.int .i64 a,.own 1 0],.list 46 aH 0 false K]
def pX(T:List UInt8)(a:Int)(K:List Tok):List Blk:=[.cells 89 [.str T,.int .i64 a,.own 1 1],.list 46 aH 1 false K]
def gb:List Cut:=[⟨[false,false],some ⟨[(0,[]),(1,[])],[[],[]]⟩⟩]
def sU(T:List UInt8)(a:Int)(K:List Tok)(f:Nat):St:={tmps:=[(0,.ref 0 0),(1,.fn f [])],blks:=[(0,.cells 89 [.str T,.int .i64 a,.own 1 1]),(1,.list 46 aH 1 false K)],next:=2}
end Go.Sx.Tryz
namespace Go.Sx.Tryz
open Go Go.Sx Go.Proofs
set_option maxRecDepth 100000
def aP(p:Int→Bool)(s:List UInt8):Nat:=(s.takeWhile fun c=>p c.toNat).length
def vF:Nat→List UInt8→Nat
 |0,_=>0
 |n+1,s=>let b:=aP bt s
  bif Lib.hasPrefix (s.drop b) [47,47]then
   let c:=aP (fun c=>c !=10) (s.drop b)
   b+c+vF n (s.drop (b+c))
  else b
def Lu(s:List UInt8):Nat:=vF (s.length+1) s
def vo:List UInt8:=[34,92,110,116]
def dT:Nat→List UInt8→Nat×Int
 |_,[]=>(0,61)
 |0,_=>(0,61)
 |n+1,c::r=>bif (c.toNat:Int)==34 then(1,0)else bif (c.toNat:Int)==10 then(0,61)else bif decide ((c.toNat:Int)<32)||decide ((c.toNat:Int)>126)then(0,60)
  else bif (c.toNat:Int)==92 then(match r with
   |[]=>(0,61)
   |d::r'=>bif decide (Lib.indexByte vo (d.toNat:Int).toNat.toUInt8<0)then(0,5)else let q:=dT n r'
    (q.1+2,q.2))
  else let q:=dT n r
   (q.1+1,q.2)
def jY(s:List UInt8):Nat×Int:=let q:=dT s.length (s.drop 1)
 (q.1+1,q.2)
def yE:List UInt8:=[61,61,32,33,61,32,60,61,32,62,61,32,38,38,32,124,124,32]
def uS:List UInt8:=[123,125,40,41,91,93,59,44,46,61,60,62,43,45,42,47,37,33,63]
def at8(s:List UInt8)(i:Nat):Int:=((s.getD i 0).toNat:Int)
def xA(s:List UInt8):Nat×Int:=
 bif decide ((s.length:Int)>1)&&(Lib.contains yE (s.take 2++[32])&&(at8 s 0 !=32&&at8 s 1 !=32))then(2,0)
 else bif decide (Lib.indexByte uS (at8 s 0).toNat.toUInt8≥0)then(1,0)else(0,60)
def nK(s:List UInt8):Int×Int×Nat:=
 bif isLet (at8 s 0)then
  let n:=aP fu s
  bif decide ((n:Int)>64)then(0,2,n)else(1,0,n)
 else bif aM (at8 s 0)then
  let n:=aP aM s
  bif decide (((n:Int)+1)<s.length)&&(at8 s n==46&&aM (at8 s (n+1)))then
   let m:=n+1+aP aM (s.drop (n+1))
   bif decide ((m:Int)>20)then(0,2,m)else(3,0,m)
  else bif decide ((n:Int)>20)then(0,2,n)else(2,0,n)
 else bif at8 s 0==34 then
  let q:=jY s
  bif q.2==0&&decide ((q.1:Int)>256)then(4,2,q.1)else(4,q.2,q.1)
 else let q:=xA s
  (5,q.2,q.1)
def aN(T:List UInt8)(a:Int):List UInt8:=T.drop a.toNat
def whI(p:Int→Bool)(T:List UInt8)(a:Int):Int:=a+aP p (aN T a)
def jC(T:List UInt8)(a:Int):Int:=a+Lu (aN T a)
def jA(T:List UInt8)(a:Int):Int:=a+(jY (aN T a)).1
def pz(T:List UInt8)(a:Int):Int:=(jY (aN T a)).2
def Av(T:List UInt8)(a:Int):Int:=a+(xA (aN T a)).1
def As(T:List UInt8)(a:Int):Int:=(xA (aN T a)).2
def cK(T:List UInt8)(a:Int):Int:=a+(nK (aN T a)).2.2
def pI(T:List UInt8)(a:Int):Int:=(nK (aN T a)).1
def jy(T:List UInt8)(a:Int):Int:=(nK (aN T a)).2.1
def okA(T:List UInt8)(a:Int):Bool:=decide (0≤a)&&(decide (a≤T.length)&&decide ((T.length:Int)≤1099511627776))
def iC(T:List UInt8)(a:Int):Bool:=decide (0≤a)&&(decide (a<T.length)&&decide ((T.length:Int)≤1099511627776))
def rdC(f:Nat)(rs:Sig)(p:List UInt8→Int→Bool)(F:List UInt8→Int→ai rs)(A:List UInt8→Int→Int):aQ:=fun R args bs k=>match args,bs with
 |[.ref 0 0],[.cells 89 [.str T,.int .i64 a,.own 1 0],.list 46 tK 0 false K]=>(match dc tK aH K with
  |some K=>(match p T a with
   |true=>k (.ret (cr rs (F T a)),pX T (A T a) K)
   |false=>.err (3000000+f))
  |none=>.err f)
 |_,_=>.err f
def pOf(f:Nat):Int→Bool:=bif Nat.beq f 74 then bt else bif Nat.beq f 75 then fu else aM
def whC:aQ:=fun R args bs k=>match args,bs with
 |[.ref 0 0,.fn f []],[.cells 89 [.str T,.int .i64 a,.own 1 0],.list 46 tK 0 false K]=>(match dc tK aH K with
  |some K=>(match(Nat.beq f 74||(Nat.beq f 75||Nat.beq f 38))&&okA T a with
   |true=>k (.ret (.tup []),pX T (whI (pOf f) T a) K)
   |false=>.err 3000073)
  |none=>.err 59)
 |_,_=>.err 59
abbrev iJ:Sig:=[(false,.str),(false,.str)]
abbrev x6:Sig:=[(false,.str),(false,.int .u8)]
def hpX(x:ai iJ):ai cd:=(Lib.hasPrefix x.1 x.2.1,())
def IE(x:ai iJ):ai cd:=(Lib.contains x.1 x.2.1,())
def ibS(s:List UInt8)(c:Int):Int:=Lib.indexByte s c.toNat.toUInt8
def ibX(x:ai x6):ai bP:=(ibS x.1 x.2.1,())
def conB(s:List UInt8):Bool:=Nat.ble s.length 4000000000
def Ks(x:ai iJ):Bool:=conB x.1
def eD:List (Nat×aQ):=[(26,bg 26 iJ cd (fun _=>true) hpX),(20,bg 20 iJ cd Ks IE),(68,bg 68 x6 bP (fun _=>true) ibX)]
def ek:List (Nat×aQ):=(73,dL 73 whC)::eD
def eV:List Cut:=[⟨[false,false],some ⟨[(0,[])],[[],[]]⟩⟩,⟨[false,false,false,true,true,false,false],some ⟨[(0,[])],[[],[]]⟩⟩]
def mkR(T:List UInt8)(a:Int)(K:List Tok):St:={tmps:=[(0,.ref 0 0)],blks:=[(0,.cells 89 [.str T,.int .i64 a,.own 1 1]),(1,.list 46 aH 1 false K)],next:=2}
def uO:List Cut:=[⟨[true,true,false,true],some ⟨[(0,[]),(3,[]),(31,[])],[[],[]]⟩⟩]
def Ja(T:List UInt8)(a:Int)(K:List Tok)(s:List UInt8)(b:Bool):St:={tmps:=[(0,.ref 0 0),(3,.str s),(31,.bool b)],blks:=[(0,.cells 89 [.str T,.int .i64 a,.own 1 1]),(1,.list 46 aH 1 false K)],next:=2}
def pb:List Cut:=[⟨[true,true,false,false,false],some ⟨[(0,[])],[[],[]]⟩⟩]
end Go.Sx.Tryz
namespace Go.Sx.Tryz
open Go Go.Sx
set_option maxRecDepth 100000
theorem IS(c:Int):body (R:=R0) E (an []) E7 [.int .u8 c] [] .ok=bif c==32 then Rs.ok (Out.ret (AV.bool true),[])else bif c==9 then Rs.ok (Out.ret (AV.bool true),[])else bif c==10 then Rs.ok (Out.ret (AV.bool true),[])else Rs.ok (Out.ret (AV.bool (c==13)),[]):=by kernel_rfl
theorem Jt(c:Int):body (R:=R0) E (an []) Gs [.int .u8 c] [] .ok=bif decide (c≥97)then bif decide (c≤122)then Rs.ok (Out.ret (AV.bool true),[])else bif decide (c≥65)then bif decide (c≤90)then Rs.ok (Out.ret (AV.bool true),[])else Rs.ok (Out.ret (AV.bool (c==95)),[])else Rs.ok (Out.ret (AV.bool (c==95)),[])else bif decide (c≥65)then bif decide (c≤90)then Rs.ok (Out.ret (AV.bool true),[])else Rs.ok (Out.ret (AV.bool (c==95)),[])else Rs.ok (Out.ret (AV.bool (c==95)),[]):=by kernel_rfl
theorem J8(c:Int):body (R:=R0) E (an []) Ff [.int .u8 c] [] .ok=bif decide (c≥48)then Rs.ok (Out.ret (AV.bool (decide (c≤57))),[])else Rs.ok (Out.ret (AV.bool false),[]):=by kernel_rfl
theorem BV(J:Jump R0)(T:List UInt8)(a:Int)(K:List Tok):start E (an jS) fQ gb J [.ref 0 0,.fn 74 []] (bsR T a K) .ok=J 0 {tmps:=[(0,AV.ref 0 0),(1,AV.fn 74 [])],blks:=[(0,Blk.cells 89 [AV.str T,Iz a,AV.own 1 1]),(1,Blk.list 46 aH 1 false K)],next:=2}:=by kernel_rfl
theorem F7(J:Jump R0)(T:List UInt8)(a:Int)(K:List Tok):resume E (an jS) (aR 2 gb 0) J [false,false] fQ.code 1 (sU T a K 74) (bX E 2 fQ.results .ok)=bif decide (a<(↑(List.length T):Int))then bif inI a (List.length T)then bif bt (↑(UInt8.toNat (List.getD T (Int.toNat a) 0)):Int)then J 0 {tmps:=[(0,AV.ref 0 0),(1,AV.fn 74 [])],blks:=[(0,Blk.cells 89 [AV.str T,Iz (IntKind.wrap IntKind.i64 (a+1)),AV.own 1 1]),(1,Blk.list 46 aH 1 false K)],next:=2}else Rs.ok (Out.ret (AV.tup []),[Blk.cells 89 [AV.str T,Iz a,AV.own 1 1],Blk.list 46 aH 1 false K])else Rs.err 20 else Rs.ok (Out.ret (AV.tup []),[Blk.cells 89 [AV.str T,Iz a,AV.own 1 1],Blk.list 46 aH 1 false K]):=by kernel_rfl
theorem D9(J:Jump R0)(T:List UInt8)(a:Int)(K:List Tok):start E (an jS) fQ gb J [.ref 0 0,.fn 75 []] (bsR T a K) .ok=J 0 {tmps:=[(0,AV.ref 0 0),(1,AV.fn 75 [])],blks:=[(0,Blk.cells 89 [AV.str T,Iz a,AV.own 1 1]),(1,Blk.list 46 aH 1 false K)],next:=2}:=by kernel_rfl
theorem E3(J:Jump R0)(T:List UInt8)(a:Int)(K:List Tok):resume E (an jS) (aR 2 gb 0) J [false,false] fQ.code 1 (sU T a K 75) (bX E 2 fQ.results .ok)=bif decide (a<(↑(List.length T):Int))then bif inI a (List.length T)then bif fu (↑(UInt8.toNat (List.getD T (Int.toNat a) 0)):Int)then J 0 {tmps:=[(0,AV.ref 0 0),(1,AV.fn 75 [])],blks:=[(0,Blk.cells 89 [AV.str T,Iz (IntKind.wrap IntKind.i64 (a+1)),AV.own 1 1]),(1,Blk.list 46 aH 1 false K)],next:=2}else Rs.ok (Out.ret (AV.tup []),[Blk.cells 89 [AV.str T,Iz a,AV.own 1 1],Blk.list 46 aH 1 false K])else Rs.err 20 else Rs.ok (Out.ret (AV.tup []),[Blk.cells 89 [AV.str T,Iz a,AV.own 1 1],Blk.list 46 aH 1 false K]):=by kernel_rfl
theorem Cf(J:Jump R0)(T:List UInt8)(a:Int)(K:List Tok):start E (an jS) fQ gb J [.ref 0 0,.fn 38 []] (bsR T a K) .ok=J 0 {tmps:=[(0,AV.ref 0 0),(1,AV.fn 38 [])],blks:=[(0,Blk.cells 89 [AV.str T,Iz a,AV.own 1 1]),(1,Blk.list 46 aH 1 false K)],next:=2}:=by kernel_rfl
theorem FD(J:Jump R0)(T:List UInt8)(a:Int)(K:List Tok):resume E (an jS) (aR 2 gb 0) J [false,false] fQ.code 1 (sU T a K 38) (bX E 2 fQ.results .ok)=bif decide (a<(↑(List.length T):Int))then bif inI a (List.length T)then bif aM (↑(UInt8.toNat (List.getD T (Int.toNat a) 0)):Int)then J 0 {tmps:=[(0,AV.ref 0 0),(1,AV.fn 38 [])],blks:=[(0,Blk.cells 89 [AV.str T,Iz (IntKind.wrap IntKind.i64 (a+1)),AV.own 1 1]),(1,Blk.list 46 aH 1 false K)],next:=2}else Rs.ok (Out.ret (AV.tup []),[Blk.cells 89 [AV.str T,Iz a,AV.own 1 1],Blk.list 46 aH 1 false K])else Rs.err 20 else Rs.ok (Out.ret (AV.tup []),[Blk.cells 89 [AV.str T,Iz a,AV.own 1 1],Blk.list 46 aH 1 false K]):=by kernel_rfl
theorem EO(J:Jump R0)(T:List UInt8)(a:Int)(K:List Tok):start E (an ek) fh eV J [.ref 0 0] (bsR T a K) .ok=J 0 {tmps:=[(0,AV.ref 0 0)],blks:=[(0,Blk.cells 89 [AV.str T,Iz a,AV.own 1 1]),(1,Blk.list 46 aH 1 false K)],next:=2}:=by kernel_rfl
theorem y0(J:Jump R0)(T:List UInt8)(a:Int)(K:List Tok):resume E (an ek) (aR 2 eV 0) J [false,false] fh.code 1 (mkR T a K) (bX E 2 fh.results .ok)=bif (Nat.beq 60 60||(Nat.beq 60 62||Nat.beq 60 63))&&okA T a then bif inB (whI (pOf 74) T a) (↑(List.length T):Int) (List.length T)then bif !Lib.hasPrefix (List.drop (Int.toNat (whI (pOf 74) T a)) (List.take (Int.toNat (↑(List.length T):Int)) T)) [47,47]then Rs.ok (Out.ret (AV.tup []),[Blk.cells 89 [AV.str T,Iz (whI (pOf 74) T a),AV.own 1 2],Blk.list 46 aH 2 false K])else J 1 {tmps:=[(0,AV.ref 0 0)],blks:=[(0,Blk.cells 89 [AV.str T,Iz (whI (pOf 74) T a),AV.own 1 1]),(1,Blk.list 46 aH 1 false K)],next:=2}else Rs.err 108 else Rs.err 3000073:=by kernel_rfl
theorem rS(J:Jump R0)(T:List UInt8)(a:Int)(K:List Tok):resume E (an ek) (aR 2 eV 0) J [false,false,false,true,true,false,false] fh.code 1 (mkR T a K) (bX E 2 fh.results .ok)=bif decide (a<(↑(List.length T):Int))then bif inI a (List.length T)then bif (↑(UInt8.toNat (List.getD T (Int.toNat a) 0)):Int) !=10 then J 1 {tmps:=[(0,AV.ref 0 0)],blks:=[(0,Blk.cells 89 [AV.str T,Iz (IntKind.wrap IntKind.i64 (a+1)),AV.own 1 1]),(1,Blk.list 46 aH 1 false K)],next:=2}else J 0 {tmps:=[(0,AV.ref 0 0)],blks:=[(0,Blk.cells 89 [AV.str T,Iz a,AV.own 1 1]),(1,Blk.list 46 aH 1 false K)],next:=2}else Rs.err 219 else J 0 {tmps:=[(0,AV.ref 0 0)],blks:=[(0,Blk.cells 89 [AV.str T,Iz a,AV.own 1 1]),(1,Blk.list 46 aH 1 false K)],next:=2}:=by kernel_rfl
theorem FY(J:Jump R0)(T:List UInt8)(a:Int)(K:List Tok):start E (an eD) uG uO J [.ref 0 0] (bsR T a K) .ok=bif inB a (↑(List.length T):Int) (List.length T)then bif decide ((↑(List.length (List.drop (Int.toNat a) (List.take (Int.toNat (↑(List.length T):Int)) T))):Int)>1)then bif inB 0 2 (List.length (List.drop (Int.toNat a) (List.take (Int.toNat (↑(List.length T):Int)) T)))then bif decide (List.length (List.drop (Int.toNat 0) (List.take (Int.toNat 2) (List.drop (Int.toNat a) (List.take (Int.toNat (↑(List.length T):Int)) T))))+List.length [32]<2^62)then bif Lib.contains [61,61,32,33,61,32,60,61,32,62,61,32,38,38,32,124,124,32] (List.drop (Int.toNat 0) (List.take (Int.toNat 2) (List.drop (Int.toNat a) (List.take (Int.toNat (↑(List.length T):Int)) T)))++[32])then bif inI 0 (List.length (List.drop (Int.toNat a) (List.take (Int.toNat (↑(List.length T):Int)) T)))then bif (↑(UInt8.toNat (List.getD (List.drop (Int.toNat a) (List.take (Int.toNat (↑(List.length T):Int)) T)) (Int.toNat 0) 0)):Int) !=32 then bif inI 1 (List.length (List.drop (Int.toNat a) (List.take (Int.toNat (↑(List.length T):Int)) T)))then J 0 {tmps:=[(0,AV.ref 0 0),(3,AV.str (List.drop (Int.toNat a) (List.take (Int.toNat (↑(List.length T):Int)) T))),(31,AV.bool ((↑(UInt8.toNat (List.getD (List.drop (Int.toNat a) (List.take (Int.toNat (↑(List.length T):Int)) T)) (Int.toNat 1) 0)):Int) !=32))],blks:=[(0,Blk.cells 89 [AV.str T,Iz a,AV.own 1 1]),(1,Blk.list 46 aH 1 false K)],next:=2}else Rs.err 216 else J 0 {tmps:=[(0,AV.ref 0 0),(3,AV.str (List.drop (Int.toNat a) (List.take (Int.toNat (↑(List.length T):Int)) T))),(31,AV.bool false)],blks:=[(0,Blk.cells 89 [AV.str T,Iz a,AV.own 1 1]),(1,Blk.list 46 aH 1 false K)],next:=2}else Rs.err 211 else J 0 {tmps:=[(0,AV.ref 0 0),(3,AV.str (List.drop (Int.toNat a) (List.take (Int.toNat (↑(List.length T):Int)) T))),(31,AV.bool false)],blks:=[(0,Blk.cells 89 [AV.str T,Iz a,AV.own 1 1]),(1,Blk.list 46 aH 1 false K)],next:=2}else Rs.err 206 else Rs.err 205 else J 0 {tmps:=[(0,AV.ref 0 0),(3,AV.str (List.drop (Int.toNat a) (List.take (Int.toNat (↑(List.length T):Int)) T))),(31,AV.bool false)],blks:=[(0,Blk.cells 89 [AV.str T,Iz a,AV.own 1 1]),(1,Blk.list 46 aH 1 false K)],next:=2}else Rs.err 108:=by kernel_rfl
theorem FQ(J:Jump R0)(T:List UInt8)(a:Int)(K:List Tok)(s:List UInt8)(b:Bool):resume E (an eD) (aR 2 uO 0) J [true,true,false,true] uG.code 1 (Ja T a K s b) (bX E 2 uG.results .ok)=bif b then Rs.ok (Out.ret (Iz 0),[Blk.cells 89 [AV.str T,Iz (IntKind.wrap IntKind.i64 (a+2)),AV.own 1 1],Blk.list 46 aH 1 false K])else bif inI 0 (List.length s)then bif decide (ibS [123,125,40,41,91,93,59,44,46,61,60,62,43,45,42,47,37,33,63] (↑(UInt8.toNat (List.getD s (Int.toNat 0) 0)):Int)≥0)then Rs.ok (Out.ret (Iz 0),[Blk.cells 89 [AV.str T,Iz (IntKind.wrap IntKind.i64 (a+1)),AV.own 1 1],Blk.list 46 aH 1 false K])else Rs.ok (Out.ret (Iz (Int.ofNat 60)),[Blk.cells 89 [AV.str T,Iz a,AV.own 1 1],Blk.list 46 aH 1 false K])else Rs.err 501:=by kernel_rfl
theorem Gu(J:Jump R0)(T:List UInt8)(a:Int)(K:List Tok):start E (an eD) pL pb J [.ref 0 0] (bsR T a K) .ok=J 0 {tmps:=[(0,AV.ref 0 0)],blks:=[(0,Blk.cells 89 [AV.str T,Iz (IntKind.wrap IntKind.i64 (a+1)),AV.own 1 1]),(1,Blk.list 46 aH 1 false K)],next:=2}:=by kernel_rfl
theorem Bv(J:Jump R0)(T:List UInt8)(a:Int)(K:List Tok):resume E (an eD) (aR 2 pb 0) J [true,true,false,false,false] pL.code 1 (mkR T a K) (bX E 2 pL.results .ok)=bif decide (a<(↑(List.length T):Int))then bif inI a (List.length T)then bif (↑(UInt8.toNat (List.getD T (Int.toNat a) 0)):Int)==34 then Rs.ok (Out.ret (Iz 0),[Blk.cells 89 [AV.str T,Iz (IntKind.wrap IntKind.i64 (a+1)),AV.own 1 1],Blk.list 46 aH 1 false K])else bif (↑(UInt8.toNat (List.getD T (Int.toNat a) 0)):Int)==10 then Rs.ok (Out.ret (Iz (Int.ofNat 61)),[Blk.cells 89 [AV.str T,Iz a,AV.own 1 1],Blk.list 46 aH 1 false K])else bif decide ((↑(UInt8.toNat (List.getD T (Int.toNat a) 0)):Int)<32)then Rs.ok (Out.ret (Iz (Int.ofNat 60)),[Blk.cells 89 [AV.str T,Iz a,AV.own 1 1],Blk.list 46 aH 1 false K])else bif decide ((↑(UInt8.toNat (List.getD T (Int.toNat a) 0)):Int)>126)then Rs.ok (Out.ret (Iz (Int.ofNat 60)),[Blk.cells 89 [AV.str T,Iz a,AV.own 1 1],Blk.list 46 aH 1 false K])else bif (↑(UInt8.toNat (List.getD T (Int.toNat a) 0)):Int)==92 then bif decide (IntKind.wrap IntKind.i64 (a+1)≥(↑(List.length T):Int))then Rs.ok (Out.ret (Iz (Int.ofNat 61)),[Blk.cells 89 [AV.str T,Iz a,AV.own 1 1],Blk.list 46 aH 1 false K])else bif inI (IntKind.wrap IntKind.i64 (a+1)) (List.length T)then bif decide (ibS [34,92,110,116] (↑(UInt8.toNat (List.getD T (Int.toNat (IntKind.wrap IntKind.i64 (a+1))) 0)):Int)<0)then Rs.ok (Out.ret (Iz (Int.ofNat 5)),[Blk.cells 89 [AV.str T,Iz a,AV.own 1 1],Blk.list 46 aH 1 false K])else J 0 {tmps:=[(0,AV.ref 0 0)],blks:=[(0,Blk.cells 89 [AV.str T,Iz (IntKind.wrap IntKind.i64 (IntKind.wrap IntKind.i64 (a+1)+1)),AV.own 1 1]),(1,Blk.list 46 aH 1 false K)],next:=2}else Rs.err 1409 else J 0 {tmps:=[(0,AV.ref 0 0)],blks:=[(0,Blk.cells 89 [AV.str T,Iz (IntKind.wrap IntKind.i64 (a+1)),AV.own 1 1]),(1,Blk.list 46 aH 1 false K)],next:=2}else Rs.err 308 else Rs.ok (Out.ret (Iz (Int.ofNat 61)),[Blk.cells 89 [AV.str T,Iz a,AV.own 1 1],Blk.list 46 aH 1 false K]):=by kernel_rfl
end Go.Sx.Tryz
