/- A part of the proof: see the row's text. -/
import Derived.Test.YtaklpoiaicepoaaGreatDoorZa10
import Derived.Test.YtaklpoiaicepoaaGreatDoorZa06
import Derived.KernelRfl
import Derived.Test.YtaklpoiaicepoaaGreatDoorZa08
import Derived.Shelf.Strings.Search3
import Derived.Shelf.Strings.Prefix
import Derived.Shelf.Small.Strs
set_option linter.unusedVariables false
set_option linter.unusedSimpArgs false
noncomputable section
namespace Go.Sx
open Go
def wu(P:Program)(i:Nat)(l:List (Option TI)):Prop:=∀j ti,nth l j=some (some ti)→ar P (i+j) ti.ty=some ti
theorem wu.nil{P:Program}{i:Nat}:wu P i []:=fun j ti h=>by cases j<;>cases h
theorem wu.none{P:Program}{i:Nat}{l:List (Option TI)}(h:wu P (i+1) l):wu P i (Option.none::l):=fun j ti hj=>by
 cases j with
 |zero=>cases hj
 |succ j=>have:=h j ti hj;rwa [show i+(j+1)=i+1+j by omega]
theorem wu.some{P:Program}{i:Nat}{x:TI}{l:List (Option TI)}(hx:ar P i x.ty=Option.some x)(h:wu P (i+1) l):wu P i (Option.some x::l):=fun j ti hj=>by
 cases j with
 |zero=>cases hj;exact hx
 |succ j=>have:=h j ti hj;rwa [show i+(j+1)=i+1+j by omega]
def wy(P:Program)(i:Nat)(l:List (Option FI)):Prop:=∀j fi,nth l j=some (some fi)→FIOK P (i+j) fi
theorem wy.nil{P:Program}{i:Nat}:wy P i []:=fun j ti h=>by cases j<;>cases h
theorem wy.none{P:Program}{i:Nat}{l:List (Option FI)}(h:wy P (i+1) l):wy P i (Option.none::l):=fun j ti hj=>by
 cases j with
 |zero=>cases hj
 |succ j=>have:=h j ti hj;rwa [show i+(j+1)=i+1+j by omega]
theorem wy.some{P:Program}{i:Nat}{x:FI}{l:List (Option FI)}(hx:FIOK P i x)(h:wy P (i+1) l):wy P i (Option.some x::l):=fun j ti hj=>by
 cases j with
 |zero=>cases hj;exact hx
 |succ j=>have:=h j ti hj;rwa [show i+(j+1)=i+1+j by omega]
end Go.Sx
namespace Go.Sx.Tryz
open Go Go.Sx Go.Proofs
set_option maxRecDepth 100000
theorem tc0:ar Tryz.prog 0 ti0.ty=some ti0:=by kernel_rfl
theorem tc1:ar Tryz.prog 1 ti1.ty=some ti1:=by kernel_rfl
theorem tc2:ar Tryz.prog 2 ti2.ty=some ti2:=by kernel_rfl
theorem tc3:ar Tryz.prog 3 ti3.ty=some ti3:=by kernel_rfl
theorem tc4:ar Tryz.prog 4 ti4.ty=some ti4:=by kernel_rfl
theorem tc5:ar Tryz.prog 5 ti5.ty=some ti5:=by kernel_rfl
theorem tc6:ar Tryz.prog 6 ti6.ty=some ti6:=by kernel_rfl
theorem tc7:ar Tryz.prog 7 ti7.ty=some ti7:=by kernel_rfl
theorem tc8:ar Tryz.prog 8 ti8.ty=some ti8:=by kernel_rfl
theorem tc9:ar Tryz.prog 9 ti9.ty=some ti9:=by kernel_rfl
theorem tc10:ar Tryz.prog 10 Rp.ty=some Rp:=by kernel_rfl
theorem tc11:ar Tryz.prog 11 QM.ty=some QM:=by kernel_rfl
theorem tc12:ar Tryz.prog 12 Qx.ty=some Qx:=by kernel_rfl
theorem tc15:ar Tryz.prog 15 N4.ty=some N4:=by kernel_rfl
theorem tc16:ar Tryz.prog 16 Pa.ty=some Pa:=by kernel_rfl
theorem tc17:ar Tryz.prog 17 Qg.ty=some Qg:=by kernel_rfl
theorem tc20:ar Tryz.prog 20 Pb.ty=some Pb:=by kernel_rfl
theorem tc21:ar Tryz.prog 21 Qh.ty=some Qh:=by kernel_rfl
theorem tc22:ar Tryz.prog 22 NA.ty=some NA:=by kernel_rfl
theorem tc23:ar Tryz.prog 23 Q4.ty=some Q4:=by kernel_rfl
theorem tc24:ar Tryz.prog 24 NH.ty=some NH:=by kernel_rfl
theorem tc25:ar Tryz.prog 25 Oy.ty=some Oy:=by kernel_rfl
theorem tc26:ar Tryz.prog 26 Od.ty=some Od:=by kernel_rfl
theorem tc27:ar Tryz.prog 27 Py.ty=some Py:=by kernel_rfl
theorem tc28:ar Tryz.prog 28 P5.ty=some P5:=by kernel_rfl
theorem tc29:ar Tryz.prog 29 Ov.ty=some Ov:=by kernel_rfl
theorem tc30:ar Tryz.prog 30 Rd.ty=some Rd:=by kernel_rfl
theorem tc31:ar Tryz.prog 31 PA.ty=some PA:=by kernel_rfl
theorem tc32:ar Tryz.prog 32 Qv.ty=some Qv:=by kernel_rfl
theorem tc33:ar Tryz.prog 33 Qm.ty=some Qm:=by kernel_rfl
theorem tc34:ar Tryz.prog 34 PE.ty=some PE:=by kernel_rfl
theorem tc35:ar Tryz.prog 35 Pf.ty=some Pf:=by kernel_rfl
theorem tc36:ar Tryz.prog 36 QG.ty=some QG:=by kernel_rfl
theorem tc37:ar Tryz.prog 37 P1.ty=some P1:=by kernel_rfl
theorem tc38:ar Tryz.prog 38 OU.ty=some OU:=by kernel_rfl
theorem tc39:ar Tryz.prog 39 O6.ty=some O6:=by kernel_rfl
theorem tc40:ar Tryz.prog 40 OJ.ty=some OJ:=by kernel_rfl
theorem tc41:ar Tryz.prog 41 Q5.ty=some Q5:=by kernel_rfl
theorem tc42:ar Tryz.prog 42 Q8.ty=some Q8:=by kernel_rfl
theorem tc43:ar Tryz.prog 43 QX.ty=some QX:=by kernel_rfl
theorem tc44:ar Tryz.prog 44 PN.ty=some PN:=by kernel_rfl
theorem tc45:ar Tryz.prog 45 Ps.ty=some Ps:=by kernel_rfl
theorem tc46:ar Tryz.prog 46 QD.ty=some QD:=by kernel_rfl
theorem tc47:ar Tryz.prog 47 Ph.ty=some Ph:=by kernel_rfl
theorem tc48:ar Tryz.prog 48 Om.ty=some Om:=by kernel_rfl
theorem tc49:ar Tryz.prog 49 OL.ty=some OL:=by kernel_rfl
theorem tc50:ar Tryz.prog 50 PM.ty=some PM:=by kernel_rfl
theorem tc51:ar Tryz.prog 51 NK.ty=some NK:=by kernel_rfl
theorem tc52:ar Tryz.prog 52 O2.ty=some O2:=by kernel_rfl
theorem tc53:ar Tryz.prog 53 OG.ty=some OG:=by kernel_rfl
theorem tc54:ar Tryz.prog 54 Ow.ty=some Ow:=by kernel_rfl
theorem tc55:ar Tryz.prog 55 NZ.ty=some NZ:=by kernel_rfl
theorem tc56:ar Tryz.prog 56 NV.ty=some NV:=by kernel_rfl
theorem tc57:ar Tryz.prog 57 QK.ty=some QK:=by kernel_rfl
theorem tc58:ar Tryz.prog 58 Rj.ty=some Rj:=by kernel_rfl
theorem tc59:ar Tryz.prog 59 O8.ty=some O8:=by kernel_rfl
theorem tc60:ar Tryz.prog 60 P9.ty=some P9:=by kernel_rfl
theorem tc61:ar Tryz.prog 61 Pc.ty=some Pc:=by kernel_rfl
theorem tc62:ar Tryz.prog 62 PU.ty=some PU:=by kernel_rfl
theorem tc63:ar Tryz.prog 63 OZ.ty=some OZ:=by kernel_rfl
theorem tc64:ar Tryz.prog 64 N3.ty=some N3:=by kernel_rfl
theorem tc65:ar Tryz.prog 65 PW.ty=some PW:=by kernel_rfl
theorem tc66:ar Tryz.prog 66 NB.ty=some NB:=by kernel_rfl
theorem tc67:ar Tryz.prog 67 OC.ty=some OC:=by kernel_rfl
theorem tc68:ar Tryz.prog 68 NW.ty=some NW:=by kernel_rfl
theorem tc69:ar Tryz.prog 69 PB.ty=some PB:=by kernel_rfl
theorem tc70:ar Tryz.prog 70 OD.ty=some OD:=by kernel_rfl
theorem tc71:ar Tryz.prog 71 Rb.ty=some Rb:=by kernel_rfl
theorem tc72:ar Tryz.prog 72 PH.ty=some PH:=by kernel_rfl
theorem tc73:ar Tryz.prog 73 Ny.ty=some Ny:=by kernel_rfl
theorem tc74:ar Tryz.prog 74 ND.ty=some ND:=by kernel_rfl
theorem tc75:ar Tryz.prog 75 PO.ty=some PO:=by kernel_rfl
theorem tc76:ar Tryz.prog 76 Q3.ty=some Q3:=by kernel_rfl
theorem tc77:ar Tryz.prog 77 Ok.ty=some Ok:=by kernel_rfl
theorem tc80:ar Tryz.prog 80 PS.ty=some PS:=by kernel_rfl
theorem tc81:ar Tryz.prog 81 QH.ty=some QH:=by kernel_rfl
theorem tc82:ar Tryz.prog 82 Ro.ty=some Ro:=by kernel_rfl
theorem tc83:ar Tryz.prog 83 Pq.ty=some Pq:=by kernel_rfl
theorem tc84:ar Tryz.prog 84 Rr.ty=some Rr:=by kernel_rfl
theorem tc85:ar Tryz.prog 85 Pr.ty=some Pr:=by kernel_rfl
theorem tc86:ar Tryz.prog 86 PI.ty=some PI:=by kernel_rfl
theorem tc87:ar Tryz.prog 87 Pl.ty=some Pl:=by kernel_rfl
theorem tc88:ar Tryz.prog 88 O1.ty=some O1:=by kernel_rfl
theorem tc89:ar Tryz.prog 89 Q0.ty=some Q0:=by kernel_rfl
theorem tc90:ar Tryz.prog 90 Rk.ty=some Rk:=by kernel_rfl
theorem tc91:ar Tryz.prog 91 PJ.ty=some PJ:=by kernel_rfl
theorem tc92:ar Tryz.prog 92 Pk.ty=some Pk:=by kernel_rfl
theorem tc93:ar Tryz.prog 93 Oh.ty=some Oh:=by kernel_rfl
theorem tc94:ar Tryz.prog 94 Po.ty=some Po:=by kernel_rfl
theorem tc95:ar Tryz.prog 95 Pe.ty=some Pe:=by kernel_rfl
theorem tc96:ar Tryz.prog 96 Nw.ty=some Nw:=by kernel_rfl
theorem tc97:ar Tryz.prog 97 P3.ty=some P3:=by kernel_rfl
theorem tc98:ar Tryz.prog 98 Px.ty=some Px:=by kernel_rfl
theorem tc99:ar Tryz.prog 99 Rl.ty=some Rl:=by kernel_rfl
theorem SQ:ar Tryz.prog 100 Gs.ty=some Gs:=by kernel_rfl
theorem Wb:ar Tryz.prog 101 GB.ty=some GB:=by kernel_rfl
theorem Ub:ar Tryz.prog 102 FP.ty=some FP:=by kernel_rfl
theorem SB:ar Tryz.prog 103 IA.ty=some IA:=by kernel_rfl
theorem Sm:ar Tryz.prog 104 I8.ty=some I8:=by kernel_rfl
theorem Rx:ar Tryz.prog 105 Ir.ty=some Ir:=by kernel_rfl
theorem Uk:ar Tryz.prog 106 FL.ty=some FL:=by kernel_rfl
theorem S6:ar Tryz.prog 107 GZ.ty=some GZ:=by kernel_rfl
theorem Vh:ar Tryz.prog 108 GU.ty=some GU:=by kernel_rfl
theorem TV:ar Tryz.prog 109 Fv.ty=some Fv:=by kernel_rfl
theorem SI:ar Tryz.prog 110 Ht.ty=some Ht:=by kernel_rfl
theorem U8:ar Tryz.prog 111 HC.ty=some HC:=by kernel_rfl
theorem Vm:ar Tryz.prog 112 I0.ty=some I0:=by kernel_rfl
theorem TB:ar Tryz.prog 113 Gl.ty=some Gl:=by kernel_rfl
theorem Wk:ar Tryz.prog 114 Jq.ty=some Jq:=by kernel_rfl
theorem Vq:ar Tryz.prog 115 Hw.ty=some Hw:=by kernel_rfl
theorem VH:ar Tryz.prog 116 JF.ty=some JF:=by kernel_rfl
theorem Vx:ar Tryz.prog 117 EU.ty=some EU:=by kernel_rfl
theorem Wn:ar Tryz.prog 119 FM.ty=some FM:=by kernel_rfl
theorem TH:ar Tryz.prog 120 H9.ty=some H9:=by kernel_rfl
theorem Ux:ar Tryz.prog 121 F1.ty=some F1:=by kernel_rfl
theorem Sv:ar Tryz.prog 122 FU.ty=some FU:=by kernel_rfl
theorem SE:ar Tryz.prog 123 GO.ty=some GO:=by kernel_rfl
theorem Tc:ar Tryz.prog 124 Fi.ty=some Fi:=by kernel_rfl
theorem UU:ar Tryz.prog 125 IV.ty=some IV:=by kernel_rfl
theorem VJ:ar Tryz.prog 126 GV.ty=some GV:=by kernel_rfl
theorem Tv:ar Tryz.prog 127 H4.ty=some H4:=by kernel_rfl
theorem T8:ar Tryz.prog 128 FQ.ty=some FQ:=by kernel_rfl
theorem Sg:ar Tryz.prog 129 Gc.ty=some Gc:=by kernel_rfl
theorem S9:ar Tryz.prog 130 Ib.ty=some Ib:=by kernel_rfl
theorem TM:ar Tryz.prog 131 G4.ty=some G4:=by kernel_rfl
theorem Uc:ar Tryz.prog 132 Jt.ty=some Jt:=by kernel_rfl
theorem Wv:ar Tryz.prog 133 Jx.ty=some Jx:=by kernel_rfl
theorem TQ:ar Tryz.prog 134 HF.ty=some HF:=by kernel_rfl
theorem SO:ar Tryz.prog 135 EO.ty=some EO:=by kernel_rfl
theorem VA:ar Tryz.prog 136 Gx.ty=some Gx:=by kernel_rfl
theorem TK:ar Tryz.prog 137 I3.ty=some I3:=by kernel_rfl
theorem TX:ar Tryz.prog 138 EV.ty=some EV:=by kernel_rfl
theorem RU:ar Tryz.prog 139 Fg.ty=some Fg:=by kernel_rfl
theorem SZ:ar Tryz.prog 140 Hp.ty=some Hp:=by kernel_rfl
theorem Vn:ar Tryz.prog 141 Fy.ty=some Fy:=by kernel_rfl
theorem Wi:ar Tryz.prog 142 FG.ty=some FG:=by kernel_rfl
theorem Wd:ar Tryz.prog 143 Fo.ty=some Fo:=by kernel_rfl
theorem VD:ar Tryz.prog 144 Fk.ty=some Fk:=by kernel_rfl
theorem Wm:ar Tryz.prog 145 EP.ty=some EP:=by kernel_rfl
theorem Rw:ar Tryz.prog 147 Hx.ty=some Hx:=by kernel_rfl
theorem VB:ar Tryz.prog 148 Ja.ty=some Ja:=by kernel_rfl
theorem Wf:ar Tryz.prog 149 GD.ty=some GD:=by kernel_rfl
theorem Ue:ar Tryz.prog 150 E9.ty=some E9:=by kernel_rfl
theorem T3:ar Tryz.prog 151 Iy.ty=some Iy:=by kernel_rfl
theorem VX:ar Tryz.prog 152 Es.ty=some Es:=by kernel_rfl
theorem US:ar Tryz.prog 153 FW.ty=some FW:=by kernel_rfl
theorem Ta:ar Tryz.prog 154 E8.ty=some E8:=by kernel_rfl
theorem Tf:ar Tryz.prog 155 ID.ty=some ID:=by kernel_rfl
theorem Tq:ar Tryz.prog 157 FF.ty=some FF:=by kernel_rfl
theorem S2:ar Tryz.prog 158 Jn.ty=some Jn:=by kernel_rfl
theorem SW:ar Tryz.prog 159 IK.ty=some IK:=by kernel_rfl
theorem RG:ar Tryz.prog 160 Gr.ty=some Gr:=by kernel_rfl
theorem Vv:ar Tryz.prog 161 Iw.ty=some Iw:=by kernel_rfl
theorem SS:ar Tryz.prog 162 G6.ty=some G6:=by kernel_rfl
theorem Uh:ar Tryz.prog 163 Fs.ty=some Fs:=by kernel_rfl
theorem TE:ar Tryz.prog 164 IG.ty=some IG:=by kernel_rfl
theorem VT:ar Tryz.prog 165 HY.ty=some HY:=by kernel_rfl
theorem TF:ar Tryz.prog 166 Ez.ty=some Ez:=by kernel_rfl
theorem TA:ar Tryz.prog 167 JI.ty=some JI:=by kernel_rfl
theorem Su:ar Tryz.prog 168 Gg.ty=some Gg:=by kernel_rfl
theorem U6:ar Tryz.prog 169 F6.ty=some F6:=by kernel_rfl
theorem Rt:ar Tryz.prog 170 JG.ty=some JG:=by kernel_rfl
theorem Vp:ar Tryz.prog 171 EB.ty=some EB:=by kernel_rfl
theorem Vt:ar Tryz.prog 172 GX.ty=some GX:=by kernel_rfl
theorem Wc:ar Tryz.prog 173 EG.ty=some EG:=by kernel_rfl
theorem Ss:ar Tryz.prog 174 Ip.ty=some Ip:=by kernel_rfl
theorem VQ:ar Tryz.prog 175 IL.ty=some IL:=by kernel_rfl
theorem V9:ar Tryz.prog 176 Im.ty=some Im:=by kernel_rfl
theorem VN:ar Tryz.prog 177 Ji.ty=some Ji:=by kernel_rfl
theorem T4:ar Tryz.prog 178 H0.ty=some H0:=by kernel_rfl
theorem TP:ar Tryz.prog 179 Hz.ty=some Hz:=by kernel_rfl
theorem Uu:ar Tryz.prog 180 Fb.ty=some Fb:=by kernel_rfl
theorem U2:ar Tryz.prog 181 E4.ty=some E4:=by kernel_rfl
theorem UW:ar Tryz.prog 182 Gy.ty=some Gy:=by kernel_rfl
theorem Th:ar Tryz.prog 183 F9.ty=some F9:=by kernel_rfl
theorem Sw:ar Tryz.prog 184 Fq.ty=some Fq:=by kernel_rfl
theorem Tt:ar Tryz.prog 185 IB.ty=some IB:=by kernel_rfl
theorem Wq:ar Tryz.prog 186 Ga.ty=some Ga:=by kernel_rfl
theorem Ua:ar Tryz.prog 187 Fe.ty=some Fe:=by kernel_rfl
theorem Ve:ar Tryz.prog 188 Hg.ty=some Hg:=by kernel_rfl
theorem R5:ar Tryz.prog 189 ET.ty=some ET:=by kernel_rfl
theorem Vb:ar Tryz.prog 190 Je.ty=some Je:=by kernel_rfl
theorem Sk:ar Tryz.prog 191 HG.ty=some HG:=by kernel_rfl
theorem Vr:ar Tryz.prog 192 IQ.ty=some IQ:=by kernel_rfl
theorem UY:ar Tryz.prog 193 FN.ty=some FN:=by kernel_rfl
theorem V8:ar Tryz.prog 194 HV.ty=some HV:=by kernel_rfl
theorem U9:ar Tryz.prog 195 Hv.ty=some Hv:=by kernel_rfl
theorem R6:ar Tryz.prog 196 Gf.ty=some Gf:=by kernel_rfl
theorem UX:ar Tryz.prog 197 I4.ty=some I4:=by kernel_rfl
theorem RR:ar Tryz.prog 198 Jf.ty=some Jf:=by kernel_rfl
theorem VZ:ar Tryz.prog 199 E3.ty=some E3:=by kernel_rfl
theorem T2:ar Tryz.prog 200 ER.ty=some ER:=by kernel_rfl
theorem UE:ar Tryz.prog 203 Fj.ty=some Fj:=by kernel_rfl
theorem T9:ar Tryz.prog 205 Fx.ty=some Fx:=by kernel_rfl
theorem R9:ar Tryz.prog 206 FE.ty=some FE:=by kernel_rfl
theorem UT:ar Tryz.prog 207 Ju.ty=some Ju:=by kernel_rfl
theorem RQ:ar Tryz.prog 208 E5.ty=some E5:=by kernel_rfl
theorem TO:ar Tryz.prog 209 EW.ty=some EW:=by kernel_rfl
theorem Sl:ar Tryz.prog 210 FR.ty=some FR:=by kernel_rfl
theorem UK:ar Tryz.prog 211 FB.ty=some FB:=by kernel_rfl
theorem Sc:ar Tryz.prog 212 Hb.ty=some Hb:=by kernel_rfl
theorem Wt:ar Tryz.prog 213 Js.ty=some Js:=by kernel_rfl
theorem Wa:ar Tryz.prog 214 Jg.ty=some Jg:=by kernel_rfl
theorem To:ar Tryz.prog 215 Gn.ty=some Gn:=by kernel_rfl
theorem UM:ar Tryz.prog 216 F8.ty=some F8:=by kernel_rfl
theorem RS:ar Tryz.prog 217 GC.ty=some GC:=by kernel_rfl
theorem Sq:ar Tryz.prog 218 Jz.ty=some Jz:=by kernel_rfl
theorem Va:ar Tryz.prog 219 It.ty=some It:=by kernel_rfl
theorem Sy:ar Tryz.prog 220 G9.ty=some G9:=by kernel_rfl
theorem U1:ar Tryz.prog 221 Gh.ty=some Gh:=by kernel_rfl
theorem Ws:ar Tryz.prog 222 E6.ty=some E6:=by kernel_rfl
theorem So:ar Tryz.prog 223 Ge.ty=some Ge:=by kernel_rfl
theorem Vj:ar Tryz.prog 224 Ic.ty=some Ic:=by kernel_rfl
theorem U4:ar Tryz.prog 228 EI.ty=some EI:=by kernel_rfl
theorem We:ar Tryz.prog 229 HW.ty=some HW:=by kernel_rfl
theorem UP:ar Tryz.prog 230 Ix.ty=some Ix:=by kernel_rfl
theorem Ry:ar Tryz.prog 231 Ew.ty=some Ew:=by kernel_rfl
theorem RJ:ar Tryz.prog 232 JB.ty=some JB:=by kernel_rfl
theorem TC:ar Tryz.prog 233 Jo.ty=some Jo:=by kernel_rfl
theorem Ur:ar Tryz.prog 234 GL.ty=some GL:=by kernel_rfl
theorem Wx:ar Tryz.prog 235 IP.ty=some IP:=by kernel_rfl
theorem UL:ar Tryz.prog 236 HI.ty=some HI:=by kernel_rfl
theorem VV:ar Tryz.prog 237 El.ty=some El:=by kernel_rfl
theorem WJ:ar Tryz.prog 238 Ii.ty=some Ii:=by kernel_rfl
theorem Ts:ar Tryz.prog 239 Eu.ty=some Eu:=by kernel_rfl
theorem VS:ar Tryz.prog 240 GY.ty=some GY:=by kernel_rfl
theorem Vf:ar Tryz.prog 241 FK.ty=some FK:=by kernel_rfl
theorem Tj:ar Tryz.prog 242 IZ.ty=some IZ:=by kernel_rfl
theorem Tz:ar Tryz.prog 243 Fh.ty=some Fh:=by kernel_rfl
theorem RT:ar Tryz.prog 244 IS.ty=some IS:=by kernel_rfl
theorem V4:ar Tryz.prog 245 EK.ty=some EK:=by kernel_rfl
theorem S5:ar Tryz.prog 246 FH.ty=some FH:=by kernel_rfl
theorem VK:ar Tryz.prog 247 I1.ty=some I1:=by kernel_rfl
theorem VY:ar Tryz.prog 248 EN.ty=some EN:=by kernel_rfl
theorem Vl:ar Tryz.prog 249 Gq.ty=some Gq:=by kernel_rfl
theorem WI:ar Tryz.prog 250 Ie.ty=some Ie:=by kernel_rfl
theorem Vd:ar Tryz.prog 252 Hf.ty=some Hf:=by kernel_rfl
theorem SF:ar Tryz.prog 253 I6.ty=some I6:=by kernel_rfl
theorem SH:ar Tryz.prog 254 Hd.ty=some Hd:=by kernel_rfl
theorem Si:ar Tryz.prog 255 Ff.ty=some Ff:=by kernel_rfl
theorem Sz:ar Tryz.prog 256 IM.ty=some IM:=by kernel_rfl
theorem RH:ar Tryz.prog 257 Gt.ty=some Gt:=by kernel_rfl
theorem T6:ar Tryz.prog 258 Jr.ty=some Jr:=by kernel_rfl
theorem S8:ar Tryz.prog 261 FT.ty=some FT:=by kernel_rfl
theorem V1:ar Tryz.prog 264 Ik.ty=some Ik:=by kernel_rfl
theorem SU:ar Tryz.prog 265 IY.ty=some IY:=by kernel_rfl
theorem TL:ar Tryz.prog 266 Fw.ty=some Fw:=by kernel_rfl
theorem Uv:ar Tryz.prog 267 Fm.ty=some Fm:=by kernel_rfl
theorem Tw:ar Tryz.prog 268 HN.ty=some HN:=by kernel_rfl
theorem Ul:ar Tryz.prog 271 FZ.ty=some FZ:=by kernel_rfl
theorem tchk:wu Tryz.prog 0 tis:=
 (.some tc0 (.some tc1 (.some tc2 (.some tc3 (.some tc4 (.some tc5 (.some tc6 (.some tc7 (.some tc8 (.some tc9 (.some tc10 (.some tc11 (.some tc12 (.none (.none (.some tc15 (.some tc16 (.some tc17 (.none (.none (.some tc20 (.some tc21 (.some tc22 (.some tc23 (.some tc24 (.some tc25 (.some tc26 (.some tc27 (.some tc28 (.some tc29 (.some tc30 (.some tc31 (.some tc32 (.some tc33 (.some tc34 (.some tc35 (.some tc36 (.some tc37 (.some tc38 (.some tc39 (.some tc40 (.some tc41 (.some tc42 (.some tc43 (.some tc44 (.some tc45 (.some tc46 (.some tc47 (.some tc48 (.some tc49 (.some tc50 (.some tc51 (.some tc52 (.some tc53 (.some tc54 (.some tc55 (.some tc56 (.some tc57 (.some tc58 (.some tc59 (.some tc60 (.some tc61 (.some tc62 (.some tc63 (.some tc64 (.some tc65 (.some tc66 (.some tc67 (.some tc68 (.some tc69 (.some tc70 (.some tc71 (.some tc72 (.some tc73 (.some tc74 (.some tc75 (.some tc76 (.some tc77 (.none (.none (.some tc80 (.some tc81 (.some tc82 (.some tc83 (.some tc84 (.some tc85 (.some tc86 (.some tc87 (.some tc88 (.some tc89 (.some tc90 (.some tc91 (.some tc92 (.some tc93 (.some tc94 (.some tc95 (.some tc96 (.some tc97 (.some tc98 (.some tc99 (.some SQ (.some Wb (.some Ub (.some SB (.some Sm (.some Rx (.some Uk (.some S6 (.some Vh (.some TV (.some SI (.some U8 (.some Vm (.some TB (.some Wk (.some Vq (.some VH (.some Vx (.none (.some Wn (.some TH (.some Ux (.some Sv (.some SE (.some Tc (.some UU (.some VJ (.some Tv (.some T8 (.some Sg (.some S9 (.some TM (.some Uc (.some Wv (.some TQ (.some SO (.some VA (.some TK (.some TX (.some RU (.some SZ (.some Vn (.some Wi (.some Wd (.some VD (.some Wm (.none (.some Rw (.some VB (.some Wf (.some Ue (.some T3 (.some VX (.some US (.some Ta (.some Tf (.none (.some Tq (.some S2 (.some SW (.some RG (.some Vv (.some SS (.some Uh (.some TE (.some VT (.some TF (.some TA (.some Su (.some U6 (.some Rt (.some Vp (.some Vt (.some Wc (.some Ss (.some VQ (.some V9 (.some VN (.some T4 (.some TP (.some Uu (.some U2 (.some UW (.some Th (.some Sw (.some Tt (.some Wq (.some Ua (.some Ve (.some R5 (.some Vb (.some Sk (.some Vr (.some UY (.some V8 (.some U9 (.some R6 (.some UX (.some RR (.some VZ (.some T2 (.none (.none (.some UE (.none (.some T9 (.some R9 (.some UT (.some RQ (.some TO (.some Sl (.some UK (.some Sc (.some Wt (.some Wa (.some To (.some UM (.some RS (.some Sq (.some Va (.some Sy (.some U1 (.some Ws (.some So (.some Vj (.none (.none (.none (.some U4 (.some We (.some UP (.some Ry (.some RJ (.some TC (.some Ur (.some Wx (.some UL (.some VV (.some WJ (.some Ts (.some VS (.some Vf (.some Tj (.some Tz (.some RT (.some V4 (.some S5 (.some VK (.some VY (.some Vl (.some WI (.none (.some Vd (.some SF (.some SH (.some Si (.some Sz (.some RH (.some T6 (.none (.none (.some S8 (.none (.none (.some V1 (.some SU (.some TL (.some Uv (.some Tw (.none (.none (.some Ul .nil))))))))))))))))))))))))))))))))))))))))))))))))))))))))))))))))))))))))))))))))))))))))))))))))))))))))))))))))))))))))))))))))))))))))))))))))))))))))))))))))))))))))))))))))))))))))))))))))))))))))))))))))))))))))))))))))))))))))))))))))))))))))))))))))))))))))))))))))
theorem fc3:FIOK Tryz.prog 3 fi3:=⟨⟨Tryz.f3,Tryz.func3,rfl,rfl,rfl,by kernel_rfl⟩,by kernel_rfl⟩
theorem fc4:FIOK Tryz.prog 4 fi4:=⟨⟨Tryz.f4,Tryz.func4,rfl,rfl,rfl,by kernel_rfl⟩,by kernel_rfl⟩
theorem fc5:FIOK Tryz.prog 5 fi5:=⟨⟨Tryz.f5,Tryz.func5,rfl,rfl,rfl,by kernel_rfl⟩,by kernel_rfl⟩
theorem fc6:FIOK Tryz.prog 6 fi6:=⟨⟨Tryz.f6,Tryz.func6,rfl,rfl,rfl,by kernel_rfl⟩,by kernel_rfl⟩
theorem fc7:FIOK Tryz.prog 7 fi7:=⟨⟨Tryz.f7,Tryz.func7,rfl,rfl,rfl,by kernel_rfl⟩,by kernel_rfl⟩
theorem fc8:FIOK Tryz.prog 8 fi8:=⟨⟨Tryz.f8,Tryz.func8,rfl,rfl,rfl,by kernel_rfl⟩,by kernel_rfl⟩
theorem fc9:FIOK Tryz.prog 9 fi9:=⟨⟨Tryz.f9,Tryz.func9,rfl,rfl,rfl,by kernel_rfl⟩,by kernel_rfl⟩
theorem OR:FIOK Tryz.prog 10 mi:=⟨⟨Tryz.f10,Tryz.func10,rfl,rfl,rfl,by kernel_rfl⟩,by kernel_rfl⟩
theorem Sr:FIOK Tryz.prog 11 LU:=⟨⟨Tryz.f11,Tryz.func11,rfl,rfl,rfl,by kernel_rfl⟩,by kernel_rfl⟩
theorem Q9:FIOK Tryz.prog 15 yw:=⟨⟨Tryz.f15,Tryz.func15,rfl,rfl,rfl,by kernel_rfl⟩,by kernel_rfl⟩
theorem Wg:FIOK Tryz.prog 16 K1:=⟨⟨Tryz.f16,Tryz.func16,rfl,rfl,rfl,by kernel_rfl⟩,by kernel_rfl⟩
theorem Sj:FIOK Tryz.prog 17 KM:=⟨⟨Tryz.f17,Tryz.func17,rfl,rfl,rfl,by kernel_rfl⟩,by kernel_rfl⟩
theorem fc18:FIOK Tryz.prog 18 UN:=⟨⟨Tryz.f18,Tryz.func18,rfl,rfl,rfl,by kernel_rfl⟩,by kernel_rfl⟩
theorem fc20:FIOK Tryz.prog 20 VU:=⟨⟨Tryz.f20,Tryz.func20,rfl,rfl,rfl,by kernel_rfl⟩,by kernel_rfl⟩
theorem fc21:FIOK Tryz.prog 21 Tl:=⟨⟨Tryz.f21,Tryz.func21,rfl,rfl,rfl,by kernel_rfl⟩,by kernel_rfl⟩
theorem fc23:FIOK Tryz.prog 23 TU:=⟨⟨Tryz.f23,Tryz.func23,rfl,rfl,rfl,by kernel_rfl⟩,by kernel_rfl⟩
theorem fc25:FIOK Tryz.prog 25 ON:=⟨⟨Tryz.f25,Tryz.func25,rfl,rfl,rfl,by kernel_rfl⟩,by kernel_rfl⟩
theorem Kj:FIOK Tryz.prog 26 vN:=⟨⟨Tryz.f26,Tryz.func26,rfl,rfl,rfl,by kernel_rfl⟩,by kernel_rfl⟩
theorem N7:FIOK Tryz.prog 27 Qt:=⟨⟨Tryz.f27,Tryz.func27,rfl,rfl,rfl,by kernel_rfl⟩,by kernel_rfl⟩
theorem T5:FIOK Tryz.prog 28 fy:=⟨⟨Tryz.f28,Tryz.func28,rfl,rfl,rfl,by kernel_rfl⟩,by kernel_rfl⟩
theorem RF:FIOK Tryz.prog 29 qO:=⟨⟨Tryz.f29,Tryz.func29,rfl,rfl,rfl,by kernel_rfl⟩,by kernel_rfl⟩
theorem S7:FIOK Tryz.prog 36 gJ:=⟨⟨Tryz.f36,Tryz.func36,rfl,rfl,rfl,by kernel_rfl⟩,by kernel_rfl⟩
theorem Vy:FIOK Tryz.prog 37 AM:=⟨⟨Tryz.f37,Tryz.func37,rfl,rfl,rfl,by kernel_rfl⟩,by kernel_rfl⟩
theorem fc39:FIOK Tryz.prog 39 Tu:=⟨⟨Tryz.f39,Tryz.func39,rfl,rfl,rfl,by kernel_rfl⟩,by kernel_rfl⟩
theorem fc43:FIOK Tryz.prog 43 Wo:=⟨⟨Tryz.f43,Tryz.func43,rfl,rfl,rfl,by kernel_rfl⟩,by kernel_rfl⟩
theorem fc44:FIOK Tryz.prog 44 Ud:=⟨⟨Tryz.f44,Tryz.func44,rfl,rfl,rfl,by kernel_rfl⟩,by kernel_rfl⟩
theorem Vk:FIOK Tryz.prog 45 Ld:=⟨⟨Tryz.f45,Tryz.func45,rfl,rfl,rfl,by kernel_rfl⟩,by kernel_rfl⟩
theorem Uz:FIOK Tryz.prog 46 Kr:=⟨⟨Tryz.f46,Tryz.func46,rfl,rfl,rfl,by kernel_rfl⟩,by kernel_rfl⟩
theorem Sa:FIOK Tryz.prog 47 wL:=⟨⟨Tryz.f47,Tryz.func47,rfl,rfl,rfl,by kernel_rfl⟩,by kernel_rfl⟩
theorem Sd:FIOK Tryz.prog 48 LM:=⟨⟨Tryz.f48,Tryz.func48,rfl,rfl,rfl,by kernel_rfl⟩,by kernel_rfl⟩
theorem VG:FIOK Tryz.prog 49 tq:=⟨⟨Tryz.f49,Tryz.func49,rfl,rfl,rfl,by kernel_rfl⟩,by kernel_rfl⟩
theorem RB:FIOK Tryz.prog 50 L4:=⟨⟨Tryz.f50,Tryz.func50,rfl,rfl,rfl,by kernel_rfl⟩,by kernel_rfl⟩
theorem RA:FIOK Tryz.prog 51 sM:=⟨⟨Tryz.f51,Tryz.func51,rfl,rfl,rfl,by kernel_rfl⟩,by kernel_rfl⟩
theorem Uo:FIOK Tryz.prog 53 sS:=⟨⟨Tryz.f53,Tryz.func53,rfl,rfl,rfl,by kernel_rfl⟩,by kernel_rfl⟩
theorem Sb:FIOK Tryz.prog 59 iM:=⟨⟨Tryz.f59,Tryz.func59,rfl,rfl,rfl,by kernel_rfl⟩,by kernel_rfl⟩
theorem WH:FIOK Tryz.prog 60 LK:=⟨⟨Tryz.f60,Tryz.func60,rfl,rfl,rfl,by kernel_rfl⟩,by kernel_rfl⟩
theorem U0:FIOK Tryz.prog 61 Kg:=⟨⟨Tryz.f61,Tryz.func61,rfl,rfl,rfl,by kernel_rfl⟩,by kernel_rfl⟩
theorem T1:FIOK Tryz.prog 62 L3:=⟨⟨Tryz.f62,Tryz.func62,rfl,rfl,rfl,by kernel_rfl⟩,by kernel_rfl⟩
theorem UC:FIOK Tryz.prog 63 Ky:=⟨⟨Tryz.f63,Tryz.func63,rfl,rfl,rfl,by kernel_rfl⟩,by kernel_rfl⟩
theorem UZ:FIOK Tryz.prog 64 sT:=⟨⟨Tryz.f64,Tryz.func64,rfl,rfl,rfl,by kernel_rfl⟩,by kernel_rfl⟩
theorem RP:FIOK Tryz.prog 65 xw:=⟨⟨Tryz.f65,Tryz.func65,rfl,rfl,rfl,by kernel_rfl⟩,by kernel_rfl⟩
theorem fc67:FIOK Tryz.prog 67 RV:=⟨⟨Tryz.f67,Tryz.func67,rfl,rfl,rfl,by kernel_rfl⟩,by kernel_rfl⟩
theorem fc70:FIOK Tryz.prog 70 Vs:=⟨⟨Tryz.f70,Tryz.func70,rfl,rfl,rfl,by kernel_rfl⟩,by kernel_rfl⟩
theorem Se:FIOK Tryz.prog 71 Nx:=⟨⟨Tryz.f71,Tryz.func71,rfl,rfl,rfl,by kernel_rfl⟩,by kernel_rfl⟩
theorem Us:FIOK Tryz.prog 72 K8:=⟨⟨Tryz.f72,Tryz.func72,rfl,rfl,rfl,by kernel_rfl⟩,by kernel_rfl⟩
theorem VO:FIOK Tryz.prog 73 Lt:=⟨⟨Tryz.f73,Tryz.func73,rfl,rfl,rfl,by kernel_rfl⟩,by kernel_rfl⟩
theorem RD:FIOK Tryz.prog 74 KG:=⟨⟨Tryz.f74,Tryz.func74,rfl,rfl,rfl,by kernel_rfl⟩,by kernel_rfl⟩
theorem VR:FIOK Tryz.prog 75 K0:=⟨⟨Tryz.f75,Tryz.func75,rfl,rfl,rfl,by kernel_rfl⟩,by kernel_rfl⟩
theorem TS:FIOK Tryz.prog 76 J5:=⟨⟨Tryz.f76,Tryz.func76,rfl,rfl,rfl,by kernel_rfl⟩,by kernel_rfl⟩
theorem VM:FIOK Tryz.prog 77 Qn:=⟨⟨Tryz.f77,Tryz.func77,rfl,rfl,rfl,by kernel_rfl⟩,by kernel_rfl⟩
theorem fc79:FIOK Tryz.prog 79 Vg:=⟨⟨Tryz.f79,Tryz.func79,rfl,rfl,rfl,by kernel_rfl⟩,by kernel_rfl⟩
theorem Sn:FIOK Tryz.prog 90 Kf:=⟨⟨Tryz.f90,Tryz.func90,rfl,rfl,rfl,by kernel_rfl⟩,by kernel_rfl⟩
theorem WC:FIOK Tryz.prog 91 th:=⟨⟨Tryz.f91,Tryz.func91,rfl,rfl,rfl,by kernel_rfl⟩,by kernel_rfl⟩
theorem Wj:FIOK Tryz.prog 92 wF:=⟨⟨Tryz.f92,Tryz.func92,rfl,rfl,rfl,by kernel_rfl⟩,by kernel_rfl⟩
theorem Up:FIOK Tryz.prog 93 wN:=⟨⟨Tryz.f93,Tryz.func93,rfl,rfl,rfl,by kernel_rfl⟩,by kernel_rfl⟩
theorem Tb:FIOK Tryz.prog 94 Lp:=⟨⟨Tryz.f94,Tryz.func94,rfl,rfl,rfl,by kernel_rfl⟩,by kernel_rfl⟩
theorem Mt:FIOK Tryz.prog 103 B7:=⟨⟨Tryz.f103,Tryz.func103,rfl,rfl,rfl,by kernel_rfl⟩,by kernel_rfl⟩
theorem Nk:FIOK Tryz.prog 104 B9:=⟨⟨Tryz.f104,Tryz.func104,rfl,rfl,rfl,by kernel_rfl⟩,by kernel_rfl⟩
theorem MZ:FIOK Tryz.prog 105 BP:=⟨⟨Tryz.f105,Tryz.func105,rfl,rfl,rfl,by kernel_rfl⟩,by kernel_rfl⟩
theorem ML:FIOK Tryz.prog 106 nj:=⟨⟨Tryz.f106,Tryz.func106,rfl,rfl,rfl,by kernel_rfl⟩,by kernel_rfl⟩
theorem MJ:FIOK Tryz.prog 113 BK:=⟨⟨Tryz.f113,Tryz.func113,rfl,rfl,rfl,by kernel_rfl⟩,by kernel_rfl⟩
theorem M3:FIOK Tryz.prog 114 Cn:=⟨⟨Tryz.f114,Tryz.func114,rfl,rfl,rfl,by kernel_rfl⟩,by kernel_rfl⟩
theorem M6:FIOK Tryz.prog 115 B5:=⟨⟨Tryz.f115,Tryz.func115,rfl,rfl,rfl,by kernel_rfl⟩,by kernel_rfl⟩
theorem MW:FIOK Tryz.prog 116 BG:=⟨⟨Tryz.f116,Tryz.func116,rfl,rfl,rfl,by kernel_rfl⟩,by kernel_rfl⟩
theorem Mi:FIOK Tryz.prog 117 Ce:=⟨⟨Tryz.f117,Tryz.func117,rfl,rfl,rfl,by kernel_rfl⟩,by kernel_rfl⟩
theorem Mu:FIOK Tryz.prog 118 HM:=⟨⟨Tryz.f118,Tryz.func118,rfl,rfl,rfl,by kernel_rfl⟩,by kernel_rfl⟩
theorem MC:FIOK Tryz.prog 119 Jv:=⟨⟨Tryz.f119,Tryz.func119,rfl,rfl,rfl,by kernel_rfl⟩,by kernel_rfl⟩
theorem MS:FIOK Tryz.prog 125 B3:=⟨⟨Tryz.f125,Tryz.func125,rfl,rfl,rfl,by kernel_rfl⟩,by kernel_rfl⟩
theorem M0:FIOK Tryz.prog 126 nt:=⟨⟨Tryz.f126,Tryz.func126,rfl,rfl,rfl,by kernel_rfl⟩,by kernel_rfl⟩
theorem Mx:FIOK Tryz.prog 127 Bx:=⟨⟨Tryz.f127,Tryz.func127,rfl,rfl,rfl,by kernel_rfl⟩,by kernel_rfl⟩
theorem Ns:FIOK Tryz.prog 128 mC:=⟨⟨Tryz.f128,Tryz.func128,rfl,rfl,rfl,by kernel_rfl⟩,by kernel_rfl⟩
theorem M4:FIOK Tryz.prog 129 IN:=⟨⟨Tryz.f129,Tryz.func129,rfl,rfl,rfl,by kernel_rfl⟩,by kernel_rfl⟩
theorem My:FIOK Tryz.prog 133 Ct:=⟨⟨Tryz.f133,Tryz.func133,rfl,rfl,rfl,by kernel_rfl⟩,by kernel_rfl⟩
theorem Nb:FIOK Tryz.prog 134 BZ:=⟨⟨Tryz.f134,Tryz.func134,rfl,rfl,rfl,by kernel_rfl⟩,by kernel_rfl⟩
theorem Mp:FIOK Tryz.prog 135 nR:=⟨⟨Tryz.f135,Tryz.func135,rfl,rfl,rfl,by kernel_rfl⟩,by kernel_rfl⟩
theorem Nj:FIOK Tryz.prog 136 BV:=⟨⟨Tryz.f136,Tryz.func136,rfl,rfl,rfl,by kernel_rfl⟩,by kernel_rfl⟩
theorem MO:FIOK Tryz.prog 137 CO:=⟨⟨Tryz.f137,Tryz.func137,rfl,rfl,rfl,by kernel_rfl⟩,by kernel_rfl⟩
theorem Mq:FIOK Tryz.prog 138 Bd:=⟨⟨Tryz.f138,Tryz.func138,rfl,rfl,rfl,by kernel_rfl⟩,by kernel_rfl⟩
theorem MR:FIOK Tryz.prog 139 BA:=⟨⟨Tryz.f139,Tryz.func139,rfl,rfl,rfl,by kernel_rfl⟩,by kernel_rfl⟩
theorem MH:FIOK Tryz.prog 140 pV:=⟨⟨Tryz.f140,Tryz.func140,rfl,rfl,rfl,by kernel_rfl⟩,by kernel_rfl⟩
theorem MQ:FIOK Tryz.prog 141 lG:=⟨⟨Tryz.f141,Tryz.func141,rfl,rfl,rfl,by kernel_rfl⟩,by kernel_rfl⟩
theorem Mn:FIOK Tryz.prog 142 Cz:=⟨⟨Tryz.f142,Tryz.func142,rfl,rfl,rfl,by kernel_rfl⟩,by kernel_rfl⟩
theorem Mm:FIOK Tryz.prog 143 nP:=⟨⟨Tryz.f143,Tryz.func143,rfl,rfl,rfl,by kernel_rfl⟩,by kernel_rfl⟩
theorem MB:FIOK Tryz.prog 146 M7:=⟨⟨Tryz.f146,Tryz.func146,rfl,rfl,rfl,by kernel_rfl⟩,by kernel_rfl⟩
theorem MA:FIOK Tryz.prog 148 BN:=⟨⟨Tryz.f148,Tryz.func148,rfl,rfl,rfl,by kernel_rfl⟩,by kernel_rfl⟩
theorem MN:FIOK Tryz.prog 154 G5:=⟨⟨Tryz.f154,Tryz.func154,rfl,rfl,rfl,by kernel_rfl⟩,by kernel_rfl⟩
theorem Ml:FIOK Tryz.prog 162 MK:=⟨⟨Tryz.f162,Tryz.func162,rfl,rfl,rfl,by kernel_rfl⟩,by kernel_rfl⟩
theorem F0:FIOK Tryz.prog 173 G8:=⟨⟨Tryz.f173,Tryz.func173,rfl,rfl,rfl,by kernel_rfl⟩,by kernel_rfl⟩
theorem Hh:FIOK Tryz.prog 174 jC:=⟨⟨Tryz.f174,Tryz.func174,rfl,rfl,rfl,by kernel_rfl⟩,by kernel_rfl⟩
theorem fchk:wy Tryz.prog 0 fis:=
 (.none (.none (.none (.some fc3 (.some fc4 (.some fc5 (.some fc6 (.some fc7 (.some fc8 (.some fc9 (.some OR (.some Sr (.none (.none (.none (.some Q9 (.some Wg (.some Sj (.some fc18 (.none (.some fc20 (.some fc21 (.none (.some fc23 (.none (.some fc25 (.some Kj (.some N7 (.some T5 (.some RF (.none (.none (.none (.none (.none (.none (.some S7 (.some Vy (.none (.some fc39 (.none (.none (.none (.some fc43 (.some fc44 (.some Vk (.some Uz (.some Sa (.some Sd (.some VG (.some RB (.some RA (.none (.some Uo (.none (.none (.none (.none (.none (.some Sb (.some WH (.some U0 (.some T1 (.some UC (.some UZ (.some RP (.none (.some fc67 (.none (.none (.some fc70 (.some Se (.some Us (.some VO (.some RD (.some VR (.some TS (.some VM (.none (.some fc79 (.none (.none (.none (.none (.none (.none (.none (.none (.none (.none (.some Sn (.some WC (.some Wj (.some Up (.some Tb (.none (.none (.none (.none (.none (.none (.none (.none (.some Mt (.some Nk (.some MZ (.some ML (.none (.none (.none (.none (.none (.none (.some MJ (.some M3 (.some M6 (.some MW (.some Mi (.some Mu (.some MC (.none (.none (.none (.none (.none (.some MS (.some M0 (.some Mx (.some Ns (.some M4 (.none (.none (.none (.some My (.some Nb (.some Mp (.some Nj (.some MO (.some Mq (.some MR (.some MH (.some MQ (.some Mn (.some Mm (.none (.none (.some MB (.none (.some MA (.none (.none (.none (.none (.none (.some MN (.none (.none (.none (.none (.none (.none (.none (.some Ml (.none (.none (.none (.none (.none (.none (.none (.none (.none (.none (.some F0 (.some Hh .nil)))))))))))))))))))))))))))))))))))))))))))))))))))))))))))))))))))))))))))))))))))))))))))))))))))))))))))))))))))))))))))))))))))))))))))))))))))))))))))))))))))))))))))))))
theorem bo(intr:List (Option aY)):EnvOK ⟨tis,fis,intr⟩ Tryz.prog:=⟨fun t ti h=>by
 have h2:nth tis t=some (some ti):=by
  unfold Env.T at h
  split at h
  ·rename_i x hx;rw[hx,h]
  ·cases h
 have:=tchk t ti h2
 rwa [Nat.zero_add]at this,by kernel_rfl⟩
theorem UR:∀f fi,nth fis f=some (some fi)→FIOK Tryz.prog f fi:=fun f fi h=>by
 have:=fchk f fi h
 rwa [Nat.zero_add]at this
end Go.Sx.Tryz
namespace Go.Sx.Tryz
open Go Go.Sx Go.Proofs
set_option maxRecDepth 100000
abbrev E:Env:=E0
abbrev Iz(n:Int):AV:=.int .i64 n
abbrev aJ:Ty:=.pair (.int .i64) (.pair (.int .i64) (.pair (.int .i64) .unit))
abbrev Tok:Type:=aJ.den
def ai(x:Tok):Int:=x.1
def ab(x:Tok):Int:=x.2.1
def tTo(x:Tok):Int:=x.2.2.1
abbrev iO:Sig:=[(false,.int .u8)]
abbrev dd:Sig:=[(false,.bool)]
abbrev cK:Sig:=[(false,.str)]
abbrev jI:Sig:=[(false,.int .i64)]
abbrev tn(c:Bool):R0:=(.ret (.bool c),[])
def isLet(c:Int):Bool:=(decide (c≥97)&&decide (c≤122))||((decide (c≥65)&&decide (c≤90))||c==95)
def aI(c:Int):Bool:=decide (c≥48)&&decide (c≤57)
def aU(c:Int):Bool:=c==32||(c==9||(c==10||c==13))
def fA(c:Int):Bool:=isLet c||aI c
def Ks(x:aA iO):aA dd:=(isLet x.1,())
def L9(x:aA iO):aA dd:=(aI x.1,())
def RN(x:aA iO):aA dd:=(aU x.1,())
def Td(x:aA iO):aA dd:=(fA x.1,())
def mj:List (Nat×aY):=[(60,cm 60 iO dd (fun _=>true) RN),(61,cm 61 iO dd (fun _=>true) Ks),(62,cm 62 iO dd (fun _=>true) Td),(63,cm 63 iO dd (fun _=>true) L9)]
def bsR(T:List UInt8)(a:Int)(K:List Tok):List Blk:=[.cells 86 [.str T,.int .i64 a,.own 1 0],.list 50 aJ 0 false K]
def sP(T:List UInt8)(a:Int)(K:List Tok):List Blk:=[.cells 86 [.str T,.int .i64 a,.own 1 1],.list 50 aJ 1 false K]
def iq:List Cut:=[⟨[false,false],some ⟨[(0,[]),(1,[])],[[],[]]⟩⟩]
def wv(T:List UInt8)(a:Int)(K:List Tok)(f:Nat):St:={tmps:=[(0,.ref 0 0),(1,.fn f [])],blks:=[(0,.cells 86 [.str T,.int .i64 a,.own 1 1]),(1,.list 50 aJ 1 false K)],next:=2}
end Go.Sx.Tryz
namespace Go.Sx.Tryz
open Go Go.Sx Go.Proofs
set_option maxRecDepth 100000
def aF(p:Int→Bool)(s:List UInt8):Nat:=(s.takeWhile fun c=>p c.toNat).length
def ln:Nat→List UInt8→Nat
 |0,_=>0
 |n+1,s=>let b:=aF aU s
  bif Lib.hasPrefix (s.drop b) [47,47]then
   let c:=aF (fun c=>c !=10) (s.drop b)
   b+c+ln n (s.drop (b+c))
  else b
def df(s:List UInt8):Nat:=ln (s.length+1) s
def rn:List UInt8:=[34,92,110,116]
def cD:Nat→List UInt8→Nat×Int
 |_,[]=>(0,61)
 |0,_=>(0,61)
 |n+1,c::r=>bif (c.toNat:Int)==34 then(1,0)else bif (c.toNat:Int)==10 then(0,61)else bif decide ((c.toNat:Int)<32)||decide ((c.toNat:Int)>126)then(0,60)
  else bif (c.toNat:Int)==92 then(match r with
   |[]=>(0,61)
   |d::r'=>bif decide (Lib.indexByte rn (d.toNat:Int).toNat.toUInt8<0)then(0,5)else let q:=cD n r'
    (q.1+2,q.2))
  else let q:=cD n r
   (q.1+1,q.2)
def eV(s:List UInt8):Nat×Int:=let q:=cD s.length (s.drop 1)
 (q.1+1,q.2)
def iu:List UInt8:=[61,61,32,33,61,32,60,61,32,62,61,32,38,38,32,124,124,32]
def ug:List UInt8:=[123,125,40,41,91,93,59,44,46,61,60,62,43,45,42,47,37,33,63]
def at8(s:List UInt8)(i:Nat):Int:=((s.getD i 0).toNat:Int)
def wO(s:List UInt8):Nat×Int:=
 bif decide ((s.length:Int)>1)&&(Lib.contains iu (s.take 2++[32])&&(at8 s 0 !=32&&at8 s 1 !=32))then(2,0)
 else bif decide (Lib.indexByte ug (at8 s 0).toNat.toUInt8≥0)then(1,0)else(0,60)
def gH(s:List UInt8):Int×Int×Nat:=
 bif isLet (at8 s 0)then
  let n:=aF fA s
  bif decide ((n:Int)>64)then(0,2,n)else(1,0,n)
 else bif aI (at8 s 0)then
  let n:=aF aI s
  bif decide (((n:Int)+1)<s.length)&&(at8 s n==46&&aI (at8 s (n+1)))then
   let m:=n+1+aF aI (s.drop (n+1))
   bif decide ((m:Int)>20)then(0,2,m)else(3,0,m)
  else bif decide ((n:Int)>20)then(0,2,n)else(2,0,n)
 else bif at8 s 0==34 then
  let q:=eV s
  bif q.2==0&&decide ((q.1:Int)>256)then(4,2,q.1)else(4,q.2,q.1)
 else let q:=wO s
  (5,q.2,q.1)
def aK(T:List UInt8)(a:Int):List UInt8:=T.drop a.toNat
def whI(p:Int→Bool)(T:List UInt8)(a:Int):Int:=a+aF p (aK T a)
def fh(T:List UInt8)(a:Int):Int:=a+df (aK T a)
def jT(T:List UInt8)(a:Int):Int:=a+(eV (aK T a)).1
def pY(T:List UInt8)(a:Int):Int:=(eV (aK T a)).2
def DA(T:List UInt8)(a:Int):Int:=a+(wO (aK T a)).1
def Dk(T:List UInt8)(a:Int):Int:=(wO (aK T a)).2
def bN(T:List UInt8)(a:Int):Int:=a+(gH (aK T a)).2.2
def jN(T:List UInt8)(a:Int):Int:=(gH (aK T a)).1
def ic(T:List UInt8)(a:Int):Int:=(gH (aK T a)).2.1
def okA(T:List UInt8)(a:Int):Bool:=decide (0≤a)&&(decide (a≤T.length)&&decide ((T.length:Int)≤1099511627776))
def jZ(T:List UInt8)(a:Int):Bool:=decide (0≤a)&&(decide (a<T.length)&&decide ((T.length:Int)≤1099511627776))
def rdC(f:Nat)(rs:Sig)(p:List UInt8→Int→Bool)(F:List UInt8→Int→aA rs)(A:List UInt8→Int→Int):aY:=fun R args bs k=>match args,bs with
 |[.ref 0 0],[.cells 86 [.str T,.int .i64 a,.own 1 0],.list 50 tK 0 false K]=>(match dK tK aJ K with
  |some K=>(match p T a with
   |true=>k (.ret (cV rs (F T a)),sP T (A T a) K)
   |false=>.err (3000000+f))
  |none=>.err f)
 |_,_=>.err f
def pOf(f:Nat):Int→Bool:=bif Nat.beq f 60 then aU else bif Nat.beq f 62 then fA else aI
def whC:aY:=fun R args bs k=>match args,bs with
 |[.ref 0 0,.fn f []],[.cells 86 [.str T,.int .i64 a,.own 1 0],.list 50 tK 0 false K]=>(match dK tK aJ K with
  |some K=>(match(Nat.beq f 60||(Nat.beq f 62||Nat.beq f 63))&&okA T a with
   |true=>k (.ret (.tup []),sP T (whI (pOf f) T a) K)
   |false=>.err 3000059)
  |none=>.err 59)
 |_,_=>.err 59
abbrev lD:Sig:=[(false,.str),(false,.str)]
abbrev CC:Sig:=[(false,.str),(false,.int .u8)]
def hpX(x:aA lD):aA dd:=(Lib.hasPrefix x.1 x.2.1,())
def QZ(x:aA lD):aA dd:=(Lib.contains x.1 x.2.1,())
def ibS(s:List UInt8)(c:Int):Int:=Lib.indexByte s c.toNat.toUInt8
def ibX(x:aA CC):aA jI:=(ibS x.1 x.2.1,())
def conB(s:List UInt8):Bool:=Nat.ble s.length 4000000000
def Nv(x:aA lD):Bool:=conB x.1
def fR:List (Nat×aY):=[(12,cm 12 lD dd (fun _=>true) hpX),(14,cm 14 lD dd Nv QZ),(88,cm 88 CC jI (fun _=>true) ibX)]
def fK:List (Nat×aY):=(59,fg 59 whC)::fR
def gE:List Cut:=[⟨[false,false],some ⟨[(0,[])],[[],[]]⟩⟩,⟨[false,false,false,true,true,false,false],some ⟨[(0,[])],[[],[]]⟩⟩]
def mkR(T:List UInt8)(a:Int)(K:List Tok):St:={tmps:=[(0,.ref 0 0)],blks:=[(0,.cells 86 [.str T,.int .i64 a,.own 1 1]),(1,.list 50 aJ 1 false K)],next:=2}
def zw:List Cut:=[⟨[true,true,false,true],some ⟨[(0,[]),(3,[]),(31,[])],[[],[]]⟩⟩]
def OH(T:List UInt8)(a:Int)(K:List Tok)(s:List UInt8)(b:Bool):St:={tmps:=[(0,.ref 0 0),(3,.str s),(31,.bool b)],blks:=[(0,.cells 86 [.str T,.int .i64 a,.own 1 1]),(1,.list 50 aJ 1 false K)],next:=2}
def rI:List Cut:=[⟨[true,true,false,false,false],some ⟨[(0,[])],[[],[]]⟩⟩]
end Go.Sx.Tryz
namespace Go.Sx.Tryz
open Go Go.Sx
set_option maxRecDepth 100000
theorem Pt(c:Int):body (R:=R0) E (ao []) LK [.int .u8 c] [] .ok=bif c==32 then Rs.ok (Out.ret (AV.bool true),[])else bif c==9 then Rs.ok (Out.ret (AV.bool true),[])else bif c==10 then Rs.ok (Out.ret (AV.bool true),[])else Rs.ok (Out.ret (AV.bool (c==13)),[]):=by kernel_rfl
theorem NF(c:Int):body (R:=R0) E (ao []) Kg [.int .u8 c] [] .ok=bif decide (c≥97)then bif decide (c≤122)then Rs.ok (Out.ret (AV.bool true),[])else bif decide (c≥65)then bif decide (c≤90)then Rs.ok (Out.ret (AV.bool true),[])else Rs.ok (Out.ret (AV.bool (c==95)),[])else Rs.ok (Out.ret (AV.bool (c==95)),[])else bif decide (c≥65)then bif decide (c≤90)then Rs.ok (Out.ret (AV.bool true),[])else Rs.ok (Out.ret (AV.bool (c==95)),[])else Rs.ok (Out.ret (AV.bool (c==95)),[]):=by kernel_rfl
theorem PD(c:Int):body (R:=R0) E (ao []) Ky [.int .u8 c] [] .ok=bif decide (c≥48)then Rs.ok (Out.ret (AV.bool (decide (c≤57))),[])else Rs.ok (Out.ret (AV.bool false),[]):=by kernel_rfl
theorem Jy(J:Jump R0)(T:List UInt8)(a:Int)(K:List Tok):start E (ao mj) iM iq J [.ref 0 0,.fn 60 []] (bsR T a K) .ok=J 0 {tmps:=[(0,AV.ref 0 0),(1,AV.fn 60 [])],blks:=[(0,Blk.cells 86 [AV.str T,Iz a,AV.own 1 1]),(1,Blk.list 50 aJ 1 false K)],next:=2}:=by kernel_rfl
theorem K3(J:Jump R0)(T:List UInt8)(a:Int)(K:List Tok):resume E (ao mj) (aT 2 iq 0) J [false,false] iM.code 1 (wv T a K 60) (bY E 2 iM.results .ok)=bif decide (a<(↑(List.length T):Int))then bif inI a (List.length T)then bif aU (↑(UInt8.toNat (List.getD T (Int.toNat a) 0)):Int)then J 0 {tmps:=[(0,AV.ref 0 0),(1,AV.fn 60 [])],blks:=[(0,Blk.cells 86 [AV.str T,Iz (IntKind.wrap IntKind.i64 (a+1)),AV.own 1 1]),(1,Blk.list 50 aJ 1 false K)],next:=2}else Rs.ok (Out.ret (AV.tup []),[Blk.cells 86 [AV.str T,Iz a,AV.own 1 1],Blk.list 50 aJ 1 false K])else Rs.err 20 else Rs.ok (Out.ret (AV.tup []),[Blk.cells 86 [AV.str T,Iz a,AV.own 1 1],Blk.list 50 aJ 1 false K]):=by kernel_rfl
theorem Ep(J:Jump R0)(T:List UInt8)(a:Int)(K:List Tok):start E (ao mj) iM iq J [.ref 0 0,.fn 62 []] (bsR T a K) .ok=J 0 {tmps:=[(0,AV.ref 0 0),(1,AV.fn 62 [])],blks:=[(0,Blk.cells 86 [AV.str T,Iz a,AV.own 1 1]),(1,Blk.list 50 aJ 1 false K)],next:=2}:=by kernel_rfl
theorem LR(J:Jump R0)(T:List UInt8)(a:Int)(K:List Tok):resume E (ao mj) (aT 2 iq 0) J [false,false] iM.code 1 (wv T a K 62) (bY E 2 iM.results .ok)=bif decide (a<(↑(List.length T):Int))then bif inI a (List.length T)then bif fA (↑(UInt8.toNat (List.getD T (Int.toNat a) 0)):Int)then J 0 {tmps:=[(0,AV.ref 0 0),(1,AV.fn 62 [])],blks:=[(0,Blk.cells 86 [AV.str T,Iz (IntKind.wrap IntKind.i64 (a+1)),AV.own 1 1]),(1,Blk.list 50 aJ 1 false K)],next:=2}else Rs.ok (Out.ret (AV.tup []),[Blk.cells 86 [AV.str T,Iz a,AV.own 1 1],Blk.list 50 aJ 1 false K])else Rs.err 20 else Rs.ok (Out.ret (AV.tup []),[Blk.cells 86 [AV.str T,Iz a,AV.own 1 1],Blk.list 50 aJ 1 false K]):=by kernel_rfl
theorem H6(J:Jump R0)(T:List UInt8)(a:Int)(K:List Tok):start E (ao mj) iM iq J [.ref 0 0,.fn 63 []] (bsR T a K) .ok=J 0 {tmps:=[(0,AV.ref 0 0),(1,AV.fn 63 [])],blks:=[(0,Blk.cells 86 [AV.str T,Iz a,AV.own 1 1]),(1,Blk.list 50 aJ 1 false K)],next:=2}:=by kernel_rfl
theorem KV(J:Jump R0)(T:List UInt8)(a:Int)(K:List Tok):resume E (ao mj) (aT 2 iq 0) J [false,false] iM.code 1 (wv T a K 63) (bY E 2 iM.results .ok)=bif decide (a<(↑(List.length T):Int))then bif inI a (List.length T)then bif aI (↑(UInt8.toNat (List.getD T (Int.toNat a) 0)):Int)then J 0 {tmps:=[(0,AV.ref 0 0),(1,AV.fn 63 [])],blks:=[(0,Blk.cells 86 [AV.str T,Iz (IntKind.wrap IntKind.i64 (a+1)),AV.own 1 1]),(1,Blk.list 50 aJ 1 false K)],next:=2}else Rs.ok (Out.ret (AV.tup []),[Blk.cells 86 [AV.str T,Iz a,AV.own 1 1],Blk.list 50 aJ 1 false K])else Rs.err 20 else Rs.ok (Out.ret (AV.tup []),[Blk.cells 86 [AV.str T,Iz a,AV.own 1 1],Blk.list 50 aJ 1 false K]):=by kernel_rfl
theorem Kk(J:Jump R0)(T:List UInt8)(a:Int)(K:List Tok):start E (ao fK) gJ gE J [.ref 0 0] (bsR T a K) .ok=J 0 {tmps:=[(0,AV.ref 0 0)],blks:=[(0,Blk.cells 86 [AV.str T,Iz a,AV.own 1 1]),(1,Blk.list 50 aJ 1 false K)],next:=2}:=by kernel_rfl
theorem B4(J:Jump R0)(T:List UInt8)(a:Int)(K:List Tok):resume E (ao fK) (aT 2 gE 0) J [false,false] gJ.code 1 (mkR T a K) (bY E 2 gJ.results .ok)=bif (Nat.beq 60 60||(Nat.beq 60 62||Nat.beq 60 63))&&okA T a then bif inB (whI (pOf 60) T a) (↑(List.length T):Int) (List.length T)then bif !Lib.hasPrefix (List.drop (Int.toNat (whI (pOf 60) T a)) (List.take (Int.toNat (↑(List.length T):Int)) T)) [47,47]then Rs.ok (Out.ret (AV.tup []),[Blk.cells 86 [AV.str T,Iz (whI (pOf 60) T a),AV.own 1 2],Blk.list 50 aJ 2 false K])else J 1 {tmps:=[(0,AV.ref 0 0)],blks:=[(0,Blk.cells 86 [AV.str T,Iz (whI (pOf 60) T a),AV.own 1 1]),(1,Blk.list 50 aJ 1 false K)],next:=2}else Rs.err 108 else Rs.err 3000059:=by kernel_rfl
theorem wQ(J:Jump R0)(T:List UInt8)(a:Int)(K:List Tok):resume E (ao fK) (aT 2 gE 0) J [false,false,false,true,true,false,false] gJ.code 1 (mkR T a K) (bY E 2 gJ.results .ok)=bif decide (a<(↑(List.length T):Int))then bif inI a (List.length T)then bif (↑(UInt8.toNat (List.getD T (Int.toNat a) 0)):Int) !=10 then J 1 {tmps:=[(0,AV.ref 0 0)],blks:=[(0,Blk.cells 86 [AV.str T,Iz (IntKind.wrap IntKind.i64 (a+1)),AV.own 1 1]),(1,Blk.list 50 aJ 1 false K)],next:=2}else J 0 {tmps:=[(0,AV.ref 0 0)],blks:=[(0,Blk.cells 86 [AV.str T,Iz a,AV.own 1 1]),(1,Blk.list 50 aJ 1 false K)],next:=2}else Rs.err 219 else J 0 {tmps:=[(0,AV.ref 0 0)],blks:=[(0,Blk.cells 86 [AV.str T,Iz a,AV.own 1 1]),(1,Blk.list 50 aJ 1 false K)],next:=2}:=by kernel_rfl
theorem Kb(J:Jump R0)(T:List UInt8)(a:Int)(K:List Tok):start E (ao fR) xw zw J [.ref 0 0] (bsR T a K) .ok=bif inB a (↑(List.length T):Int) (List.length T)then bif decide ((↑(List.length (List.drop (Int.toNat a) (List.take (Int.toNat (↑(List.length T):Int)) T))):Int)>1)then bif inB 0 2 (List.length (List.drop (Int.toNat a) (List.take (Int.toNat (↑(List.length T):Int)) T)))then bif decide (List.length (List.drop (Int.toNat 0) (List.take (Int.toNat 2) (List.drop (Int.toNat a) (List.take (Int.toNat (↑(List.length T):Int)) T))))+List.length [32]<2^62)then bif Lib.contains [61,61,32,33,61,32,60,61,32,62,61,32,38,38,32,124,124,32] (List.drop (Int.toNat 0) (List.take (Int.toNat 2) (List.drop (Int.toNat a) (List.take (Int.toNat (↑(List.length T):Int)) T)))++[32])then bif inI 0 (List.length (List.drop (Int.toNat a) (List.take (Int.toNat (↑(List.length T):Int)) T)))then bif (↑(UInt8.toNat (List.getD (List.drop (Int.toNat a) (List.take (Int.toNat (↑(List.length T):Int)) T)) (Int.toNat 0) 0)):Int) !=32 then bif inI 1 (List.length (List.drop (Int.toNat a) (List.take (Int.toNat (↑(List.length T):Int)) T)))then J 0 {tmps:=[(0,AV.ref 0 0),(3,AV.str (List.drop (Int.toNat a) (List.take (Int.toNat (↑(List.length T):Int)) T))),(31,AV.bool ((↑(UInt8.toNat (List.getD (List.drop (Int.toNat a) (List.take (Int.toNat (↑(List.length T):Int)) T)) (Int.toNat 1) 0)):Int) !=32))],blks:=[(0,Blk.cells 86 [AV.str T,Iz a,AV.own 1 1]),(1,Blk.list 50 aJ 1 false K)],next:=2}else Rs.err 216 else J 0 {tmps:=[(0,AV.ref 0 0),(3,AV.str (List.drop (Int.toNat a) (List.take (Int.toNat (↑(List.length T):Int)) T))),(31,AV.bool false)],blks:=[(0,Blk.cells 86 [AV.str T,Iz a,AV.own 1 1]),(1,Blk.list 50 aJ 1 false K)],next:=2}else Rs.err 211 else J 0 {tmps:=[(0,AV.ref 0 0),(3,AV.str (List.drop (Int.toNat a) (List.take (Int.toNat (↑(List.length T):Int)) T))),(31,AV.bool false)],blks:=[(0,Blk.cells 86 [AV.str T,Iz a,AV.own 1 1]),(1,Blk.list 50 aJ 1 false K)],next:=2}else Rs.err 206 else Rs.err 205 else J 0 {tmps:=[(0,AV.ref 0 0),(3,AV.str (List.drop (Int.toNat a) (List.take (Int.toNat (↑(List.length T):Int)) T))),(31,AV.bool false)],blks:=[(0,Blk.cells 86 [AV.str T,Iz a,AV.own 1 1]),(1,Blk.list 50 aJ 1 false K)],next:=2}else Rs.err 108:=by kernel_rfl
theorem K4(J:Jump R0)(T:List UInt8)(a:Int)(K:List Tok)(s:List UInt8)(b:Bool):resume E (ao fR) (aT 2 zw 0) J [true,true,false,true] xw.code 1 (OH T a K s b) (bY E 2 xw.results .ok)=bif b then Rs.ok (Out.ret (Iz 0),[Blk.cells 86 [AV.str T,Iz (IntKind.wrap IntKind.i64 (a+2)),AV.own 1 1],Blk.list 50 aJ 1 false K])else bif inI 0 (List.length s)then bif decide (ibS [123,125,40,41,91,93,59,44,46,61,60,62,43,45,42,47,37,33,63] (↑(UInt8.toNat (List.getD s (Int.toNat 0) 0)):Int)≥0)then Rs.ok (Out.ret (Iz 0),[Blk.cells 86 [AV.str T,Iz (IntKind.wrap IntKind.i64 (a+1)),AV.own 1 1],Blk.list 50 aJ 1 false K])else Rs.ok (Out.ret (Iz (Int.ofNat 60)),[Blk.cells 86 [AV.str T,Iz a,AV.own 1 1],Blk.list 50 aJ 1 false K])else Rs.err 501:=by kernel_rfl
theorem J7(J:Jump R0)(T:List UInt8)(a:Int)(K:List Tok):start E (ao fR) sT rI J [.ref 0 0] (bsR T a K) .ok=J 0 {tmps:=[(0,AV.ref 0 0)],blks:=[(0,Blk.cells 86 [AV.str T,Iz (IntKind.wrap IntKind.i64 (a+1)),AV.own 1 1]),(1,Blk.list 50 aJ 1 false K)],next:=2}:=by kernel_rfl
theorem Em(J:Jump R0)(T:List UInt8)(a:Int)(K:List Tok):resume E (ao fR) (aT 2 rI 0) J [true,true,false,false,false] sT.code 1 (mkR T a K) (bY E 2 sT.results .ok)=bif decide (a<(↑(List.length T):Int))then bif inI a (List.length T)then bif (↑(UInt8.toNat (List.getD T (Int.toNat a) 0)):Int)==34 then Rs.ok (Out.ret (Iz 0),[Blk.cells 86 [AV.str T,Iz (IntKind.wrap IntKind.i64 (a+1)),AV.own 1 1],Blk.list 50 aJ 1 false K])else bif (↑(UInt8.toNat (List.getD T (Int.toNat a) 0)):Int)==10 then Rs.ok (Out.ret (Iz (Int.ofNat 61)),[Blk.cells 86 [AV.str T,Iz a,AV.own 1 1],Blk.list 50 aJ 1 false K])else bif decide ((↑(UInt8.toNat (List.getD T (Int.toNat a) 0)):Int)<32)then Rs.ok (Out.ret (Iz (Int.ofNat 60)),[Blk.cells 86 [AV.str T,Iz a,AV.own 1 1],Blk.list 50 aJ 1 false K])else bif decide ((↑(UInt8.toNat (List.getD T (Int.toNat a) 0)):Int)>126)then Rs.ok (Out.ret (Iz (Int.ofNat 60)),[Blk.cells 86 [AV.str T,Iz a,AV.own 1 1],Blk.list 50 aJ 1 false K])else bif (↑(UInt8.toNat (List.getD T (Int.toNat a) 0)):Int)==92 then bif decide (IntKind.wrap IntKind.i64 (a+1)≥(↑(List.length T):Int))then Rs.ok (Out.ret (Iz (Int.ofNat 61)),[Blk.cells 86 [AV.str T,Iz a,AV.own 1 1],Blk.list 50 aJ 1 false K])else bif inI (IntKind.wrap IntKind.i64 (a+1)) (List.length T)then bif decide (ibS [34,92,110,116] (↑(UInt8.toNat (List.getD T (Int.toNat (IntKind.wrap IntKind.i64 (a+1))) 0)):Int)<0)then Rs.ok (Out.ret (Iz (Int.ofNat 5)),[Blk.cells 86 [AV.str T,Iz a,AV.own 1 1],Blk.list 50 aJ 1 false K])else J 0 {tmps:=[(0,AV.ref 0 0)],blks:=[(0,Blk.cells 86 [AV.str T,Iz (IntKind.wrap IntKind.i64 (IntKind.wrap IntKind.i64 (a+1)+1)),AV.own 1 1]),(1,Blk.list 50 aJ 1 false K)],next:=2}else Rs.err 1409 else J 0 {tmps:=[(0,AV.ref 0 0)],blks:=[(0,Blk.cells 86 [AV.str T,Iz (IntKind.wrap IntKind.i64 (a+1)),AV.own 1 1]),(1,Blk.list 50 aJ 1 false K)],next:=2}else Rs.err 308 else Rs.ok (Out.ret (Iz (Int.ofNat 61)),[Blk.cells 86 [AV.str T,Iz a,AV.own 1 1],Blk.list 50 aJ 1 false K]):=by kernel_rfl
end Go.Sx.Tryz
namespace Go.Sx.Tryz
open Go Go.Sx Go.Proofs
set_option maxRecDepth 100000
variable{G:Nat→Obj→Prop}
theorem lK(T:List UInt8)(a:Int):List.drop (Int.toNat a) (List.take (Int.toNat (T.length:Int)) T)=aK T a:=by
 rw[Int.toNat_natCast,List.take_length]
 rfl
theorem yv{T pre r:List UInt8}(h:T=pre++r):aK T (pre.length:Int)=r:=by
 unfold aK
 rw[h,Int.toNat_natCast,List.drop_left]
theorem gu{T:List UInt8}{a:Int}(h0:0≤a)(h1:a≤T.length):((aK T a).length:Int)=T.length-a:=by
 unfold aK
 rw[List.length_drop]
 omega
theorem EE{T:List UInt8}{a:Int}(h0:0≤a)(i:Nat):(aK T a).getD i 0=T.getD (a.toNat+i) 0:=by
 unfold aK
 simp[List.getD,List.getElem?_drop]
theorem qY(pre:List UInt8)(c:UInt8)(r:List UInt8):inI (pre.length:Int) (pre++c::r).length=true:=by
 simp only[inI,List.length_append,List.length_cons,Bool.and_eq_true,decide_eq_true_eq]
 omega
theorem NJ(x:aA iO):SAD Tryz.prog G 60 iO dd x (RN x):=by
 obtain⟨c,⟨⟩⟩:=x
 have key:∀c:Int,body (R:=R0) E (ao []) LK [.int .u8 c] [] .ok=Rs.ok (tn (aU c)):=fun c=>by
  rw[Pt]
  unfold aU
  cases (c==(32:Int))<;>cases (c==(9:Int))<;>cases (c==(10:Int))<;>rfl
 exact b7 (bo []) (aV .nil) WH (key c)
theorem zz(x:aA iO):SAD Tryz.prog G 61 iO dd x (Ks x):=by
 obtain⟨c,⟨⟩⟩:=x
 have key:∀c:Int,body (R:=R0) E (ao []) Kg [.int .u8 c] [] .ok=Rs.ok (tn (isLet c)):=fun c=>by
  rw[NF]
  unfold isLet
  cases decide (c≥97)<;>cases decide (c≤122)<;>cases decide (c≥65)<;>cases decide (c≤90)<;>rfl
 exact b7 (bo []) (aV .nil) U0 (key c)
theorem zR(x:aA iO):SAD Tryz.prog G 63 iO dd x (L9 x):=by
 obtain⟨c,⟨⟩⟩:=x
 have key:∀c:Int,body (R:=R0) E (ao []) Ky [.int .u8 c] [] .ok=Rs.ok (tn (aI c)):=fun c=>by
  rw[PD]
  unfold aI
  cases decide (c≥48)<;>cases decide (c≤57)<;>rfl
 exact b7 (bo []) (aV .nil) UC (key c)
def MF:List (Nat×aY):=[(61,cm 61 iO dd (fun _=>true) Ks),(63,cm 63 iO dd (fun _=>true) L9)]
theorem Ly(c:Int):body (R:=R0) E (ao MF) L3 [.int .u8 c] [] .ok=bif isLet c then Rs.ok (Out.ret (AV.bool true),[])else Rs.ok (Out.ret (AV.bool (aI c)),[]):=by kernel_rfl
theorem Ra(x:aA iO):SAD Tryz.prog G 62 iO dd x (Td x):=by
 obtain⟨c,⟨⟩⟩:=x
 have key:∀c:Int,body (R:=R0) E (ao MF) L3 [.int .u8 c] [] .ok=Rs.ok (tn (fA c)):=fun c=>by
  rw[Ly]
  unfold fA
  cases isLet c<;>rfl
 exact b7 (bo []) (aV (.cons (aZ fun x _=>zz x) (.cons (aZ fun x _=>zR x) .nil))) T1 (key c)
theorem CE:bu Tryz.prog G mj:=.cons (aZ fun x _=>NJ x) (.cons (aZ fun x _=>zz x) (.cons (aZ fun x _=>Ra x) (.cons (aZ fun x _=>zR x) .nil)))
def fE(g:Nat)(v:AV)(T:List UInt8)(a:Int)(K:List Tok):R0:=(.ret v,[.cells 86 [.str T,.int .i64 a,.own 1 g],.list 50 aJ g false K])
theorem oq(T:List UInt8)(a:Int)(K:List Tok):C7 (bsR T a K):=fun ee tt gg sh l hm=>by
 simp only[bsR,List.mem_cons,List.not_mem_nil,or_false,reduceCtorEq,false_or]at hm
 cases hm
 rfl
theorem yg{f g:Nat}{args:List AV}{v:AV}{T:List UInt8}{a a':Int}{K K':List Tok}(h:SA Tryz.prog G f args (bsR T a K) (fE g v T a' K'))(hv:∀get,gV get (fun _=>1) v=some v)(hp:bH v=true):
  SA Tryz.prog G f args (bsR T a K) (.ret v,sP T a' K'):=by
 refine SA.bump (q:=fun _=>1) h (oq T a K) (fun _ _=>Nat.le_refl _) (hv _) ?_ (by rw[hp];rfl)
 simp[gBs,gB,dY,gA,aB,aL,sP]
theorem rG{f:Nat}{rs:Sig}{p:List UInt8→Int→Bool}{F:List UInt8→Int→aA rs}{A:List UInt8→Int→Int}
  (h:∀(T:List UInt8) (a:Int) (K:List Tok),p T a=true→SA Tryz.prog G f [.ref 0 0] (bsR T a K) (.ret (cV rs (F T a)),sP T (A T a) K)):aR Tryz.prog G f (rdC f rs p F A):=fun R args bs k r hr=>by
 unfold rdC at hr
 split at hr
 ·split at hr
  ·rename_i K' hc
   split at hr
   ·rename_i hd
    obtain⟨e,hK⟩:=gF hc
    subst e
    subst hK
    exact⟨_,hr,h _ _ _ hd⟩
   ·cases hr
  ·cases hr
 ·cases hr
theorem fZ(p:Int→Bool)(c:UInt8)(r:List UInt8):aF p (c::r)=bif p c.toNat then aF p r+1 else 0:=by
 unfold aF
 rw[List.takeWhile_cons]
 cases p (c.toNat:Int)<;>rfl
theorem eA(p:Int→Bool):∀s:List UInt8,aF p s≤s.length
 |[]=>Nat.le_refl _
 |c::s=>by
  rw[fZ]
  have:=eA p s
  cases p (c.toNat:Int)<;>simp<;>omega
theorem Cc{f:Nat}{p:Int→Bool}(heq:∀(J:Jump R0) (T:List UInt8) (a:Int) (K:List Tok),resume E (ao mj) (aT 2 iq 0) J [false,false] iM.code 1 (wv T a K f) (bY E 2 iM.results .ok)=
  bif decide (a<(T.length:Int))then bif inI a T.length then bif p ((List.getD T (Int.toNat a) 0).toNat:Int)then J 0 (wv T (IntKind.wrap .i64 (a+1)) K f)else .ok (fE 1 (.tup []) T a K)else .err 20 else .ok (fE 1 (.tup []) T a K))
  {T:List UInt8} {K:List Tok} (hT:(T.length:Int)≤1099511627776):∀(r pre:List UInt8) (fuel:Nat),T=pre++r→r.length<fuel→pieces (R:=R0) E (ao mj) iM iq 2 .ok fuel 0 (wv T pre.length K f)= .ok (fE 1 (.tup []) T ((pre.length:Int)+aF p r) K)
 |r,pre,0,_,hf=>by omega
 |[],pre,fuel+1,hp,_=>by
  refine(heq (pieces (R:=R0) E (ao mj) iM iq 2 .ok fuel) T pre.length K).trans ?_
  have h1:¬((pre.length:Int)<T.length):=by rw[hp,List.append_nil];omega
  simp only[h1,decide_false,cond_false]
  show _=Rs.ok (fE 1 (.tup []) T ((pre.length:Int)+0) K)
  rw[Int.add_zero]
 |c::r,pre,fuel+1,hp,hf=>by
  have hlen:pre.length+1+r.length=T.length:=by rw[hp];simp;omega
  have ih:=Cc (K:=K) heq hT r (pre++[c]) fuel (by simp[hp]) (by simpa using hf)
  refine(heq (pieces (R:=R0) E (ao mj) iM iq 2 .ok fuel) T pre.length K).trans ?_
  have h1:(pre.length:Int)<T.length:=by omega
  have h2:inI (pre.length:Int) T.length=true:=by rw[hp];exact qY _ _ _
  have h3:List.getD T pre.length 0=c:=by rw[hp];exact dN _ _ _
  have h4:IntKind.wrap .i64 ((pre.length:Int)+1)=(pre.length:Int)+1:=wrap64 (by omega) (by omega)
  have h5:(((pre++[c]).length:Nat):Int)=(pre.length:Int)+1:=by simp
  simp only[h1,h2,h3,h4,Int.toNat_natCast,decide_true,cond_true]
  rw[fZ]
  cases p (c.toNat:Int)
  ·simp only[cond_false]
   show _=Rs.ok (fE 1 (.tup []) T ((pre.length:Int)+0) K)
   rw[Int.add_zero]
  ·simp only[cond_true]
   rw[h5]at ih
   rw[ih]
   congr 2
   omega
theorem r4{T:List UInt8}{a:Int}(h0:0≤a)(h1:a≤T.length):∃pre,T=pre++aK T a∧(pre.length:Int)=a:=by
 refine⟨T.take a.toNat,?_,?_⟩
 ·unfold aK
  rw[List.take_append_drop]
 ·rw[List.length_take];omega
theorem ja{T:List UInt8}{a:Int}:okA T a=true↔0≤a∧a≤T.length∧(T.length:Int)≤1099511627776:=by simp only[okA,Bool.and_eq_true,decide_eq_true_eq]
theorem iK{T:List UInt8}{a:Int}:jZ T a=true↔0≤a∧a<T.length∧(T.length:Int)≤1099511627776:=by simp only[jZ,Bool.and_eq_true,decide_eq_true_eq]
theorem GN:aR Tryz.prog G 59 whC:=fun R args bs k r hr=>by
 unfold whC at hr
 split at hr
 ·rename_i f T a tK K
  split at hr
  ·rename_i K' hc
   split at hr
   ·rename_i hd
    obtain⟨e,hK⟩:=gF hc
    subst e
    subst hK
    simp only[Bool.and_eq_true,Bool.or_eq_true]at hd
    obtain⟨hf,ha⟩:=hd
    obtain⟨a0,a1,a2⟩:=ja.1 ha
    obtain⟨pre,hp,hl⟩:=r4 a0 a1
    refine⟨_,hr,?_⟩
    have fin:∀{f:Nat} {p:Int→Bool},pOf f=p→(∀(J:Jump R0) (T:List UInt8) (a:Int) (K:List Tok),start E (ao mj) iM iq J [.ref 0 0,.fn f []] (bsR T a K) .ok=J 0 (wv T a K f))→(∀(J:Jump R0) (T:List UInt8) (a:Int) (K:List Tok),resume E (ao mj) (aT 2 iq 0) J [false,false] iM.code 1 (wv T a K f) (bY E 2 iM.results .ok)=
      bif decide (a<(T.length:Int))then bif inI a T.length then bif p ((List.getD T (Int.toNat a) 0).toNat:Int)then J 0 (wv T (IntKind.wrap .i64 (a+1)) K f)else .ok (fE 1 (.tup []) T a K)else .err 20 else .ok (fE 1 (.tup []) T a K))→
      SA Tryz.prog G 59 [.ref 0 0,.fn f []] (bsR T a K) (.ret (.tup []),sP T (whI (pOf f) T a) K):=fun{f p} hpf hs hl0=>by
     have h:=Cc (K:=K) hl0 a2 (aK T a) pre ((aK T a).length+1) hp (by omega)
     rw[hl]at h
     have h2:=(hs (pieces (R:=R0) E (ao mj) iM iq 2 .ok ((aK T a).length+1)) T a K).trans h
     rw[←hpf]at h2
     exact yg (bA (bo []) (aV CE) Sb (.inl (oq T a K)) h2) (fun _=>rfl) rfl
    rcases hf with hf|hf|hf
    ·have:=beq_eq hf
     subst this
     exact fin (p:=aU) rfl Jy K3
    ·have:=beq_eq hf
     subst this
     exact fin (p:=fA) rfl Ep LR
    ·have:=beq_eq hf
     subst this
     exact fin (p:=aI) rfl H6 KV
   ·cases hr
  ·cases hr
 ·cases hr
end Go.Sx.Tryz
