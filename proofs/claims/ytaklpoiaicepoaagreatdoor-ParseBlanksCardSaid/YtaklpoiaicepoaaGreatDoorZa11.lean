/- A part of the proof: see the row's text. -/
import Derived.Test.YtaklpoiaicepoaaGreatDoorZa10
import Derived.Test.YtaklpoiaicepoaaGreatDoorZa06
import Derived.KernelRfl
import Derived.Test.YtaklpoiaicepoaaGreatDoorZa08
import Derived.Shelf.Strings.Search3
import Derived.Shelf.Strings.Prefix
import Derived.Shelf.Small.Strs
set_option linter.unusedVariables false
set_option linter.unusedSimpArgs false
noncomputable section
namespace Go.Sx
open Go
def vi(P:Program)(i:Nat)(l:List (Option TI)):Prop:=∀j ti,nth l j=some (some ti)→ar P (i+j) ti.ty=some ti
theorem vi.nil{P:Program}{i:Nat}:vi P i []:=fun j ti h=>by cases j<;>cases h
theorem vi.none{P:Program}{i:Nat}{l:List (Option TI)}(h:vi P (i+1) l):vi P i (Option.none::l):=fun j ti hj=>by
 cases j with
 |zero=>cases hj
 |succ j=>have:=h j ti hj;rwa [show i+(j+1)=i+1+j by omega]
theorem vi.some{P:Program}{i:Nat}{x:TI}{l:List (Option TI)}(hx:ar P i x.ty=Option.some x)(h:vi P (i+1) l):vi P i (Option.some x::l):=fun j ti hj=>by
 cases j with
 |zero=>cases hj;exact hx
 |succ j=>have:=h j ti hj;rwa [show i+(j+1)=i+1+j by omega]
def wW(P:Program)(i:Nat)(l:List (Option FI)):Prop:=∀j fi,nth l j=some (some fi)→FIOK P (i+j) fi
theorem wW.nil{P:Program}{i:Nat}:wW P i []:=fun j ti h=>by cases j<;>cases h
theorem wW.none{P:Program}{i:Nat}{l:List (Option FI)}(h:wW P (i+1) l):wW P i (Option.none::l):=fun j ti hj=>by
 cases j with
 |zero=>cases hj
 |succ j=>have:=h j ti hj;rwa [show i+(j+1)=i+1+j by omega]
theorem wW.some{P:Program}{i:Nat}{x:FI}{l:List (Option FI)}(hx:FIOK P i x)(h:wW P (i+1) l):wW P i (Option.some x::l):=fun j ti hj=>by
 cases j with
 |zero=>cases hj;exact hx
 |succ j=>have:=h j ti hj;rwa [show i+(j+1)=i+1+j by omega]
end Go.Sx
namespace Go.Sx.Tryz
open Go Go.Sx Go.Proofs
set_option maxRecDepth 100000
theorem tc0:ar Tryz.prog 0 ti0.ty=some ti0:=by kernel_rfl
theorem tc1:ar Tryz.prog 1 ti1.ty=some ti1:=by kernel_rfl
theorem tc2:ar Tryz.prog 2 ti2.ty=some ti2:=by kernel_rfl
theorem tc3:ar Tryz.prog 3 ti3.ty=some ti3:=by kernel_rfl
theorem tc4:ar Tryz.prog 4 ti4.ty=some ti4:=by kernel_rfl
theorem tc5:ar Tryz.prog 5 ti5.ty=some ti5:=by kernel_rfl
theorem tc6:ar Tryz.prog 6 ti6.ty=some ti6:=by kernel_rfl
theorem tc7:ar Tryz.prog 7 ti7.ty=some ti7:=by kernel_rfl
theorem tc8:ar Tryz.prog 8 ti8.ty=some ti8:=by kernel_rfl
theorem tc9:ar Tryz.prog 9 ti9.ty=some ti9:=by kernel_rfl
theorem tc10:ar Tryz.prog 10 PO.ty=some PO:=by kernel_rfl
theorem tc11:ar Tryz.prog 11 Rh.ty=some Rh:=by kernel_rfl
theorem tc12:ar Tryz.prog 12 N3.ty=some N3:=by kernel_rfl
theorem tc15:ar Tryz.prog 15 Qq.ty=some Qq:=by kernel_rfl
theorem tc16:ar Tryz.prog 16 Oh.ty=some Oh:=by kernel_rfl
theorem tc17:ar Tryz.prog 17 Pj.ty=some Pj:=by kernel_rfl
theorem tc20:ar Tryz.prog 20 QU.ty=some QU:=by kernel_rfl
theorem tc21:ar Tryz.prog 21 Pc.ty=some Pc:=by kernel_rfl
theorem tc22:ar Tryz.prog 22 Q4.ty=some Q4:=by kernel_rfl
theorem tc23:ar Tryz.prog 23 Oa.ty=some Oa:=by kernel_rfl
theorem tc24:ar Tryz.prog 24 PN.ty=some PN:=by kernel_rfl
theorem tc25:ar Tryz.prog 25 QX.ty=some QX:=by kernel_rfl
theorem tc26:ar Tryz.prog 26 Pp.ty=some Pp:=by kernel_rfl
theorem tc27:ar Tryz.prog 27 PK.ty=some PK:=by kernel_rfl
theorem tc28:ar Tryz.prog 28 QV.ty=some QV:=by kernel_rfl
theorem tc29:ar Tryz.prog 29 OU.ty=some OU:=by kernel_rfl
theorem tc30:ar Tryz.prog 30 Rv.ty=some Rv:=by kernel_rfl
theorem tc31:ar Tryz.prog 31 QJ.ty=some QJ:=by kernel_rfl
theorem tc32:ar Tryz.prog 32 Rp.ty=some Rp:=by kernel_rfl
theorem tc33:ar Tryz.prog 33 Pr.ty=some Pr:=by kernel_rfl
theorem tc34:ar Tryz.prog 34 P7.ty=some P7:=by kernel_rfl
theorem tc35:ar Tryz.prog 35 Oi.ty=some Oi:=by kernel_rfl
theorem tc36:ar Tryz.prog 36 Qh.ty=some Qh:=by kernel_rfl
theorem tc37:ar Tryz.prog 37 P4.ty=some P4:=by kernel_rfl
theorem tc38:ar Tryz.prog 38 Pd.ty=some Pd:=by kernel_rfl
theorem tc39:ar Tryz.prog 39 Nz.ty=some Nz:=by kernel_rfl
theorem tc40:ar Tryz.prog 40 NT.ty=some NT:=by kernel_rfl
theorem tc41:ar Tryz.prog 41 Rb.ty=some Rb:=by kernel_rfl
theorem tc42:ar Tryz.prog 42 QP.ty=some QP:=by kernel_rfl
theorem tc43:ar Tryz.prog 43 Pz.ty=some Pz:=by kernel_rfl
theorem tc44:ar Tryz.prog 44 NN.ty=some NN:=by kernel_rfl
theorem tc45:ar Tryz.prog 45 Pe.ty=some Pe:=by kernel_rfl
theorem tc46:ar Tryz.prog 46 Pv.ty=some Pv:=by kernel_rfl
theorem tc47:ar Tryz.prog 47 N5.ty=some N5:=by kernel_rfl
theorem tc48:ar Tryz.prog 48 NI.ty=some NI:=by kernel_rfl
theorem tc49:ar Tryz.prog 49 NR.ty=some NR:=by kernel_rfl
theorem tc50:ar Tryz.prog 50 O4.ty=some O4:=by kernel_rfl
theorem tc51:ar Tryz.prog 51 P6.ty=some P6:=by kernel_rfl
theorem tc52:ar Tryz.prog 52 Oe.ty=some Oe:=by kernel_rfl
theorem tc53:ar Tryz.prog 53 OK.ty=some OK:=by kernel_rfl
theorem tc54:ar Tryz.prog 54 Ra.ty=some Ra:=by kernel_rfl
theorem tc55:ar Tryz.prog 55 P3.ty=some P3:=by kernel_rfl
theorem tc56:ar Tryz.prog 56 P8.ty=some P8:=by kernel_rfl
theorem tc57:ar Tryz.prog 57 OY.ty=some OY:=by kernel_rfl
theorem tc58:ar Tryz.prog 58 O0.ty=some O0:=by kernel_rfl
theorem tc59:ar Tryz.prog 59 Qb.ty=some Qb:=by kernel_rfl
theorem tc60:ar Tryz.prog 60 Rc.ty=some Rc:=by kernel_rfl
theorem tc61:ar Tryz.prog 61 QZ.ty=some QZ:=by kernel_rfl
theorem tc62:ar Tryz.prog 62 Pg.ty=some Pg:=by kernel_rfl
theorem tc63:ar Tryz.prog 63 Qe.ty=some Qe:=by kernel_rfl
theorem tc64:ar Tryz.prog 64 Pa.ty=some Pa:=by kernel_rfl
theorem tc65:ar Tryz.prog 65 QR.ty=some QR:=by kernel_rfl
theorem tc66:ar Tryz.prog 66 O9.ty=some O9:=by kernel_rfl
theorem tc67:ar Tryz.prog 67 Qc.ty=some Qc:=by kernel_rfl
theorem tc68:ar Tryz.prog 68 N4.ty=some N4:=by kernel_rfl
theorem tc69:ar Tryz.prog 69 NK.ty=some NK:=by kernel_rfl
theorem tc70:ar Tryz.prog 70 QD.ty=some QD:=by kernel_rfl
theorem tc71:ar Tryz.prog 71 OD.ty=some OD:=by kernel_rfl
theorem tc72:ar Tryz.prog 72 OC.ty=some OC:=by kernel_rfl
theorem tc73:ar Tryz.prog 73 OX.ty=some OX:=by kernel_rfl
theorem tc74:ar Tryz.prog 74 NF.ty=some NF:=by kernel_rfl
theorem tc75:ar Tryz.prog 75 O1.ty=some O1:=by kernel_rfl
theorem tc76:ar Tryz.prog 76 Nx.ty=some Nx:=by kernel_rfl
theorem tc77:ar Tryz.prog 77 Pq.ty=some Pq:=by kernel_rfl
theorem tc80:ar Tryz.prog 80 Qu.ty=some Qu:=by kernel_rfl
theorem tc81:ar Tryz.prog 81 OV.ty=some OV:=by kernel_rfl
theorem tc82:ar Tryz.prog 82 NP.ty=some NP:=by kernel_rfl
theorem tc83:ar Tryz.prog 83 Q5.ty=some Q5:=by kernel_rfl
theorem tc84:ar Tryz.prog 84 QE.ty=some QE:=by kernel_rfl
theorem tc85:ar Tryz.prog 85 Oq.ty=some Oq:=by kernel_rfl
theorem tc86:ar Tryz.prog 86 OP.ty=some OP:=by kernel_rfl
theorem tc87:ar Tryz.prog 87 PS.ty=some PS:=by kernel_rfl
theorem tc88:ar Tryz.prog 88 Nv.ty=some Nv:=by kernel_rfl
theorem tc89:ar Tryz.prog 89 NS.ty=some NS:=by kernel_rfl
theorem tc90:ar Tryz.prog 90 OR.ty=some OR:=by kernel_rfl
theorem tc91:ar Tryz.prog 91 QC.ty=some QC:=by kernel_rfl
theorem tc92:ar Tryz.prog 92 P5.ty=some P5:=by kernel_rfl
theorem tc93:ar Tryz.prog 93 Q0.ty=some Q0:=by kernel_rfl
theorem tc94:ar Tryz.prog 94 Og.ty=some Og:=by kernel_rfl
theorem tc95:ar Tryz.prog 95 Od.ty=some Od:=by kernel_rfl
theorem tc96:ar Tryz.prog 96 PL.ty=some PL:=by kernel_rfl
theorem tc97:ar Tryz.prog 97 Q9.ty=some Q9:=by kernel_rfl
theorem tc98:ar Tryz.prog 98 Qg.ty=some Qg:=by kernel_rfl
theorem tc99:ar Tryz.prog 99 NL.ty=some NL:=by kernel_rfl
theorem RS:ar Tryz.prog 100 HU.ty=some HU:=by kernel_rfl
theorem UH:ar Tryz.prog 101 Ep.ty=some Ep:=by kernel_rfl
theorem Vc:ar Tryz.prog 102 IB.ty=some IB:=by kernel_rfl
theorem Vh:ar Tryz.prog 103 EB.ty=some EB:=by kernel_rfl
theorem SH:ar Tryz.prog 104 Gb.ty=some Gb:=by kernel_rfl
theorem Sp:ar Tryz.prog 105 FB.ty=some FB:=by kernel_rfl
theorem Sc:ar Tryz.prog 106 Ii.ty=some Ii:=by kernel_rfl
theorem VT:ar Tryz.prog 107 Hw.ty=some Hw:=by kernel_rfl
theorem VZ:ar Tryz.prog 108 IK.ty=some IK:=by kernel_rfl
theorem Tb:ar Tryz.prog 109 GB.ty=some GB:=by kernel_rfl
theorem SJ:ar Tryz.prog 110 GD.ty=some GD:=by kernel_rfl
theorem VA:ar Tryz.prog 111 EI.ty=some EI:=by kernel_rfl
theorem Vu:ar Tryz.prog 112 IU.ty=some IU:=by kernel_rfl
theorem U6:ar Tryz.prog 113 Fi.ty=some Fi:=by kernel_rfl
theorem Sa:ar Tryz.prog 114 HC.ty=some HC:=by kernel_rfl
theorem Su:ar Tryz.prog 115 I8.ty=some I8:=by kernel_rfl
theorem WM:ar Tryz.prog 116 HM.ty=some HM:=by kernel_rfl
theorem S6:ar Tryz.prog 117 E1.ty=some E1:=by kernel_rfl
theorem T2:ar Tryz.prog 119 Fx.ty=some Fx:=by kernel_rfl
theorem Sr:ar Tryz.prog 120 I0.ty=some I0:=by kernel_rfl
theorem Tp:ar Tryz.prog 121 Gu.ty=some Gu:=by kernel_rfl
theorem T6:ar Tryz.prog 122 Jj.ty=some Jj:=by kernel_rfl
theorem Sd:ar Tryz.prog 123 Gl.ty=some Gl:=by kernel_rfl
theorem VU:ar Tryz.prog 124 Gs.ty=some Gs:=by kernel_rfl
theorem VD:ar Tryz.prog 125 Jw.ty=some Jw:=by kernel_rfl
theorem Un:ar Tryz.prog 126 Ho.ty=some Ho:=by kernel_rfl
theorem VP:ar Tryz.prog 127 IQ.ty=some IQ:=by kernel_rfl
theorem U4:ar Tryz.prog 128 GZ.ty=some GZ:=by kernel_rfl
theorem V5:ar Tryz.prog 129 E2.ty=some E2:=by kernel_rfl
theorem Vd:ar Tryz.prog 130 Ei.ty=some Ei:=by kernel_rfl
theorem VX:ar Tryz.prog 131 Fa.ty=some Fa:=by kernel_rfl
theorem Wz:ar Tryz.prog 132 Is.ty=some Is:=by kernel_rfl
theorem Si:ar Tryz.prog 133 GS.ty=some GS:=by kernel_rfl
theorem V1:ar Tryz.prog 134 Ek.ty=some Ek:=by kernel_rfl
theorem Vi:ar Tryz.prog 135 HR.ty=some HR:=by kernel_rfl
theorem WG:ar Tryz.prog 136 IF.ty=some IF:=by kernel_rfl
theorem TU:ar Tryz.prog 137 Gq.ty=some Gq:=by kernel_rfl
theorem TC:ar Tryz.prog 138 EF.ty=some EF:=by kernel_rfl
theorem Wc:ar Tryz.prog 139 Hb.ty=some Hb:=by kernel_rfl
theorem V3:ar Tryz.prog 140 FO.ty=some FO:=by kernel_rfl
theorem Va:ar Tryz.prog 141 HX.ty=some HX:=by kernel_rfl
theorem WD:ar Tryz.prog 142 Jx.ty=some Jx:=by kernel_rfl
theorem Wd:ar Tryz.prog 143 Gi.ty=some Gi:=by kernel_rfl
theorem SU:ar Tryz.prog 144 E3.ty=some E3:=by kernel_rfl
theorem UZ:ar Tryz.prog 145 JD.ty=some JD:=by kernel_rfl
theorem Um:ar Tryz.prog 147 Hg.ty=some Hg:=by kernel_rfl
theorem TZ:ar Tryz.prog 148 Ie.ty=some Ie:=by kernel_rfl
theorem Uq:ar Tryz.prog 149 Iw.ty=some Iw:=by kernel_rfl
theorem Uz:ar Tryz.prog 150 EH.ty=some EH:=by kernel_rfl
theorem UQ:ar Tryz.prog 151 Ew.ty=some Ew:=by kernel_rfl
theorem Vj:ar Tryz.prog 152 El.ty=some El:=by kernel_rfl
theorem T3:ar Tryz.prog 153 F8.ty=some F8:=by kernel_rfl
theorem V4:ar Tryz.prog 154 FF.ty=some FF:=by kernel_rfl
theorem R9:ar Tryz.prog 155 Ey.ty=some Ey:=by kernel_rfl
theorem Uh:ar Tryz.prog 157 G0.ty=some G0:=by kernel_rfl
theorem UE:ar Tryz.prog 158 FD.ty=some FD:=by kernel_rfl
theorem VI:ar Tryz.prog 159 F7.ty=some F7:=by kernel_rfl
theorem WO:ar Tryz.prog 160 GR.ty=some GR:=by kernel_rfl
theorem Sv:ar Tryz.prog 161 Gv.ty=some Gv:=by kernel_rfl
theorem SS:ar Tryz.prog 162 H7.ty=some H7:=by kernel_rfl
theorem S4:ar Tryz.prog 163 Ee.ty=some Ee:=by kernel_rfl
theorem Ux:ar Tryz.prog 164 Fb.ty=some Fb:=by kernel_rfl
theorem SD:ar Tryz.prog 165 G8.ty=some G8:=by kernel_rfl
theorem UC:ar Tryz.prog 166 IE.ty=some IE:=by kernel_rfl
theorem WE:ar Tryz.prog 167 Hq.ty=some Hq:=by kernel_rfl
theorem TM:ar Tryz.prog 168 Io.ty=some Io:=by kernel_rfl
theorem RN:ar Tryz.prog 169 Fl.ty=some Fl:=by kernel_rfl
theorem UD:ar Tryz.prog 170 GA.ty=some GA:=by kernel_rfl
theorem Sy:ar Tryz.prog 171 Jm.ty=some Jm:=by kernel_rfl
theorem Tf:ar Tryz.prog 172 FL.ty=some FL:=by kernel_rfl
theorem UW:ar Tryz.prog 173 EC.ty=some EC:=by kernel_rfl
theorem Wt:ar Tryz.prog 174 Hh.ty=some Hh:=by kernel_rfl
theorem Ww:ar Tryz.prog 175 GO.ty=some GO:=by kernel_rfl
theorem Th:ar Tryz.prog 176 Jk.ty=some Jk:=by kernel_rfl
theorem VV:ar Tryz.prog 177 EZ.ty=some EZ:=by kernel_rfl
theorem Tw:ar Tryz.prog 178 Hp.ty=some Hp:=by kernel_rfl
theorem S0:ar Tryz.prog 179 Ft.ty=some Ft:=by kernel_rfl
theorem Tx:ar Tryz.prog 180 Fe.ty=some Fe:=by kernel_rfl
theorem Sz:ar Tryz.prog 181 Jy.ty=some Jy:=by kernel_rfl
theorem VQ:ar Tryz.prog 182 IT.ty=some IT:=by kernel_rfl
theorem V9:ar Tryz.prog 183 FA.ty=some FA:=by kernel_rfl
theorem UT:ar Tryz.prog 184 Em.ty=some Em:=by kernel_rfl
theorem TL:ar Tryz.prog 185 H3.ty=some H3:=by kernel_rfl
theorem R8:ar Tryz.prog 186 H4.ty=some H4:=by kernel_rfl
theorem VN:ar Tryz.prog 187 Gg.ty=some Gg:=by kernel_rfl
theorem WQ:ar Tryz.prog 188 FY.ty=some FY:=by kernel_rfl
theorem Vy:ar Tryz.prog 189 Hc.ty=some Hc:=by kernel_rfl
theorem Ry:ar Tryz.prog 190 Iq.ty=some Iq:=by kernel_rfl
theorem VW:ar Tryz.prog 191 EU.ty=some EU:=by kernel_rfl
theorem SZ:ar Tryz.prog 192 EL.ty=some EL:=by kernel_rfl
theorem Vs:ar Tryz.prog 193 Jb.ty=some Jb:=by kernel_rfl
theorem RO:ar Tryz.prog 194 Gr.ty=some Gr:=by kernel_rfl
theorem So:ar Tryz.prog 195 IN.ty=some IN:=by kernel_rfl
theorem WI:ar Tryz.prog 196 Hs.ty=some Hs:=by kernel_rfl
theorem RE:ar Tryz.prog 197 FX.ty=some FX:=by kernel_rfl
theorem U0:ar Tryz.prog 198 Hm.ty=some Hm:=by kernel_rfl
theorem Vg:ar Tryz.prog 199 H0.ty=some H0:=by kernel_rfl
theorem Se:ar Tryz.prog 200 I9.ty=some I9:=by kernel_rfl
theorem Ss:ar Tryz.prog 203 Fu.ty=some Fu:=by kernel_rfl
theorem UR:ar Tryz.prog 205 HP.ty=some HP:=by kernel_rfl
theorem S8:ar Tryz.prog 206 Fj.ty=some Fj:=by kernel_rfl
theorem UX:ar Tryz.prog 207 Jl.ty=some Jl:=by kernel_rfl
theorem WJ:ar Tryz.prog 208 FV.ty=some FV:=by kernel_rfl
theorem TA:ar Tryz.prog 209 Fw.ty=some Fw:=by kernel_rfl
theorem U5:ar Tryz.prog 210 IS.ty=some IS:=by kernel_rfl
theorem Ul:ar Tryz.prog 211 Er.ty=some Er:=by kernel_rfl
theorem UY:ar Tryz.prog 212 Ir.ty=some Ir:=by kernel_rfl
theorem WK:ar Tryz.prog 213 Jp.ty=some Jp:=by kernel_rfl
theorem Ua:ar Tryz.prog 214 Jq.ty=some Jq:=by kernel_rfl
theorem Vm:ar Tryz.prog 215 E4.ty=some E4:=by kernel_rfl
theorem V7:ar Tryz.prog 216 It.ty=some It:=by kernel_rfl
theorem Sw:ar Tryz.prog 217 FK.ty=some FK:=by kernel_rfl
theorem S2:ar Tryz.prog 218 GU.ty=some GU:=by kernel_rfl
theorem UI:ar Tryz.prog 219 Hx.ty=some Hx:=by kernel_rfl
theorem TO:ar Tryz.prog 220 E8.ty=some E8:=by kernel_rfl
theorem Ws:ar Tryz.prog 221 HD.ty=some HD:=by kernel_rfl
theorem Uk:ar Tryz.prog 222 JK.ty=some JK:=by kernel_rfl
theorem UJ:ar Tryz.prog 223 GI.ty=some GI:=by kernel_rfl
theorem Tj:ar Tryz.prog 224 F2.ty=some F2:=by kernel_rfl
theorem Wa:ar Tryz.prog 228 ES.ty=some ES:=by kernel_rfl
theorem Sk:ar Tryz.prog 229 HS.ty=some HS:=by kernel_rfl
theorem TH:ar Tryz.prog 230 Im.ty=some Im:=by kernel_rfl
theorem Uv:ar Tryz.prog 231 GC.ty=some GC:=by kernel_rfl
theorem SV:ar Tryz.prog 232 FT.ty=some FT:=by kernel_rfl
theorem Sq:ar Tryz.prog 233 JF.ty=some JF:=by kernel_rfl
theorem Ut:ar Tryz.prog 234 Gd.ty=some Gd:=by kernel_rfl
theorem Vf:ar Tryz.prog 235 GV.ty=some GV:=by kernel_rfl
theorem SB:ar Tryz.prog 236 F6.ty=some F6:=by kernel_rfl
theorem VB:ar Tryz.prog 237 Jh.ty=some Jh:=by kernel_rfl
theorem TE:ar Tryz.prog 238 JA.ty=some JA:=by kernel_rfl
theorem RZ:ar Tryz.prog 239 Fg.ty=some Fg:=by kernel_rfl
theorem RC:ar Tryz.prog 240 GH.ty=some GH:=by kernel_rfl
theorem RR:ar Tryz.prog 241 IV.ty=some IV:=by kernel_rfl
theorem Uy:ar Tryz.prog 242 En.ty=some En:=by kernel_rfl
theorem Wm:ar Tryz.prog 243 Ia.ty=some Ia:=by kernel_rfl
theorem VG:ar Tryz.prog 244 GN.ty=some GN:=by kernel_rfl
theorem Vz:ar Tryz.prog 245 E9.ty=some E9:=by kernel_rfl
theorem Wx:ar Tryz.prog 246 HF.ty=some HF:=by kernel_rfl
theorem TQ:ar Tryz.prog 247 FP.ty=some FP:=by kernel_rfl
theorem TG:ar Tryz.prog 248 Ha.ty=some Ha:=by kernel_rfl
theorem S7:ar Tryz.prog 249 GY.ty=some GY:=by kernel_rfl
theorem UU:ar Tryz.prog 250 E6.ty=some E6:=by kernel_rfl
theorem To:ar Tryz.prog 252 HB.ty=some HB:=by kernel_rfl
theorem US:ar Tryz.prog 253 EX.ty=some EX:=by kernel_rfl
theorem UN:ar Tryz.prog 254 I3.ty=some I3:=by kernel_rfl
theorem Ti:ar Tryz.prog 255 GL.ty=some GL:=by kernel_rfl
theorem VH:ar Tryz.prog 256 FM.ty=some FM:=by kernel_rfl
theorem Td:ar Tryz.prog 257 Fh.ty=some Fh:=by kernel_rfl
theorem Ur:ar Tryz.prog 258 Jz.ty=some Jz:=by kernel_rfl
theorem Wy:ar Tryz.prog 261 F4.ty=some F4:=by kernel_rfl
theorem U2:ar Tryz.prog 264 Gc.ty=some Gc:=by kernel_rfl
theorem Uc:ar Tryz.prog 265 Iy.ty=some Iy:=by kernel_rfl
theorem U7:ar Tryz.prog 266 G4.ty=some G4:=by kernel_rfl
theorem T7:ar Tryz.prog 267 Js.ty=some Js:=by kernel_rfl
theorem WN:ar Tryz.prog 268 Hr.ty=some Hr:=by kernel_rfl
theorem SG:ar Tryz.prog 271 Fq.ty=some Fq:=by kernel_rfl
theorem tchk:vi Tryz.prog 0 tis:=
 (.some tc0 (.some tc1 (.some tc2 (.some tc3 (.some tc4 (.some tc5 (.some tc6 (.some tc7 (.some tc8 (.some tc9 (.some tc10 (.some tc11 (.some tc12 (.none (.none (.some tc15 (.some tc16 (.some tc17 (.none (.none (.some tc20 (.some tc21 (.some tc22 (.some tc23 (.some tc24 (.some tc25 (.some tc26 (.some tc27 (.some tc28 (.some tc29 (.some tc30 (.some tc31 (.some tc32 (.some tc33 (.some tc34 (.some tc35 (.some tc36 (.some tc37 (.some tc38 (.some tc39 (.some tc40 (.some tc41 (.some tc42 (.some tc43 (.some tc44 (.some tc45 (.some tc46 (.some tc47 (.some tc48 (.some tc49 (.some tc50 (.some tc51 (.some tc52 (.some tc53 (.some tc54 (.some tc55 (.some tc56 (.some tc57 (.some tc58 (.some tc59 (.some tc60 (.some tc61 (.some tc62 (.some tc63 (.some tc64 (.some tc65 (.some tc66 (.some tc67 (.some tc68 (.some tc69 (.some tc70 (.some tc71 (.some tc72 (.some tc73 (.some tc74 (.some tc75 (.some tc76 (.some tc77 (.none (.none (.some tc80 (.some tc81 (.some tc82 (.some tc83 (.some tc84 (.some tc85 (.some tc86 (.some tc87 (.some tc88 (.some tc89 (.some tc90 (.some tc91 (.some tc92 (.some tc93 (.some tc94 (.some tc95 (.some tc96 (.some tc97 (.some tc98 (.some tc99 (.some RS (.some UH (.some Vc (.some Vh (.some SH (.some Sp (.some Sc (.some VT (.some VZ (.some Tb (.some SJ (.some VA (.some Vu (.some U6 (.some Sa (.some Su (.some WM (.some S6 (.none (.some T2 (.some Sr (.some Tp (.some T6 (.some Sd (.some VU (.some VD (.some Un (.some VP (.some U4 (.some V5 (.some Vd (.some VX (.some Wz (.some Si (.some V1 (.some Vi (.some WG (.some TU (.some TC (.some Wc (.some V3 (.some Va (.some WD (.some Wd (.some SU (.some UZ (.none (.some Um (.some TZ (.some Uq (.some Uz (.some UQ (.some Vj (.some T3 (.some V4 (.some R9 (.none (.some Uh (.some UE (.some VI (.some WO (.some Sv (.some SS (.some S4 (.some Ux (.some SD (.some UC (.some WE (.some TM (.some RN (.some UD (.some Sy (.some Tf (.some UW (.some Wt (.some Ww (.some Th (.some VV (.some Tw (.some S0 (.some Tx (.some Sz (.some VQ (.some V9 (.some UT (.some TL (.some R8 (.some VN (.some WQ (.some Vy (.some Ry (.some VW (.some SZ (.some Vs (.some RO (.some So (.some WI (.some RE (.some U0 (.some Vg (.some Se (.none (.none (.some Ss (.none (.some UR (.some S8 (.some UX (.some WJ (.some TA (.some U5 (.some Ul (.some UY (.some WK (.some Ua (.some Vm (.some V7 (.some Sw (.some S2 (.some UI (.some TO (.some Ws (.some Uk (.some UJ (.some Tj (.none (.none (.none (.some Wa (.some Sk (.some TH (.some Uv (.some SV (.some Sq (.some Ut (.some Vf (.some SB (.some VB (.some TE (.some RZ (.some RC (.some RR (.some Uy (.some Wm (.some VG (.some Vz (.some Wx (.some TQ (.some TG (.some S7 (.some UU (.none (.some To (.some US (.some UN (.some Ti (.some VH (.some Td (.some Ur (.none (.none (.some Wy (.none (.none (.some U2 (.some Uc (.some U7 (.some T7 (.some WN (.none (.none (.some SG .nil))))))))))))))))))))))))))))))))))))))))))))))))))))))))))))))))))))))))))))))))))))))))))))))))))))))))))))))))))))))))))))))))))))))))))))))))))))))))))))))))))))))))))))))))))))))))))))))))))))))))))))))))))))))))))))))))))))))))))))))))))))))))))))))))))))))))))))))))
theorem fc3:FIOK Tryz.prog 3 fi3:=⟨⟨Tryz.f3,Tryz.func3,rfl,rfl,rfl,by kernel_rfl⟩,by kernel_rfl⟩
theorem fc4:FIOK Tryz.prog 4 fi4:=⟨⟨Tryz.f4,Tryz.func4,rfl,rfl,rfl,by kernel_rfl⟩,by kernel_rfl⟩
theorem fc5:FIOK Tryz.prog 5 fi5:=⟨⟨Tryz.f5,Tryz.func5,rfl,rfl,rfl,by kernel_rfl⟩,by kernel_rfl⟩
theorem fc6:FIOK Tryz.prog 6 fi6:=⟨⟨Tryz.f6,Tryz.func6,rfl,rfl,rfl,by kernel_rfl⟩,by kernel_rfl⟩
theorem fc7:FIOK Tryz.prog 7 fi7:=⟨⟨Tryz.f7,Tryz.func7,rfl,rfl,rfl,by kernel_rfl⟩,by kernel_rfl⟩
theorem fc8:FIOK Tryz.prog 8 fi8:=⟨⟨Tryz.f8,Tryz.func8,rfl,rfl,rfl,by kernel_rfl⟩,by kernel_rfl⟩
theorem fc9:FIOK Tryz.prog 9 fi9:=⟨⟨Tryz.f9,Tryz.func9,rfl,rfl,rfl,by kernel_rfl⟩,by kernel_rfl⟩
theorem PC:FIOK Tryz.prog 10 me:=⟨⟨Tryz.f10,Tryz.func10,rfl,rfl,rfl,by kernel_rfl⟩,by kernel_rfl⟩
theorem Vv:FIOK Tryz.prog 11 KG:=⟨⟨Tryz.f11,Tryz.func11,rfl,rfl,rfl,by kernel_rfl⟩,by kernel_rfl⟩
theorem Ow:FIOK Tryz.prog 15 xS:=⟨⟨Tryz.f15,Tryz.func15,rfl,rfl,rfl,by kernel_rfl⟩,by kernel_rfl⟩
theorem U9:FIOK Tryz.prog 16 KV:=⟨⟨Tryz.f16,Tryz.func16,rfl,rfl,rfl,by kernel_rfl⟩,by kernel_rfl⟩
theorem Wi:FIOK Tryz.prog 17 L7:=⟨⟨Tryz.f17,Tryz.func17,rfl,rfl,rfl,by kernel_rfl⟩,by kernel_rfl⟩
theorem Ud:FIOK Tryz.prog 18 KZ:=⟨⟨Tryz.f18,Tryz.func18,rfl,rfl,rfl,by kernel_rfl⟩,by kernel_rfl⟩
theorem TB:FIOK Tryz.prog 20 PT:=⟨⟨Tryz.f20,Tryz.func20,rfl,rfl,rfl,by kernel_rfl⟩,by kernel_rfl⟩
theorem fc21:FIOK Tryz.prog 21 VY:=⟨⟨Tryz.f21,Tryz.func21,rfl,rfl,rfl,by kernel_rfl⟩,by kernel_rfl⟩
theorem fc23:FIOK Tryz.prog 23 Vw:=⟨⟨Tryz.f23,Tryz.func23,rfl,rfl,rfl,by kernel_rfl⟩,by kernel_rfl⟩
theorem fc25:FIOK Tryz.prog 25 Qi:=⟨⟨Tryz.f25,Tryz.func25,rfl,rfl,rfl,by kernel_rfl⟩,by kernel_rfl⟩
theorem LL:FIOK Tryz.prog 26 vD:=⟨⟨Tryz.f26,Tryz.func26,rfl,rfl,rfl,by kernel_rfl⟩,by kernel_rfl⟩
theorem O5:FIOK Tryz.prog 27 N6:=⟨⟨Tryz.f27,Tryz.func27,rfl,rfl,rfl,by kernel_rfl⟩,by kernel_rfl⟩
theorem Vl:FIOK Tryz.prog 28 fj:=⟨⟨Tryz.f28,Tryz.func28,rfl,rfl,rfl,by kernel_rfl⟩,by kernel_rfl⟩
theorem RA:FIOK Tryz.prog 29 qD:=⟨⟨Tryz.f29,Tryz.func29,rfl,rfl,rfl,by kernel_rfl⟩,by kernel_rfl⟩
theorem VC:FIOK Tryz.prog 36 gz:=⟨⟨Tryz.f36,Tryz.func36,rfl,rfl,rfl,by kernel_rfl⟩,by kernel_rfl⟩
theorem SE:FIOK Tryz.prog 37 Ae:=⟨⟨Tryz.f37,Tryz.func37,rfl,rfl,rfl,by kernel_rfl⟩,by kernel_rfl⟩
theorem RV:FIOK Tryz.prog 39 QA:=⟨⟨Tryz.f39,Tryz.func39,rfl,rfl,rfl,by kernel_rfl⟩,by kernel_rfl⟩
theorem fc43:FIOK Tryz.prog 43 SX:=⟨⟨Tryz.f43,Tryz.func43,rfl,rfl,rfl,by kernel_rfl⟩,by kernel_rfl⟩
theorem fc44:FIOK Tryz.prog 44 Wh:=⟨⟨Tryz.f44,Tryz.func44,rfl,rfl,rfl,by kernel_rfl⟩,by kernel_rfl⟩
theorem SY:FIOK Tryz.prog 45 LH:=⟨⟨Tryz.f45,Tryz.func45,rfl,rfl,rfl,by kernel_rfl⟩,by kernel_rfl⟩
theorem Tc:FIOK Tryz.prog 46 Lr:=⟨⟨Tryz.f46,Tryz.func46,rfl,rfl,rfl,by kernel_rfl⟩,by kernel_rfl⟩
theorem V2:FIOK Tryz.prog 47 vE:=⟨⟨Tryz.f47,Tryz.func47,rfl,rfl,rfl,by kernel_rfl⟩,by kernel_rfl⟩
theorem Uw:FIOK Tryz.prog 48 KA:=⟨⟨Tryz.f48,Tryz.func48,rfl,rfl,rfl,by kernel_rfl⟩,by kernel_rfl⟩
theorem Wv:FIOK Tryz.prog 49 sG:=⟨⟨Tryz.f49,Tryz.func49,rfl,rfl,rfl,by kernel_rfl⟩,by kernel_rfl⟩
theorem RG:FIOK Tryz.prog 50 Lk:=⟨⟨Tryz.f50,Tryz.func50,rfl,rfl,rfl,by kernel_rfl⟩,by kernel_rfl⟩
theorem Wg:FIOK Tryz.prog 51 sM:=⟨⟨Tryz.f51,Tryz.func51,rfl,rfl,rfl,by kernel_rfl⟩,by kernel_rfl⟩
theorem RT:FIOK Tryz.prog 53 sJ:=⟨⟨Tryz.f53,Tryz.func53,rfl,rfl,rfl,by kernel_rfl⟩,by kernel_rfl⟩
theorem Sj:FIOK Tryz.prog 59 iJ:=⟨⟨Tryz.f59,Tryz.func59,rfl,rfl,rfl,by kernel_rfl⟩,by kernel_rfl⟩
theorem U1:FIOK Tryz.prog 60 J6:=⟨⟨Tryz.f60,Tryz.func60,rfl,rfl,rfl,by kernel_rfl⟩,by kernel_rfl⟩
theorem VR:FIOK Tryz.prog 61 J9:=⟨⟨Tryz.f61,Tryz.func61,rfl,rfl,rfl,by kernel_rfl⟩,by kernel_rfl⟩
theorem Ta:FIOK Tryz.prog 62 Lz:=⟨⟨Tryz.f62,Tryz.func62,rfl,rfl,rfl,by kernel_rfl⟩,by kernel_rfl⟩
theorem UP:FIOK Tryz.prog 63 KY:=⟨⟨Tryz.f63,Tryz.func63,rfl,rfl,rfl,by kernel_rfl⟩,by kernel_rfl⟩
theorem We:FIOK Tryz.prog 64 sz:=⟨⟨Tryz.f64,Tryz.func64,rfl,rfl,rfl,by kernel_rfl⟩,by kernel_rfl⟩
theorem Vx:FIOK Tryz.prog 65 wZ:=⟨⟨Tryz.f65,Tryz.func65,rfl,rfl,rfl,by kernel_rfl⟩,by kernel_rfl⟩
theorem SW:FIOK Tryz.prog 67 P9:=⟨⟨Tryz.f67,Tryz.func67,rfl,rfl,rfl,by kernel_rfl⟩,by kernel_rfl⟩
theorem fc70:FIOK Tryz.prog 70 WL:=⟨⟨Tryz.f70,Tryz.func70,rfl,rfl,rfl,by kernel_rfl⟩,by kernel_rfl⟩
theorem UL:FIOK Tryz.prog 71 NZ:=⟨⟨Tryz.f71,Tryz.func71,rfl,rfl,rfl,by kernel_rfl⟩,by kernel_rfl⟩
theorem VE:FIOK Tryz.prog 72 Kz:=⟨⟨Tryz.f72,Tryz.func72,rfl,rfl,rfl,by kernel_rfl⟩,by kernel_rfl⟩
theorem Wo:FIOK Tryz.prog 73 Ma:=⟨⟨Tryz.f73,Tryz.func73,rfl,rfl,rfl,by kernel_rfl⟩,by kernel_rfl⟩
theorem V6:FIOK Tryz.prog 74 LD:=⟨⟨Tryz.f74,Tryz.func74,rfl,rfl,rfl,by kernel_rfl⟩,by kernel_rfl⟩
theorem RF:FIOK Tryz.prog 75 Lp:=⟨⟨Tryz.f75,Tryz.func75,rfl,rfl,rfl,by kernel_rfl⟩,by kernel_rfl⟩
theorem TT:FIOK Tryz.prog 76 JU:=⟨⟨Tryz.f76,Tryz.func76,rfl,rfl,rfl,by kernel_rfl⟩,by kernel_rfl⟩
theorem TN:FIOK Tryz.prog 77 PD:=⟨⟨Tryz.f77,Tryz.func77,rfl,rfl,rfl,by kernel_rfl⟩,by kernel_rfl⟩
theorem fc79:FIOK Tryz.prog 79 R5:=⟨⟨Tryz.f79,Tryz.func79,rfl,rfl,rfl,by kernel_rfl⟩,by kernel_rfl⟩
theorem TF:FIOK Tryz.prog 90 KQ:=⟨⟨Tryz.f90,Tryz.func90,rfl,rfl,rfl,by kernel_rfl⟩,by kernel_rfl⟩
theorem SF:FIOK Tryz.prog 91 sD:=⟨⟨Tryz.f91,Tryz.func91,rfl,rfl,rfl,by kernel_rfl⟩,by kernel_rfl⟩
theorem S9:FIOK Tryz.prog 92 vF:=⟨⟨Tryz.f92,Tryz.func92,rfl,rfl,rfl,by kernel_rfl⟩,by kernel_rfl⟩
theorem TV:FIOK Tryz.prog 93 vh:=⟨⟨Tryz.f93,Tryz.func93,rfl,rfl,rfl,by kernel_rfl⟩,by kernel_rfl⟩
theorem TK:FIOK Tryz.prog 94 J3:=⟨⟨Tryz.f94,Tryz.func94,rfl,rfl,rfl,by kernel_rfl⟩,by kernel_rfl⟩
theorem Nr:FIOK Tryz.prog 103 Bj:=⟨⟨Tryz.f103,Tryz.func103,rfl,rfl,rfl,by kernel_rfl⟩,by kernel_rfl⟩
theorem MW:FIOK Tryz.prog 104 BJ:=⟨⟨Tryz.f104,Tryz.func104,rfl,rfl,rfl,by kernel_rfl⟩,by kernel_rfl⟩
theorem Mq:FIOK Tryz.prog 105 Ch:=⟨⟨Tryz.f105,Tryz.func105,rfl,rfl,rfl,by kernel_rfl⟩,by kernel_rfl⟩
theorem My:FIOK Tryz.prog 106 nt:=⟨⟨Tryz.f106,Tryz.func106,rfl,rfl,rfl,by kernel_rfl⟩,by kernel_rfl⟩
theorem Mn:FIOK Tryz.prog 113 Bo:=⟨⟨Tryz.f113,Tryz.func113,rfl,rfl,rfl,by kernel_rfl⟩,by kernel_rfl⟩
theorem M5:FIOK Tryz.prog 114 Be:=⟨⟨Tryz.f114,Tryz.func114,rfl,rfl,rfl,by kernel_rfl⟩,by kernel_rfl⟩
theorem Nh:FIOK Tryz.prog 115 Bz:=⟨⟨Tryz.f115,Tryz.func115,rfl,rfl,rfl,by kernel_rfl⟩,by kernel_rfl⟩
theorem M8:FIOK Tryz.prog 116 BB:=⟨⟨Tryz.f116,Tryz.func116,rfl,rfl,rfl,by kernel_rfl⟩,by kernel_rfl⟩
theorem Nq:FIOK Tryz.prog 117 BQ:=⟨⟨Tryz.f117,Tryz.func117,rfl,rfl,rfl,by kernel_rfl⟩,by kernel_rfl⟩
theorem Nj:FIOK Tryz.prog 118 JG:=⟨⟨Tryz.f118,Tryz.func118,rfl,rfl,rfl,by kernel_rfl⟩,by kernel_rfl⟩
theorem M7:FIOK Tryz.prog 119 I2:=⟨⟨Tryz.f119,Tryz.func119,rfl,rfl,rfl,by kernel_rfl⟩,by kernel_rfl⟩
theorem Mz:FIOK Tryz.prog 125 Bv:=⟨⟨Tryz.f125,Tryz.func125,rfl,rfl,rfl,by kernel_rfl⟩,by kernel_rfl⟩
theorem M1:FIOK Tryz.prog 126 nw:=⟨⟨Tryz.f126,Tryz.func126,rfl,rfl,rfl,by kernel_rfl⟩,by kernel_rfl⟩
theorem ML:FIOK Tryz.prog 127 Bt:=⟨⟨Tryz.f127,Tryz.func127,rfl,rfl,rfl,by kernel_rfl⟩,by kernel_rfl⟩
theorem Nl:FIOK Tryz.prog 128 mO:=⟨⟨Tryz.f128,Tryz.func128,rfl,rfl,rfl,by kernel_rfl⟩,by kernel_rfl⟩
theorem Mw:FIOK Tryz.prog 129 Eh:=⟨⟨Tryz.f129,Tryz.func129,rfl,rfl,rfl,by kernel_rfl⟩,by kernel_rfl⟩
theorem MN:FIOK Tryz.prog 133 Cq:=⟨⟨Tryz.f133,Tryz.func133,rfl,rfl,rfl,by kernel_rfl⟩,by kernel_rfl⟩
theorem MG:FIOK Tryz.prog 134 BO:=⟨⟨Tryz.f134,Tryz.func134,rfl,rfl,rfl,by kernel_rfl⟩,by kernel_rfl⟩
theorem Nn:FIOK Tryz.prog 135 nv:=⟨⟨Tryz.f135,Tryz.func135,rfl,rfl,rfl,by kernel_rfl⟩,by kernel_rfl⟩
theorem Nf:FIOK Tryz.prog 136 Cd:=⟨⟨Tryz.f136,Tryz.func136,rfl,rfl,rfl,by kernel_rfl⟩,by kernel_rfl⟩
theorem Mr:FIOK Tryz.prog 137 BF:=⟨⟨Tryz.f137,Tryz.func137,rfl,rfl,rfl,by kernel_rfl⟩,by kernel_rfl⟩
theorem MM:FIOK Tryz.prog 138 Ct:=⟨⟨Tryz.f138,Tryz.func138,rfl,rfl,rfl,by kernel_rfl⟩,by kernel_rfl⟩
theorem M9:FIOK Tryz.prog 139 Cb:=⟨⟨Tryz.f139,Tryz.func139,rfl,rfl,rfl,by kernel_rfl⟩,by kernel_rfl⟩
theorem ME:FIOK Tryz.prog 140 pD:=⟨⟨Tryz.f140,Tryz.func140,rfl,rfl,rfl,by kernel_rfl⟩,by kernel_rfl⟩
theorem Mx:FIOK Tryz.prog 141 lE:=⟨⟨Tryz.f141,Tryz.func141,rfl,rfl,rfl,by kernel_rfl⟩,by kernel_rfl⟩
theorem MA:FIOK Tryz.prog 142 Cm:=⟨⟨Tryz.f142,Tryz.func142,rfl,rfl,rfl,by kernel_rfl⟩,by kernel_rfl⟩
theorem MB:FIOK Tryz.prog 143 mQ:=⟨⟨Tryz.f143,Tryz.func143,rfl,rfl,rfl,by kernel_rfl⟩,by kernel_rfl⟩
theorem Mt:FIOK Tryz.prog 146 Nk:=⟨⟨Tryz.f146,Tryz.func146,rfl,rfl,rfl,by kernel_rfl⟩,by kernel_rfl⟩
theorem Ni:FIOK Tryz.prog 148 BU:=⟨⟨Tryz.f148,Tryz.func148,rfl,rfl,rfl,by kernel_rfl⟩,by kernel_rfl⟩
theorem Mp:FIOK Tryz.prog 154 EE:=⟨⟨Tryz.f154,Tryz.func154,rfl,rfl,rfl,by kernel_rfl⟩,by kernel_rfl⟩
theorem MO:FIOK Tryz.prog 162 MF:=⟨⟨Tryz.f162,Tryz.func162,rfl,rfl,rfl,by kernel_rfl⟩,by kernel_rfl⟩
theorem H2:FIOK Tryz.prog 173 Gp:=⟨⟨Tryz.f173,Tryz.func173,rfl,rfl,rfl,by kernel_rfl⟩,by kernel_rfl⟩
theorem JE:FIOK Tryz.prog 174 jF:=⟨⟨Tryz.f174,Tryz.func174,rfl,rfl,rfl,by kernel_rfl⟩,by kernel_rfl⟩
theorem fchk:wW Tryz.prog 0 fis:=
 (.none (.none (.none (.some fc3 (.some fc4 (.some fc5 (.some fc6 (.some fc7 (.some fc8 (.some fc9 (.some PC (.some Vv (.none (.none (.none (.some Ow (.some U9 (.some Wi (.some Ud (.none (.some TB (.some fc21 (.none (.some fc23 (.none (.some fc25 (.some LL (.some O5 (.some Vl (.some RA (.none (.none (.none (.none (.none (.none (.some VC (.some SE (.none (.some RV (.none (.none (.none (.some fc43 (.some fc44 (.some SY (.some Tc (.some V2 (.some Uw (.some Wv (.some RG (.some Wg (.none (.some RT (.none (.none (.none (.none (.none (.some Sj (.some U1 (.some VR (.some Ta (.some UP (.some We (.some Vx (.none (.some SW (.none (.none (.some fc70 (.some UL (.some VE (.some Wo (.some V6 (.some RF (.some TT (.some TN (.none (.some fc79 (.none (.none (.none (.none (.none (.none (.none (.none (.none (.none (.some TF (.some SF (.some S9 (.some TV (.some TK (.none (.none (.none (.none (.none (.none (.none (.none (.some Nr (.some MW (.some Mq (.some My (.none (.none (.none (.none (.none (.none (.some Mn (.some M5 (.some Nh (.some M8 (.some Nq (.some Nj (.some M7 (.none (.none (.none (.none (.none (.some Mz (.some M1 (.some ML (.some Nl (.some Mw (.none (.none (.none (.some MN (.some MG (.some Nn (.some Nf (.some Mr (.some MM (.some M9 (.some ME (.some Mx (.some MA (.some MB (.none (.none (.some Mt (.none (.some Ni (.none (.none (.none (.none (.none (.some Mp (.none (.none (.none (.none (.none (.none (.none (.some MO (.none (.none (.none (.none (.none (.none (.none (.none (.none (.none (.some H2 (.some JE .nil)))))))))))))))))))))))))))))))))))))))))))))))))))))))))))))))))))))))))))))))))))))))))))))))))))))))))))))))))))))))))))))))))))))))))))))))))))))))))))))))))))))))))))))))
theorem aX(intr:List (Option aV)):EnvOK ⟨tis,fis,intr⟩ Tryz.prog:=⟨fun t ti h=>by
 have h2:nth tis t=some (some ti):=by
  unfold Env.T at h
  split at h
  ·rename_i x hx;rw[hx,h]
  ·cases h
 have:=tchk t ti h2
 rwa [Nat.zero_add]at this,by kernel_rfl⟩
theorem RL:∀f fi,nth fis f=some (some fi)→FIOK Tryz.prog f fi:=fun f fi h=>by
 have:=fchk f fi h
 rwa [Nat.zero_add]at this
end Go.Sx.Tryz
namespace Go.Sx.Tryz
open Go Go.Sx Go.Proofs
set_option maxRecDepth 100000
abbrev E:Env:=E0
abbrev Iz(n:Int):AV:=.int .i64 n
abbrev aE:Ty:=.pair (.int .i64) (.pair (.int .i64) (.pair (.int .i64) .unit))
abbrev Tok:Type:=aE.den
def an(x:Tok):Int:=x.1
def aa(x:Tok):Int:=x.2.1
def tTo(x:Tok):Int:=x.2.2.1
abbrev im:Sig:=[(false,.int .u8)]
abbrev cT:Sig:=[(false,.bool)]
abbrev cz:Sig:=[(false,.str)]
abbrev jJ:Sig:=[(false,.int .i64)]
abbrev qX(c:Bool):R0:=(.ret (.bool c),[])
def isLet(c:Int):Bool:=(decide (c≥97)&&decide (c≤122))||((decide (c≥65)&&decide (c≤90))||c==95)
def aH(c:Int):Bool:=decide (c≥48)&&decide (c≤57)
def aU(c:Int):Bool:=c==32||(c==9||(c==10||c==13))
def fk(c:Int):Bool:=isLet c||aH c
def LX(x:au im):au cT:=(isLet x.1,())
def LA(x:au im):au cT:=(aH x.1,())
def SC(x:au im):au cT:=(aU x.1,())
def Vo(x:au im):au cT:=(fk x.1,())
def ma:List (Nat×aV):=[(60,b8 60 im cT (fun _=>true) SC),(61,b8 61 im cT (fun _=>true) LX),(62,b8 62 im cT (fun _=>true) Vo),(63,b8 63 im cT (fun _=>true) LA)]
def bsR(T:List UInt8)(a:Int)(K:List Tok):List Blk:=[.cells 86 [.str T,.int .i64 a,.own 1 0],.list 50 aE 0 false K]
def sW(T:List UInt8)(a:Int)(K:List Tok):List Blk:=[.cells 86 [.str T,.int .i64 a,.own 1 1],.list 50 aE 1 false K]
def iF:List Cut:=[⟨[false,false],some ⟨[(0,[]),(1,[])],[[],[]]⟩⟩]
def v8(T:List UInt8)(a:Int)(K:List Tok)(f:Nat):St:={tmps:=[(0,.ref 0 0),(1,.fn f [])],blks:=[(0,.cells 86 [.str T,.int .i64 a,.own 1 1]),(1,.list 50 aE 1 false K)],next:=2}
end Go.Sx.Tryz
namespace Go.Sx.Tryz
open Go Go.Sx Go.Proofs
set_option maxRecDepth 100000
def aG(p:Int→Bool)(s:List UInt8):Nat:=(s.takeWhile fun c=>p c.toNat).length
def pV:Nat→List UInt8→Nat
 |0,_=>0
 |n+1,s=>let b:=aG aU s
  bif Lib.hasPrefix (s.drop b) [47,47]then
   let c:=aG (fun c=>c !=10) (s.drop b)
   b+c+pV n (s.drop (b+c))
  else b
def ia(s:List UInt8):Nat:=pV (s.length+1) s
def rL:List UInt8:=[34,92,110,116]
def cU:Nat→List UInt8→Nat×Int
 |_,[]=>(0,61)
 |0,_=>(0,61)
 |n+1,c::r=>bif (c.toNat:Int)==34 then(1,0)else bif (c.toNat:Int)==10 then(0,61)else bif decide ((c.toNat:Int)<32)||decide ((c.toNat:Int)>126)then(0,60)
  else bif (c.toNat:Int)==92 then(match r with
   |[]=>(0,61)
   |d::r'=>bif decide (Lib.indexByte rL (d.toNat:Int).toNat.toUInt8<0)then(0,5)else let q:=cU n r'
    (q.1+2,q.2))
  else let q:=cU n r
   (q.1+1,q.2)
def gD(s:List UInt8):Nat×Int:=let q:=cU s.length (s.drop 1)
 (q.1+1,q.2)
def eF:List UInt8:=[61,61,32,33,61,32,60,61,32,62,61,32,38,38,32,124,124,32]
def q9:List UInt8:=[123,125,40,41,91,93,59,44,46,61,60,62,43,45,42,47,37,33,63]
def at8(s:List UInt8)(i:Nat):Int:=((s.getD i 0).toNat:Int)
def sQ(s:List UInt8):Nat×Int:=
 bif decide ((s.length:Int)>1)&&(Lib.contains eF (s.take 2++[32])&&(at8 s 0 !=32&&at8 s 1 !=32))then(2,0)
 else bif decide (Lib.indexByte q9 (at8 s 0).toNat.toUInt8≥0)then(1,0)else(0,60)
def eX(s:List UInt8):Int×Int×Nat:=
 bif isLet (at8 s 0)then
  let n:=aG fk s
  bif decide ((n:Int)>64)then(0,2,n)else(1,0,n)
 else bif aH (at8 s 0)then
  let n:=aG aH s
  bif decide (((n:Int)+1)<s.length)&&(at8 s n==46&&aH (at8 s (n+1)))then
   let m:=n+1+aG aH (s.drop (n+1))
   bif decide ((m:Int)>20)then(0,2,m)else(3,0,m)
  else bif decide ((n:Int)>20)then(0,2,n)else(2,0,n)
 else bif at8 s 0==34 then
  let q:=gD s
  bif q.2==0&&decide ((q.1:Int)>256)then(4,2,q.1)else(4,q.2,q.1)
 else let q:=sQ s
  (5,q.2,q.1)
def aI(T:List UInt8)(a:Int):List UInt8:=T.drop a.toNat
def whI(p:Int→Bool)(T:List UInt8)(a:Int):Int:=a+aG p (aI T a)
def gh(T:List UInt8)(a:Int):Int:=a+ia (aI T a)
def j6(T:List UInt8)(a:Int):Int:=a+(gD (aI T a)).1
def pZ(T:List UInt8)(a:Int):Int:=(gD (aI T a)).2
def CN(T:List UInt8)(a:Int):Int:=a+(sQ (aI T a)).1
def CZ(T:List UInt8)(a:Int):Int:=(sQ (aI T a)).2
def bZ(T:List UInt8)(a:Int):Int:=a+(eX (aI T a)).2.2
def lr(T:List UInt8)(a:Int):Int:=(eX (aI T a)).1
def ig(T:List UInt8)(a:Int):Int:=(eX (aI T a)).2.1
def okA(T:List UInt8)(a:Int):Bool:=decide (0≤a)&&(decide (a≤T.length)&&decide ((T.length:Int)≤1099511627776))
def jT(T:List UInt8)(a:Int):Bool:=decide (0≤a)&&(decide (a<T.length)&&decide ((T.length:Int)≤1099511627776))
def rdC(f:Nat)(rs:Sig)(p:List UInt8→Int→Bool)(F:List UInt8→Int→au rs)(A:List UInt8→Int→Int):aV:=fun R args bs k=>match args,bs with
 |[.ref 0 0],[.cells 86 [.str T,.int .i64 a,.own 1 0],.list 50 tK 0 false K]=>(match dI tK aE K with
  |some K=>(match p T a with
   |true=>k (.ret (cV rs (F T a)),sW T (A T a) K)
   |false=>.err (3000000+f))
  |none=>.err f)
 |_,_=>.err f
def pOf(f:Nat):Int→Bool:=bif Nat.beq f 60 then aU else bif Nat.beq f 62 then fk else aH
def whC:aV:=fun R args bs k=>match args,bs with
 |[.ref 0 0,.fn f []],[.cells 86 [.str T,.int .i64 a,.own 1 0],.list 50 tK 0 false K]=>(match dI tK aE K with
  |some K=>(match(Nat.beq f 60||(Nat.beq f 62||Nat.beq f 63))&&okA T a with
   |true=>k (.ret (.tup []),sW T (whI (pOf f) T a) K)
   |false=>.err 3000059)
  |none=>.err 59)
 |_,_=>.err 59
abbrev lD:Sig:=[(false,.str),(false,.str)]
abbrev Ba:Sig:=[(false,.str),(false,.int .u8)]
def hpX(x:au lD):au cT:=(Lib.hasPrefix x.1 x.2.1,())
def Pb(x:au lD):au cT:=(Lib.contains x.1 x.2.1,())
def ibS(s:List UInt8)(c:Int):Int:=Lib.indexByte s c.toNat.toUInt8
def ibX(x:au Ba):au jJ:=(ibS x.1 x.2.1,())
def conB(s:List UInt8):Bool:=Nat.ble s.length 4000000000
def OE(x:au lD):Bool:=conB x.1
def fM:List (Nat×aV):=[(12,b8 12 lD cT (fun _=>true) hpX),(14,b8 14 lD cT OE Pb),(88,b8 88 Ba jJ (fun _=>true) ibX)]
def fC:List (Nat×aV):=(59,eQ 59 whC)::fM
def gy:List Cut:=[⟨[false,false],some ⟨[(0,[])],[[],[]]⟩⟩,⟨[false,false,false,true,true,false,false],some ⟨[(0,[])],[[],[]]⟩⟩]
def mkR(T:List UInt8)(a:Int)(K:List Tok):St:={tmps:=[(0,.ref 0 0)],blks:=[(0,.cells 86 [.str T,.int .i64 a,.own 1 1]),(1,.list 50 aE 1 false K)],next:=2}
def zb:List Cut:=[⟨[true,true,false,true],some ⟨[(0,[]),(3,[]),(31,[])],[[],[]]⟩⟩]
def Qk(T:List UInt8)(a:Int)(K:List Tok)(s:List UInt8)(b:Bool):St:={tmps:=[(0,.ref 0 0),(3,.str s),(31,.bool b)],blks:=[(0,.cells 86 [.str T,.int .i64 a,.own 1 1]),(1,.list 50 aE 1 false K)],next:=2}
def rQ:List Cut:=[⟨[true,true,false,false,false],some ⟨[(0,[])],[[],[]]⟩⟩]
end Go.Sx.Tryz
namespace Go.Sx.Tryz
open Go Go.Sx
set_option maxRecDepth 100000
theorem OA(c:Int):body (R:=R0) E (aq []) J6 [.int .u8 c] [] .ok=bif c==32 then Rs.ok (Out.ret (AV.bool true),[])else bif c==9 then Rs.ok (Out.ret (AV.bool true),[])else bif c==10 then Rs.ok (Out.ret (AV.bool true),[])else Rs.ok (Out.ret (AV.bool (c==13)),[]):=by kernel_rfl
theorem Rf(c:Int):body (R:=R0) E (aq []) J9 [.int .u8 c] [] .ok=bif decide (c≥97)then bif decide (c≤122)then Rs.ok (Out.ret (AV.bool true),[])else bif decide (c≥65)then bif decide (c≤90)then Rs.ok (Out.ret (AV.bool true),[])else Rs.ok (Out.ret (AV.bool (c==95)),[])else Rs.ok (Out.ret (AV.bool (c==95)),[])else bif decide (c≥65)then bif decide (c≤90)then Rs.ok (Out.ret (AV.bool true),[])else Rs.ok (Out.ret (AV.bool (c==95)),[])else Rs.ok (Out.ret (AV.bool (c==95)),[]):=by kernel_rfl
theorem NB(c:Int):body (R:=R0) E (aq []) KY [.int .u8 c] [] .ok=bif decide (c≥48)then Rs.ok (Out.ret (AV.bool (decide (c≤57))),[])else Rs.ok (Out.ret (AV.bool false),[]):=by kernel_rfl
theorem IY(J:Jump R0)(T:List UInt8)(a:Int)(K:List Tok):start E (aq ma) iJ iF J [.ref 0 0,.fn 60 []] (bsR T a K) .ok=J 0 {tmps:=[(0,AV.ref 0 0),(1,AV.fn 60 [])],blks:=[(0,Blk.cells 86 [AV.str T,Iz a,AV.own 1 1]),(1,Blk.list 50 aE 1 false K)],next:=2}:=by kernel_rfl
theorem Lq(J:Jump R0)(T:List UInt8)(a:Int)(K:List Tok):resume E (aq ma) (aS 2 iF 0) J [false,false] iJ.code 1 (v8 T a K 60) (bX E 2 iJ.results .ok)=bif decide (a<(↑(List.length T):Int))then bif inI a (List.length T)then bif aU (↑(UInt8.toNat (List.getD T (Int.toNat a) 0)):Int)then J 0 {tmps:=[(0,AV.ref 0 0),(1,AV.fn 60 [])],blks:=[(0,Blk.cells 86 [AV.str T,Iz (IntKind.wrap IntKind.i64 (a+1)),AV.own 1 1]),(1,Blk.list 50 aE 1 false K)],next:=2}else Rs.ok (Out.ret (AV.tup []),[Blk.cells 86 [AV.str T,Iz a,AV.own 1 1],Blk.list 50 aE 1 false K])else Rs.err 20 else Rs.ok (Out.ret (AV.tup []),[Blk.cells 86 [AV.str T,Iz a,AV.own 1 1],Blk.list 50 aE 1 false K]):=by kernel_rfl
theorem Ix(J:Jump R0)(T:List UInt8)(a:Int)(K:List Tok):start E (aq ma) iJ iF J [.ref 0 0,.fn 62 []] (bsR T a K) .ok=J 0 {tmps:=[(0,AV.ref 0 0),(1,AV.fn 62 [])],blks:=[(0,Blk.cells 86 [AV.str T,Iz a,AV.own 1 1]),(1,Blk.list 50 aE 1 false K)],next:=2}:=by kernel_rfl
theorem KH(J:Jump R0)(T:List UInt8)(a:Int)(K:List Tok):resume E (aq ma) (aS 2 iF 0) J [false,false] iJ.code 1 (v8 T a K 62) (bX E 2 iJ.results .ok)=bif decide (a<(↑(List.length T):Int))then bif inI a (List.length T)then bif fk (↑(UInt8.toNat (List.getD T (Int.toNat a) 0)):Int)then J 0 {tmps:=[(0,AV.ref 0 0),(1,AV.fn 62 [])],blks:=[(0,Blk.cells 86 [AV.str T,Iz (IntKind.wrap IntKind.i64 (a+1)),AV.own 1 1]),(1,Blk.list 50 aE 1 false K)],next:=2}else Rs.ok (Out.ret (AV.tup []),[Blk.cells 86 [AV.str T,Iz a,AV.own 1 1],Blk.list 50 aE 1 false K])else Rs.err 20 else Rs.ok (Out.ret (AV.tup []),[Blk.cells 86 [AV.str T,Iz a,AV.own 1 1],Blk.list 50 aE 1 false K]):=by kernel_rfl
theorem EA(J:Jump R0)(T:List UInt8)(a:Int)(K:List Tok):start E (aq ma) iJ iF J [.ref 0 0,.fn 63 []] (bsR T a K) .ok=J 0 {tmps:=[(0,AV.ref 0 0),(1,AV.fn 63 [])],blks:=[(0,Blk.cells 86 [AV.str T,Iz a,AV.own 1 1]),(1,Blk.list 50 aE 1 false K)],next:=2}:=by kernel_rfl
theorem Lj(J:Jump R0)(T:List UInt8)(a:Int)(K:List Tok):resume E (aq ma) (aS 2 iF 0) J [false,false] iJ.code 1 (v8 T a K 63) (bX E 2 iJ.results .ok)=bif decide (a<(↑(List.length T):Int))then bif inI a (List.length T)then bif aH (↑(UInt8.toNat (List.getD T (Int.toNat a) 0)):Int)then J 0 {tmps:=[(0,AV.ref 0 0),(1,AV.fn 63 [])],blks:=[(0,Blk.cells 86 [AV.str T,Iz (IntKind.wrap IntKind.i64 (a+1)),AV.own 1 1]),(1,Blk.list 50 aE 1 false K)],next:=2}else Rs.ok (Out.ret (AV.tup []),[Blk.cells 86 [AV.str T,Iz a,AV.own 1 1],Blk.list 50 aE 1 false K])else Rs.err 20 else Rs.ok (Out.ret (AV.tup []),[Blk.cells 86 [AV.str T,Iz a,AV.own 1 1],Blk.list 50 aE 1 false K]):=by kernel_rfl
theorem J5(J:Jump R0)(T:List UInt8)(a:Int)(K:List Tok):start E (aq fC) gz gy J [.ref 0 0] (bsR T a K) .ok=J 0 {tmps:=[(0,AV.ref 0 0)],blks:=[(0,Blk.cells 86 [AV.str T,Iz a,AV.own 1 1]),(1,Blk.list 50 aE 1 false K)],next:=2}:=by kernel_rfl
theorem B8(J:Jump R0)(T:List UInt8)(a:Int)(K:List Tok):resume E (aq fC) (aS 2 gy 0) J [false,false] gz.code 1 (mkR T a K) (bX E 2 gz.results .ok)=bif (Nat.beq 60 60||(Nat.beq 60 62||Nat.beq 60 63))&&okA T a then bif inB (whI (pOf 60) T a) (↑(List.length T):Int) (List.length T)then bif !Lib.hasPrefix (List.drop (Int.toNat (whI (pOf 60) T a)) (List.take (Int.toNat (↑(List.length T):Int)) T)) [47,47]then Rs.ok (Out.ret (AV.tup []),[Blk.cells 86 [AV.str T,Iz (whI (pOf 60) T a),AV.own 1 2],Blk.list 50 aE 2 false K])else J 1 {tmps:=[(0,AV.ref 0 0)],blks:=[(0,Blk.cells 86 [AV.str T,Iz (whI (pOf 60) T a),AV.own 1 1]),(1,Blk.list 50 aE 1 false K)],next:=2}else Rs.err 108 else Rs.err 3000059:=by kernel_rfl
theorem wj(J:Jump R0)(T:List UInt8)(a:Int)(K:List Tok):resume E (aq fC) (aS 2 gy 0) J [false,false,false,true,true,false,false] gz.code 1 (mkR T a K) (bX E 2 gz.results .ok)=bif decide (a<(↑(List.length T):Int))then bif inI a (List.length T)then bif (↑(UInt8.toNat (List.getD T (Int.toNat a) 0)):Int) !=10 then J 1 {tmps:=[(0,AV.ref 0 0)],blks:=[(0,Blk.cells 86 [AV.str T,Iz (IntKind.wrap IntKind.i64 (a+1)),AV.own 1 1]),(1,Blk.list 50 aE 1 false K)],next:=2}else J 0 {tmps:=[(0,AV.ref 0 0)],blks:=[(0,Blk.cells 86 [AV.str T,Iz a,AV.own 1 1]),(1,Blk.list 50 aE 1 false K)],next:=2}else Rs.err 219 else J 0 {tmps:=[(0,AV.ref 0 0)],blks:=[(0,Blk.cells 86 [AV.str T,Iz a,AV.own 1 1]),(1,Blk.list 50 aE 1 false K)],next:=2}:=by kernel_rfl
theorem L6(J:Jump R0)(T:List UInt8)(a:Int)(K:List Tok):start E (aq fM) wZ zb J [.ref 0 0] (bsR T a K) .ok=bif inB a (↑(List.length T):Int) (List.length T)then bif decide ((↑(List.length (List.drop (Int.toNat a) (List.take (Int.toNat (↑(List.length T):Int)) T))):Int)>1)then bif inB 0 2 (List.length (List.drop (Int.toNat a) (List.take (Int.toNat (↑(List.length T):Int)) T)))then bif decide (List.length (List.drop (Int.toNat 0) (List.take (Int.toNat 2) (List.drop (Int.toNat a) (List.take (Int.toNat (↑(List.length T):Int)) T))))+List.length [32]<2^62)then bif Lib.contains [61,61,32,33,61,32,60,61,32,62,61,32,38,38,32,124,124,32] (List.drop (Int.toNat 0) (List.take (Int.toNat 2) (List.drop (Int.toNat a) (List.take (Int.toNat (↑(List.length T):Int)) T)))++[32])then bif inI 0 (List.length (List.drop (Int.toNat a) (List.take (Int.toNat (↑(List.length T):Int)) T)))then bif (↑(UInt8.toNat (List.getD (List.drop (Int.toNat a) (List.take (Int.toNat (↑(List.length T):Int)) T)) (Int.toNat 0) 0)):Int) !=32 then bif inI 1 (List.length (List.drop (Int.toNat a) (List.take (Int.toNat (↑(List.length T):Int)) T)))then J 0 {tmps:=[(0,AV.ref 0 0),(3,AV.str (List.drop (Int.toNat a) (List.take (Int.toNat (↑(List.length T):Int)) T))),(31,AV.bool ((↑(UInt8.toNat (List.getD (List.drop (Int.toNat a) (List.take (Int.toNat (↑(List.length T):Int)) T)) (Int.toNat 1) 0)):Int) !=32))],blks:=[(0,Blk.cells 86 [AV.str T,Iz a,AV.own 1 1]),(1,Blk.list 50 aE 1 false K)],next:=2}else Rs.err 216 else J 0 {tmps:=[(0,AV.ref 0 0),(3,AV.str (List.drop (Int.toNat a) (List.take (Int.toNat (↑(List.length T):Int)) T))),(31,AV.bool false)],blks:=[(0,Blk.cells 86 [AV.str T,Iz a,AV.own 1 1]),(1,Blk.list 50 aE 1 false K)],next:=2}else Rs.err 211 else J 0 {tmps:=[(0,AV.ref 0 0),(3,AV.str (List.drop (Int.toNat a) (List.take (Int.toNat (↑(List.length T):Int)) T))),(31,AV.bool false)],blks:=[(0,Blk.cells 86 [AV.str T,Iz a,AV.own 1 1]),(1,Blk.list 50 aE 1 false K)],next:=2}else Rs.err 206 else Rs.err 205 else J 0 {tmps:=[(0,AV.ref 0 0),(3,AV.str (List.drop (Int.toNat a) (List.take (Int.toNat (↑(List.length T):Int)) T))),(31,AV.bool false)],blks:=[(0,Blk.cells 86 [AV.str T,Iz a,AV.own 1 1]),(1,Blk.list 50 aE 1 false K)],next:=2}else Rs.err 108:=by kernel_rfl
theorem LZ(J:Jump R0)(T:List UInt8)(a:Int)(K:List Tok)(s:List UInt8)(b:Bool):resume E (aq fM) (aS 2 zb 0) J [true,true,false,true] wZ.code 1 (Qk T a K s b) (bX E 2 wZ.results .ok)=bif b then Rs.ok (Out.ret (Iz 0),[Blk.cells 86 [AV.str T,Iz (IntKind.wrap IntKind.i64 (a+2)),AV.own 1 1],Blk.list 50 aE 1 false K])else bif inI 0 (List.length s)then bif decide (ibS [123,125,40,41,91,93,59,44,46,61,60,62,43,45,42,47,37,33,63] (↑(UInt8.toNat (List.getD s (Int.toNat 0) 0)):Int)≥0)then Rs.ok (Out.ret (Iz 0),[Blk.cells 86 [AV.str T,Iz (IntKind.wrap IntKind.i64 (a+1)),AV.own 1 1],Blk.list 50 aE 1 false K])else Rs.ok (Out.ret (Iz (Int.ofNat 60)),[Blk.cells 86 [AV.str T,Iz a,AV.own 1 1],Blk.list 50 aE 1 false K])else Rs.err 501:=by kernel_rfl
theorem KR(J:Jump R0)(T:List UInt8)(a:Int)(K:List Tok):start E (aq fM) sz rQ J [.ref 0 0] (bsR T a K) .ok=J 0 {tmps:=[(0,AV.ref 0 0)],blks:=[(0,Blk.cells 86 [AV.str T,Iz (IntKind.wrap IntKind.i64 (a+1)),AV.own 1 1]),(1,Blk.list 50 aE 1 false K)],next:=2}:=by kernel_rfl
theorem G7(J:Jump R0)(T:List UInt8)(a:Int)(K:List Tok):resume E (aq fM) (aS 2 rQ 0) J [true,true,false,false,false] sz.code 1 (mkR T a K) (bX E 2 sz.results .ok)=bif decide (a<(↑(List.length T):Int))then bif inI a (List.length T)then bif (↑(UInt8.toNat (List.getD T (Int.toNat a) 0)):Int)==34 then Rs.ok (Out.ret (Iz 0),[Blk.cells 86 [AV.str T,Iz (IntKind.wrap IntKind.i64 (a+1)),AV.own 1 1],Blk.list 50 aE 1 false K])else bif (↑(UInt8.toNat (List.getD T (Int.toNat a) 0)):Int)==10 then Rs.ok (Out.ret (Iz (Int.ofNat 61)),[Blk.cells 86 [AV.str T,Iz a,AV.own 1 1],Blk.list 50 aE 1 false K])else bif decide ((↑(UInt8.toNat (List.getD T (Int.toNat a) 0)):Int)<32)then Rs.ok (Out.ret (Iz (Int.ofNat 60)),[Blk.cells 86 [AV.str T,Iz a,AV.own 1 1],Blk.list 50 aE 1 false K])else bif decide ((↑(UInt8.toNat (List.getD T (Int.toNat a) 0)):Int)>126)then Rs.ok (Out.ret (Iz (Int.ofNat 60)),[Blk.cells 86 [AV.str T,Iz a,AV.own 1 1],Blk.list 50 aE 1 false K])else bif (↑(UInt8.toNat (List.getD T (Int.toNat a) 0)):Int)==92 then bif decide (IntKind.wrap IntKind.i64 (a+1)≥(↑(List.length T):Int))then Rs.ok (Out.ret (Iz (Int.ofNat 61)),[Blk.cells 86 [AV.str T,Iz a,AV.own 1 1],Blk.list 50 aE 1 false K])else bif inI (IntKind.wrap IntKind.i64 (a+1)) (List.length T)then bif decide (ibS [34,92,110,116] (↑(UInt8.toNat (List.getD T (Int.toNat (IntKind.wrap IntKind.i64 (a+1))) 0)):Int)<0)then Rs.ok (Out.ret (Iz (Int.ofNat 5)),[Blk.cells 86 [AV.str T,Iz a,AV.own 1 1],Blk.list 50 aE 1 false K])else J 0 {tmps:=[(0,AV.ref 0 0)],blks:=[(0,Blk.cells 86 [AV.str T,Iz (IntKind.wrap IntKind.i64 (IntKind.wrap IntKind.i64 (a+1)+1)),AV.own 1 1]),(1,Blk.list 50 aE 1 false K)],next:=2}else Rs.err 1409 else J 0 {tmps:=[(0,AV.ref 0 0)],blks:=[(0,Blk.cells 86 [AV.str T,Iz (IntKind.wrap IntKind.i64 (a+1)),AV.own 1 1]),(1,Blk.list 50 aE 1 false K)],next:=2}else Rs.err 308 else Rs.ok (Out.ret (Iz (Int.ofNat 61)),[Blk.cells 86 [AV.str T,Iz a,AV.own 1 1],Blk.list 50 aE 1 false K]):=by kernel_rfl
end Go.Sx.Tryz
namespace Go.Sx.Tryz
open Go Go.Sx Go.Proofs
set_option maxRecDepth 100000
variable{G:Nat→Obj→Prop}
theorem lK(T:List UInt8)(a:Int):List.drop (Int.toNat a) (List.take (Int.toNat (T.length:Int)) T)=aI T a:=by
 rw[Int.toNat_natCast,List.take_length]
 rfl
theorem xP{T pre r:List UInt8}(h:T=pre++r):aI T (pre.length:Int)=r:=by
 unfold aI
 rw[h,Int.toNat_natCast,List.drop_left]
theorem gi{T:List UInt8}{a:Int}(h0:0≤a)(h1:a≤T.length):((aI T a).length:Int)=T.length-a:=by
 unfold aI
 rw[List.length_drop]
 omega
theorem GJ{T:List UInt8}{a:Int}(h0:0≤a)(i:Nat):(aI T a).getD i 0=T.getD (a.toNat+i) 0:=by
 unfold aI
 simp[List.getD,List.getElem?_drop]
theorem ra(pre:List UInt8)(c:UInt8)(r:List UInt8):inI (pre.length:Int) (pre++c::r).length=true:=by
 simp only[inI,List.length_append,List.length_cons,Bool.and_eq_true,decide_eq_true_eq]
 omega
theorem Re(x:au im):SAD Tryz.prog G 60 im cT x (SC x):=by
 obtain⟨c,⟨⟩⟩:=x
 have key:∀c:Int,body (R:=R0) E (aq []) J6 [.int .u8 c] [] .ok=Rs.ok (qX (aU c)):=fun c=>by
  rw[OA]
  unfold aU
  cases (c==(32:Int))<;>cases (c==(9:Int))<;>cases (c==(10:Int))<;>rfl
 exact bT (aX []) (aP .nil) U1 (key c)
theorem zR(x:au im):SAD Tryz.prog G 61 im cT x (LX x):=by
 obtain⟨c,⟨⟩⟩:=x
 have key:∀c:Int,body (R:=R0) E (aq []) J9 [.int .u8 c] [] .ok=Rs.ok (qX (isLet c)):=fun c=>by
  rw[Rf]
  unfold isLet
  cases decide (c≥97)<;>cases decide (c≤122)<;>cases decide (c≥65)<;>cases decide (c≤90)<;>rfl
 exact bT (aX []) (aP .nil) VR (key c)
theorem At(x:au im):SAD Tryz.prog G 63 im cT x (LA x):=by
 obtain⟨c,⟨⟩⟩:=x
 have key:∀c:Int,body (R:=R0) E (aq []) KY [.int .u8 c] [] .ok=Rs.ok (qX (aH c)):=fun c=>by
  rw[NB]
  unfold aH
  cases decide (c≥48)<;>cases decide (c≤57)<;>rfl
 exact bT (aX []) (aP .nil) UP (key c)
def MJ:List (Nat×aV):=[(61,b8 61 im cT (fun _=>true) LX),(63,b8 63 im cT (fun _=>true) LA)]
theorem JZ(c:Int):body (R:=R0) E (aq MJ) Lz [.int .u8 c] [] .ok=bif isLet c then Rs.ok (Out.ret (AV.bool true),[])else Rs.ok (Out.ret (AV.bool (aH c)),[]):=by kernel_rfl
theorem Rw(x:au im):SAD Tryz.prog G 62 im cT x (Vo x):=by
 obtain⟨c,⟨⟩⟩:=x
 have key:∀c:Int,body (R:=R0) E (aq MJ) Lz [.int .u8 c] [] .ok=Rs.ok (qX (fk c)):=fun c=>by
  rw[JZ]
  unfold fk
  cases isLet c<;>rfl
 exact bT (aX []) (aP (.cons (aT fun x _=>zR x) (.cons (aT fun x _=>At x) .nil))) Ta (key c)
theorem BY:bm Tryz.prog G ma:=.cons (aT fun x _=>Re x) (.cons (aT fun x _=>zR x) (.cons (aT fun x _=>Rw x) (.cons (aT fun x _=>At x) .nil)))
def fA(g:Nat)(v:AV)(T:List UInt8)(a:Int)(K:List Tok):R0:=(.ret v,[.cells 86 [.str T,.int .i64 a,.own 1 g],.list 50 aE g false K])
theorem nZ(T:List UInt8)(a:Int)(K:List Tok):DY (bsR T a K):=fun ee tt gg sh l hm=>by
 simp only[bsR,List.mem_cons,List.not_mem_nil,or_false,reduceCtorEq,false_or]at hm
 cases hm
 rfl
theorem xN{f g:Nat}{args:List AV}{v:AV}{T:List UInt8}{a a':Int}{K K':List Tok}(h:SA Tryz.prog G f args (bsR T a K) (fA g v T a' K'))(hv:∀get,gV get (fun _=>1) v=some v)(hp:bE v=true):
  SA Tryz.prog G f args (bsR T a K) (.ret v,sW T a' K'):=by
 refine SA.bump (q:=fun _=>1) h (nZ T a K) (fun _ _=>Nat.le_refl _) (hv _) ?_ (by rw[hp];rfl)
 simp[gBs,gB,dv,gA,ay,aF,sW]
theorem qZ{f:Nat}{rs:Sig}{p:List UInt8→Int→Bool}{F:List UInt8→Int→au rs}{A:List UInt8→Int→Int}
  (h:∀(T:List UInt8) (a:Int) (K:List Tok),p T a=true→SA Tryz.prog G f [.ref 0 0] (bsR T a K) (.ret (cV rs (F T a)),sW T (A T a) K)):aQ Tryz.prog G f (rdC f rs p F A):=fun R args bs k r hr=>by
 unfold rdC at hr
 split at hr
 ·split at hr
  ·rename_i K' hc
   split at hr
   ·rename_i hd
    obtain⟨e,hK⟩:=gv hc
    subst e
    subst hK
    exact⟨_,hr,h _ _ _ hd⟩
   ·cases hr
  ·cases hr
 ·cases hr
theorem bS(p:Int→Bool)(c:UInt8)(r:List UInt8):aG p (c::r)=bif p c.toNat then aG p r+1 else 0:=by
 unfold aG
 rw[List.takeWhile_cons]
 cases p (c.toNat:Int)<;>rfl
theorem ek(p:Int→Bool):∀s:List UInt8,aG p s≤s.length
 |[]=>Nat.le_refl _
 |c::s=>by
  rw[bS]
  have:=ek p s
  cases p (c.toNat:Int)<;>simp<;>omega
theorem CH{f:Nat}{p:Int→Bool}(heq:∀(J:Jump R0) (T:List UInt8) (a:Int) (K:List Tok),resume E (aq ma) (aS 2 iF 0) J [false,false] iJ.code 1 (v8 T a K f) (bX E 2 iJ.results .ok)=
  bif decide (a<(T.length:Int))then bif inI a T.length then bif p ((List.getD T (Int.toNat a) 0).toNat:Int)then J 0 (v8 T (IntKind.wrap .i64 (a+1)) K f)else .ok (fA 1 (.tup []) T a K)else .err 20 else .ok (fA 1 (.tup []) T a K))
  {T:List UInt8} {K:List Tok} (hT:(T.length:Int)≤1099511627776):∀(r pre:List UInt8) (fuel:Nat),T=pre++r→r.length<fuel→pieces (R:=R0) E (aq ma) iJ iF 2 .ok fuel 0 (v8 T pre.length K f)= .ok (fA 1 (.tup []) T ((pre.length:Int)+aG p r) K)
 |r,pre,0,_,hf=>by omega
 |[],pre,fuel+1,hp,_=>by
  refine(heq (pieces (R:=R0) E (aq ma) iJ iF 2 .ok fuel) T pre.length K).trans ?_
  have h1:¬((pre.length:Int)<T.length):=by rw[hp,List.append_nil];omega
  simp only[h1,decide_false,cond_false]
  show _=Rs.ok (fA 1 (.tup []) T ((pre.length:Int)+0) K)
  rw[Int.add_zero]
 |c::r,pre,fuel+1,hp,hf=>by
  have hlen:pre.length+1+r.length=T.length:=by rw[hp];simp;omega
  have ih:=CH (K:=K) heq hT r (pre++[c]) fuel (by simp[hp]) (by simpa using hf)
  refine(heq (pieces (R:=R0) E (aq ma) iJ iF 2 .ok fuel) T pre.length K).trans ?_
  have h1:(pre.length:Int)<T.length:=by omega
  have h2:inI (pre.length:Int) T.length=true:=by rw[hp];exact ra _ _ _
  have h3:List.getD T pre.length 0=c:=by rw[hp];exact dK _ _ _
  have h4:IntKind.wrap .i64 ((pre.length:Int)+1)=(pre.length:Int)+1:=wrap64 (by omega) (by omega)
  have h5:(((pre++[c]).length:Nat):Int)=(pre.length:Int)+1:=by simp
  simp only[h1,h2,h3,h4,Int.toNat_natCast,decide_true,cond_true]
  rw[bS]
  cases p (c.toNat:Int)
  ·simp only[cond_false]
   show _=Rs.ok (fA 1 (.tup []) T ((pre.length:Int)+0) K)
   rw[Int.add_zero]
  ·simp only[cond_true]
   rw[h5]at ih
   rw[ih]
   congr 2
   omega
theorem rN{T:List UInt8}{a:Int}(h0:0≤a)(h1:a≤T.length):∃pre,T=pre++aI T a∧(pre.length:Int)=a:=by
 refine⟨T.take a.toNat,?_,?_⟩
 ·unfold aI
  rw[List.take_append_drop]
 ·rw[List.length_take];omega
theorem iX{T:List UInt8}{a:Int}:okA T a=true↔0≤a∧a≤T.length∧(T.length:Int)≤1099511627776:=by simp only[okA,Bool.and_eq_true,decide_eq_true_eq]
theorem iP{T:List UInt8}{a:Int}:jT T a=true↔0≤a∧a<T.length∧(T.length:Int)≤1099511627776:=by simp only[jT,Bool.and_eq_true,decide_eq_true_eq]
theorem F9:aQ Tryz.prog G 59 whC:=fun R args bs k r hr=>by
 unfold whC at hr
 split at hr
 ·rename_i f T a tK K
  split at hr
  ·rename_i K' hc
   split at hr
   ·rename_i hd
    obtain⟨e,hK⟩:=gv hc
    subst e
    subst hK
    simp only[Bool.and_eq_true,Bool.or_eq_true]at hd
    obtain⟨hf,ha⟩:=hd
    obtain⟨a0,a1,a2⟩:=iX.1 ha
    obtain⟨pre,hp,hl⟩:=rN a0 a1
    refine⟨_,hr,?_⟩
    have fin:∀{f:Nat} {p:Int→Bool},pOf f=p→(∀(J:Jump R0) (T:List UInt8) (a:Int) (K:List Tok),start E (aq ma) iJ iF J [.ref 0 0,.fn f []] (bsR T a K) .ok=J 0 (v8 T a K f))→(∀(J:Jump R0) (T:List UInt8) (a:Int) (K:List Tok),resume E (aq ma) (aS 2 iF 0) J [false,false] iJ.code 1 (v8 T a K f) (bX E 2 iJ.results .ok)=
      bif decide (a<(T.length:Int))then bif inI a T.length then bif p ((List.getD T (Int.toNat a) 0).toNat:Int)then J 0 (v8 T (IntKind.wrap .i64 (a+1)) K f)else .ok (fA 1 (.tup []) T a K)else .err 20 else .ok (fA 1 (.tup []) T a K))→
      SA Tryz.prog G 59 [.ref 0 0,.fn f []] (bsR T a K) (.ret (.tup []),sW T (whI (pOf f) T a) K):=fun{f p} hpf hs hl0=>by
     have h:=CH (K:=K) hl0 a2 (aI T a) pre ((aI T a).length+1) hp (by omega)
     rw[hl]at h
     have h2:=(hs (pieces (R:=R0) E (aq ma) iJ iF 2 .ok ((aI T a).length+1)) T a K).trans h
     rw[←hpf]at h2
     exact xN (bA (aX []) (aP BY) Sj (.inl (nZ T a K)) h2) (fun _=>rfl) rfl
    rcases hf with hf|hf|hf
    ·have:=beq_eq hf
     subst this
     exact fin (p:=aU) rfl IY Lq
    ·have:=beq_eq hf
     subst this
     exact fin (p:=fk) rfl Ix KH
    ·have:=beq_eq hf
     subst this
     exact fin (p:=aH) rfl EA Lj
   ·cases hr
  ·cases hr
 ·cases hr
end Go.Sx.Tryz
