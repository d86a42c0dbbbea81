/- A part of the proof: see the row's text. -/
import Derived.Test.YtaklpoiaicepoaaGreatDoorZa14
import Derived.Shelf.LaysC
import Derived.Shelf.Strconv.ParseIntPublic10
import Derived.Test.YtaklpoiaicepoaaGreatDoorZa11
import Derived.Lib.LaidPrint
import Derived.Lib.AtoiErrMem
set_option linter.unusedVariables false
set_option linter.unusedSimpArgs false
noncomputable section
namespace Go.Proofs
open Go.Shelf
def Tryz.lays137_ren : Go.Shelf.Ren := ⟨fun | 137 => 88 | 217 => 84 | 266 => 101 | n => n, fun | 9 => 9 | 5 => 5 | 3 => 3 | n => n, fun | n => n⟩
theorem Tryz.lays137 : Go.Proofs.Lays.n137 Tryz.prog Tryz.lays137_ren := {
 mixed := by kernel_rfl
 f137 := Tryz.func88.trans (congrArg some (by kernel_rfl))
 f217 := Tryz.func84.trans (congrArg some (by kernel_rfl))
 f266 := Tryz.func101.trans (congrArg some (by kernel_rfl))
 t3 := Tryz.underlying3
 a3 := Tryz.isAgg3
 z3 := Tryz.sizeOf3
 v3 := Tryz.zeroValue3
 t5 := Tryz.underlying5
 a5 := Tryz.isAgg5
 z5 := Tryz.sizeOf5
 v5 := Tryz.zeroValue5
 t9 := Tryz.underlying9
 a9 := Tryz.isAgg9
 z9 := Tryz.sizeOf9
 v9 := Tryz.zeroValue9 }
def Tryz.laysC174_ren : Go.Shelf.Ren := ⟨fun | 174 => 144 | 247 => 149 | 245 => 150 | 287 => 155 | 279 => 156 | 280 => 157 | 281 => 158 | 282 => 159 | 321 => 162 | 322 => 163 | 316 => 164 | 171 => 166 | 205 => 165 | 243 => 172 | 246 => 81 | 283 => 96 | 284 => 97 | 285 => 98 | 286 => 99 | 129 => 109 | 317 => 108 | 318 => 110 | 319 => 111 | 320 => 112 | 337 => 123 | 338 => 124 | n => n, fun | 9 => 9 | 3 => 3 | 2 => 2 | 75 => 52 | 85 => 182 | 4 => 4 | 167 => 192 | 5 => 5 | 53 => 124 | 175 => 193 | 46 => 94 | 168 => 195 | 37 => 46 | 0 => 0 | 210 => 202 | 21 => 21 | 127 => 91 | 145 => 210 | 143 => 208 | 171 => 141 | 173 => 144 | 212 => 155 | 51 => 121 | 20 => 20 | 213 => 156 | 232 => 172 | 233 => 173 | 80 => 58 | n => n, fun | 15 => 12 | 16 => 13 | 17 => 3 | 18 => 9 | 19 => 10 | n => n⟩
theorem Tryz.laysC174 : Go.Proofs.LaysC.n174 Tryz.prog Tryz.laysC174_ren := {
 mixed := by kernel_rfl
 f129 := Tryz.func109.trans (congrArg some (by kernel_rfl))
 f171 := Tryz.func166.trans (congrArg some (by kernel_rfl))
 f174 := Tryz.func144.trans (congrArg some (by kernel_rfl))
 f205 := Tryz.func165.trans (congrArg some (by kernel_rfl))
 f243 := Tryz.func172.trans (congrArg some (by kernel_rfl))
 f245 := Tryz.func150.trans (congrArg some (by kernel_rfl))
 f246 := Tryz.func81.trans (congrArg some (by kernel_rfl))
 f247 := Tryz.func149.trans (congrArg some (by kernel_rfl))
 f279 := Tryz.func156.trans (congrArg some (by kernel_rfl))
 f280 := Tryz.func157.trans (congrArg some (by kernel_rfl))
 f281 := Tryz.func158.trans (congrArg some (by kernel_rfl))
 f282 := Tryz.func159.trans (congrArg some (by kernel_rfl))
 f283 := Tryz.func96.trans (congrArg some (by kernel_rfl))
 f284 := Tryz.func97.trans (congrArg some (by kernel_rfl))
 f285 := Tryz.func98.trans (congrArg some (by kernel_rfl))
 f286 := Tryz.func99.trans (congrArg some (by kernel_rfl))
 f287 := Tryz.func155.trans (congrArg some (by kernel_rfl))
 f316 := Tryz.func164.trans (congrArg some (by kernel_rfl))
 f317 := Tryz.func108.trans (congrArg some (by kernel_rfl))
 f318 := Tryz.func110.trans (congrArg some (by kernel_rfl))
 f319 := Tryz.func111.trans (congrArg some (by kernel_rfl))
 f320 := Tryz.func112.trans (congrArg some (by kernel_rfl))
 f321 := Tryz.func162.trans (congrArg some (by kernel_rfl))
 f322 := Tryz.func163.trans (congrArg some (by kernel_rfl))
 f337 := Tryz.func123.trans (congrArg some (by kernel_rfl))
 f338 := Tryz.func124.trans (congrArg some (by kernel_rfl))
 t0 := Tryz.underlying0
 a0 := Tryz.isAgg0
 z0 := Tryz.sizeOf0
 v0 := Tryz.zeroValue0
 t2 := Tryz.underlying2
 a2 := Tryz.isAgg2
 z2 := Tryz.sizeOf2
 v2 := Tryz.zeroValue2
 t3 := Tryz.underlying3
 a3 := Tryz.isAgg3
 z3 := Tryz.sizeOf3
 v3 := Tryz.zeroValue3
 t4 := Tryz.underlying4
 a4 := Tryz.isAgg4
 z4 := Tryz.sizeOf4
 v4 := Tryz.zeroValue4
 t5 := Tryz.underlying5
 a5 := Tryz.isAgg5
 z5 := Tryz.sizeOf5
 v5 := Tryz.zeroValue5
 t9 := Tryz.underlying9
 a9 := Tryz.isAgg9
 z9 := Tryz.sizeOf9
 v9 := Tryz.zeroValue9
 t20 := Tryz.underlying20
 a20 := Tryz.isAgg20
 z20 := Tryz.sizeOf20
 v20 := Tryz.zeroValue20
 t21 := Tryz.underlying21
 a21 := Tryz.isAgg21
 z21 := Tryz.sizeOf21
 v21 := Tryz.zeroValue21
 t37 := Tryz.underlying46
 a37 := Tryz.isAgg46
 z37 := Tryz.sizeOf46
 v37 := Tryz.zeroValue46
 t46 := Tryz.underlying94
 a46 := Tryz.isAgg94
 z46 := Tryz.sizeOf94
 v46 := Tryz.zeroValue94
 t51 := Tryz.underlying121
 a51 := Tryz.isAgg121
 z51 := Tryz.sizeOf121
 v51 := Tryz.zeroValue121
 t53 := Tryz.underlying124
 a53 := Tryz.isAgg124
 z53 := Tryz.sizeOf124
 v53 := Tryz.zeroValue124
 t75 := Tryz.underlying52
 a75 := Tryz.isAgg52
 z75 := Tryz.sizeOf52
 v75 := Tryz.zeroValue52
 t85 := Tryz.underlying182
 a85 := Tryz.isAgg182
 z85 := Tryz.sizeOf182
 v85 := Tryz.zeroValue182
 t127 := Tryz.underlying91
 a127 := Tryz.isAgg91
 z127 := Tryz.sizeOf91
 v127 := Tryz.zeroValue91
 t143 := Tryz.underlying208
 a143 := Tryz.isAgg208
 z143 := Tryz.sizeOf208
 v143 := Tryz.zeroValue208
 t145 := Tryz.underlying210
 a145 := Tryz.isAgg210
 z145 := Tryz.sizeOf210
 v145 := Tryz.zeroValue210
 t167 := Tryz.underlying192
 a167 := Tryz.isAgg192
 z167 := Tryz.sizeOf192
 v167 := Tryz.zeroValue192
 t168 := Tryz.underlying195
 a168 := Tryz.isAgg195
 z168 := Tryz.sizeOf195
 v168 := Tryz.zeroValue195
 t171 := Tryz.underlying141
 a171 := Tryz.isAgg141
 z171 := Tryz.sizeOf141
 v171 := Tryz.zeroValue141
 t173 := Tryz.underlying144
 a173 := Tryz.isAgg144
 z173 := Tryz.sizeOf144
 v173 := Tryz.zeroValue144
 t175 := Tryz.underlying193
 a175 := Tryz.isAgg193
 z175 := Tryz.sizeOf193
 v175 := Tryz.zeroValue193
 t210 := Tryz.underlying202
 a210 := Tryz.isAgg202
 z210 := Tryz.sizeOf202
 v210 := Tryz.zeroValue202
 t212 := Tryz.underlying155
 a212 := Tryz.isAgg155
 z212 := Tryz.sizeOf155
 v212 := Tryz.zeroValue155
 t213 := Tryz.underlying156
 a213 := Tryz.isAgg156
 z213 := Tryz.sizeOf156
 t232 := Tryz.underlying172
 a232 := Tryz.isAgg172
 z232 := Tryz.sizeOf172
 v232 := Tryz.zeroValue172
 t233 := Tryz.underlying173
 a233 := Tryz.isAgg173
 z233 := Tryz.sizeOf173
 v233 := Tryz.zeroValue173
 g15 := by kernel_rfl
 g16 := by kernel_rfl
 g17 := by kernel_rfl
 g18 := by kernel_rfl
 g19 := by kernel_rfl
 t80 := Tryz.underlying58
 a80 := Tryz.isAgg58
 z80 := Tryz.sizeOf58
 v80 := Tryz.zeroValue58
 i0 := by kernel_rfl
 i2 := by kernel_rfl
 i3 := by kernel_rfl
 i4 := by kernel_rfl
 i5 := by kernel_rfl
 i9 := by kernel_rfl
 i20 := by kernel_rfl
 i21 := by kernel_rfl
 i37 := by kernel_rfl
 i46 := by kernel_rfl
 i51 := by kernel_rfl
 i53 := by kernel_rfl
 i75 := by kernel_rfl
 i80 := by kernel_rfl
 i85 := by kernel_rfl
 i127 := by kernel_rfl
 i143 := by kernel_rfl
 i145 := by kernel_rfl
 i167 := by kernel_rfl
 i168 := by kernel_rfl
 i171 := by kernel_rfl
 i173 := by kernel_rfl
 i175 := by kernel_rfl
 i210 := by kernel_rfl
 i212 := by kernel_rfl
 i232 := by kernel_rfl
 i233 := by kernel_rfl
 m15 := by kernel_rfl
 m16 := by kernel_rfl
 m17 := by kernel_rfl
 m18 := by kernel_rfl
 m19 := by kernel_rfl
 c0 := by kernel_rfl
 c2 := by kernel_rfl
 c3 := by kernel_rfl
 c4 := by kernel_rfl
 c5 := by kernel_rfl
 c9 := by kernel_rfl
 c20 := by kernel_rfl
 c21 := by kernel_rfl
 c37 := by kernel_rfl
 c46 := by kernel_rfl
 c51 := by kernel_rfl
 c53 := by kernel_rfl
 c75 := by kernel_rfl
 c80 := by kernel_rfl
 c85 := by kernel_rfl
 c127 := by kernel_rfl
 c143 := by kernel_rfl
 c145 := by kernel_rfl
 c167 := by kernel_rfl
 c168 := by kernel_rfl
 c171 := by kernel_rfl
 c173 := by kernel_rfl
 c175 := by kernel_rfl
 c210 := by kernel_rfl
 c212 := by kernel_rfl
 c213 := by kernel_rfl
 c232 := by kernel_rfl
 c233 := by kernel_rfl }
def Tryz.lays144_ren : Go.Shelf.Ren := ⟨fun | 144 => 14 | 143 => 35 | 219 => 58 | 217 => 84 | 225 => 85 | 224 => 86 | 267 => 87 | 266 => 101 | 314 => 102 | n => n, fun | 9 => 9 | 4 => 4 | 3 => 3 | 5 => 5 | 46 => 94 | 146 => 122 | 51 => 121 | n => n, fun | 1 => 0 | n => n⟩
theorem Tryz.lays144 : Go.Proofs.Lays.n144 Tryz.prog Tryz.lays144_ren := {
 mixed := by kernel_rfl
 f143 := Tryz.func35.trans (congrArg some (by kernel_rfl))
 f144 := Tryz.func14.trans (congrArg some (by kernel_rfl))
 f217 := Tryz.func84.trans (congrArg some (by kernel_rfl))
 f219 := Tryz.func58.trans (congrArg some (by kernel_rfl))
 f224 := Tryz.func86.trans (congrArg some (by kernel_rfl))
 f225 := Tryz.func85.trans (congrArg some (by kernel_rfl))
 f266 := Tryz.func101.trans (congrArg some (by kernel_rfl))
 f267 := Tryz.func87.trans (congrArg some (by kernel_rfl))
 f314 := Tryz.func102.trans (congrArg some (by kernel_rfl))
 t3 := Tryz.underlying3
 a3 := Tryz.isAgg3
 z3 := Tryz.sizeOf3
 v3 := Tryz.zeroValue3
 t4 := Tryz.underlying4
 a4 := Tryz.isAgg4
 z4 := Tryz.sizeOf4
 v4 := Tryz.zeroValue4
 t5 := Tryz.underlying5
 a5 := Tryz.isAgg5
 z5 := Tryz.sizeOf5
 v5 := Tryz.zeroValue5
 t9 := Tryz.underlying9
 a9 := Tryz.isAgg9
 z9 := Tryz.sizeOf9
 v9 := Tryz.zeroValue9
 t46 := Tryz.underlying94
 a46 := Tryz.isAgg94
 z46 := Tryz.sizeOf94
 v46 := Tryz.zeroValue94
 t51 := Tryz.underlying121
 a51 := Tryz.isAgg121
 z51 := Tryz.sizeOf121
 v51 := Tryz.zeroValue121
 t146 := Tryz.underlying122
 a146 := Tryz.isAgg122
 z146 := Tryz.sizeOf122
 v146 := Tryz.zeroValue122
 g1 := by kernel_rfl }
def Tryz.lays99_ren : Go.Shelf.Ren := ⟨fun | 99 => 12 | 206 => 30 | n => n, fun | 9 => 9 | 4 => 4 | 3 => 3 | n => n, fun | n => n⟩
theorem Tryz.lays99 : Go.Proofs.Lays.n99 Tryz.prog Tryz.lays99_ren := {
 mixed := by kernel_rfl
 f99 := Tryz.func12.trans (congrArg some (by kernel_rfl))
 f206 := Tryz.func30.trans (congrArg some (by kernel_rfl))
 t3 := Tryz.underlying3
 a3 := Tryz.isAgg3
 z3 := Tryz.sizeOf3
 v3 := Tryz.zeroValue3
 t4 := Tryz.underlying4
 a4 := Tryz.isAgg4
 z4 := Tryz.sizeOf4
 v4 := Tryz.zeroValue4
 t9 := Tryz.underlying9
 a9 := Tryz.isAgg9
 z9 := Tryz.sizeOf9
 v9 := Tryz.zeroValue9 }
end Go.Proofs
namespace Go.Sx.Tryz
open Go Go.Sx Go.Proofs
set_option maxRecDepth 100000
variable {G : Nat → Obj → Prop}
structure TabsAt (w : World) : Prop where
 mx : ∃ m, w.cell? ⟨0, 0, none⟩ = some (.int .i64 m)
 er : ∃ ev, w.cell? ⟨13, 0, none⟩ = some ev ∧ (ev = .nilIface ∨ ∃ te pe, ev = .iface te pe)
def Tabs (G : Nat → Obj → Prop) : Prop := ∀ D : Ctx, D.gl = G → SRel D → TabsAt D.w
theorem fc12 : FIOK Tryz.prog 12 fi12 := ⟨⟨Tryz.f12, Tryz.func12, rfl, rfl, rfl, by kernel_rfl⟩, by kernel_rfl⟩
theorem fc14 : FIOK Tryz.prog 14 fi14 := ⟨⟨Tryz.f14, Tryz.func14, rfl, rfl, rfl, by kernel_rfl⟩, by kernel_rfl⟩
theorem fc88 : FIOK Tryz.prog 88 fi88 := ⟨⟨Tryz.f88, Tryz.func88, rfl, rfl, rfl, by kernel_rfl⟩, by kernel_rfl⟩
theorem hp_SA (x : Dens sigSS) : SAD Tryz.prog G 12 sigSS sigB x (hpX x) := by
 obtain ⟨s, p, ⟨⟩⟩ := x
 exact sa_det fc12 (us := [.string ⟨⟨s⟩⟩, .string ⟨⟨p⟩⟩]) rfl (fun _ => rfl) rfl fun D hG hs => Calls.mono (Any.strings_HasPrefix Tryz.lays99 ⟨⟨s⟩⟩ ⟨⟨p⟩⟩ D.w) fun e w' h => ⟨h.1, below_eq h.2 rfl⟩
theorem con_SA (ht : Tabs G) (x : Dens sigSS) (hx : conP x = true) : SAD Tryz.prog G 14 sigSS sigB x (conX x) := by
 obtain ⟨s, p, ⟨⟩⟩ := x
 refine sa_det fc14 (us := [.string ⟨⟨s⟩⟩, .string ⟨⟨p⟩⟩]) rfl (fun _ => rfl) rfl fun D hG hs => ?_
 obtain ⟨m, hm⟩ := (ht D hG hs).mx
 refine Calls.mono (Any.strings_Contains Tryz.lays144 ⟨⟨s⟩⟩ ⟨⟨p⟩⟩ m D.w ?_ hm) fun e w' h => ⟨h.1, below_eq h.2 rfl⟩
 have h1 : s.length ≤ 4000000000 := Nat.le_of_ble_eq_true hx
 show List.length s < _
 omega
theorem ib_SA (x : Dens sigSC) : SAD Tryz.prog G 88 sigSC sigI x (ibX x) := by
 obtain ⟨s, c, ⟨⟩⟩ := x
 exact sa_det fc88 (us := [.string ⟨⟨s⟩⟩, .int .u8 c]) rfl (fun _ => rfl) rfl fun D hG hs => Calls.mono (Any.strings_IndexByte Tryz.lays137 ⟨⟨s⟩⟩ c D.w) fun e w' h => ⟨h.1, below_eq h.2 rfl⟩
theorem libS_ok (ht : Tabs G) : IChk Tryz.prog G libS := .cons (specI_ok fun x _ => hp_SA x) (.cons (specI_ok fun x h => con_SA ht x h) (.cons (specI_ok fun x _ => ib_SA x) .nil))
end Go.Sx.Tryz
namespace Go.Sx.Tryz
open Go Go.Sx Go.Proofs
set_option maxRecDepth 100000
def keptL : List UInt8 := List.append
          (List.append
           [32, 99, 108, 97, 115, 115, 32, 101, 120, 116, 101, 110, 100, 115, 32, 105, 110, 105, 116, 32, 105, 110, 116, 32, 98, 111, 111, 108, 32, 100, 111, 117, 98,
            108, 101, 32, 115, 116, 114, 32, 118, 111, 105, 100]
           [32, 79, 112, 116, 105, 111, 110, 32, 105, 102, 32, 101, 108, 115, 101, 32, 119, 104, 105, 108, 101, 32, 98, 114, 101, 97, 107, 32, 99, 111, 110, 116, 105,
            110, 117, 101, 32, 114, 101, 116, 117, 114, 110, 32, 112])
          (List.append
           [114, 105, 110, 116, 32, 115, 117, 112, 101, 114, 32, 116, 104, 105, 115, 32, 110, 117, 108, 108, 32, 110, 111, 110, 101, 32, 115, 111, 109, 101, 32, 105,
            115, 32, 116, 114, 117, 101, 32, 102, 97, 108, 115, 101, 32]
           [110, 101, 119, 32, 99, 97, 115, 116, 32, 116, 111, 105, 110, 116, 32, 116, 111, 100, 111, 117, 98, 108, 101, 32, 105, 110, 112, 117, 116, 32, 97, 115, 107,
            32, 108, 101, 110, 103, 116, 104, 32, 118, 97, 108, 32])
def keptS (s : List UInt8) : Bool := (!s == []) && (decide (ibS s 32 < 0) && Lib.contains keptL ([32] ++ s ++ [32]))
def okS (s : List UInt8) : Bool := decide ((s.length : Int) ≤ 1099511627776)
def keptX (x : Dens sigS) : Dens sigB := (keptS x.1, ())
def digsS (s : List UInt8) : Bool := (s.all fun c => isDig c.toNat) && !s == []
def digsX (x : Dens sigS) : Dens sigB := (digsS x.1, ())
def nameC (first : Bool) (c : UInt8) : Bool := isLet c.toNat || (!first && isDig c.toNat)
def nameS (s : List UInt8) : Bool := (match s with | [] => true | c :: r => nameC true c && r.all (nameC false)) && ((!s == []) && (decide ((s.length : Int) ≤ 64) && !keptS s))
def nameX (x : Dens sigS) : Dens sigB := (nameS x.1, ())
def preS (x : Dens sigS) : Bool := okS x.1
def lib91 : List (Nat × Intr) := [(61, specI 61 sigC sigB (fun _ => true) letX), (63, specI 63 sigC sigB (fun _ => true) digX), (103, specI 103 sigS sigB preS keptX)]
def cut52 : List Cut := [⟨[true, false, true, false, false], some ⟨[(0, []), (5, []), (6, [])], []⟩⟩]
def mk52 (s : List UInt8) (l k : Int) : St := { tmps := [(0, .str s), (5, .int .i64 l), (6, .int .i64 k)], blks := [], next := 0 }
end Go.Sx.Tryz
namespace Go.Sx.Tryz
open Go Go.Sx
set_option maxRecDepth 100000
theorem start143 (J : Jump R0) (s : List UInt8) : start E (tabI []) fi143 cut52 J [.str s] [] .ok = J 0 { tmps := [(0, AV.str s), (5, Iz (↑(List.length s) : Int)), (6, Iz 0)], blks := [], next := 0 } := by kernel_rfl
theorem loop143 (J : Jump R0) (s : List UInt8) (l k : Int) : resume E (tabI []) (cutsOf 0 cut52 0) J [true, false, true, false, false] fi143.code 1 (mk52 s l k) (finK E 0 fi143.results .ok) = bif decide (k < l) then bif inI k (List.length s) then bif decide ((↑(UInt8.toNat (List.getD s (Int.toNat k) 0)) : Int) < 48) then Rs.ok (Out.ret (AV.bool false), []) else bif inI k (List.length s) then bif decide ((↑(UInt8.toNat (List.getD s (Int.toNat k) 0)) : Int) > 57) then Rs.ok (Out.ret (AV.bool false), []) else J 0 { tmps := [(0, AV.str s), (5, Iz l), (6, Iz (IntKind.wrap IntKind.i64 (k + 1)))], blks := [], next := 0 } else Rs.err 407 else Rs.err 402 else Rs.ok (Out.ret (AV.bool !s == []), []) := by kernel_rfl
theorem start91 (J : Jump R0) (s : List UInt8) : start E (tabI lib91) fi91 cut52 J [.str s] [] .ok = J 0 { tmps := [(0, AV.str s), (5, Iz (↑(List.length s) : Int)), (6, Iz 0)], blks := [], next := 0 } := by kernel_rfl
theorem loop91 (J : Jump R0) (s : List UInt8) (l k : Int) : resume E (tabI lib91) (cutsOf 0 cut52 0) J [true, false, true, false, false] fi91.code 1 (mk52 s l k) (finK E 0 fi91.results .ok) = bif decide (k < l) then bif inI k (List.length s) then bif !isLet (↑(UInt8.toNat (List.getD s (Int.toNat k) 0)) : Int) then bif k == 0 then Rs.ok (Out.ret (AV.bool false), []) else bif inI k (List.length s) then bif !isDig (↑(UInt8.toNat (List.getD s (Int.toNat k) 0)) : Int) then Rs.ok (Out.ret (AV.bool false), []) else J 0 { tmps := [(0, AV.str s), (5, Iz l), (6, Iz (IntKind.wrap IntKind.i64 (k + 1)))], blks := [], next := 0 } else Rs.err 411 else J 0 { tmps := [(0, AV.str s), (5, Iz l), (6, Iz (IntKind.wrap IntKind.i64 (k + 1)))], blks := [], next := 0 } else Rs.err 402 else bif !s == [] then bif decide ((↑(List.length s) : Int) ≤ 64) then bif preS (s, ()) then Rs.ok (Out.ret (AV.bool !keptS s), []) else Rs.err 3000103 else Rs.ok (Out.ret (AV.bool false), []) else Rs.ok (Out.ret (AV.bool false), []) := by kernel_rfl
end Go.Sx.Tryz
namespace Go.Sx.Tryz
open Go Go.Sx Go.Proofs
set_option maxRecDepth 100000
variable {G : Nat → Obj → Prop}
theorem okS_iff {s : List UInt8} : okS s = true ↔ (s.length : Int) ≤ 1099511627776 := by simp only [okS, decide_eq_true_eq]
theorem kept_SA (ht : Tabs G) (x : Dens sigS) (hx : preS x = true) : SAD Tryz.prog G 103 sigS sigB x (keptX x) := by
 obtain ⟨s, ⟨⟩⟩ := x
 have h1 : (List.length s : Int) ≤ 1099511627776 := okS_iff.1 hx
 have key : ∀ s : List UInt8, (s.length : Int) ≤ 1099511627776 → body (R := R0) E (tabI libS) fi103 [.str s] [] .ok = Rs.ok (outB (keptS s)) := fun s h1 => by
  rw [body103]
  unfold keptS
  cases (!s == [])
  ·rfl
  ·cases decide (ibS s 32 < 0)
   ·rfl
   ·simp only [cond_true, Bool.true_and]
    refine (bif_lt ?_).trans ((bif_lt ?_).trans rfl)
    ·show 1 + s.length < _
     omega
    ·show ([32] ++ s).length + 1 < _
     rw [List.length_append]
     show 1 + s.length + 1 < _
     omega
 exact body_ok (envOK []) (tabI_ok (libS_ok ht)) fc103 (key s h1)
theorem isDig_iff (c : Int) : isDig c = (!decide (c < 48) && !decide (c > 57)) := by
 unfold isDig
 congr 1
 ·rw [Bool.eq_iff_iff]; simp
 ·rw [Bool.eq_iff_iff]; simp
theorem digs_loop {s : List UInt8} (hs : (s.length : Int) ≤ 1099511627776) : ∀ (r pre : List UInt8) (fuel : Nat), s = pre ++ r → r.length < fuel → pieces (R := R0) E (tabI []) fi143 cut52 0 .ok fuel 0 (mk52 s s.length pre.length) = .ok (outB ((r.all fun c => isDig c.toNat) && !s == []))
 | r, pre, 0, _, hf => by omega
 | [], pre, fuel + 1, hp, _ => by
  refine (loop143 (pieces (R := R0) E (tabI []) fi143 cut52 0 .ok fuel) s s.length pre.length).trans ?_
  have h1 : ¬ ((pre.length : Int) < s.length) := by rw [hp, List.append_nil]; omega
  simp only [h1, decide_false, cond_false]
  rfl
 | c :: r, pre, fuel + 1, hp, hf => by
  have hlen : pre.length + 1 + r.length = s.length := by rw [hp]; simp; omega
  have ih := digs_loop hs r (pre ++ [c]) fuel (by simp [hp]) (by simpa using hf)
  refine (loop143 (pieces (R := R0) E (tabI []) fi143 cut52 0 .ok fuel) s s.length pre.length).trans ?_
  have h1 : (pre.length : Int) < s.length := by omega
  have h2 : inI (pre.length : Int) s.length = true := inI_of (by omega) (by omega)
  have h3 : List.getD s pre.length 0 = c := by rw [hp]; exact getD_app _ _ _
  have h4 : IntKind.wrap .i64 ((pre.length : Int) + 1) = (pre.length : Int) + 1 := wrap64 (by omega) (by omega)
  have h5 : (((pre ++ [c]).length : Nat) : Int) = (pre.length : Int) + 1 := by simp
  simp only [h1, h2, h3, h4, Int.toNat_natCast, decide_true, cond_true, List.all_cons, isDig_iff (c.toNat : Int)]
  cases decide ((c.toNat : Int) < 48)
  ·cases decide ((c.toNat : Int) > 57)
   ·rw [h5] at ih
    exact ih
   ·rfl
  ·rfl
theorem digs_SA (x : Dens sigS) (hx : preS x = true) : SAD Tryz.prog G 143 sigS sigB x (digsX x) := by
 obtain ⟨s, ⟨⟩⟩ := x
 have hs : (List.length s : Int) ≤ 1099511627776 := okS_iff.1 hx
 have h := digs_loop hs s [] (s.length + 1) rfl (Nat.lt_succ_self _)
 exact start_ok (envOK []) (tabI_ok .nil) fc143 (.inl gen0_nil) ((start143 (pieces (R := R0) E (tabI []) fi143 cut52 0 .ok (s.length + 1)) s).trans h)
def nameT (s : List UInt8) : Bool := (!s == []) && (decide ((s.length : Int) ≤ 64) && !keptS s)
theorem name_loop {s : List UInt8} (hs : (s.length : Int) ≤ 1099511627776) : ∀ (r pre : List UInt8) (fuel : Nat), s = pre ++ r → r.length < fuel → pieces (R := R0) E (tabI lib91) fi91 cut52 0 .ok fuel 0 (mk52 s s.length pre.length) = .ok (outB ((match r with | [] => true | c :: r => nameC (pre.length == 0) c && r.all (nameC false)) && nameT s))
 | r, pre, 0, _, hf => by omega
 | [], pre, fuel + 1, hp, _ => by
  refine (loop91 (pieces (R := R0) E (tabI lib91) fi91 cut52 0 .ok fuel) s s.length pre.length).trans ?_
  have h1 : ¬ ((pre.length : Int) < s.length) := by rw [hp, List.append_nil]; omega
  have h2 : preS (s, ()) = true := okS_iff.2 hs
  simp only [h1, decide_false, cond_false, h2, cond_true]
  unfold nameT
  cases (!s == [])
  ·rfl
  ·cases decide ((s.length : Int) ≤ 64) <;> rfl
 | c :: r, pre, fuel + 1, hp, hf => by
  have hlen : pre.length + 1 + r.length = s.length := by rw [hp]; simp; omega
  have ih := name_loop hs r (pre ++ [c]) fuel (by simp [hp]) (by simpa using hf)
  refine (loop91 (pieces (R := R0) E (tabI lib91) fi91 cut52 0 .ok fuel) s s.length pre.length).trans ?_
  have h1 : (pre.length : Int) < s.length := by omega
  have h2 : inI (pre.length : Int) s.length = true := inI_of (by omega) (by omega)
  have h3 : List.getD s pre.length 0 = c := by rw [hp]; exact getD_app _ _ _
  have h4 : IntKind.wrap .i64 ((pre.length : Int) + 1) = (pre.length : Int) + 1 := wrap64 (by omega) (by omega)
  have h5 : (((pre ++ [c]).length : Nat) : Int) = (pre.length : Int) + 1 := by simp
  have h6 : ((pre ++ [c]).length == 0) = false := by simp
  have h7 : ((pre.length : Int) == 0) = (pre.length == 0) := by
   rw [Bool.eq_iff_iff]
   simp only [beq_iff_eq]
   omega
  have h8 : (match r with | [] => true | c :: r => nameC ((pre ++ [c]).length == 0) c && r.all (nameC false)) = r.all (nameC false) := by
   cases r with
   | nil => rfl
   | cons d r => simp
  have ih2 : pieces (R := R0) E (tabI lib91) fi91 cut52 0 .ok fuel 0 (mk52 s s.length ((pre.length : Int) + 1)) = .ok (outB (r.all (nameC false) && nameT s)) := by
   rw [h5] at ih
   refine ih.trans ?_
   cases r with
   | nil => rfl
   | cons d r => rw [h6]; rfl
  simp only [h1, h2, h3, h4, h7, Int.toNat_natCast, decide_true, cond_true]
  show _ = Rs.ok (outB ((isLet c.toNat || (!(pre.length == 0) && isDig c.toNat)) && r.all (nameC false) && nameT s))
  cases isLet (c.toNat : Int)
  ·cases pre.length == 0
   ·cases isDig (c.toNat : Int)
    ·rfl
    ·exact ih2
   ·rfl
  ·exact ih2
theorem lib91_ok (ht : Tabs G) : IChk Tryz.prog G lib91 := .cons (specI_ok fun x _ => let_SA x) (.cons (specI_ok fun x _ => dig_SA x) (.cons (specI_ok fun x h => kept_SA ht x h) .nil))
theorem name_SA (ht : Tabs G) (x : Dens sigS) (hx : preS x = true) : SAD Tryz.prog G 91 sigS sigB x (nameX x) := by
 obtain ⟨s, ⟨⟩⟩ := x
 have hs : (List.length s : Int) ≤ 1099511627776 := okS_iff.1 hx
 have h := name_loop hs s [] (s.length + 1) rfl (Nat.lt_succ_self _)
 have e : ∀ s : List UInt8, ((match s with | [] => true | c :: r => nameC (([] : List UInt8).length == 0) c && r.all (nameC false)) && nameT s) = nameS s := fun s => by
  cases s <;> rfl
 have h9 := h.trans (congrArg (fun b => Rs.ok (outB b)) (e s))
 exact start_ok (envOK []) (tabI_ok (lib91_ok ht)) fc91 (.inl gen0_nil) ((start91 (pieces (R := R0) E (tabI lib91) fi91 cut52 0 .ok (s.length + 1)) s).trans h9)
end Go.Sx.Tryz
namespace Go.Proofs
open Go.Shelf
def Tryz.lays169_ren : Go.Shelf.Ren := ⟨fun | 169 => 19 | n => n, fun | 70 => 45 | 9 => 9 | 0 => 0 | 72 => 48 | 37 => 46 | 127 => 91 | 3 => 3 | 5 => 5 | n => n, fun | n => n⟩
theorem Tryz.lays169 : Go.Proofs.Lays.n169 Tryz.prog Tryz.lays169_ren := {
 mixed := by kernel_rfl
 f169 := Tryz.func19.trans (congrArg some (by kernel_rfl))
 t0 := Tryz.underlying0
 a0 := Tryz.isAgg0
 z0 := Tryz.sizeOf0
 v0 := Tryz.zeroValue0
 t3 := Tryz.underlying3
 a3 := Tryz.isAgg3
 z3 := Tryz.sizeOf3
 v3 := Tryz.zeroValue3
 t9 := Tryz.underlying9
 a9 := Tryz.isAgg9
 z9 := Tryz.sizeOf9
 v9 := Tryz.zeroValue9
 t37 := Tryz.underlying46
 a37 := Tryz.isAgg46
 z37 := Tryz.sizeOf46
 v37 := Tryz.zeroValue46
 t70 := Tryz.underlying45
 a70 := Tryz.isAgg45
 z70 := Tryz.sizeOf45
 v70 := Tryz.zeroValue45
 t72 := Tryz.underlying48
 a72 := Tryz.isAgg48
 z72 := Tryz.sizeOf48
 v72 := Tryz.zeroValue48
 t127 := Tryz.underlying91
 a127 := Tryz.isAgg91
 z127 := Tryz.sizeOf91
 v127 := Tryz.zeroValue91 }
theorem Tryz.Builder_Extra_169 : Builder.Extra Tryz.prog Tryz.lays169_ren := {
 sizeBuilder := by kernel_rfl
 liesBuilder := by kernel_rfl
 t5 := Tryz.underlying5
 a5 := Tryz.isAgg5
 z5 := Tryz.sizeOf5
 v5 := Tryz.zeroValue5
 infoByte := by kernel_rfl
 cellsByte := by kernel_rfl
 sizeByte := by kernel_rfl
 neB5 := by decide }
open Go.RowKit
set_option maxHeartbeats 1000000 in
set_option maxRecDepth 100000 in
theorem Tryz.cc_used (b : Nat) (w : World) (h0 : w.cell? ⟨b, 0, none⟩ = some (.pointer (some ⟨b, 0, none⟩))) :
  Calls Tryz.prog 38 #[.pointer (some ⟨b, 0, none⟩)] w fun e w' => e = .returned (.tuple #[]) ∧ w' = w := by
 obtain ⟨j, hj, _⟩ := Option.map_eq_some_iff.1 Tryz.Builder_Extra_169.sizeBuilder
 go_enter Tryz.func38, Tryz.ntmps38
 go_wp2
 rw [Lib.run_neq_ptr_same w _ Tryz.underlying45 hj]
 go_wp2
 go_end0
 exact ⟨rfl, rfl⟩
set_option maxHeartbeats 1000000 in
set_option maxRecDepth 100000 in
theorem Tryz.cc_fresh (b : Nat) (w : World) (h0 : w.cell? ⟨b, 0, none⟩ = some (.pointer none)) (hsh : w.shape? b = some (48, 2)) (hfz : w.frozen? ⟨b, 0, none⟩ = false) :
  Calls Tryz.prog 38 #[.pointer (some ⟨b, 0, none⟩)] w fun e w' => e = .returned (.tuple #[]) ∧ w' = w.setCell ⟨b, 0, none⟩ (.pointer (some ⟨b, 0, none⟩)) := by
 obtain ⟨j, hj, hjs⟩ := Option.map_eq_some_iff.1 Tryz.Builder_Extra_169.sizeBuilder
 go_enter Tryz.func38, Tryz.ntmps38
 go_wp2
 rw [Lib.run_to_unsafe w ⟨b, 0, none⟩ Tryz.underlying45 Tryz.underlying118 hj (by rw [hjs]; decide) hsh (Nat.zero_lt_succ 1)]
 simp only [Result.andThen]
 rw [Oper.upon_value]
 go_wp2
 rw [run_callFunc_extern Tryz.func66 (by kernel_rfl) (by kernel_rfl) (by kernel_rfl) (e := Extern.AbiNoEscape.same) (by kernel_rfl)]
 rw [Lib.run_noEscape]
 simp only [Result.andThen]
 rw [Oper.upon_value]
 go_wp2
 rw [Lib.run_from_unsafe w ⟨b, 0, none⟩ Tryz.underlying118 Tryz.underlying45 hj hsh Tryz.Builder_Extra_169.liesBuilder]
 simp only [Result.andThen]
 rw [Oper.upon_value]
 go_wp2
 go_end0
 exact ⟨rfl, rfl⟩
end Go.Proofs
namespace Go.Sx.Tryz
open Go Go.Sx Go.Proofs
set_option maxRecDepth 100000
variable {G : Nat → Obj → Prop}
def bsB (s : List Int) : List Blk := [.cells 48 [.bself 0, .own 1 0], .list 5 (.int .u8) 0 false s]
theorem fc38 : FIOK Tryz.prog 38 fi38 := ⟨⟨Tryz.f38, Tryz.func38, rfl, rfl, rfl, by kernel_rfl⟩, by kernel_rfl⟩
theorem fc19 : FIOK Tryz.prog 19 fi19 := ⟨⟨Tryz.f19, Tryz.func19, rfl, rfl, rfl, by kernel_rfl⟩, by kernel_rfl⟩
theorem cc_ok : IntrOne Tryz.prog G 38 (ofT 38 (copyCheckT 48)) := by
 refine ofT_ok ?_ (copyCheckT_D 48)
 exact copyCheckD_ok fc38 (fun b w h0 hsh hfz => Tryz.cc_fresh b w h0 hsh hfz) (fun b w h0 => Tryz.cc_used b w h0)
theorem str_ok : IntrOne Tryz.prog G 19 (ofT 19 (stringT 48 5)) := by
 refine ofT_ok ?_ (stringT_D 48 5)
 exact stringD_ok fc19 (fun b g o cap p l w h0 hcap h63 cur fz hbk hg hsz hcell => string_full Tryz.lays169 Tryz.Builder_Extra_169 b g o cap p l w h0 hcap h63 cur fz hbk hg hsz hcell)
   (fun b p w h => string_none Tryz.lays169 Tryz.Builder_Extra_169 b p w h) (fun b g o p cur w h fz hg => string_noroom Tryz.lays169 Tryz.Builder_Extra_169 b g o p cur w h fz hg)
   (fun b g o cap p w hc h => string_room Tryz.lays169 Tryz.Builder_Extra_169 b g o cap p w hc h)
def libW : List (Nat × Intr) := [(38, ofT 38 (copyCheckT 48))]
def app (s t : List Int) : List Int := s ++ t
theorem wb_body (s : List Int) (c : Int) (h : s.length + 1 < maxRoom) : body (R := R0) E (tabI libW) fi17 [.ref 0 0, .int .u8 c] (bsB s) .ok =
  .ok (.ret .nili, [.cells 48 [.bself 0, .own 1 1], .list 5 (.int .u8) 1 false (s ++ [c])]) := by
 have h1 : body (R := R0) E (tabI libW) fi17 [.ref 0 0, .int .u8 c] (bsB s) .ok = (bif decide (s.length + 1 < maxRoom) then .ok (.ret .nili, [.cells 48 [.bself 0, .own 1 1], .list 5 (.int .u8) 1 false (s ++ [c])]) else .err 207) := by kernel_rfl
 rw [h1]
 simp only [h, decide_true, cond_true]
def wbC : Intr := fun R args bs k => match args, bs with
 | [.ref 0 0, .int .u8 c], [.cells 48 [.bself 0, .own 1 0], .list 5 (.int .u8) 0 false s] => (match decide (List.length s + 1 < maxRoom) with
  | true => k (.ret .nili, [.cells 48 [.bself 0, .own 1 1], .list 5 (.int .u8) 1 false (app s [c])])
  | false => .err 17)
 | _, _ => .err 17
theorem wbC_ok : IntrOne Tryz.prog G 17 wbC := fun R args bs k r hr => by
 unfold wbC at hr
 split at hr
 ·split at hr
  ·rename_i hd
   exact ⟨_, hr, body_ok (envOK []) (tabI_ok (.cons cc_ok .nil)) fc17 (wb_body _ _ (of_decide_eq_true hd))⟩
  ·cases hr
 ·cases hr
end Go.Sx.Tryz
namespace Go.Sx.Tryz
open Go Go.Sx Go.Proofs
set_option maxRecDepth 100000
def lib141 : List (Nat × Intr) := [(64, shiftP 64 quoC), (17, shiftI 17 wbC), (19, ofT 19 (stringT 48 5))]
def cut141 : List Cut := [⟨[true, true, true, false, false], some ⟨[(0, []), (4, [])], [[.keep, .keep, .own 50 tokTy]]⟩⟩, ⟨[true, true, true, true, true, true, false, true, false, false], some ⟨[(0, []), (6, []), (7, [])], [[.bself, .own 5 (.int .u8)]]⟩⟩]
def mk141a (s : List UInt8) : St := { tmps := [(0, .str s), (4, .ref 0 0)], blks := [(0, .cells 86 [.str s, .int .i64 0, .own 1 0]), (1, .list 50 tokTy 0 false [])], next := 2 }
def mk141b (s : List UInt8) (o : List Int) (k : Int) : St := { tmps := [(0, .str s), (6, .ref 0 0), (7, .int .i64 k)], blks := [(0, .cells 48 [.bself 0, .own 1 0]), (1, .list 5 (.int .u8) 0 false o)], next := 2 }
end Go.Sx.Tryz
namespace Go.Sx.Tryz
open Go Go.Sx
set_option maxRecDepth 100000
theorem start141 (J : Jump R0) (s : List UInt8) : start E (tabI lib141) fi141 cut141 J [.str s] [] .ok = bif s == [] then Rs.ok (Out.ret (AV.tup [AV.str [], Iz (Int.ofNat 5)]), []) else bif inI 0 (List.length s) then bif (↑(UInt8.toNat (List.getD s (Int.toNat 0) 0)) : Int) != 34 then Rs.ok (Out.ret (AV.tup [AV.str [], Iz (Int.ofNat 5)]), []) else J 0 { tmps := [(0, AV.str s), (4, AV.ref 0 0)], blks := [(0, Blk.cells 86 [AV.str s, Iz 0, AV.own 1 0]), (1, Blk.list 50 tokTy 0 false [])], next := 2 } else Rs.err 204 := by kernel_rfl
theorem piece141 (J : Jump R0) (s : List UInt8) : resume E (tabI lib141) (cutsOf 0 cut141 0) J [true, true, true, false, false] fi141.code 1 (mk141a s) (finK E 0 fi141.results .ok) = bif okA1 s 0 then bif quoE s 0 != 0 then Rs.ok (Out.ret (AV.tup [AV.str [], Iz (quoE s 0)]), []) else bif quoI s 0 != (↑(List.length s) : Int) then Rs.ok (Out.ret (AV.tup [AV.str [], Iz (Int.ofNat 5)]), []) else J 1 { tmps := [(0, AV.str s), (6, AV.ref 0 0), (7, Iz (Int.ofNat 1))], blks := [(0, Blk.cells 48 [AV.bself 0, AV.own 1 0]), (1, Blk.list 5 (Ty.int IntKind.u8) 0 false [])], next := 2 } else Rs.err 3000064 := by kernel_rfl
theorem loop141 (J : Jump R0) (s : List UInt8) (o : List Int) (k : Int) : resume E (tabI lib141) (cutsOf 0 cut141 0) J [true, true, true, true, true, true, false, true, false, false] fi141.code 1 (mk141b s o k) (finK E 0 fi141.results .ok) = bif decide (k < IntKind.wrap IntKind.i64 ((↑(List.length s) : Int) - 1)) then bif inI k (List.length s) then bif (↑(UInt8.toNat (List.getD s (Int.toNat k) 0)) : Int) == 92 then bif inI (IntKind.wrap IntKind.i64 (k + 1)) (List.length s) then bif (↑(UInt8.toNat (List.getD s (Int.toNat (IntKind.wrap IntKind.i64 (k + 1))) 0)) : Int) == 110 then bif decide (List.length o + 1 < maxRoom) then J 1 { tmps := [(0, AV.str s), (6, AV.ref 0 0), (7, Iz (IntKind.wrap IntKind.i64 (IntKind.wrap IntKind.i64 (k + 1) + 1)))], blks := [(0, Blk.cells 48 [AV.bself 0, AV.own 1 0]), (1, Blk.list 5 (Ty.int IntKind.u8) 0 false (app o [10]))], next := 2 } else Rs.err 17 else bif (↑(UInt8.toNat (List.getD s (Int.toNat (IntKind.wrap IntKind.i64 (k + 1))) 0)) : Int) == 116 then bif decide (List.length o + 1 < maxRoom) then J 1 { tmps := [(0, AV.str s), (6, AV.ref 0 0), (7, Iz (IntKind.wrap IntKind.i64 (IntKind.wrap IntKind.i64 (k + 1) + 1)))], blks := [(0, Blk.cells 48 [AV.bself 0, AV.own 1 0]), (1, Blk.list 5 (Ty.int IntKind.u8) 0 false (app o [9]))], next := 2 } else Rs.err 17 else bif decide (List.length o + 1 < maxRoom) then J 1 { tmps := [(0, AV.str s), (6, AV.ref 0 0), (7, Iz (IntKind.wrap IntKind.i64 (IntKind.wrap IntKind.i64 (k + 1) + 1)))], blks := [(0, Blk.cells 48 [AV.bself 0, AV.own 1 0]), (1, Blk.list 5 (Ty.int IntKind.u8) 0 false (app o [(↑(UInt8.toNat (List.getD s (Int.toNat (IntKind.wrap IntKind.i64 (k + 1))) 0)) : Int)]))], next := 2 } else Rs.err 17 else Rs.err 1602 else bif decide (List.length o + 1 < maxRoom) then J 1 { tmps := [(0, AV.str s), (6, AV.ref 0 0), (7, Iz (IntKind.wrap IntKind.i64 (k + 1)))], blks := [(0, Blk.cells 48 [AV.bself 0, AV.own 1 0]), (1, Blk.list 5 (Ty.int IntKind.u8) 0 false (app o [(↑(UInt8.toNat (List.getD s (Int.toNat k) 0)) : Int)]))], next := 2 } else Rs.err 17 else Rs.err 1302 else bif List.all o isByte && Nat.ble (List.length o) 9223372036854775807 then Rs.ok (Out.ret (AV.tup [AV.str (toBytes o), Iz 0]), []) else Rs.err 1000019 := by kernel_rfl
end Go.Sx.Tryz
namespace Go.Sx.Tryz
open Go Go.Sx Go.Proofs
set_option maxRecDepth 100000
variable {G : Nat → Obj → Prop}
def nums (t : List UInt8) : List Int := t.map fun b => (b.toNat : Int)
theorem nums_length (t : List UInt8) : (nums t).length = t.length := List.length_map _
theorem bytes_nums (s : List UInt8) : toBytes (nums s) = s := by
 induction s with
 | nil => rfl
 | cons c s ih =>
  have h : UInt8.ofNat ((c.toNat : Int)).toNat = c := by simp
  show UInt8.ofNat ((c.toNat : Int)).toNat :: toBytes (nums s) = _
  rw [h, ih]
theorem byte_nums (s : List UInt8) : (nums s).all isByte = true := by
 rw [List.all_eq_true]
 intro x hx
 obtain ⟨c, _, rfl⟩ := List.mem_map.1 hx
 have := c.toNat_lt
 simp only [isByte, Bool.and_eq_true, decide_eq_true_eq]
 omega
def escB (d : UInt8) : UInt8 := bif (d.toNat : Int) == 110 then 10 else bif (d.toNat : Int) == 116 then 9 else d
def unqF : List UInt8 → List UInt8
 | c :: d :: r => bif (c.toNat : Int) == 92 then escB d :: unqF r else c :: unqF (d :: r)
 | _ => []
def unqS (s : List UInt8) : List UInt8 × Int := bif s == [] then ([], 5) else bif at8 s 0 != 34 then ([], 5) else bif quoE s 0 != 0 then ([], quoE s 0) else bif quoI s 0 != s.length then ([], 5) else (unqF (s.drop 1), 0)
def sigSI : Sig := [(false, .str), (false, .int .i64)]
def unqX (x : Dens sigS) : Dens sigSI := ((unqS x.1).1, (unqS x.1).2, ())
def okU (s : List UInt8) : Bool := decide ((s.length : Int) ≤ 1048576)
def preU (x : Dens sigS) : Bool := okU x.1
abbrev pc141 (n : Nat) : Jump R0 := pieces (R := R0) E (tabI lib141) fi141 cut141 0 .ok n
theorem app_nums (o : List UInt8) (c : UInt8) : app (nums o) [(c.toNat : Int)] = nums (o ++ [c]) := by
 unfold app nums
 rw [List.map_append]
 rfl
theorem unq_loop {s : List UInt8} (hs : (s.length : Int) ≤ 1048576) : ∀ (n : Nat) (r pre o : List UInt8), s = pre ++ r → r.length ≤ n → o.length ≤ pre.length → ∃ fuel, pc141 fuel 1 (mk141b s (nums o) pre.length) = .ok (.ret (.tup [.str (o ++ unqF r), .int .i64 0]), []) := by
 have hmr : maxRoom = 68719476736 := rfl
 have fin : ∀ (r pre o : List UInt8), s = pre ++ r → r.length ≤ 1 → o.length ≤ pre.length → ∃ fuel, pc141 fuel 1 (mk141b s (nums o) pre.length) = .ok (.ret (.tup [.str (o ++ unqF r), .int .i64 0]), []) := fun r pre o hp hr ho => by
  refine ⟨1, (loop141 (pc141 0) s (nums o) pre.length).trans ?_⟩
  have hlen : pre.length + r.length = s.length := by rw [hp]; simp
  have w : IntKind.wrap .i64 ((s.length : Int) - 1) = (s.length : Int) - 1 := wrap64 (by omega) (by omega)
  have h1 : ¬ ((pre.length : Int) < (s.length : Int) - 1) := by omega
  have h3 : (List.all (nums o) isByte && Nat.ble (List.length (nums o)) 9223372036854775807) = true := by
   rw [byte_nums, nums_length, Bool.true_and]
   exact Nat.ble_eq_true_of_le (by omega)
  have h4 : unqF r = [] := by
   cases r with
   | nil => rfl
   | cons c r => cases r with
    | nil => rfl
    | cons d r => simp at hr
  rw [w, h3, bytes_nums, h4, List.append_nil]
  simp only [h1, decide_false, cond_false, cond_true]
 intro n
 induction n using Nat.strongRecOn with
 | _ n IH =>
  intro r pre o hp hn ho
  match r, hp, hn with
  | [], hp, hn => exact fin [] pre o hp (by simp) ho
  | [c], hp, hn => exact fin [c] pre o hp (by simp) ho
  | c :: d :: r, hp, hn =>
   simp only [List.length_cons] at hn
   have hlen : pre.length + 1 + 1 + r.length = s.length := by rw [hp]; simp; omega
   have w : IntKind.wrap .i64 ((s.length : Int) - 1) = (s.length : Int) - 1 := wrap64 (by omega) (by omega)
   have h1 : (pre.length : Int) < (s.length : Int) - 1 := by omega
   have h2 : inI (pre.length : Int) s.length = true := inI_of (by omega) (by omega)
   have h3 : List.getD s pre.length 0 = c := by rw [hp]; exact getD_app _ _ _
   have h4 : IntKind.wrap .i64 ((pre.length : Int) + 1) = (pre.length : Int) + 1 := wrap64 (by omega) (by omega)
   have h5 : IntKind.wrap .i64 ((pre.length : Int) + 1 + 1) = (pre.length : Int) + 1 + 1 := wrap64 (by omega) (by omega)
   have h7 : inI ((pre.length : Int) + 1) s.length = true := inI_of (by omega) (by omega)
   have h8 : List.getD s (Int.toNat ((pre.length : Int) + 1)) 0 = d := by
    have : Int.toNat ((pre.length : Int) + 1) = (pre ++ [c]).length := by simp
    rw [this, hp, show pre ++ c :: d :: r = (pre ++ [c]) ++ d :: r by simp]
    exact getD_app _ _ _
   have h9 : decide (List.length (nums o) + 1 < maxRoom) = true := by
    rw [nums_length, decide_eq_true_eq]
    omega
   have go : ∀ fuel, pc141 (fuel + 1) 1 (mk141b s (nums o) pre.length) = _ := fun fuel => loop141 (pc141 fuel) s (nums o) pre.length
   simp only [w, h1, h2, h3, h4, h5, h7, h8, h9, Int.toNat_natCast, decide_true, cond_true] at go
   cases e : (c.toNat : Int) == 92
   ·obtain ⟨fuel, ih⟩ := IH (n - 1) (by omega) (d :: r) (pre ++ [c]) (o ++ [c]) (by simp [hp]) (by simp only [List.length_cons]; omega) (by simp; omega)
    have h10 : (((pre ++ [c]).length : Nat) : Int) = (pre.length : Int) + 1 := by simp
    rw [h10, ← app_nums] at ih
    refine ⟨fuel + 1, (go fuel).trans ?_⟩
    simp only [e, cond_false]
    refine Eq.trans ih ?_
    have : unqF (c :: d :: r) = c :: unqF (d :: r) := bif_f e
    rw [this, List.append_assoc]
    rfl
   ·obtain ⟨fuel, ih⟩ := IH (n - 2) (by omega) r (pre ++ [c, d]) (o ++ [escB d]) (by simp [hp]) (by omega) (by simp; omega)
    have h10 : (((pre ++ [c, d]).length : Nat) : Int) = (pre.length : Int) + 1 + 1 := by simp; omega
    rw [h10, ← app_nums] at ih
    refine ⟨fuel + 1, (go fuel).trans ?_⟩
    have hu : unqF (c :: d :: r) = escB d :: unqF r := bif_t e
    rw [hu]
    have fin2 : Rs.ok ((.ret (.tup [.str (o ++ [escB d] ++ unqF r), .int .i64 0]), []) : R0) = .ok (.ret (.tup [.str (o ++ escB d :: unqF r), .int .i64 0]), []) := by
     rw [List.append_assoc]
     rfl
    simp only [e, cond_true]
    unfold escB at ih fin2 ⊢
    cases e1 : (d.toNat : Int) == 110
    ·cases e2 : (d.toNat : Int) == 116
     ·rw [e1, e2] at ih fin2
      exact Eq.trans ih fin2
     ·rw [e1, e2] at ih fin2
      exact Eq.trans ih fin2
    ·rw [e1] at ih fin2
     exact Eq.trans ih fin2
theorem lib141_ok (ht : Tabs G) : IChk Tryz.prog G lib141 := .cons (shiftP_ok (rdC_of fun T a K ha => quo_SA (libS_ok ht) T a K ha)) (.cons (shiftI_ok wbC_ok) (.cons str_ok .nil))
theorem unq_run {s : List UInt8} (hs : (s.length : Int) ≤ 1048576) : ∃ n, start (R := R0) E (tabI lib141) fi141 cut141 (pc141 n) [.str s] [] .ok = .ok (.ret (.tup [.str (unqS s).1, .int .i64 (unqS s).2]), []) := by
 have go : ∀ n, start (R := R0) E (tabI lib141) fi141 cut141 (pc141 n) [.str s] [] .ok = _ := fun n => start141 (pc141 n) s
 unfold unqS
 cases e1 : s == []
 ·have h0 : 0 < s.length := by
   cases s with
   | nil => simp at e1
   | cons c s => simp
  simp only [e1, inI_of (show (0 : Int) ≤ 0 by omega) (show (0 : Int) < s.length by omega), cond_true, cond_false] at go ⊢
  cases e2 : at8 s 0 != 34
  ·have e2' : ((((s.getD (Int.toNat 0) 0).toNat : Nat) : Int) != 34) = false := e2
   simp only [e2', cond_false] at go ⊢
   have go2 : ∀ n, pc141 (n + 1) 0 (mk141a s) = _ := fun n => piece141 (pc141 n) s
   have hok : okA1 s 0 = true := okA1_iff.2 ⟨by omega, by omega, by omega⟩
   simp only [hok, cond_true] at go2
   cases e3 : quoE s 0 != 0
   ·simp only [e3, cond_false] at go2 ⊢
    cases e4 : quoI s 0 != (s.length : Int)
    ·simp only [e4, cond_false] at go2 ⊢
     obtain ⟨fuel, hl⟩ := unq_loop hs s.length (s.drop 1) (s.take 1) [] (List.take_append_drop 1 s).symm (by rw [List.length_drop]; omega) (Nat.zero_le _)
     have : (((s.take 1).length : Nat) : Int) = 1 := by
      rw [List.length_take]
      omega
     rw [this] at hl
     exact ⟨fuel + 1, ((go (fuel + 1)).trans (go2 fuel)).trans hl⟩
    ·simp only [e4, cond_true] at go2 ⊢
     exact ⟨1, (go 1).trans (go2 0)⟩
   ·simp only [e3, cond_true] at go2 ⊢
    exact ⟨1, (go 1).trans (go2 0)⟩
  ·have e2' : ((((s.getD (Int.toNat 0) 0).toNat : Nat) : Int) != 34) = true := e2
   simp only [e2', cond_true] at go ⊢
   exact ⟨0, go 0⟩
 ·simp only [e1, cond_true] at go ⊢
  exact ⟨0, go 0⟩
theorem unq_SA (ht : Tabs G) (x : Dens sigS) (hx : preU x = true) : SAD Tryz.prog G 141 sigS sigSI x (unqX x) := by
 obtain ⟨s, ⟨⟩⟩ := x
 have hs : (List.length s : Int) ≤ 1048576 := by
  have h : okU s = true := hx
  simpa only [okU, decide_eq_true_eq] using h
 obtain ⟨n, hn⟩ := unq_run hs
 exact start_ok (envOK []) (tabI_ok (lib141_ok ht)) fc141 (.inl gen0_nil) hn
end Go.Sx.Tryz
namespace Go.Sx
open Go
theorem ans_pureE {P : Program} {f : Nat} {fi : FI} (hf : FIOK P f fi) {vals : Array Value} {D : Ctx} {bs : List Blk} (hm : D.m = getB (withIds 0 bs)) (hs : SRel D) {av : AV} (hok : bs.all okBlk = true) (hp : plainV av = true)
  (hc : Calls P f vals D.w fun e w' => ∃ u, e = .returned u ∧ (∀ D', VRel D' av u) ∧ RowKit.Below D.w.heap.size D.w w') : Answers P f vals D.w (PostOf D (.ret av, bs)) := by
 refine .inl ⟨fi_enter hf _ _, Calls.mono hc fun e w' ⟨u, h1, hv, h2⟩ => ?_⟩
 subst h1
 obtain ⟨h3, h4⟩ := below_ctx hs h2
 exact ⟨av, { D with w := w' }, rfl, rfl, hm, h3, h4, hv _, hp, hok⟩
end Go.Sx
namespace Go.Sx.Tryz
open Go Go.Sx Go.Proofs
set_option maxRecDepth 100000
variable {G : Nat → Obj → Prop}
def pintS (s : List UInt8) : Int × Bool := match Lib.parseIntB 64 s with
 | .ok v => (v, true)
 | _ => (Lib.intSat 64 s, false)
def intS (s : List UInt8) : Int × Int := bif !digsS s then (0, 5) else bif decide ((s.length : Int) > 1) && at8 s 0 == 48 then (0, 5) else bif (pintS s).2 then ((pintS s).1, 0) else (0, 1)
def sigII' : Sig := [(false, .int .i64), (false, .int .i64)]
def intX (x : Dens sigS) : Dens sigII' := ((intS x.1).1, (intS x.1).2, ())
theorem fc144 : FIOK Tryz.prog 144 fi144 := ⟨⟨Tryz.f144, Tryz.func144, rfl, rfl, rfl, by kernel_rfl⟩, by kernel_rfl⟩
def parC : Intr := fun R args bs k => match args, bs with
 | [.str s, .int .i64 a, .int .i64 b], [] => (match digsS s && (okU s && (a == 10 && b == 64)) with
  | true => (match (pintS s).2 with
   | true => k (.ret (.tup [.int .i64 (pintS s).1, .nili]), [])
   | false => k (.ret (.tup [.int .i64 (pintS s).1, .iface 195 .anyp]), []))
  | false => .err 144)
 | _, _ => .err 144
theorem parseU_digs {M : Nat} : ∀ (s : List UInt8) (acc : Nat), (s.all fun c => isDig c.toNat) = true → Lib.parseUintM M acc s ≠ Lib.NumEnd.syntax
 | [], acc, _ => by simp [Lib.parseUintM]
 | c :: r, acc, h => by
  rw [List.all_cons, Bool.and_eq_true] at h
  have h1 : 48 ≤ c.toNat ∧ c.toNat ≤ 57 := by
   have := h.1
   unfold isDig at this
   simp only [Bool.and_eq_true, decide_eq_true_eq] at this
   omega
  unfold Lib.parseUintM
  rw [if_pos h1]
  split
  ·simp
  ·split
   ·simp
   ·exact parseU_digs r _ h.2
theorem parse_digs {s : List UInt8} (h : digsS s = true) : Lib.parseIntB 64 s ≠ Lib.NumEnd.syntax := by
 unfold digsS at h
 rw [Bool.and_eq_true] at h
 cases s with
 | nil => simp at h
 | cons c r =>
  have h0 := h.1
  rw [List.all_cons, Bool.and_eq_true] at h0
  have h1 : 48 ≤ c.toNat ∧ c.toNat ≤ 57 := by
   have := h0.1
   unfold isDig at this
   simp only [Bool.and_eq_true, decide_eq_true_eq] at this
   omega
  have h2 : ¬ (c.toNat = 43 ∨ c.toNat = 45) := by omega
  have h3 := parseU_digs (M := 2 ^ 64 - 1) (c :: r) 0 h.1
  unfold Lib.parseIntB
  simp only [if_neg h2]
  have h4 : Lib.parseUintB 64 (c :: r) = Lib.parseUintM (2 ^ 64 - 1) 0 (c :: r) := by
   unfold Lib.parseUintB
   rw [if_neg (by simp)]
  rw [h4]
  split
  ·rename_i e; exact absurd e h3
  ·simp
  ·split
   ·simp
   ·split <;> simp
theorem parC_ok (ht : Tabs G) : IntrOne Tryz.prog G 144 parC := fun R args bs k r hr => by
 unfold parC at hr
 split at hr
 ·rename_i s a b
  split at hr
  ·rename_i hd
   simp only [Bool.and_eq_true, beq_iff_eq] at hd
   obtain ⟨hd, hu, rfl, rfl⟩ := hd
   have hu' : (List.length s : Int) ≤ 1048576 := by simpa only [okU, decide_eq_true_eq] using hu
   rcases hp : Lib.parseIntB 64 s with v | _ | _
   ·have e : pintS s = (v, true) := by unfold pintS; rw [hp]
    rw [e] at hr
    refine ⟨_, hr, fun D vals hG hm hs hv => ?_⟩
    rw [detL_rel (us := [.string ⟨⟨s⟩⟩, .int .i64 10, .int .i64 64]) rfl hv]
    refine ans_pureE fc144 hm hs rfl rfl (Calls.mono (Any.strconv_ParseInt_10_at64_ok Tryz.laysC174 ⟨⟨s⟩⟩ ?_ v hp D.w) fun e w' h => ?_)
    ·show s.length ≤ _
     omega
    ·refine ⟨_, h.1, fun D' => ⟨_, rfl, _, _, rfl, rfl, _, _, rfl, rfl, rfl⟩, ?_⟩
     rcases h.2 with h2 | ⟨t, h2⟩
     ·exact below_eq h2 rfl
     ·rw [h2]; exact Lib.bytesWorld_below _ _ _
   ·exact absurd hp (parse_digs hd)
   ·have e : pintS s = (Lib.intSat 64 s, false) := by unfold pintS; rw [hp]
    rw [e] at hr
    refine ⟨_, hr, fun D vals hG hm hs hv => ?_⟩
    rw [detL_rel (us := [.string ⟨⟨s⟩⟩, .int .i64 10, .int .i64 64]) rfl hv]
    obtain ⟨ev, he1, he2⟩ := (ht D hG hs).er
    refine ans_pureE fc144 hm hs rfl rfl (Calls.mono (Any.strconv_ParseInt_10_at64_range Tryz.laysC174 ⟨⟨s⟩⟩ ?_ hp ev D.w he1 he2) fun e w' ⟨N, h⟩ => ?_)
    ·show s.length ≤ _
     omega
    ·exact ⟨_, h.1, fun D' => ⟨_, rfl, _, _, rfl, rfl, _, _, rfl, ⟨_, rfl, _, rfl⟩, rfl⟩, h.2.2.2⟩
  ·cases hr
 ·cases hr
def lib138 : List (Nat × Intr) := [(143, specI 143 sigS sigB preS digsX), (144, parC)]
end Go.Sx.Tryz
namespace Go.Sx.Tryz
open Go Go.Sx
set_option maxRecDepth 100000
theorem body138 (s : List UInt8) : body (R := R0) E (tabI lib138) fi138 [.str s] [] .ok = bif preS (s, ()) then bif !digsS s then Rs.ok (Out.ret (AV.tup [Iz 0, Iz (Int.ofNat 5)]), []) else bif decide ((↑(List.length s) : Int) > 1) then bif inI 0 (List.length s) then bif (↑(UInt8.toNat (List.getD s (Int.toNat 0) 0)) : Int) == 48 then Rs.ok (Out.ret (AV.tup [Iz 0, Iz (Int.ofNat 5)]), []) else bif digsS s && (okU s && (10 == 10 && 64 == 64)) then bif Prod.snd (pintS s) then Rs.ok (Out.ret (AV.tup [Iz (Prod.fst (pintS s)), Iz 0]), []) else Rs.ok (Out.ret (AV.tup [Iz 0, Iz (Int.ofNat 1)]), []) else Rs.err 144 else Rs.err 109 else bif digsS s && (okU s && (10 == 10 && 64 == 64)) then bif Prod.snd (pintS s) then Rs.ok (Out.ret (AV.tup [Iz (Prod.fst (pintS s)), Iz 0]), []) else Rs.ok (Out.ret (AV.tup [Iz 0, Iz (Int.ofNat 1)]), []) else Rs.err 144 else Rs.err 3000143 := by kernel_rfl
end Go.Sx.Tryz
namespace Go.Sx.Tryz
open Go Go.Sx Go.Proofs
set_option maxRecDepth 100000
variable {G : Nat → Obj → Prop}
theorem okU_iff {s : List UInt8} : okU s = true ↔ (s.length : Int) ≤ 1048576 := by simp only [okU, decide_eq_true_eq]
theorem int_run {s : List UInt8} (hu : okU s = true) : body (R := R0) E (tabI lib138) fi138 [.str s] [] .ok = .ok (.ret (.tup [.int .i64 (intS s).1, .int .i64 (intS s).2]), []) := by
 have h1 := okU_iff.1 hu
 have h2 : preS (s, ()) = true := okS_iff.2 (show (s.length : Int) ≤ 1099511627776 by omega)
 have go := body138 s
 simp only [h2, cond_true] at go
 refine go.trans ?_
 unfold intS
 cases e1 : digsS s
 ·rfl
 ·simp only [e1, hu, Bool.not_true, cond_false, Bool.true_and]
  cases e2 : decide ((s.length : Int) > 1)
  ·simp only [cond_false, Bool.false_and]
   show (bif (pintS s).2 then _ else _) = _
   cases (pintS s).2 <;> rfl
  ·rw [decide_eq_true_eq] at e2
   rw [inI_of (show (0 : Int) ≤ 0 by omega) (show (0 : Int) < s.length by omega)]
   simp only [cond_true, Bool.true_and]
   show (bif at8 s 0 == 48 then _ else _) = _
   cases at8 s 0 == 48
   ·show (bif (pintS s).2 then _ else _) = _
    cases (pintS s).2 <;> rfl
   ·rfl
theorem lib138_ok (ht : Tabs G) : IChk Tryz.prog G lib138 := .cons (specI_ok fun x h => digs_SA x h) (.cons (parC_ok ht) .nil)
theorem int_SA (ht : Tabs G) (x : Dens sigS) (hx : preU x = true) : SAD Tryz.prog G 138 sigS sigII' x (intX x) := by
 obtain ⟨s, ⟨⟩⟩ := x
 exact body_ok (envOK []) (tabI_ok (lib138_ok ht)) fc138 (int_run hx)
end Go.Sx.Tryz
namespace Go.Sx
open Go
theorem sa_take {P : Program} {G : Nat → Obj → Prop} {f : Nat} {ts : Sig} {xs : List AV} {x : Dens ts} {bs : List Blk} {a0 : AV} {o : Out × List Blk} (ht : takeL (getB (withIds 0 bs)) ts xs = some (x, []))
  (h : SA P G f (a0 :: canL ts x) bs o) : SA P G f (a0 :: xs) bs o := fun D vals hG hm hs hv => by
 rw [← hm] at ht
 obtain ⟨v0, r, rfl, v1, v2⟩ := hv
 obtain ⟨C1, s1, s2, s3, s4, s5, s6, s7, s8⟩ := share_ok hs []
 have hv1 := takeL_rel hs ht v2 s4 s8 s7
 rw [share_eq hm [], ← shareIf_eq] at s3
 have hA := h C1 (v0 :: r) (s2.glEq.trans hG) s3 s1 ⟨v0, r, rfl, v1.mono s2, hv1⟩
 rw [s4] at hA
 refine Answers.mono hA fun e w' hR => ?_
 cases e with
 | returned u =>
  obtain ⟨v, D1, e2, e3, e4, e5, e6, e7, e8, e9⟩ := hR
  exact ⟨v, D1, e2, e3, e4, e5, s2.trans e6, e7, e8, e9⟩
 | panicked ch =>
  obtain ⟨v, e2, e3⟩ := hR
  exact ⟨v, e2, e3.after s2⟩
 | outgrown => exact hR
end Go.Sx
namespace Go.Sx.Tryz
open Go Go.Sx Go.Proofs
set_option maxRecDepth 100000
variable {G : Nat → Obj → Prop}
abbrev nodeTy : Ty := .pair (.int .i64) (.pair (.int .i64) (.pair (.int .i64) (.pair (.slice (.int .i64)) (.pair .str (.pair (.int .i64) (.pair .str (.pair (.int .i64) (.pair .str (.pair (.int .i64) (.pair (.int .i64) (.pair (.int .i64) (.pair (.slice (.int .i64)) .unit))))))))))))
abbrev Nd : Type := nodeTy.den
def nKind (x : Nd) : Int := x.1
def nAt (x : Nd) : Int := x.2.1
def nTo (x : Nd) : Int := x.2.2.1
def nKids (x : Nd) : List Int := x.2.2.2.1
def nText (x : Nd) : List UInt8 := x.2.2.2.2.1
def nBase (x : Nd) : Int := x.2.2.2.2.2.1
def nName (x : Nd) : List UInt8 := x.2.2.2.2.2.2.1
def nDims (x : Nd) : Int := x.2.2.2.2.2.2.2.1
def nMarks (x : Nd) : List UInt8 := x.2.2.2.2.2.2.2.2.1
def nN (x : Nd) : Int := x.2.2.2.2.2.2.2.2.2.1
def nW1 (x : Nd) : Int := x.2.2.2.2.2.2.2.2.2.2.1
def nW2 (x : Nd) : Int := x.2.2.2.2.2.2.2.2.2.2.2.1
def nEnds (x : Nd) : List Int := x.2.2.2.2.2.2.2.2.2.2.2.2.1
def getI (l : List Int) (i : Nat) : Int := l.getD i 0
def mkN (kind at_ to_ : Int) (kids : List Int) (text : List UInt8) (base : Int) (name : List UInt8) (dims : Int) (marks : List UInt8) (n w1 w2 : Int) (ends : List Int) : Nd := (kind, at_, to_, kids, text, base, name, dims, marks, n, w1, w2, ends, ())
def nd0 : Nd := mkN 0 0 0 [] [] 0 [] 0 [] 0 0 0 []
def getN (l : List Nd) (i : Nat) : Nd := l.getD i nd0
inductive PR (α : Type) where
 | ok (y : α) (a d : Int) (A : List Nd)
 | fault (c p : Int)
 | bad
def PR.bindR {α R : Type} (r : PR α) (k : α → Int → Int → List Nd → Rs R) (e : Int → Int → Rs R) : Rs R := match r with
 | .ok y a d A => k y a d A
 | .fault c p => e c p
 | .bad => .err 77
def PR.bind {α β : Type} (r : PR α) (k : α → Int → Int → List Nd → PR β) : PR β := match r with
 | .ok y a d A => k y a d A
 | .fault c p => .fault c p
 | .bad => .bad
def bsP (T : List UInt8) (K : List Tok) (a d : Int) (A : List Nd) : List Blk := [.cells 72 [.str T, .sl tokTy K, .int .i64 a, .int .i64 d, .own 1 0, .int .i64 0], .list 37 nodeTy 0 false A]
def bsP1 (T : List UInt8) (K : List Tok) (a d : Int) (A : List Nd) : List Blk := [.cells 72 [.str T, .sl tokTy K, .int .i64 a, .int .i64 d, .own 1 1, .int .i64 0], .list 37 nodeTy 1 false A]
abbrev PF (ts rs : Sig) : Type := List UInt8 → List Tok → Int → Int → List Nd → Dens ts → PR (Dens rs)
def parF (f : Nat) (ts rs : Sig) (F : PF ts rs) : Intr := fun R args bs k => match args, bs with
 | .ref 0 0 :: xs, [.cells 72 [.str T, .sl tK K, .int .i64 a, .int .i64 d, .own 1 0, .int .i64 z], .list 37 nT 0 false A] =>
  (match z == 0, castL tK tokTy K, castL nT nodeTy A, takeL (getB (withIds 0 [.cells 72 [.str T, .sl tK K, .int .i64 a, .int .i64 d, .own 1 0, .int .i64 z], .list 37 nT 0 false A])) ts xs with
  | true, some K, some A, some (x, []) => (F T K a d A x).bindR (fun y a d A => k (.ret (retC rs y), bsP1 T K a d A)) (fun c p => k (.panic (.iface 28 (.agg [.int .i64 c, .int .i64 p])), []))
  | _, _, _, _ => .err (5000000 + f))
 | _, _ => .err (5100000 + f)
def PRok (G : Nat → Obj → Prop) (f : Nat) (ts rs : Sig) (F : PF ts rs) : Prop := ∀ T K a d A x, match F T K a d A x with
 | .ok y a' d' A' => SA Tryz.prog G f (.ref 0 0 :: canL ts x) (bsP T K a d A) (.ret (retC rs y), bsP1 T K a' d' A')
 | .fault c p => SA Tryz.prog G f (.ref 0 0 :: canL ts x) (bsP T K a d A) (.panic (.iface 28 (.agg [.int .i64 c, .int .i64 p])), [])
 | .bad => True
theorem parF_ok {f : Nat} {ts rs : Sig} {F : PF ts rs} (h : PRok G f ts rs F) : IntrOne Tryz.prog G f (parF f ts rs F) := fun R args bs k r hr => by
 unfold parF at hr
 split at hr
 ·rename_i xs T tK K a d z nT A
  split at hr
  ·rename_i K' A' x hz hK hA ht
   obtain ⟨e, hK⟩ := castL_ty hK
   subst e
   subst hK
   obtain ⟨e, hA⟩ := castL_ty hA
   subst e
   subst hA
   have hz : z = 0 := by simpa using hz
   subst hz
   have h1 := h T K a d A x
   cases e : F T K a d A x with
   | ok y a' d' A' =>
    rw [e] at h1 hr
    exact ⟨_, hr, sa_take ht h1⟩
   | fault c p =>
    rw [e] at h1 hr
    exact ⟨_, hr, sa_take ht h1⟩
   | bad =>
    rw [e] at hr
    cases hr
  ·cases hr
 ·cases hr
def parI (f : Nat) (ts rs : Sig) (F : PF ts rs) : Intr := dataI f 1 ts (subI f (shiftP f (parF f ts rs F)))
theorem parI_ok {f : Nat} {ts rs : Sig} {F : PF ts rs} (h : PRok G f ts rs F) : IntrOne Tryz.prog G f (parI f ts rs F) := dataI_ok (subI_ok (shiftP_ok (parF_ok h)))
end Go.Sx.Tryz
