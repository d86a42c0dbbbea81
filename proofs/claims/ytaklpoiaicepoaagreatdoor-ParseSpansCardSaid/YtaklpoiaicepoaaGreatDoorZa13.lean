/- A part of the proof: see the row's text. -/
import Derived.Test.YtaklpoiaicepoaaGreatDoorZa12
import Derived.Test.YtaklpoiaicepoaaGreatDoorZa08
import Derived.KernelRfl
import Derived.Test.YtaklpoiaicepoaaGreatDoorZa10
import Derived.Shelf.Strings.Search3
import Derived.Shelf.Strings.Prefix
import Derived.Shelf.Small.Strs
set_option linter.unusedVariables false
set_option linter.unusedSimpArgs false
noncomputable section
namespace Go.Sx
open Go
def TChk (P : Program) (i : Nat) (l : List (Option TI)) : Prop := ∀ j ti, nth l j = some (some ti) → mkTI P (i + j) ti.ty = some ti
theorem TChk.nil {P : Program} {i : Nat} : TChk P i [] := fun j ti h => by cases j <;> cases h
theorem TChk.none {P : Program} {i : Nat} {l : List (Option TI)} (h : TChk P (i + 1) l) : TChk P i (Option.none :: l) := fun j ti hj => by
 cases j with
 | zero => cases hj
 | succ j => have := h j ti hj; rwa [show i + (j + 1) = i + 1 + j by omega]
theorem TChk.some {P : Program} {i : Nat} {x : TI} {l : List (Option TI)} (hx : mkTI P i x.ty = Option.some x) (h : TChk P (i + 1) l) : TChk P i (Option.some x :: l) := fun j ti hj => by
 cases j with
 | zero => cases hj; exact hx
 | succ j => have := h j ti hj; rwa [show i + (j + 1) = i + 1 + j by omega]
def FChk (P : Program) (i : Nat) (l : List (Option FI)) : Prop := ∀ j fi, nth l j = some (some fi) → FIOK P (i + j) fi
theorem FChk.nil {P : Program} {i : Nat} : FChk P i [] := fun j ti h => by cases j <;> cases h
theorem FChk.none {P : Program} {i : Nat} {l : List (Option FI)} (h : FChk P (i + 1) l) : FChk P i (Option.none :: l) := fun j ti hj => by
 cases j with
 | zero => cases hj
 | succ j => have := h j ti hj; rwa [show i + (j + 1) = i + 1 + j by omega]
theorem FChk.some {P : Program} {i : Nat} {x : FI} {l : List (Option FI)} (hx : FIOK P i x) (h : FChk P (i + 1) l) : FChk P i (Option.some x :: l) := fun j ti hj => by
 cases j with
 | zero => cases hj; exact hx
 | succ j => have := h j ti hj; rwa [show i + (j + 1) = i + 1 + j by omega]
end Go.Sx
namespace Go.Sx.Tryz
open Go Go.Sx Go.Proofs
set_option maxRecDepth 100000
theorem tc0 : mkTI Tryz.prog 0 ti0.ty = some ti0 := by kernel_rfl
theorem tc1 : mkTI Tryz.prog 1 ti1.ty = some ti1 := by kernel_rfl
theorem tc2 : mkTI Tryz.prog 2 ti2.ty = some ti2 := by kernel_rfl
theorem tc3 : mkTI Tryz.prog 3 ti3.ty = some ti3 := by kernel_rfl
theorem tc4 : mkTI Tryz.prog 4 ti4.ty = some ti4 := by kernel_rfl
theorem tc5 : mkTI Tryz.prog 5 ti5.ty = some ti5 := by kernel_rfl
theorem tc6 : mkTI Tryz.prog 6 ti6.ty = some ti6 := by kernel_rfl
theorem tc7 : mkTI Tryz.prog 7 ti7.ty = some ti7 := by kernel_rfl
theorem tc8 : mkTI Tryz.prog 8 ti8.ty = some ti8 := by kernel_rfl
theorem tc9 : mkTI Tryz.prog 9 ti9.ty = some ti9 := by kernel_rfl
theorem tc10 : mkTI Tryz.prog 10 ti10.ty = some ti10 := by kernel_rfl
theorem tc11 : mkTI Tryz.prog 11 ti11.ty = some ti11 := by kernel_rfl
theorem tc12 : mkTI Tryz.prog 12 ti12.ty = some ti12 := by kernel_rfl
theorem tc15 : mkTI Tryz.prog 15 ti15.ty = some ti15 := by kernel_rfl
theorem tc16 : mkTI Tryz.prog 16 ti16.ty = some ti16 := by kernel_rfl
theorem tc17 : mkTI Tryz.prog 17 ti17.ty = some ti17 := by kernel_rfl
theorem tc20 : mkTI Tryz.prog 20 ti20.ty = some ti20 := by kernel_rfl
theorem tc21 : mkTI Tryz.prog 21 ti21.ty = some ti21 := by kernel_rfl
theorem tc22 : mkTI Tryz.prog 22 ti22.ty = some ti22 := by kernel_rfl
theorem tc23 : mkTI Tryz.prog 23 ti23.ty = some ti23 := by kernel_rfl
theorem tc24 : mkTI Tryz.prog 24 ti24.ty = some ti24 := by kernel_rfl
theorem tc25 : mkTI Tryz.prog 25 ti25.ty = some ti25 := by kernel_rfl
theorem tc26 : mkTI Tryz.prog 26 ti26.ty = some ti26 := by kernel_rfl
theorem tc27 : mkTI Tryz.prog 27 ti27.ty = some ti27 := by kernel_rfl
theorem tc28 : mkTI Tryz.prog 28 ti28.ty = some ti28 := by kernel_rfl
theorem tc29 : mkTI Tryz.prog 29 ti29.ty = some ti29 := by kernel_rfl
theorem tc30 : mkTI Tryz.prog 30 ti30.ty = some ti30 := by kernel_rfl
theorem tc31 : mkTI Tryz.prog 31 ti31.ty = some ti31 := by kernel_rfl
theorem tc32 : mkTI Tryz.prog 32 ti32.ty = some ti32 := by kernel_rfl
theorem tc33 : mkTI Tryz.prog 33 ti33.ty = some ti33 := by kernel_rfl
theorem tc34 : mkTI Tryz.prog 34 ti34.ty = some ti34 := by kernel_rfl
theorem tc35 : mkTI Tryz.prog 35 ti35.ty = some ti35 := by kernel_rfl
theorem tc36 : mkTI Tryz.prog 36 ti36.ty = some ti36 := by kernel_rfl
theorem tc37 : mkTI Tryz.prog 37 ti37.ty = some ti37 := by kernel_rfl
theorem tc38 : mkTI Tryz.prog 38 ti38.ty = some ti38 := by kernel_rfl
theorem tc39 : mkTI Tryz.prog 39 ti39.ty = some ti39 := by kernel_rfl
theorem tc40 : mkTI Tryz.prog 40 ti40.ty = some ti40 := by kernel_rfl
theorem tc41 : mkTI Tryz.prog 41 ti41.ty = some ti41 := by kernel_rfl
theorem tc42 : mkTI Tryz.prog 42 ti42.ty = some ti42 := by kernel_rfl
theorem tc43 : mkTI Tryz.prog 43 ti43.ty = some ti43 := by kernel_rfl
theorem tc44 : mkTI Tryz.prog 44 ti44.ty = some ti44 := by kernel_rfl
theorem tc45 : mkTI Tryz.prog 45 ti45.ty = some ti45 := by kernel_rfl
theorem tc46 : mkTI Tryz.prog 46 ti46.ty = some ti46 := by kernel_rfl
theorem tc47 : mkTI Tryz.prog 47 ti47.ty = some ti47 := by kernel_rfl
theorem tc48 : mkTI Tryz.prog 48 ti48.ty = some ti48 := by kernel_rfl
theorem tc49 : mkTI Tryz.prog 49 ti49.ty = some ti49 := by kernel_rfl
theorem tc50 : mkTI Tryz.prog 50 ti50.ty = some ti50 := by kernel_rfl
theorem tc51 : mkTI Tryz.prog 51 ti51.ty = some ti51 := by kernel_rfl
theorem tc52 : mkTI Tryz.prog 52 ti52.ty = some ti52 := by kernel_rfl
theorem tc53 : mkTI Tryz.prog 53 ti53.ty = some ti53 := by kernel_rfl
theorem tc54 : mkTI Tryz.prog 54 ti54.ty = some ti54 := by kernel_rfl
theorem tc55 : mkTI Tryz.prog 55 ti55.ty = some ti55 := by kernel_rfl
theorem tc56 : mkTI Tryz.prog 56 ti56.ty = some ti56 := by kernel_rfl
theorem tc57 : mkTI Tryz.prog 57 ti57.ty = some ti57 := by kernel_rfl
theorem tc58 : mkTI Tryz.prog 58 ti58.ty = some ti58 := by kernel_rfl
theorem tc59 : mkTI Tryz.prog 59 ti59.ty = some ti59 := by kernel_rfl
theorem tc60 : mkTI Tryz.prog 60 ti60.ty = some ti60 := by kernel_rfl
theorem tc61 : mkTI Tryz.prog 61 ti61.ty = some ti61 := by kernel_rfl
theorem tc62 : mkTI Tryz.prog 62 ti62.ty = some ti62 := by kernel_rfl
theorem tc63 : mkTI Tryz.prog 63 ti63.ty = some ti63 := by kernel_rfl
theorem tc64 : mkTI Tryz.prog 64 ti64.ty = some ti64 := by kernel_rfl
theorem tc65 : mkTI Tryz.prog 65 ti65.ty = some ti65 := by kernel_rfl
theorem tc66 : mkTI Tryz.prog 66 ti66.ty = some ti66 := by kernel_rfl
theorem tc67 : mkTI Tryz.prog 67 ti67.ty = some ti67 := by kernel_rfl
theorem tc68 : mkTI Tryz.prog 68 ti68.ty = some ti68 := by kernel_rfl
theorem tc69 : mkTI Tryz.prog 69 ti69.ty = some ti69 := by kernel_rfl
theorem tc70 : mkTI Tryz.prog 70 ti70.ty = some ti70 := by kernel_rfl
theorem tc71 : mkTI Tryz.prog 71 ti71.ty = some ti71 := by kernel_rfl
theorem tc72 : mkTI Tryz.prog 72 ti72.ty = some ti72 := by kernel_rfl
theorem tc73 : mkTI Tryz.prog 73 ti73.ty = some ti73 := by kernel_rfl
theorem tc74 : mkTI Tryz.prog 74 ti74.ty = some ti74 := by kernel_rfl
theorem tc75 : mkTI Tryz.prog 75 ti75.ty = some ti75 := by kernel_rfl
theorem tc76 : mkTI Tryz.prog 76 ti76.ty = some ti76 := by kernel_rfl
theorem tc77 : mkTI Tryz.prog 77 ti77.ty = some ti77 := by kernel_rfl
theorem tc80 : mkTI Tryz.prog 80 ti80.ty = some ti80 := by kernel_rfl
theorem tc81 : mkTI Tryz.prog 81 ti81.ty = some ti81 := by kernel_rfl
theorem tc82 : mkTI Tryz.prog 82 ti82.ty = some ti82 := by kernel_rfl
theorem tc83 : mkTI Tryz.prog 83 ti83.ty = some ti83 := by kernel_rfl
theorem tc84 : mkTI Tryz.prog 84 ti84.ty = some ti84 := by kernel_rfl
theorem tc85 : mkTI Tryz.prog 85 ti85.ty = some ti85 := by kernel_rfl
theorem tc86 : mkTI Tryz.prog 86 ti86.ty = some ti86 := by kernel_rfl
theorem tc87 : mkTI Tryz.prog 87 ti87.ty = some ti87 := by kernel_rfl
theorem tc88 : mkTI Tryz.prog 88 ti88.ty = some ti88 := by kernel_rfl
theorem tc89 : mkTI Tryz.prog 89 ti89.ty = some ti89 := by kernel_rfl
theorem tc90 : mkTI Tryz.prog 90 ti90.ty = some ti90 := by kernel_rfl
theorem tc91 : mkTI Tryz.prog 91 ti91.ty = some ti91 := by kernel_rfl
theorem tc92 : mkTI Tryz.prog 92 ti92.ty = some ti92 := by kernel_rfl
theorem tc93 : mkTI Tryz.prog 93 ti93.ty = some ti93 := by kernel_rfl
theorem tc94 : mkTI Tryz.prog 94 ti94.ty = some ti94 := by kernel_rfl
theorem tc95 : mkTI Tryz.prog 95 ti95.ty = some ti95 := by kernel_rfl
theorem tc96 : mkTI Tryz.prog 96 ti96.ty = some ti96 := by kernel_rfl
theorem tc97 : mkTI Tryz.prog 97 ti97.ty = some ti97 := by kernel_rfl
theorem tc98 : mkTI Tryz.prog 98 ti98.ty = some ti98 := by kernel_rfl
theorem tc99 : mkTI Tryz.prog 99 ti99.ty = some ti99 := by kernel_rfl
theorem tc100 : mkTI Tryz.prog 100 ti100.ty = some ti100 := by kernel_rfl
theorem tc101 : mkTI Tryz.prog 101 ti101.ty = some ti101 := by kernel_rfl
theorem tc102 : mkTI Tryz.prog 102 ti102.ty = some ti102 := by kernel_rfl
theorem tc103 : mkTI Tryz.prog 103 ti103.ty = some ti103 := by kernel_rfl
theorem tc104 : mkTI Tryz.prog 104 ti104.ty = some ti104 := by kernel_rfl
theorem tc105 : mkTI Tryz.prog 105 ti105.ty = some ti105 := by kernel_rfl
theorem tc106 : mkTI Tryz.prog 106 ti106.ty = some ti106 := by kernel_rfl
theorem tc107 : mkTI Tryz.prog 107 ti107.ty = some ti107 := by kernel_rfl
theorem tc108 : mkTI Tryz.prog 108 ti108.ty = some ti108 := by kernel_rfl
theorem tc109 : mkTI Tryz.prog 109 ti109.ty = some ti109 := by kernel_rfl
theorem tc110 : mkTI Tryz.prog 110 ti110.ty = some ti110 := by kernel_rfl
theorem tc111 : mkTI Tryz.prog 111 ti111.ty = some ti111 := by kernel_rfl
theorem tc112 : mkTI Tryz.prog 112 ti112.ty = some ti112 := by kernel_rfl
theorem tc113 : mkTI Tryz.prog 113 ti113.ty = some ti113 := by kernel_rfl
theorem tc114 : mkTI Tryz.prog 114 ti114.ty = some ti114 := by kernel_rfl
theorem tc115 : mkTI Tryz.prog 115 ti115.ty = some ti115 := by kernel_rfl
theorem tc116 : mkTI Tryz.prog 116 ti116.ty = some ti116 := by kernel_rfl
theorem tc117 : mkTI Tryz.prog 117 ti117.ty = some ti117 := by kernel_rfl
theorem tc119 : mkTI Tryz.prog 119 ti119.ty = some ti119 := by kernel_rfl
theorem tc120 : mkTI Tryz.prog 120 ti120.ty = some ti120 := by kernel_rfl
theorem tc121 : mkTI Tryz.prog 121 ti121.ty = some ti121 := by kernel_rfl
theorem tc122 : mkTI Tryz.prog 122 ti122.ty = some ti122 := by kernel_rfl
theorem tc123 : mkTI Tryz.prog 123 ti123.ty = some ti123 := by kernel_rfl
theorem tc124 : mkTI Tryz.prog 124 ti124.ty = some ti124 := by kernel_rfl
theorem tc125 : mkTI Tryz.prog 125 ti125.ty = some ti125 := by kernel_rfl
theorem tc126 : mkTI Tryz.prog 126 ti126.ty = some ti126 := by kernel_rfl
theorem tc127 : mkTI Tryz.prog 127 ti127.ty = some ti127 := by kernel_rfl
theorem tc128 : mkTI Tryz.prog 128 ti128.ty = some ti128 := by kernel_rfl
theorem tc129 : mkTI Tryz.prog 129 ti129.ty = some ti129 := by kernel_rfl
theorem tc130 : mkTI Tryz.prog 130 ti130.ty = some ti130 := by kernel_rfl
theorem tc131 : mkTI Tryz.prog 131 ti131.ty = some ti131 := by kernel_rfl
theorem tc132 : mkTI Tryz.prog 132 ti132.ty = some ti132 := by kernel_rfl
theorem tc133 : mkTI Tryz.prog 133 ti133.ty = some ti133 := by kernel_rfl
theorem tc134 : mkTI Tryz.prog 134 ti134.ty = some ti134 := by kernel_rfl
theorem tc135 : mkTI Tryz.prog 135 ti135.ty = some ti135 := by kernel_rfl
theorem tc136 : mkTI Tryz.prog 136 ti136.ty = some ti136 := by kernel_rfl
theorem tc137 : mkTI Tryz.prog 137 ti137.ty = some ti137 := by kernel_rfl
theorem tc138 : mkTI Tryz.prog 138 ti138.ty = some ti138 := by kernel_rfl
theorem tc139 : mkTI Tryz.prog 139 ti139.ty = some ti139 := by kernel_rfl
theorem tc140 : mkTI Tryz.prog 140 ti140.ty = some ti140 := by kernel_rfl
theorem tc141 : mkTI Tryz.prog 141 ti141.ty = some ti141 := by kernel_rfl
theorem tc142 : mkTI Tryz.prog 142 ti142.ty = some ti142 := by kernel_rfl
theorem tc143 : mkTI Tryz.prog 143 ti143.ty = some ti143 := by kernel_rfl
theorem tc144 : mkTI Tryz.prog 144 ti144.ty = some ti144 := by kernel_rfl
theorem tc145 : mkTI Tryz.prog 145 ti145.ty = some ti145 := by kernel_rfl
theorem tc147 : mkTI Tryz.prog 147 ti147.ty = some ti147 := by kernel_rfl
theorem tc148 : mkTI Tryz.prog 148 ti148.ty = some ti148 := by kernel_rfl
theorem tc149 : mkTI Tryz.prog 149 ti149.ty = some ti149 := by kernel_rfl
theorem tc150 : mkTI Tryz.prog 150 ti150.ty = some ti150 := by kernel_rfl
theorem tc151 : mkTI Tryz.prog 151 ti151.ty = some ti151 := by kernel_rfl
theorem tc152 : mkTI Tryz.prog 152 ti152.ty = some ti152 := by kernel_rfl
theorem tc153 : mkTI Tryz.prog 153 ti153.ty = some ti153 := by kernel_rfl
theorem tc154 : mkTI Tryz.prog 154 ti154.ty = some ti154 := by kernel_rfl
theorem tc155 : mkTI Tryz.prog 155 ti155.ty = some ti155 := by kernel_rfl
theorem tc157 : mkTI Tryz.prog 157 ti157.ty = some ti157 := by kernel_rfl
theorem tc158 : mkTI Tryz.prog 158 ti158.ty = some ti158 := by kernel_rfl
theorem tc159 : mkTI Tryz.prog 159 ti159.ty = some ti159 := by kernel_rfl
theorem tc160 : mkTI Tryz.prog 160 ti160.ty = some ti160 := by kernel_rfl
theorem tc161 : mkTI Tryz.prog 161 ti161.ty = some ti161 := by kernel_rfl
theorem tc162 : mkTI Tryz.prog 162 ti162.ty = some ti162 := by kernel_rfl
theorem tc163 : mkTI Tryz.prog 163 ti163.ty = some ti163 := by kernel_rfl
theorem tc164 : mkTI Tryz.prog 164 ti164.ty = some ti164 := by kernel_rfl
theorem tc165 : mkTI Tryz.prog 165 ti165.ty = some ti165 := by kernel_rfl
theorem tc166 : mkTI Tryz.prog 166 ti166.ty = some ti166 := by kernel_rfl
theorem tc167 : mkTI Tryz.prog 167 ti167.ty = some ti167 := by kernel_rfl
theorem tc168 : mkTI Tryz.prog 168 ti168.ty = some ti168 := by kernel_rfl
theorem tc169 : mkTI Tryz.prog 169 ti169.ty = some ti169 := by kernel_rfl
theorem tc170 : mkTI Tryz.prog 170 ti170.ty = some ti170 := by kernel_rfl
theorem tc171 : mkTI Tryz.prog 171 ti171.ty = some ti171 := by kernel_rfl
theorem tc172 : mkTI Tryz.prog 172 ti172.ty = some ti172 := by kernel_rfl
theorem tc173 : mkTI Tryz.prog 173 ti173.ty = some ti173 := by kernel_rfl
theorem tc174 : mkTI Tryz.prog 174 ti174.ty = some ti174 := by kernel_rfl
theorem tc175 : mkTI Tryz.prog 175 ti175.ty = some ti175 := by kernel_rfl
theorem tc176 : mkTI Tryz.prog 176 ti176.ty = some ti176 := by kernel_rfl
theorem tc177 : mkTI Tryz.prog 177 ti177.ty = some ti177 := by kernel_rfl
theorem tc178 : mkTI Tryz.prog 178 ti178.ty = some ti178 := by kernel_rfl
theorem tc179 : mkTI Tryz.prog 179 ti179.ty = some ti179 := by kernel_rfl
theorem tc180 : mkTI Tryz.prog 180 ti180.ty = some ti180 := by kernel_rfl
theorem tc181 : mkTI Tryz.prog 181 ti181.ty = some ti181 := by kernel_rfl
theorem tc182 : mkTI Tryz.prog 182 ti182.ty = some ti182 := by kernel_rfl
theorem tc183 : mkTI Tryz.prog 183 ti183.ty = some ti183 := by kernel_rfl
theorem tc184 : mkTI Tryz.prog 184 ti184.ty = some ti184 := by kernel_rfl
theorem tc185 : mkTI Tryz.prog 185 ti185.ty = some ti185 := by kernel_rfl
theorem tc186 : mkTI Tryz.prog 186 ti186.ty = some ti186 := by kernel_rfl
theorem tc187 : mkTI Tryz.prog 187 ti187.ty = some ti187 := by kernel_rfl
theorem tc188 : mkTI Tryz.prog 188 ti188.ty = some ti188 := by kernel_rfl
theorem tc189 : mkTI Tryz.prog 189 ti189.ty = some ti189 := by kernel_rfl
theorem tc190 : mkTI Tryz.prog 190 ti190.ty = some ti190 := by kernel_rfl
theorem tc191 : mkTI Tryz.prog 191 ti191.ty = some ti191 := by kernel_rfl
theorem tc192 : mkTI Tryz.prog 192 ti192.ty = some ti192 := by kernel_rfl
theorem tc193 : mkTI Tryz.prog 193 ti193.ty = some ti193 := by kernel_rfl
theorem tc194 : mkTI Tryz.prog 194 ti194.ty = some ti194 := by kernel_rfl
theorem tc195 : mkTI Tryz.prog 195 ti195.ty = some ti195 := by kernel_rfl
theorem tc196 : mkTI Tryz.prog 196 ti196.ty = some ti196 := by kernel_rfl
theorem tc197 : mkTI Tryz.prog 197 ti197.ty = some ti197 := by kernel_rfl
theorem tc198 : mkTI Tryz.prog 198 ti198.ty = some ti198 := by kernel_rfl
theorem tc199 : mkTI Tryz.prog 199 ti199.ty = some ti199 := by kernel_rfl
theorem tc200 : mkTI Tryz.prog 200 ti200.ty = some ti200 := by kernel_rfl
theorem tc203 : mkTI Tryz.prog 203 ti203.ty = some ti203 := by kernel_rfl
theorem tc205 : mkTI Tryz.prog 205 ti205.ty = some ti205 := by kernel_rfl
theorem tc206 : mkTI Tryz.prog 206 ti206.ty = some ti206 := by kernel_rfl
theorem tc207 : mkTI Tryz.prog 207 ti207.ty = some ti207 := by kernel_rfl
theorem tc208 : mkTI Tryz.prog 208 ti208.ty = some ti208 := by kernel_rfl
theorem tc209 : mkTI Tryz.prog 209 ti209.ty = some ti209 := by kernel_rfl
theorem tc210 : mkTI Tryz.prog 210 ti210.ty = some ti210 := by kernel_rfl
theorem tc211 : mkTI Tryz.prog 211 ti211.ty = some ti211 := by kernel_rfl
theorem tc212 : mkTI Tryz.prog 212 ti212.ty = some ti212 := by kernel_rfl
theorem tc213 : mkTI Tryz.prog 213 ti213.ty = some ti213 := by kernel_rfl
theorem tc214 : mkTI Tryz.prog 214 ti214.ty = some ti214 := by kernel_rfl
theorem tc215 : mkTI Tryz.prog 215 ti215.ty = some ti215 := by kernel_rfl
theorem tc216 : mkTI Tryz.prog 216 ti216.ty = some ti216 := by kernel_rfl
theorem tc217 : mkTI Tryz.prog 217 ti217.ty = some ti217 := by kernel_rfl
theorem tc218 : mkTI Tryz.prog 218 ti218.ty = some ti218 := by kernel_rfl
theorem tc219 : mkTI Tryz.prog 219 ti219.ty = some ti219 := by kernel_rfl
theorem tc220 : mkTI Tryz.prog 220 ti220.ty = some ti220 := by kernel_rfl
theorem tc221 : mkTI Tryz.prog 221 ti221.ty = some ti221 := by kernel_rfl
theorem tc222 : mkTI Tryz.prog 222 ti222.ty = some ti222 := by kernel_rfl
theorem tc223 : mkTI Tryz.prog 223 ti223.ty = some ti223 := by kernel_rfl
theorem tc224 : mkTI Tryz.prog 224 ti224.ty = some ti224 := by kernel_rfl
theorem tc228 : mkTI Tryz.prog 228 ti228.ty = some ti228 := by kernel_rfl
theorem tc229 : mkTI Tryz.prog 229 ti229.ty = some ti229 := by kernel_rfl
theorem tc230 : mkTI Tryz.prog 230 ti230.ty = some ti230 := by kernel_rfl
theorem tc231 : mkTI Tryz.prog 231 ti231.ty = some ti231 := by kernel_rfl
theorem tc232 : mkTI Tryz.prog 232 ti232.ty = some ti232 := by kernel_rfl
theorem tc233 : mkTI Tryz.prog 233 ti233.ty = some ti233 := by kernel_rfl
theorem tc234 : mkTI Tryz.prog 234 ti234.ty = some ti234 := by kernel_rfl
theorem tc235 : mkTI Tryz.prog 235 ti235.ty = some ti235 := by kernel_rfl
theorem tc236 : mkTI Tryz.prog 236 ti236.ty = some ti236 := by kernel_rfl
theorem tc237 : mkTI Tryz.prog 237 ti237.ty = some ti237 := by kernel_rfl
theorem tc238 : mkTI Tryz.prog 238 ti238.ty = some ti238 := by kernel_rfl
theorem tc239 : mkTI Tryz.prog 239 ti239.ty = some ti239 := by kernel_rfl
theorem tc240 : mkTI Tryz.prog 240 ti240.ty = some ti240 := by kernel_rfl
theorem tc241 : mkTI Tryz.prog 241 ti241.ty = some ti241 := by kernel_rfl
theorem tc242 : mkTI Tryz.prog 242 ti242.ty = some ti242 := by kernel_rfl
theorem tc243 : mkTI Tryz.prog 243 ti243.ty = some ti243 := by kernel_rfl
theorem tc244 : mkTI Tryz.prog 244 ti244.ty = some ti244 := by kernel_rfl
theorem tc245 : mkTI Tryz.prog 245 ti245.ty = some ti245 := by kernel_rfl
theorem tc246 : mkTI Tryz.prog 246 ti246.ty = some ti246 := by kernel_rfl
theorem tc247 : mkTI Tryz.prog 247 ti247.ty = some ti247 := by kernel_rfl
theorem tc248 : mkTI Tryz.prog 248 ti248.ty = some ti248 := by kernel_rfl
theorem tc249 : mkTI Tryz.prog 249 ti249.ty = some ti249 := by kernel_rfl
theorem tc250 : mkTI Tryz.prog 250 ti250.ty = some ti250 := by kernel_rfl
theorem tc252 : mkTI Tryz.prog 252 ti252.ty = some ti252 := by kernel_rfl
theorem tc253 : mkTI Tryz.prog 253 ti253.ty = some ti253 := by kernel_rfl
theorem tc254 : mkTI Tryz.prog 254 ti254.ty = some ti254 := by kernel_rfl
theorem tc255 : mkTI Tryz.prog 255 ti255.ty = some ti255 := by kernel_rfl
theorem tc256 : mkTI Tryz.prog 256 ti256.ty = some ti256 := by kernel_rfl
theorem tc257 : mkTI Tryz.prog 257 ti257.ty = some ti257 := by kernel_rfl
theorem tc258 : mkTI Tryz.prog 258 ti258.ty = some ti258 := by kernel_rfl
theorem tc261 : mkTI Tryz.prog 261 ti261.ty = some ti261 := by kernel_rfl
theorem tc264 : mkTI Tryz.prog 264 ti264.ty = some ti264 := by kernel_rfl
theorem tc265 : mkTI Tryz.prog 265 ti265.ty = some ti265 := by kernel_rfl
theorem tc266 : mkTI Tryz.prog 266 ti266.ty = some ti266 := by kernel_rfl
theorem tc267 : mkTI Tryz.prog 267 ti267.ty = some ti267 := by kernel_rfl
theorem tc268 : mkTI Tryz.prog 268 ti268.ty = some ti268 := by kernel_rfl
theorem tc271 : mkTI Tryz.prog 271 ti271.ty = some ti271 := by kernel_rfl
theorem tchk : TChk Tryz.prog 0 tis :=
 (.some tc0 (.some tc1 (.some tc2 (.some tc3 (.some tc4 (.some tc5 (.some tc6 (.some tc7 (.some tc8 (.some tc9 (.some tc10 (.some tc11 (.some tc12 (.none (.none (.some tc15 (.some tc16 (.some tc17 (.none (.none (.some tc20 (.some tc21 (.some tc22 (.some tc23 (.some tc24 (.some tc25 (.some tc26 (.some tc27 (.some tc28 (.some tc29 (.some tc30 (.some tc31 (.some tc32 (.some tc33 (.some tc34 (.some tc35 (.some tc36 (.some tc37 (.some tc38 (.some tc39 (.some tc40 (.some tc41 (.some tc42 (.some tc43 (.some tc44 (.some tc45 (.some tc46 (.some tc47 (.some tc48 (.some tc49 (.some tc50 (.some tc51 (.some tc52 (.some tc53 (.some tc54 (.some tc55 (.some tc56 (.some tc57 (.some tc58 (.some tc59 (.some tc60 (.some tc61 (.some tc62 (.some tc63 (.some tc64 (.some tc65 (.some tc66 (.some tc67 (.some tc68 (.some tc69 (.some tc70 (.some tc71 (.some tc72 (.some tc73 (.some tc74 (.some tc75 (.some tc76 (.some tc77 (.none (.none (.some tc80 (.some tc81 (.some tc82 (.some tc83 (.some tc84 (.some tc85 (.some tc86 (.some tc87 (.some tc88 (.some tc89 (.some tc90 (.some tc91 (.some tc92 (.some tc93 (.some tc94 (.some tc95 (.some tc96 (.some tc97 (.some tc98 (.some tc99 (.some tc100 (.some tc101 (.some tc102 (.some tc103 (.some tc104 (.some tc105 (.some tc106 (.some tc107 (.some tc108 (.some tc109 (.some tc110 (.some tc111 (.some tc112 (.some tc113 (.some tc114 (.some tc115 (.some tc116 (.some tc117 (.none (.some tc119 (.some tc120 (.some tc121 (.some tc122 (.some tc123 (.some tc124 (.some tc125 (.some tc126 (.some tc127 (.some tc128 (.some tc129 (.some tc130 (.some tc131 (.some tc132 (.some tc133 (.some tc134 (.some tc135 (.some tc136 (.some tc137 (.some tc138 (.some tc139 (.some tc140 (.some tc141 (.some tc142 (.some tc143 (.some tc144 (.some tc145 (.none (.some tc147 (.some tc148 (.some tc149 (.some tc150 (.some tc151 (.some tc152 (.some tc153 (.some tc154 (.some tc155 (.none (.some tc157 (.some tc158 (.some tc159 (.some tc160 (.some tc161 (.some tc162 (.some tc163 (.some tc164 (.some tc165 (.some tc166 (.some tc167 (.some tc168 (.some tc169 (.some tc170 (.some tc171 (.some tc172 (.some tc173 (.some tc174 (.some tc175 (.some tc176 (.some tc177 (.some tc178 (.some tc179 (.some tc180 (.some tc181 (.some tc182 (.some tc183 (.some tc184 (.some tc185 (.some tc186 (.some tc187 (.some tc188 (.some tc189 (.some tc190 (.some tc191 (.some tc192 (.some tc193 (.some tc194 (.some tc195 (.some tc196 (.some tc197 (.some tc198 (.some tc199 (.some tc200 (.none (.none (.some tc203 (.none (.some tc205 (.some tc206 (.some tc207 (.some tc208 (.some tc209 (.some tc210 (.some tc211 (.some tc212 (.some tc213 (.some tc214 (.some tc215 (.some tc216 (.some tc217 (.some tc218 (.some tc219 (.some tc220 (.some tc221 (.some tc222 (.some tc223 (.some tc224 (.none (.none (.none (.some tc228 (.some tc229 (.some tc230 (.some tc231 (.some tc232 (.some tc233 (.some tc234 (.some tc235 (.some tc236 (.some tc237 (.some tc238 (.some tc239 (.some tc240 (.some tc241 (.some tc242 (.some tc243 (.some tc244 (.some tc245 (.some tc246 (.some tc247 (.some tc248 (.some tc249 (.some tc250 (.none (.some tc252 (.some tc253 (.some tc254 (.some tc255 (.some tc256 (.some tc257 (.some tc258 (.none (.none (.some tc261 (.none (.none (.some tc264 (.some tc265 (.some tc266 (.some tc267 (.some tc268 (.none (.none (.some tc271 .nil))))))))))))))))))))))))))))))))))))))))))))))))))))))))))))))))))))))))))))))))))))))))))))))))))))))))))))))))))))))))))))))))))))))))))))))))))))))))))))))))))))))))))))))))))))))))))))))))))))))))))))))))))))))))))))))))))))))))))))))))))))))))))))))))))))))))))))))))
theorem fc3 : FIOK Tryz.prog 3 fi3 := ⟨⟨Tryz.f3, Tryz.func3, rfl, rfl, rfl, by kernel_rfl⟩, by kernel_rfl⟩
theorem fc4 : FIOK Tryz.prog 4 fi4 := ⟨⟨Tryz.f4, Tryz.func4, rfl, rfl, rfl, by kernel_rfl⟩, by kernel_rfl⟩
theorem fc5 : FIOK Tryz.prog 5 fi5 := ⟨⟨Tryz.f5, Tryz.func5, rfl, rfl, rfl, by kernel_rfl⟩, by kernel_rfl⟩
theorem fc6 : FIOK Tryz.prog 6 fi6 := ⟨⟨Tryz.f6, Tryz.func6, rfl, rfl, rfl, by kernel_rfl⟩, by kernel_rfl⟩
theorem fc7 : FIOK Tryz.prog 7 fi7 := ⟨⟨Tryz.f7, Tryz.func7, rfl, rfl, rfl, by kernel_rfl⟩, by kernel_rfl⟩
theorem fc8 : FIOK Tryz.prog 8 fi8 := ⟨⟨Tryz.f8, Tryz.func8, rfl, rfl, rfl, by kernel_rfl⟩, by kernel_rfl⟩
theorem fc9 : FIOK Tryz.prog 9 fi9 := ⟨⟨Tryz.f9, Tryz.func9, rfl, rfl, rfl, by kernel_rfl⟩, by kernel_rfl⟩
theorem fc10 : FIOK Tryz.prog 10 fi10 := ⟨⟨Tryz.f10, Tryz.func10, rfl, rfl, rfl, by kernel_rfl⟩, by kernel_rfl⟩
theorem fc11 : FIOK Tryz.prog 11 fi11 := ⟨⟨Tryz.f11, Tryz.func11, rfl, rfl, rfl, by kernel_rfl⟩, by kernel_rfl⟩
theorem fc15 : FIOK Tryz.prog 15 fi15 := ⟨⟨Tryz.f15, Tryz.func15, rfl, rfl, rfl, by kernel_rfl⟩, by kernel_rfl⟩
theorem fc16 : FIOK Tryz.prog 16 fi16 := ⟨⟨Tryz.f16, Tryz.func16, rfl, rfl, rfl, by kernel_rfl⟩, by kernel_rfl⟩
theorem fc17 : FIOK Tryz.prog 17 fi17 := ⟨⟨Tryz.f17, Tryz.func17, rfl, rfl, rfl, by kernel_rfl⟩, by kernel_rfl⟩
theorem fc18 : FIOK Tryz.prog 18 fi18 := ⟨⟨Tryz.f18, Tryz.func18, rfl, rfl, rfl, by kernel_rfl⟩, by kernel_rfl⟩
theorem fc20 : FIOK Tryz.prog 20 fi20 := ⟨⟨Tryz.f20, Tryz.func20, rfl, rfl, rfl, by kernel_rfl⟩, by kernel_rfl⟩
theorem fc21 : FIOK Tryz.prog 21 fi21 := ⟨⟨Tryz.f21, Tryz.func21, rfl, rfl, rfl, by kernel_rfl⟩, by kernel_rfl⟩
theorem fc23 : FIOK Tryz.prog 23 fi23 := ⟨⟨Tryz.f23, Tryz.func23, rfl, rfl, rfl, by kernel_rfl⟩, by kernel_rfl⟩
theorem fc25 : FIOK Tryz.prog 25 fi25 := ⟨⟨Tryz.f25, Tryz.func25, rfl, rfl, rfl, by kernel_rfl⟩, by kernel_rfl⟩
theorem fc26 : FIOK Tryz.prog 26 fi26 := ⟨⟨Tryz.f26, Tryz.func26, rfl, rfl, rfl, by kernel_rfl⟩, by kernel_rfl⟩
theorem fc27 : FIOK Tryz.prog 27 fi27 := ⟨⟨Tryz.f27, Tryz.func27, rfl, rfl, rfl, by kernel_rfl⟩, by kernel_rfl⟩
theorem fc28 : FIOK Tryz.prog 28 fi28 := ⟨⟨Tryz.f28, Tryz.func28, rfl, rfl, rfl, by kernel_rfl⟩, by kernel_rfl⟩
theorem fc29 : FIOK Tryz.prog 29 fi29 := ⟨⟨Tryz.f29, Tryz.func29, rfl, rfl, rfl, by kernel_rfl⟩, by kernel_rfl⟩
theorem fc36 : FIOK Tryz.prog 36 fi36 := ⟨⟨Tryz.f36, Tryz.func36, rfl, rfl, rfl, by kernel_rfl⟩, by kernel_rfl⟩
theorem fc37 : FIOK Tryz.prog 37 fi37 := ⟨⟨Tryz.f37, Tryz.func37, rfl, rfl, rfl, by kernel_rfl⟩, by kernel_rfl⟩
theorem fc39 : FIOK Tryz.prog 39 fi39 := ⟨⟨Tryz.f39, Tryz.func39, rfl, rfl, rfl, by kernel_rfl⟩, by kernel_rfl⟩
theorem fc43 : FIOK Tryz.prog 43 fi43 := ⟨⟨Tryz.f43, Tryz.func43, rfl, rfl, rfl, by kernel_rfl⟩, by kernel_rfl⟩
theorem fc44 : FIOK Tryz.prog 44 fi44 := ⟨⟨Tryz.f44, Tryz.func44, rfl, rfl, rfl, by kernel_rfl⟩, by kernel_rfl⟩
theorem fc45 : FIOK Tryz.prog 45 fi45 := ⟨⟨Tryz.f45, Tryz.func45, rfl, rfl, rfl, by kernel_rfl⟩, by kernel_rfl⟩
theorem fc46 : FIOK Tryz.prog 46 fi46 := ⟨⟨Tryz.f46, Tryz.func46, rfl, rfl, rfl, by kernel_rfl⟩, by kernel_rfl⟩
theorem fc47 : FIOK Tryz.prog 47 fi47 := ⟨⟨Tryz.f47, Tryz.func47, rfl, rfl, rfl, by kernel_rfl⟩, by kernel_rfl⟩
theorem fc48 : FIOK Tryz.prog 48 fi48 := ⟨⟨Tryz.f48, Tryz.func48, rfl, rfl, rfl, by kernel_rfl⟩, by kernel_rfl⟩
theorem fc49 : FIOK Tryz.prog 49 fi49 := ⟨⟨Tryz.f49, Tryz.func49, rfl, rfl, rfl, by kernel_rfl⟩, by kernel_rfl⟩
theorem fc50 : FIOK Tryz.prog 50 fi50 := ⟨⟨Tryz.f50, Tryz.func50, rfl, rfl, rfl, by kernel_rfl⟩, by kernel_rfl⟩
theorem fc51 : FIOK Tryz.prog 51 fi51 := ⟨⟨Tryz.f51, Tryz.func51, rfl, rfl, rfl, by kernel_rfl⟩, by kernel_rfl⟩
theorem fc53 : FIOK Tryz.prog 53 fi53 := ⟨⟨Tryz.f53, Tryz.func53, rfl, rfl, rfl, by kernel_rfl⟩, by kernel_rfl⟩
theorem fc59 : FIOK Tryz.prog 59 fi59 := ⟨⟨Tryz.f59, Tryz.func59, rfl, rfl, rfl, by kernel_rfl⟩, by kernel_rfl⟩
theorem fc60 : FIOK Tryz.prog 60 fi60 := ⟨⟨Tryz.f60, Tryz.func60, rfl, rfl, rfl, by kernel_rfl⟩, by kernel_rfl⟩
theorem fc61 : FIOK Tryz.prog 61 fi61 := ⟨⟨Tryz.f61, Tryz.func61, rfl, rfl, rfl, by kernel_rfl⟩, by kernel_rfl⟩
theorem fc62 : FIOK Tryz.prog 62 fi62 := ⟨⟨Tryz.f62, Tryz.func62, rfl, rfl, rfl, by kernel_rfl⟩, by kernel_rfl⟩
theorem fc63 : FIOK Tryz.prog 63 fi63 := ⟨⟨Tryz.f63, Tryz.func63, rfl, rfl, rfl, by kernel_rfl⟩, by kernel_rfl⟩
theorem fc64 : FIOK Tryz.prog 64 fi64 := ⟨⟨Tryz.f64, Tryz.func64, rfl, rfl, rfl, by kernel_rfl⟩, by kernel_rfl⟩
theorem fc65 : FIOK Tryz.prog 65 fi65 := ⟨⟨Tryz.f65, Tryz.func65, rfl, rfl, rfl, by kernel_rfl⟩, by kernel_rfl⟩
theorem fc67 : FIOK Tryz.prog 67 fi67 := ⟨⟨Tryz.f67, Tryz.func67, rfl, rfl, rfl, by kernel_rfl⟩, by kernel_rfl⟩
theorem fc70 : FIOK Tryz.prog 70 fi70 := ⟨⟨Tryz.f70, Tryz.func70, rfl, rfl, rfl, by kernel_rfl⟩, by kernel_rfl⟩
theorem fc71 : FIOK Tryz.prog 71 fi71 := ⟨⟨Tryz.f71, Tryz.func71, rfl, rfl, rfl, by kernel_rfl⟩, by kernel_rfl⟩
theorem fc72 : FIOK Tryz.prog 72 fi72 := ⟨⟨Tryz.f72, Tryz.func72, rfl, rfl, rfl, by kernel_rfl⟩, by kernel_rfl⟩
theorem fc73 : FIOK Tryz.prog 73 fi73 := ⟨⟨Tryz.f73, Tryz.func73, rfl, rfl, rfl, by kernel_rfl⟩, by kernel_rfl⟩
theorem fc74 : FIOK Tryz.prog 74 fi74 := ⟨⟨Tryz.f74, Tryz.func74, rfl, rfl, rfl, by kernel_rfl⟩, by kernel_rfl⟩
theorem fc75 : FIOK Tryz.prog 75 fi75 := ⟨⟨Tryz.f75, Tryz.func75, rfl, rfl, rfl, by kernel_rfl⟩, by kernel_rfl⟩
theorem fc76 : FIOK Tryz.prog 76 fi76 := ⟨⟨Tryz.f76, Tryz.func76, rfl, rfl, rfl, by kernel_rfl⟩, by kernel_rfl⟩
theorem fc77 : FIOK Tryz.prog 77 fi77 := ⟨⟨Tryz.f77, Tryz.func77, rfl, rfl, rfl, by kernel_rfl⟩, by kernel_rfl⟩
theorem fc79 : FIOK Tryz.prog 79 fi79 := ⟨⟨Tryz.f79, Tryz.func79, rfl, rfl, rfl, by kernel_rfl⟩, by kernel_rfl⟩
theorem fc90 : FIOK Tryz.prog 90 fi90 := ⟨⟨Tryz.f90, Tryz.func90, rfl, rfl, rfl, by kernel_rfl⟩, by kernel_rfl⟩
theorem fc91 : FIOK Tryz.prog 91 fi91 := ⟨⟨Tryz.f91, Tryz.func91, rfl, rfl, rfl, by kernel_rfl⟩, by kernel_rfl⟩
theorem fc92 : FIOK Tryz.prog 92 fi92 := ⟨⟨Tryz.f92, Tryz.func92, rfl, rfl, rfl, by kernel_rfl⟩, by kernel_rfl⟩
theorem fc93 : FIOK Tryz.prog 93 fi93 := ⟨⟨Tryz.f93, Tryz.func93, rfl, rfl, rfl, by kernel_rfl⟩, by kernel_rfl⟩
theorem fc94 : FIOK Tryz.prog 94 fi94 := ⟨⟨Tryz.f94, Tryz.func94, rfl, rfl, rfl, by kernel_rfl⟩, by kernel_rfl⟩
theorem fc103 : FIOK Tryz.prog 103 fi103 := ⟨⟨Tryz.f103, Tryz.func103, rfl, rfl, rfl, by kernel_rfl⟩, by kernel_rfl⟩
theorem fc104 : FIOK Tryz.prog 104 fi104 := ⟨⟨Tryz.f104, Tryz.func104, rfl, rfl, rfl, by kernel_rfl⟩, by kernel_rfl⟩
theorem fc105 : FIOK Tryz.prog 105 fi105 := ⟨⟨Tryz.f105, Tryz.func105, rfl, rfl, rfl, by kernel_rfl⟩, by kernel_rfl⟩
theorem fc106 : FIOK Tryz.prog 106 fi106 := ⟨⟨Tryz.f106, Tryz.func106, rfl, rfl, rfl, by kernel_rfl⟩, by kernel_rfl⟩
theorem fc113 : FIOK Tryz.prog 113 fi113 := ⟨⟨Tryz.f113, Tryz.func113, rfl, rfl, rfl, by kernel_rfl⟩, by kernel_rfl⟩
theorem fc114 : FIOK Tryz.prog 114 fi114 := ⟨⟨Tryz.f114, Tryz.func114, rfl, rfl, rfl, by kernel_rfl⟩, by kernel_rfl⟩
theorem fc115 : FIOK Tryz.prog 115 fi115 := ⟨⟨Tryz.f115, Tryz.func115, rfl, rfl, rfl, by kernel_rfl⟩, by kernel_rfl⟩
theorem fc116 : FIOK Tryz.prog 116 fi116 := ⟨⟨Tryz.f116, Tryz.func116, rfl, rfl, rfl, by kernel_rfl⟩, by kernel_rfl⟩
theorem fc117 : FIOK Tryz.prog 117 fi117 := ⟨⟨Tryz.f117, Tryz.func117, rfl, rfl, rfl, by kernel_rfl⟩, by kernel_rfl⟩
theorem fc118 : FIOK Tryz.prog 118 fi118 := ⟨⟨Tryz.f118, Tryz.func118, rfl, rfl, rfl, by kernel_rfl⟩, by kernel_rfl⟩
theorem fc119 : FIOK Tryz.prog 119 fi119 := ⟨⟨Tryz.f119, Tryz.func119, rfl, rfl, rfl, by kernel_rfl⟩, by kernel_rfl⟩
theorem fc125 : FIOK Tryz.prog 125 fi125 := ⟨⟨Tryz.f125, Tryz.func125, rfl, rfl, rfl, by kernel_rfl⟩, by kernel_rfl⟩
theorem fc126 : FIOK Tryz.prog 126 fi126 := ⟨⟨Tryz.f126, Tryz.func126, rfl, rfl, rfl, by kernel_rfl⟩, by kernel_rfl⟩
theorem fc127 : FIOK Tryz.prog 127 fi127 := ⟨⟨Tryz.f127, Tryz.func127, rfl, rfl, rfl, by kernel_rfl⟩, by kernel_rfl⟩
theorem fc128 : FIOK Tryz.prog 128 fi128 := ⟨⟨Tryz.f128, Tryz.func128, rfl, rfl, rfl, by kernel_rfl⟩, by kernel_rfl⟩
theorem fc129 : FIOK Tryz.prog 129 fi129 := ⟨⟨Tryz.f129, Tryz.func129, rfl, rfl, rfl, by kernel_rfl⟩, by kernel_rfl⟩
theorem fc133 : FIOK Tryz.prog 133 fi133 := ⟨⟨Tryz.f133, Tryz.func133, rfl, rfl, rfl, by kernel_rfl⟩, by kernel_rfl⟩
theorem fc134 : FIOK Tryz.prog 134 fi134 := ⟨⟨Tryz.f134, Tryz.func134, rfl, rfl, rfl, by kernel_rfl⟩, by kernel_rfl⟩
theorem fc135 : FIOK Tryz.prog 135 fi135 := ⟨⟨Tryz.f135, Tryz.func135, rfl, rfl, rfl, by kernel_rfl⟩, by kernel_rfl⟩
theorem fc136 : FIOK Tryz.prog 136 fi136 := ⟨⟨Tryz.f136, Tryz.func136, rfl, rfl, rfl, by kernel_rfl⟩, by kernel_rfl⟩
theorem fc137 : FIOK Tryz.prog 137 fi137 := ⟨⟨Tryz.f137, Tryz.func137, rfl, rfl, rfl, by kernel_rfl⟩, by kernel_rfl⟩
theorem fc138 : FIOK Tryz.prog 138 fi138 := ⟨⟨Tryz.f138, Tryz.func138, rfl, rfl, rfl, by kernel_rfl⟩, by kernel_rfl⟩
theorem fc139 : FIOK Tryz.prog 139 fi139 := ⟨⟨Tryz.f139, Tryz.func139, rfl, rfl, rfl, by kernel_rfl⟩, by kernel_rfl⟩
theorem fc140 : FIOK Tryz.prog 140 fi140 := ⟨⟨Tryz.f140, Tryz.func140, rfl, rfl, rfl, by kernel_rfl⟩, by kernel_rfl⟩
theorem fc141 : FIOK Tryz.prog 141 fi141 := ⟨⟨Tryz.f141, Tryz.func141, rfl, rfl, rfl, by kernel_rfl⟩, by kernel_rfl⟩
theorem fc142 : FIOK Tryz.prog 142 fi142 := ⟨⟨Tryz.f142, Tryz.func142, rfl, rfl, rfl, by kernel_rfl⟩, by kernel_rfl⟩
theorem fc143 : FIOK Tryz.prog 143 fi143 := ⟨⟨Tryz.f143, Tryz.func143, rfl, rfl, rfl, by kernel_rfl⟩, by kernel_rfl⟩
theorem fc146 : FIOK Tryz.prog 146 fi146 := ⟨⟨Tryz.f146, Tryz.func146, rfl, rfl, rfl, by kernel_rfl⟩, by kernel_rfl⟩
theorem fc148 : FIOK Tryz.prog 148 fi148 := ⟨⟨Tryz.f148, Tryz.func148, rfl, rfl, rfl, by kernel_rfl⟩, by kernel_rfl⟩
theorem fc154 : FIOK Tryz.prog 154 fi154 := ⟨⟨Tryz.f154, Tryz.func154, rfl, rfl, rfl, by kernel_rfl⟩, by kernel_rfl⟩
theorem fc162 : FIOK Tryz.prog 162 fi162 := ⟨⟨Tryz.f162, Tryz.func162, rfl, rfl, rfl, by kernel_rfl⟩, by kernel_rfl⟩
theorem fc173 : FIOK Tryz.prog 173 fi173 := ⟨⟨Tryz.f173, Tryz.func173, rfl, rfl, rfl, by kernel_rfl⟩, by kernel_rfl⟩
theorem fc174 : FIOK Tryz.prog 174 fi174 := ⟨⟨Tryz.f174, Tryz.func174, rfl, rfl, rfl, by kernel_rfl⟩, by kernel_rfl⟩
theorem fchk : FChk Tryz.prog 0 fis :=
 (.none (.none (.none (.some fc3 (.some fc4 (.some fc5 (.some fc6 (.some fc7 (.some fc8 (.some fc9 (.some fc10 (.some fc11 (.none (.none (.none (.some fc15 (.some fc16 (.some fc17 (.some fc18 (.none (.some fc20 (.some fc21 (.none (.some fc23 (.none (.some fc25 (.some fc26 (.some fc27 (.some fc28 (.some fc29 (.none (.none (.none (.none (.none (.none (.some fc36 (.some fc37 (.none (.some fc39 (.none (.none (.none (.some fc43 (.some fc44 (.some fc45 (.some fc46 (.some fc47 (.some fc48 (.some fc49 (.some fc50 (.some fc51 (.none (.some fc53 (.none (.none (.none (.none (.none (.some fc59 (.some fc60 (.some fc61 (.some fc62 (.some fc63 (.some fc64 (.some fc65 (.none (.some fc67 (.none (.none (.some fc70 (.some fc71 (.some fc72 (.some fc73 (.some fc74 (.some fc75 (.some fc76 (.some fc77 (.none (.some fc79 (.none (.none (.none (.none (.none (.none (.none (.none (.none (.none (.some fc90 (.some fc91 (.some fc92 (.some fc93 (.some fc94 (.none (.none (.none (.none (.none (.none (.none (.none (.some fc103 (.some fc104 (.some fc105 (.some fc106 (.none (.none (.none (.none (.none (.none (.some fc113 (.some fc114 (.some fc115 (.some fc116 (.some fc117 (.some fc118 (.some fc119 (.none (.none (.none (.none (.none (.some fc125 (.some fc126 (.some fc127 (.some fc128 (.some fc129 (.none (.none (.none (.some fc133 (.some fc134 (.some fc135 (.some fc136 (.some fc137 (.some fc138 (.some fc139 (.some fc140 (.some fc141 (.some fc142 (.some fc143 (.none (.none (.some fc146 (.none (.some fc148 (.none (.none (.none (.none (.none (.some fc154 (.none (.none (.none (.none (.none (.none (.none (.some fc162 (.none (.none (.none (.none (.none (.none (.none (.none (.none (.none (.some fc173 (.some fc174 .nil)))))))))))))))))))))))))))))))))))))))))))))))))))))))))))))))))))))))))))))))))))))))))))))))))))))))))))))))))))))))))))))))))))))))))))))))))))))))))))))))))))))))))))))))
theorem envOK (intr : List (Option Intr)) : EnvOK ⟨tis, fis, intr⟩ Tryz.prog := ⟨fun t ti h => by
 have h2 : nth tis t = some (some ti) := by
  unfold Env.T at h
  split at h
  ·rename_i x hx; rw [hx, h]
  ·cases h
 have := tchk t ti h2
 rwa [Nat.zero_add] at this, by kernel_rfl⟩
theorem fiOK : ∀ f fi, nth fis f = some (some fi) → FIOK Tryz.prog f fi := fun f fi h => by
 have := fchk f fi h
 rwa [Nat.zero_add] at this
end Go.Sx.Tryz
namespace Go.Sx.Tryz
open Go Go.Sx Go.Proofs
set_option maxRecDepth 100000
abbrev E : Env := E0
abbrev Iz (n : Int) : AV := .int .i64 n
abbrev tokTy : Ty := .pair (.int .i64) (.pair (.int .i64) (.pair (.int .i64) .unit))
abbrev Tok : Type := tokTy.den
def tKind (x : Tok) : Int := x.1
def tFrom (x : Tok) : Int := x.2.1
def tTo (x : Tok) : Int := x.2.2.1
abbrev sigC : Sig := [(false, .int .u8)]
abbrev sigB : Sig := [(false, .bool)]
abbrev sigS : Sig := [(false, .str)]
abbrev sigI : Sig := [(false, .int .i64)]
abbrev outB (c : Bool) : R0 := (.ret (.bool c), [])
def isLet (c : Int) : Bool := (decide (c ≥ 97) && decide (c ≤ 122)) || ((decide (c ≥ 65) && decide (c ≤ 90)) || c == 95)
def isDig (c : Int) : Bool := decide (c ≥ 48) && decide (c ≤ 57)
def isBlk (c : Int) : Bool := c == 32 || (c == 9 || (c == 10 || c == 13))
def isWrd (c : Int) : Bool := isLet c || isDig c
def letX (x : Dens sigC) : Dens sigB := (isLet x.1, ())
def digX (x : Dens sigC) : Dens sigB := (isDig x.1, ())
def blkX (x : Dens sigC) : Dens sigB := (isBlk x.1, ())
def wrdX (x : Dens sigC) : Dens sigB := (isWrd x.1, ())
def libB : List (Nat × Intr) := [(60, specI 60 sigC sigB (fun _ => true) blkX), (61, specI 61 sigC sigB (fun _ => true) letX), (62, specI 62 sigC sigB (fun _ => true) wrdX), (63, specI 63 sigC sigB (fun _ => true) digX)]
def bsR (T : List UInt8) (a : Int) (K : List Tok) : List Blk := [.cells 86 [.str T, .int .i64 a, .own 1 0], .list 50 tokTy 0 false K]
def bsR1 (T : List UInt8) (a : Int) (K : List Tok) : List Blk := [.cells 86 [.str T, .int .i64 a, .own 1 1], .list 50 tokTy 1 false K]
def cut59 : List Cut := [⟨[false, false], some ⟨[(0, []), (1, [])], [[], []]⟩⟩]
def mk59 (T : List UInt8) (a : Int) (K : List Tok) (f : Nat) : St := { tmps := [(0, .ref 0 0), (1, .fn f [])], blks := [(0, .cells 86 [.str T, .int .i64 a, .own 1 1]), (1, .list 50 tokTy 1 false K)], next := 2 }
end Go.Sx.Tryz
namespace Go.Sx.Tryz
open Go Go.Sx Go.Proofs
set_option maxRecDepth 100000
def run8 (p : Int → Bool) (s : List UInt8) : Nat := (s.takeWhile fun c => p c.toNat).length
def gapF : Nat → List UInt8 → Nat
 | 0, _ => 0
 | n + 1, s => let b := run8 isBlk s
  bif Lib.hasPrefix (s.drop b) [47, 47] then
   let c := run8 (fun c => c != 10) (s.drop b)
   b + c + gapF n (s.drop (b + c))
  else b
def gapS (s : List UInt8) : Nat := gapF (s.length + 1) s
def escs : List UInt8 := [34, 92, 110, 116]
def quoF : Nat → List UInt8 → Nat × Int
 | _, [] => (0, 61)
 | 0, _ => (0, 61)
 | n + 1, c :: r => bif (c.toNat : Int) == 34 then (1, 0) else bif (c.toNat : Int) == 10 then (0, 61) else bif decide ((c.toNat : Int) < 32) || decide ((c.toNat : Int) > 126) then (0, 60)
  else bif (c.toNat : Int) == 92 then (match r with
   | [] => (0, 61)
   | d :: r' => bif decide (Lib.indexByte escs (d.toNat : Int).toNat.toUInt8 < 0) then (0, 5) else let q := quoF n r'
    (q.1 + 2, q.2))
  else let q := quoF n r
   (q.1 + 1, q.2)
def quoS (s : List UInt8) : Nat × Int := let q := quoF s.length (s.drop 1)
 (q.1 + 1, q.2)
def twosL : List UInt8 := [61, 61, 32, 33, 61, 32, 60, 61, 32, 62, 61, 32, 38, 38, 32, 124, 124, 32]
def onesL : List UInt8 := [123, 125, 40, 41, 91, 93, 59, 44, 46, 61, 60, 62, 43, 45, 42, 47, 37, 33, 63]
def at8 (s : List UInt8) (i : Nat) : Int := ((s.getD i 0).toNat : Int)
def sgnS (s : List UInt8) : Nat × Int :=
 bif decide ((s.length : Int) > 1) && (Lib.contains twosL (s.take 2 ++ [32]) && (at8 s 0 != 32 && at8 s 1 != 32)) then (2, 0)
 else bif decide (Lib.indexByte onesL (at8 s 0).toNat.toUInt8 ≥ 0) then (1, 0) else (0, 60)
def oneS (s : List UInt8) : Int × Int × Nat :=
 bif isLet (at8 s 0) then
  let n := run8 isWrd s
  bif decide ((n : Int) > 64) then (0, 2, n) else (1, 0, n)
 else bif isDig (at8 s 0) then
  let n := run8 isDig s
  bif decide (((n : Int) + 1) < s.length) && (at8 s n == 46 && isDig (at8 s (n + 1))) then
   let m := n + 1 + run8 isDig (s.drop (n + 1))
   bif decide ((m : Int) > 20) then (0, 2, m) else (3, 0, m)
  else bif decide ((n : Int) > 20) then (0, 2, n) else (2, 0, n)
 else bif at8 s 0 == 34 then
  let q := quoS s
  bif q.2 == 0 && decide ((q.1 : Int) > 256) then (4, 2, q.1) else (4, q.2, q.1)
 else let q := sgnS s
  (5, q.2, q.1)
def rest8 (T : List UInt8) (a : Int) : List UInt8 := T.drop a.toNat
def whI (p : Int → Bool) (T : List UInt8) (a : Int) : Int := a + run8 p (rest8 T a)
def gapI (T : List UInt8) (a : Int) : Int := a + gapS (rest8 T a)
def quoI (T : List UInt8) (a : Int) : Int := a + (quoS (rest8 T a)).1
def quoE (T : List UInt8) (a : Int) : Int := (quoS (rest8 T a)).2
def sgnI (T : List UInt8) (a : Int) : Int := a + (sgnS (rest8 T a)).1
def sgnE (T : List UInt8) (a : Int) : Int := (sgnS (rest8 T a)).2
def oneI' (T : List UInt8) (a : Int) : Int := a + (oneS (rest8 T a)).2.2
def oneK (T : List UInt8) (a : Int) : Int := (oneS (rest8 T a)).1
def oneE (T : List UInt8) (a : Int) : Int := (oneS (rest8 T a)).2.1
def okA (T : List UInt8) (a : Int) : Bool := decide (0 ≤ a) && (decide (a ≤ T.length) && decide ((T.length : Int) ≤ 1099511627776))
def okA1 (T : List UInt8) (a : Int) : Bool := decide (0 ≤ a) && (decide (a < T.length) && decide ((T.length : Int) ≤ 1099511627776))
def rdC (f : Nat) (rs : Sig) (p : List UInt8 → Int → Bool) (F : List UInt8 → Int → Dens rs) (A : List UInt8 → Int → Int) : Intr := fun R args bs k => match args, bs with
 | [.ref 0 0], [.cells 86 [.str T, .int .i64 a, .own 1 0], .list 50 tK 0 false K] => (match castL tK tokTy K with
  | some K => (match p T a with
   | true => k (.ret (retC rs (F T a)), bsR1 T (A T a) K)
   | false => .err (3000000 + f))
  | none => .err f)
 | _, _ => .err f
def pOf (f : Nat) : Int → Bool := bif Nat.beq f 60 then isBlk else bif Nat.beq f 62 then isWrd else isDig
def whC : Intr := fun R args bs k => match args, bs with
 | [.ref 0 0, .fn f []], [.cells 86 [.str T, .int .i64 a, .own 1 0], .list 50 tK 0 false K] => (match castL tK tokTy K with
  | some K => (match (Nat.beq f 60 || (Nat.beq f 62 || Nat.beq f 63)) && okA T a with
   | true => k (.ret (.tup []), bsR1 T (whI (pOf f) T a) K)
   | false => .err 3000059)
  | none => .err 59)
 | _, _ => .err 59
abbrev sigSS : Sig := [(false, .str), (false, .str)]
abbrev sigSC : Sig := [(false, .str), (false, .int .u8)]
def hpX (x : Dens sigSS) : Dens sigB := (Lib.hasPrefix x.1 x.2.1, ())
def conX (x : Dens sigSS) : Dens sigB := (Lib.contains x.1 x.2.1, ())
def ibS (s : List UInt8) (c : Int) : Int := Lib.indexByte s c.toNat.toUInt8
def ibX (x : Dens sigSC) : Dens sigI := (ibS x.1 x.2.1, ())
def conB (s : List UInt8) : Bool := Nat.ble s.length 4000000000
def conP (x : Dens sigSS) : Bool := conB x.1
def libS : List (Nat × Intr) := [(12, specI 12 sigSS sigB (fun _ => true) hpX), (14, specI 14 sigSS sigB conP conX), (88, specI 88 sigSC sigI (fun _ => true) ibX)]
def lib36 : List (Nat × Intr) := (59, shiftP 59 whC) :: libS
def cut36 : List Cut := [⟨[false, false], some ⟨[(0, [])], [[], []]⟩⟩, ⟨[false, false, false, true, true, false, false], some ⟨[(0, [])], [[], []]⟩⟩]
def mkR (T : List UInt8) (a : Int) (K : List Tok) : St := { tmps := [(0, .ref 0 0)], blks := [(0, .cells 86 [.str T, .int .i64 a, .own 1 1]), (1, .list 50 tokTy 1 false K)], next := 2 }
def cut65 : List Cut := [⟨[true, true, false, true], some ⟨[(0, []), (3, []), (31, [])], [[], []]⟩⟩]
def mk65 (T : List UInt8) (a : Int) (K : List Tok) (s : List UInt8) (b : Bool) : St := { tmps := [(0, .ref 0 0), (3, .str s), (31, .bool b)], blks := [(0, .cells 86 [.str T, .int .i64 a, .own 1 1]), (1, .list 50 tokTy 1 false K)], next := 2 }
def cut64 : List Cut := [⟨[true, true, false, false, false], some ⟨[(0, [])], [[], []]⟩⟩]
end Go.Sx.Tryz
namespace Go.Sx.Tryz
open Go Go.Sx
set_option maxRecDepth 100000
theorem body60 (c : Int) : body (R := R0) E (tabI []) fi60 [.int .u8 c] [] .ok = bif c == 32 then Rs.ok (Out.ret (AV.bool true), []) else bif c == 9 then Rs.ok (Out.ret (AV.bool true), []) else bif c == 10 then Rs.ok (Out.ret (AV.bool true), []) else Rs.ok (Out.ret (AV.bool (c == 13)), []) := by kernel_rfl
theorem body61 (c : Int) : body (R := R0) E (tabI []) fi61 [.int .u8 c] [] .ok = bif decide (c ≥ 97) then bif decide (c ≤ 122) then Rs.ok (Out.ret (AV.bool true), []) else bif decide (c ≥ 65) then bif decide (c ≤ 90) then Rs.ok (Out.ret (AV.bool true), []) else Rs.ok (Out.ret (AV.bool (c == 95)), []) else Rs.ok (Out.ret (AV.bool (c == 95)), []) else bif decide (c ≥ 65) then bif decide (c ≤ 90) then Rs.ok (Out.ret (AV.bool true), []) else Rs.ok (Out.ret (AV.bool (c == 95)), []) else Rs.ok (Out.ret (AV.bool (c == 95)), []) := by kernel_rfl
theorem body63 (c : Int) : body (R := R0) E (tabI []) fi63 [.int .u8 c] [] .ok = bif decide (c ≥ 48) then Rs.ok (Out.ret (AV.bool (decide (c ≤ 57))), []) else Rs.ok (Out.ret (AV.bool false), []) := by kernel_rfl
theorem start59a (J : Jump R0) (T : List UInt8) (a : Int) (K : List Tok) : start E (tabI libB) fi59 cut59 J [.ref 0 0, .fn 60 []] (bsR T a K) .ok = J 0 { tmps := [(0, AV.ref 0 0), (1, AV.fn 60 [])], blks := [(0, Blk.cells 86 [AV.str T, Iz a, AV.own 1 1]), (1, Blk.list 50 tokTy 1 false K)], next := 2 } := by kernel_rfl
theorem loop59a (J : Jump R0) (T : List UInt8) (a : Int) (K : List Tok) : resume E (tabI libB) (cutsOf 2 cut59 0) J [false, false] fi59.code 1 (mk59 T a K 60) (finK E 2 fi59.results .ok) = bif decide (a < (↑(List.length T) : Int)) then bif inI a (List.length T) then bif isBlk (↑(UInt8.toNat (List.getD T (Int.toNat a) 0)) : Int) then J 0 { tmps := [(0, AV.ref 0 0), (1, AV.fn 60 [])], blks := [(0, Blk.cells 86 [AV.str T, Iz (IntKind.wrap IntKind.i64 (a + 1)), AV.own 1 1]), (1, Blk.list 50 tokTy 1 false K)], next := 2 } else Rs.ok (Out.ret (AV.tup []), [Blk.cells 86 [AV.str T, Iz a, AV.own 1 1], Blk.list 50 tokTy 1 false K]) else Rs.err 20 else Rs.ok (Out.ret (AV.tup []), [Blk.cells 86 [AV.str T, Iz a, AV.own 1 1], Blk.list 50 tokTy 1 false K]) := by kernel_rfl
theorem start59b (J : Jump R0) (T : List UInt8) (a : Int) (K : List Tok) : start E (tabI libB) fi59 cut59 J [.ref 0 0, .fn 62 []] (bsR T a K) .ok = J 0 { tmps := [(0, AV.ref 0 0), (1, AV.fn 62 [])], blks := [(0, Blk.cells 86 [AV.str T, Iz a, AV.own 1 1]), (1, Blk.list 50 tokTy 1 false K)], next := 2 } := by kernel_rfl
theorem loop59b (J : Jump R0) (T : List UInt8) (a : Int) (K : List Tok) : resume E (tabI libB) (cutsOf 2 cut59 0) J [false, false] fi59.code 1 (mk59 T a K 62) (finK E 2 fi59.results .ok) = bif decide (a < (↑(List.length T) : Int)) then bif inI a (List.length T) then bif isWrd (↑(UInt8.toNat (List.getD T (Int.toNat a) 0)) : Int) then J 0 { tmps := [(0, AV.ref 0 0), (1, AV.fn 62 [])], blks := [(0, Blk.cells 86 [AV.str T, Iz (IntKind.wrap IntKind.i64 (a + 1)), AV.own 1 1]), (1, Blk.list 50 tokTy 1 false K)], next := 2 } else Rs.ok (Out.ret (AV.tup []), [Blk.cells 86 [AV.str T, Iz a, AV.own 1 1], Blk.list 50 tokTy 1 false K]) else Rs.err 20 else Rs.ok (Out.ret (AV.tup []), [Blk.cells 86 [AV.str T, Iz a, AV.own 1 1], Blk.list 50 tokTy 1 false K]) := by kernel_rfl
theorem start59c (J : Jump R0) (T : List UInt8) (a : Int) (K : List Tok) : start E (tabI libB) fi59 cut59 J [.ref 0 0, .fn 63 []] (bsR T a K) .ok = J 0 { tmps := [(0, AV.ref 0 0), (1, AV.fn 63 [])], blks := [(0, Blk.cells 86 [AV.str T, Iz a, AV.own 1 1]), (1, Blk.list 50 tokTy 1 false K)], next := 2 } := by kernel_rfl
theorem loop59c (J : Jump R0) (T : List UInt8) (a : Int) (K : List Tok) : resume E (tabI libB) (cutsOf 2 cut59 0) J [false, false] fi59.code 1 (mk59 T a K 63) (finK E 2 fi59.results .ok) = bif decide (a < (↑(List.length T) : Int)) then bif inI a (List.length T) then bif isDig (↑(UInt8.toNat (List.getD T (Int.toNat a) 0)) : Int) then J 0 { tmps := [(0, AV.ref 0 0), (1, AV.fn 63 [])], blks := [(0, Blk.cells 86 [AV.str T, Iz (IntKind.wrap IntKind.i64 (a + 1)), AV.own 1 1]), (1, Blk.list 50 tokTy 1 false K)], next := 2 } else Rs.ok (Out.ret (AV.tup []), [Blk.cells 86 [AV.str T, Iz a, AV.own 1 1], Blk.list 50 tokTy 1 false K]) else Rs.err 20 else Rs.ok (Out.ret (AV.tup []), [Blk.cells 86 [AV.str T, Iz a, AV.own 1 1], Blk.list 50 tokTy 1 false K]) := by kernel_rfl
theorem start36 (J : Jump R0) (T : List UInt8) (a : Int) (K : List Tok) : start E (tabI lib36) fi36 cut36 J [.ref 0 0] (bsR T a K) .ok = J 0 { tmps := [(0, AV.ref 0 0)], blks := [(0, Blk.cells 86 [AV.str T, Iz a, AV.own 1 1]), (1, Blk.list 50 tokTy 1 false K)], next := 2 } := by kernel_rfl
theorem loop36a (J : Jump R0) (T : List UInt8) (a : Int) (K : List Tok) : resume E (tabI lib36) (cutsOf 2 cut36 0) J [false, false] fi36.code 1 (mkR T a K) (finK E 2 fi36.results .ok) = bif (Nat.beq 60 60 || (Nat.beq 60 62 || Nat.beq 60 63)) && okA T a then bif inB (whI (pOf 60) T a) (↑(List.length T) : Int) (List.length T) then bif !Lib.hasPrefix (List.drop (Int.toNat (whI (pOf 60) T a)) (List.take (Int.toNat (↑(List.length T) : Int)) T)) [47, 47] then Rs.ok (Out.ret (AV.tup []), [Blk.cells 86 [AV.str T, Iz (whI (pOf 60) T a), AV.own 1 2], Blk.list 50 tokTy 2 false K]) else J 1 { tmps := [(0, AV.ref 0 0)], blks := [(0, Blk.cells 86 [AV.str T, Iz (whI (pOf 60) T a), AV.own 1 1]), (1, Blk.list 50 tokTy 1 false K)], next := 2 } else Rs.err 108 else Rs.err 3000059 := by kernel_rfl
theorem loop36b (J : Jump R0) (T : List UInt8) (a : Int) (K : List Tok) : resume E (tabI lib36) (cutsOf 2 cut36 0) J [false, false, false, true, true, false, false] fi36.code 1 (mkR T a K) (finK E 2 fi36.results .ok) = bif decide (a < (↑(List.length T) : Int)) then bif inI a (List.length T) then bif (↑(UInt8.toNat (List.getD T (Int.toNat a) 0)) : Int) != 10 then J 1 { tmps := [(0, AV.ref 0 0)], blks := [(0, Blk.cells 86 [AV.str T, Iz (IntKind.wrap IntKind.i64 (a + 1)), AV.own 1 1]), (1, Blk.list 50 tokTy 1 false K)], next := 2 } else J 0 { tmps := [(0, AV.ref 0 0)], blks := [(0, Blk.cells 86 [AV.str T, Iz a, AV.own 1 1]), (1, Blk.list 50 tokTy 1 false K)], next := 2 } else Rs.err 219 else J 0 { tmps := [(0, AV.ref 0 0)], blks := [(0, Blk.cells 86 [AV.str T, Iz a, AV.own 1 1]), (1, Blk.list 50 tokTy 1 false K)], next := 2 } := by kernel_rfl
theorem start65 (J : Jump R0) (T : List UInt8) (a : Int) (K : List Tok) : start E (tabI libS) fi65 cut65 J [.ref 0 0] (bsR T a K) .ok = bif inB a (↑(List.length T) : Int) (List.length T) then bif decide ((↑(List.length (List.drop (Int.toNat a) (List.take (Int.toNat (↑(List.length T) : Int)) T))) : Int) > 1) then bif inB 0 2 (List.length (List.drop (Int.toNat a) (List.take (Int.toNat (↑(List.length T) : Int)) T))) then bif decide (List.length (List.drop (Int.toNat 0) (List.take (Int.toNat 2) (List.drop (Int.toNat a) (List.take (Int.toNat (↑(List.length T) : Int)) T)))) + List.length [32] < 2 ^ 62) then bif Lib.contains [61, 61, 32, 33, 61, 32, 60, 61, 32, 62, 61, 32, 38, 38, 32, 124, 124, 32] (List.drop (Int.toNat 0) (List.take (Int.toNat 2) (List.drop (Int.toNat a) (List.take (Int.toNat (↑(List.length T) : Int)) T))) ++ [32]) then bif inI 0 (List.length (List.drop (Int.toNat a) (List.take (Int.toNat (↑(List.length T) : Int)) T))) then bif (↑(UInt8.toNat (List.getD (List.drop (Int.toNat a) (List.take (Int.toNat (↑(List.length T) : Int)) T)) (Int.toNat 0) 0)) : Int) != 32 then bif inI 1 (List.length (List.drop (Int.toNat a) (List.take (Int.toNat (↑(List.length T) : Int)) T))) then J 0 { tmps := [(0, AV.ref 0 0), (3, AV.str (List.drop (Int.toNat a) (List.take (Int.toNat (↑(List.length T) : Int)) T))), (31, AV.bool ((↑(UInt8.toNat (List.getD (List.drop (Int.toNat a) (List.take (Int.toNat (↑(List.length T) : Int)) T)) (Int.toNat 1) 0)) : Int) != 32))], blks := [(0, Blk.cells 86 [AV.str T, Iz a, AV.own 1 1]), (1, Blk.list 50 tokTy 1 false K)], next := 2 } else Rs.err 216 else J 0 { tmps := [(0, AV.ref 0 0), (3, AV.str (List.drop (Int.toNat a) (List.take (Int.toNat (↑(List.length T) : Int)) T))), (31, AV.bool false)], blks := [(0, Blk.cells 86 [AV.str T, Iz a, AV.own 1 1]), (1, Blk.list 50 tokTy 1 false K)], next := 2 } else Rs.err 211 else J 0 { tmps := [(0, AV.ref 0 0), (3, AV.str (List.drop (Int.toNat a) (List.take (Int.toNat (↑(List.length T) : Int)) T))), (31, AV.bool false)], blks := [(0, Blk.cells 86 [AV.str T, Iz a, AV.own 1 1]), (1, Blk.list 50 tokTy 1 false K)], next := 2 } else Rs.err 206 else Rs.err 205 else J 0 { tmps := [(0, AV.ref 0 0), (3, AV.str (List.drop (Int.toNat a) (List.take (Int.toNat (↑(List.length T) : Int)) T))), (31, AV.bool false)], blks := [(0, Blk.cells 86 [AV.str T, Iz a, AV.own 1 1]), (1, Blk.list 50 tokTy 1 false K)], next := 2 } else Rs.err 108 := by kernel_rfl
theorem piece65 (J : Jump R0) (T : List UInt8) (a : Int) (K : List Tok) (s : List UInt8) (b : Bool) : resume E (tabI libS) (cutsOf 2 cut65 0) J [true, true, false, true] fi65.code 1 (mk65 T a K s b) (finK E 2 fi65.results .ok) = bif b then Rs.ok (Out.ret (Iz 0), [Blk.cells 86 [AV.str T, Iz (IntKind.wrap IntKind.i64 (a + 2)), AV.own 1 1], Blk.list 50 tokTy 1 false K]) else bif inI 0 (List.length s) then bif decide (ibS [123, 125, 40, 41, 91, 93, 59, 44, 46, 61, 60, 62, 43, 45, 42, 47, 37, 33, 63] (↑(UInt8.toNat (List.getD s (Int.toNat 0) 0)) : Int) ≥ 0) then Rs.ok (Out.ret (Iz 0), [Blk.cells 86 [AV.str T, Iz (IntKind.wrap IntKind.i64 (a + 1)), AV.own 1 1], Blk.list 50 tokTy 1 false K]) else Rs.ok (Out.ret (Iz (Int.ofNat 60)), [Blk.cells 86 [AV.str T, Iz a, AV.own 1 1], Blk.list 50 tokTy 1 false K]) else Rs.err 501 := by kernel_rfl
theorem start64 (J : Jump R0) (T : List UInt8) (a : Int) (K : List Tok) : start E (tabI libS) fi64 cut64 J [.ref 0 0] (bsR T a K) .ok = J 0 { tmps := [(0, AV.ref 0 0)], blks := [(0, Blk.cells 86 [AV.str T, Iz (IntKind.wrap IntKind.i64 (a + 1)), AV.own 1 1]), (1, Blk.list 50 tokTy 1 false K)], next := 2 } := by kernel_rfl
theorem loop64 (J : Jump R0) (T : List UInt8) (a : Int) (K : List Tok) : resume E (tabI libS) (cutsOf 2 cut64 0) J [true, true, false, false, false] fi64.code 1 (mkR T a K) (finK E 2 fi64.results .ok) = bif decide (a < (↑(List.length T) : Int)) then bif inI a (List.length T) then bif (↑(UInt8.toNat (List.getD T (Int.toNat a) 0)) : Int) == 34 then Rs.ok (Out.ret (Iz 0), [Blk.cells 86 [AV.str T, Iz (IntKind.wrap IntKind.i64 (a + 1)), AV.own 1 1], Blk.list 50 tokTy 1 false K]) else bif (↑(UInt8.toNat (List.getD T (Int.toNat a) 0)) : Int) == 10 then Rs.ok (Out.ret (Iz (Int.ofNat 61)), [Blk.cells 86 [AV.str T, Iz a, AV.own 1 1], Blk.list 50 tokTy 1 false K]) else bif decide ((↑(UInt8.toNat (List.getD T (Int.toNat a) 0)) : Int) < 32) then Rs.ok (Out.ret (Iz (Int.ofNat 60)), [Blk.cells 86 [AV.str T, Iz a, AV.own 1 1], Blk.list 50 tokTy 1 false K]) else bif decide ((↑(UInt8.toNat (List.getD T (Int.toNat a) 0)) : Int) > 126) then Rs.ok (Out.ret (Iz (Int.ofNat 60)), [Blk.cells 86 [AV.str T, Iz a, AV.own 1 1], Blk.list 50 tokTy 1 false K]) else bif (↑(UInt8.toNat (List.getD T (Int.toNat a) 0)) : Int) == 92 then bif decide (IntKind.wrap IntKind.i64 (a + 1) ≥ (↑(List.length T) : Int)) then Rs.ok (Out.ret (Iz (Int.ofNat 61)), [Blk.cells 86 [AV.str T, Iz a, AV.own 1 1], Blk.list 50 tokTy 1 false K]) else bif inI (IntKind.wrap IntKind.i64 (a + 1)) (List.length T) then bif decide (ibS [34, 92, 110, 116] (↑(UInt8.toNat (List.getD T (Int.toNat (IntKind.wrap IntKind.i64 (a + 1))) 0)) : Int) < 0) then Rs.ok (Out.ret (Iz (Int.ofNat 5)), [Blk.cells 86 [AV.str T, Iz a, AV.own 1 1], Blk.list 50 tokTy 1 false K]) else J 0 { tmps := [(0, AV.ref 0 0)], blks := [(0, Blk.cells 86 [AV.str T, Iz (IntKind.wrap IntKind.i64 (IntKind.wrap IntKind.i64 (a + 1) + 1)), AV.own 1 1]), (1, Blk.list 50 tokTy 1 false K)], next := 2 } else Rs.err 1409 else J 0 { tmps := [(0, AV.ref 0 0)], blks := [(0, Blk.cells 86 [AV.str T, Iz (IntKind.wrap IntKind.i64 (a + 1)), AV.own 1 1]), (1, Blk.list 50 tokTy 1 false K)], next := 2 } else Rs.err 308 else Rs.ok (Out.ret (Iz (Int.ofNat 61)), [Blk.cells 86 [AV.str T, Iz a, AV.own 1 1], Blk.list 50 tokTy 1 false K]) := by kernel_rfl
end Go.Sx.Tryz
