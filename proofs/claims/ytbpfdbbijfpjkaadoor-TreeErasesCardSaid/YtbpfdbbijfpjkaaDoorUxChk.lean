/- A part of the proof: see the row's text. -/
import Derived.Test.YtbpfdbbijfpjkaaDoorUxEnv
import Derived.Test.YtbpfdbbijfpjkaaDoorUxN
import Derived.KernelRfl
set_option linter.unusedVariables false
set_option linter.unusedSimpArgs false
namespace Go.Sx
open Go
def TChk (P : Program) (i : Nat) (l : List (Option TI)) : Prop := ∀ j ti, nth l j = some (some ti) → mkTI P (i + j) ti.ty = some ti
theorem TChk.nil {P : Program} {i : Nat} : TChk P i [] := fun j ti h => by cases j <;> cases h
theorem TChk.none {P : Program} {i : Nat} {l : List (Option TI)} (h : TChk P (i + 1) l) : TChk P i (Option.none :: l) := fun j ti hj => by
  cases j with
  | zero => cases hj
  | succ j => have := h j ti hj; rwa [show i + (j + 1) = i + 1 + j by omega]
theorem TChk.some {P : Program} {i : Nat} {x : TI} {l : List (Option TI)} (hx : mkTI P i x.ty = Option.some x) (h : TChk P (i + 1) l) : TChk P i (Option.some x :: l) := fun j ti hj => by
  cases j with
  | zero => cases hj; exact hx
  | succ j => have := h j ti hj; rwa [show i + (j + 1) = i + 1 + j by omega]
def FChk (P : Program) (i : Nat) (l : List (Option FI)) : Prop := ∀ j fi, nth l j = some (some fi) → FIOK P (i + j) fi
theorem FChk.nil {P : Program} {i : Nat} : FChk P i [] := fun j ti h => by cases j <;> cases h
theorem FChk.none {P : Program} {i : Nat} {l : List (Option FI)} (h : FChk P (i + 1) l) : FChk P i (Option.none :: l) := fun j ti hj => by
  cases j with
  | zero => cases hj
  | succ j => have := h j ti hj; rwa [show i + (j + 1) = i + 1 + j by omega]
theorem FChk.some {P : Program} {i : Nat} {x : FI} {l : List (Option FI)} (hx : FIOK P i x) (h : FChk P (i + 1) l) : FChk P i (Option.some x :: l) := fun j ti hj => by
  cases j with
  | zero => cases hj; exact hx
  | succ j => have := h j ti hj; rwa [show i + (j + 1) = i + 1 + j by omega]
end Go.Sx
namespace Go.Sx.Tryd
open Go Go.Sx Go.Proofs
set_option maxRecDepth 100000
theorem tc0 : mkTI Tryd.prog 0 ti0.ty = some ti0 := by kernel_rfl
theorem tc1 : mkTI Tryd.prog 1 ti1.ty = some ti1 := by kernel_rfl
theorem tc2 : mkTI Tryd.prog 2 ti2.ty = some ti2 := by kernel_rfl
theorem tc3 : mkTI Tryd.prog 3 ti3.ty = some ti3 := by kernel_rfl
theorem tc4 : mkTI Tryd.prog 4 ti4.ty = some ti4 := by kernel_rfl
theorem tc5 : mkTI Tryd.prog 5 ti5.ty = some ti5 := by kernel_rfl
theorem tc6 : mkTI Tryd.prog 6 ti6.ty = some ti6 := by kernel_rfl
theorem tc7 : mkTI Tryd.prog 7 ti7.ty = some ti7 := by kernel_rfl
theorem tc8 : mkTI Tryd.prog 8 ti8.ty = some ti8 := by kernel_rfl
theorem tc9 : mkTI Tryd.prog 9 ti9.ty = some ti9 := by kernel_rfl
theorem tc10 : mkTI Tryd.prog 10 ti10.ty = some ti10 := by kernel_rfl
theorem tc11 : mkTI Tryd.prog 11 ti11.ty = some ti11 := by kernel_rfl
theorem tc12 : mkTI Tryd.prog 12 ti12.ty = some ti12 := by kernel_rfl
theorem tc15 : mkTI Tryd.prog 15 ti15.ty = some ti15 := by kernel_rfl
theorem tc16 : mkTI Tryd.prog 16 ti16.ty = some ti16 := by kernel_rfl
theorem tc17 : mkTI Tryd.prog 17 ti17.ty = some ti17 := by kernel_rfl
theorem tc20 : mkTI Tryd.prog 20 ti20.ty = some ti20 := by kernel_rfl
theorem tc21 : mkTI Tryd.prog 21 ti21.ty = some ti21 := by kernel_rfl
theorem tc22 : mkTI Tryd.prog 22 ti22.ty = some ti22 := by kernel_rfl
theorem tc23 : mkTI Tryd.prog 23 ti23.ty = some ti23 := by kernel_rfl
theorem tc24 : mkTI Tryd.prog 24 ti24.ty = some ti24 := by kernel_rfl
theorem tc25 : mkTI Tryd.prog 25 ti25.ty = some ti25 := by kernel_rfl
theorem tc26 : mkTI Tryd.prog 26 ti26.ty = some ti26 := by kernel_rfl
theorem tc27 : mkTI Tryd.prog 27 ti27.ty = some ti27 := by kernel_rfl
theorem tc28 : mkTI Tryd.prog 28 ti28.ty = some ti28 := by kernel_rfl
theorem tc29 : mkTI Tryd.prog 29 ti29.ty = some ti29 := by kernel_rfl
theorem tc30 : mkTI Tryd.prog 30 ti30.ty = some ti30 := by kernel_rfl
theorem tc31 : mkTI Tryd.prog 31 ti31.ty = some ti31 := by kernel_rfl
theorem tc32 : mkTI Tryd.prog 32 ti32.ty = some ti32 := by kernel_rfl
theorem tc33 : mkTI Tryd.prog 33 ti33.ty = some ti33 := by kernel_rfl
theorem tc34 : mkTI Tryd.prog 34 ti34.ty = some ti34 := by kernel_rfl
theorem tc35 : mkTI Tryd.prog 35 ti35.ty = some ti35 := by kernel_rfl
theorem tc36 : mkTI Tryd.prog 36 ti36.ty = some ti36 := by kernel_rfl
theorem tc37 : mkTI Tryd.prog 37 ti37.ty = some ti37 := by kernel_rfl
theorem tc38 : mkTI Tryd.prog 38 ti38.ty = some ti38 := by kernel_rfl
theorem tc39 : mkTI Tryd.prog 39 ti39.ty = some ti39 := by kernel_rfl
theorem tc40 : mkTI Tryd.prog 40 ti40.ty = some ti40 := by kernel_rfl
theorem tc41 : mkTI Tryd.prog 41 ti41.ty = some ti41 := by kernel_rfl
theorem tc42 : mkTI Tryd.prog 42 ti42.ty = some ti42 := by kernel_rfl
theorem tc43 : mkTI Tryd.prog 43 ti43.ty = some ti43 := by kernel_rfl
theorem tc44 : mkTI Tryd.prog 44 ti44.ty = some ti44 := by kernel_rfl
theorem tc45 : mkTI Tryd.prog 45 ti45.ty = some ti45 := by kernel_rfl
theorem tc46 : mkTI Tryd.prog 46 ti46.ty = some ti46 := by kernel_rfl
theorem tc47 : mkTI Tryd.prog 47 ti47.ty = some ti47 := by kernel_rfl
theorem tc48 : mkTI Tryd.prog 48 ti48.ty = some ti48 := by kernel_rfl
theorem tc49 : mkTI Tryd.prog 49 ti49.ty = some ti49 := by kernel_rfl
theorem tc50 : mkTI Tryd.prog 50 ti50.ty = some ti50 := by kernel_rfl
theorem tc51 : mkTI Tryd.prog 51 ti51.ty = some ti51 := by kernel_rfl
theorem tc52 : mkTI Tryd.prog 52 ti52.ty = some ti52 := by kernel_rfl
theorem tc53 : mkTI Tryd.prog 53 ti53.ty = some ti53 := by kernel_rfl
theorem tc54 : mkTI Tryd.prog 54 ti54.ty = some ti54 := by kernel_rfl
theorem tc55 : mkTI Tryd.prog 55 ti55.ty = some ti55 := by kernel_rfl
theorem tc56 : mkTI Tryd.prog 56 ti56.ty = some ti56 := by kernel_rfl
theorem tc57 : mkTI Tryd.prog 57 ti57.ty = some ti57 := by kernel_rfl
theorem tc58 : mkTI Tryd.prog 58 ti58.ty = some ti58 := by kernel_rfl
theorem tc59 : mkTI Tryd.prog 59 ti59.ty = some ti59 := by kernel_rfl
theorem tc60 : mkTI Tryd.prog 60 ti60.ty = some ti60 := by kernel_rfl
theorem tc61 : mkTI Tryd.prog 61 ti61.ty = some ti61 := by kernel_rfl
theorem tc62 : mkTI Tryd.prog 62 ti62.ty = some ti62 := by kernel_rfl
theorem tc63 : mkTI Tryd.prog 63 ti63.ty = some ti63 := by kernel_rfl
theorem tc64 : mkTI Tryd.prog 64 ti64.ty = some ti64 := by kernel_rfl
theorem tc65 : mkTI Tryd.prog 65 ti65.ty = some ti65 := by kernel_rfl
theorem tc66 : mkTI Tryd.prog 66 ti66.ty = some ti66 := by kernel_rfl
theorem tc67 : mkTI Tryd.prog 67 ti67.ty = some ti67 := by kernel_rfl
theorem tc68 : mkTI Tryd.prog 68 ti68.ty = some ti68 := by kernel_rfl
theorem tc69 : mkTI Tryd.prog 69 ti69.ty = some ti69 := by kernel_rfl
theorem tc70 : mkTI Tryd.prog 70 ti70.ty = some ti70 := by kernel_rfl
theorem tc71 : mkTI Tryd.prog 71 ti71.ty = some ti71 := by kernel_rfl
theorem tc72 : mkTI Tryd.prog 72 ti72.ty = some ti72 := by kernel_rfl
theorem tc73 : mkTI Tryd.prog 73 ti73.ty = some ti73 := by kernel_rfl
theorem tc74 : mkTI Tryd.prog 74 ti74.ty = some ti74 := by kernel_rfl
theorem tc75 : mkTI Tryd.prog 75 ti75.ty = some ti75 := by kernel_rfl
theorem tc76 : mkTI Tryd.prog 76 ti76.ty = some ti76 := by kernel_rfl
theorem tc77 : mkTI Tryd.prog 77 ti77.ty = some ti77 := by kernel_rfl
theorem tc78 : mkTI Tryd.prog 78 ti78.ty = some ti78 := by kernel_rfl
theorem tc79 : mkTI Tryd.prog 79 ti79.ty = some ti79 := by kernel_rfl
theorem tc80 : mkTI Tryd.prog 80 ti80.ty = some ti80 := by kernel_rfl
theorem tc81 : mkTI Tryd.prog 81 ti81.ty = some ti81 := by kernel_rfl
theorem tc82 : mkTI Tryd.prog 82 ti82.ty = some ti82 := by kernel_rfl
theorem tc83 : mkTI Tryd.prog 83 ti83.ty = some ti83 := by kernel_rfl
theorem tc84 : mkTI Tryd.prog 84 ti84.ty = some ti84 := by kernel_rfl
theorem tc85 : mkTI Tryd.prog 85 ti85.ty = some ti85 := by kernel_rfl
theorem tc86 : mkTI Tryd.prog 86 ti86.ty = some ti86 := by kernel_rfl
theorem tc87 : mkTI Tryd.prog 87 ti87.ty = some ti87 := by kernel_rfl
theorem tc88 : mkTI Tryd.prog 88 ti88.ty = some ti88 := by kernel_rfl
theorem tc89 : mkTI Tryd.prog 89 ti89.ty = some ti89 := by kernel_rfl
theorem tc92 : mkTI Tryd.prog 92 ti92.ty = some ti92 := by kernel_rfl
theorem tc93 : mkTI Tryd.prog 93 ti93.ty = some ti93 := by kernel_rfl
theorem tc94 : mkTI Tryd.prog 94 ti94.ty = some ti94 := by kernel_rfl
theorem tc95 : mkTI Tryd.prog 95 ti95.ty = some ti95 := by kernel_rfl
theorem tc96 : mkTI Tryd.prog 96 ti96.ty = some ti96 := by kernel_rfl
theorem tc97 : mkTI Tryd.prog 97 ti97.ty = some ti97 := by kernel_rfl
theorem tc98 : mkTI Tryd.prog 98 ti98.ty = some ti98 := by kernel_rfl
theorem tc99 : mkTI Tryd.prog 99 ti99.ty = some ti99 := by kernel_rfl
theorem tc100 : mkTI Tryd.prog 100 ti100.ty = some ti100 := by kernel_rfl
theorem tc101 : mkTI Tryd.prog 101 ti101.ty = some ti101 := by kernel_rfl
theorem tc102 : mkTI Tryd.prog 102 ti102.ty = some ti102 := by kernel_rfl
theorem tc103 : mkTI Tryd.prog 103 ti103.ty = some ti103 := by kernel_rfl
theorem tc104 : mkTI Tryd.prog 104 ti104.ty = some ti104 := by kernel_rfl
theorem tc105 : mkTI Tryd.prog 105 ti105.ty = some ti105 := by kernel_rfl
theorem tc106 : mkTI Tryd.prog 106 ti106.ty = some ti106 := by kernel_rfl
theorem tc107 : mkTI Tryd.prog 107 ti107.ty = some ti107 := by kernel_rfl
theorem tc108 : mkTI Tryd.prog 108 ti108.ty = some ti108 := by kernel_rfl
theorem tc109 : mkTI Tryd.prog 109 ti109.ty = some ti109 := by kernel_rfl
theorem tc110 : mkTI Tryd.prog 110 ti110.ty = some ti110 := by kernel_rfl
theorem tc111 : mkTI Tryd.prog 111 ti111.ty = some ti111 := by kernel_rfl
theorem tc112 : mkTI Tryd.prog 112 ti112.ty = some ti112 := by kernel_rfl
theorem tc114 : mkTI Tryd.prog 114 ti114.ty = some ti114 := by kernel_rfl
theorem tc115 : mkTI Tryd.prog 115 ti115.ty = some ti115 := by kernel_rfl
theorem tc116 : mkTI Tryd.prog 116 ti116.ty = some ti116 := by kernel_rfl
theorem tc117 : mkTI Tryd.prog 117 ti117.ty = some ti117 := by kernel_rfl
theorem tc118 : mkTI Tryd.prog 118 ti118.ty = some ti118 := by kernel_rfl
theorem tc120 : mkTI Tryd.prog 120 ti120.ty = some ti120 := by kernel_rfl
theorem tc121 : mkTI Tryd.prog 121 ti121.ty = some ti121 := by kernel_rfl
theorem tc122 : mkTI Tryd.prog 122 ti122.ty = some ti122 := by kernel_rfl
theorem tc123 : mkTI Tryd.prog 123 ti123.ty = some ti123 := by kernel_rfl
theorem tc124 : mkTI Tryd.prog 124 ti124.ty = some ti124 := by kernel_rfl
theorem tc125 : mkTI Tryd.prog 125 ti125.ty = some ti125 := by kernel_rfl
theorem tc126 : mkTI Tryd.prog 126 ti126.ty = some ti126 := by kernel_rfl
theorem tc127 : mkTI Tryd.prog 127 ti127.ty = some ti127 := by kernel_rfl
theorem tc128 : mkTI Tryd.prog 128 ti128.ty = some ti128 := by kernel_rfl
theorem tc129 : mkTI Tryd.prog 129 ti129.ty = some ti129 := by kernel_rfl
theorem tc131 : mkTI Tryd.prog 131 ti131.ty = some ti131 := by kernel_rfl
theorem tc132 : mkTI Tryd.prog 132 ti132.ty = some ti132 := by kernel_rfl
theorem tc133 : mkTI Tryd.prog 133 ti133.ty = some ti133 := by kernel_rfl
theorem tc134 : mkTI Tryd.prog 134 ti134.ty = some ti134 := by kernel_rfl
theorem tc135 : mkTI Tryd.prog 135 ti135.ty = some ti135 := by kernel_rfl
theorem tc136 : mkTI Tryd.prog 136 ti136.ty = some ti136 := by kernel_rfl
theorem tc137 : mkTI Tryd.prog 137 ti137.ty = some ti137 := by kernel_rfl
theorem tc138 : mkTI Tryd.prog 138 ti138.ty = some ti138 := by kernel_rfl
theorem tc139 : mkTI Tryd.prog 139 ti139.ty = some ti139 := by kernel_rfl
theorem tc140 : mkTI Tryd.prog 140 ti140.ty = some ti140 := by kernel_rfl
theorem tc141 : mkTI Tryd.prog 141 ti141.ty = some ti141 := by kernel_rfl
theorem tc142 : mkTI Tryd.prog 142 ti142.ty = some ti142 := by kernel_rfl
theorem tc145 : mkTI Tryd.prog 145 ti145.ty = some ti145 := by kernel_rfl
theorem tc148 : mkTI Tryd.prog 148 ti148.ty = some ti148 := by kernel_rfl
theorem tc149 : mkTI Tryd.prog 149 ti149.ty = some ti149 := by kernel_rfl
theorem tc150 : mkTI Tryd.prog 150 ti150.ty = some ti150 := by kernel_rfl
theorem tc151 : mkTI Tryd.prog 151 ti151.ty = some ti151 := by kernel_rfl
theorem tc152 : mkTI Tryd.prog 152 ti152.ty = some ti152 := by kernel_rfl
theorem tchk : TChk Tryd.prog 0 tis :=
  (.some tc0 (.some tc1 (.some tc2 (.some tc3 (.some tc4 (.some tc5 (.some tc6 (.some tc7 (.some tc8 (.some tc9 (.some tc10 (.some tc11 (.some tc12 (.none (.none (.some tc15 (.some tc16 (.some tc17 (.none (.none (.some tc20 (.some tc21 (.some tc22 (.some tc23 (.some tc24 (.some tc25 (.some tc26 (.some tc27 (.some tc28 (.some tc29 (.some tc30 (.some tc31 (.some tc32 (.some tc33 (.some tc34 (.some tc35 (.some tc36 (.some tc37 (.some tc38 (.some tc39 (.some tc40 (.some tc41 (.some tc42 (.some tc43 (.some tc44 (.some tc45 (.some tc46 (.some tc47 (.some tc48 (.some tc49 (.some tc50 (.some tc51 (.some tc52 (.some tc53 (.some tc54 (.some tc55 (.some tc56 (.some tc57 (.some tc58 (.some tc59 (.some tc60 (.some tc61 (.some tc62 (.some tc63 (.some tc64 (.some tc65 (.some tc66 (.some tc67 (.some tc68 (.some tc69 (.some tc70 (.some tc71 (.some tc72 (.some tc73 (.some tc74 (.some tc75 (.some tc76 (.some tc77 (.some tc78 (.some tc79 (.some tc80 (.some tc81 (.some tc82 (.some tc83 (.some tc84 (.some tc85 (.some tc86 (.some tc87 (.some tc88 (.some tc89 (.none (.none (.some tc92 (.some tc93 (.some tc94 (.some tc95 (.some tc96 (.some tc97 (.some tc98 (.some tc99 (.some tc100 (.some tc101 (.some tc102 (.some tc103 (.some tc104 (.some tc105 (.some tc106 (.some tc107 (.some tc108 (.some tc109 (.some tc110 (.some tc111 (.some tc112 (.none (.some tc114 (.some tc115 (.some tc116 (.some tc117 (.some tc118 (.none (.some tc120 (.some tc121 (.some tc122 (.some tc123 (.some tc124 (.some tc125 (.some tc126 (.some tc127 (.some tc128 (.some tc129 (.none (.some tc131 (.some tc132 (.some tc133 (.some tc134 (.some tc135 (.some tc136 (.some tc137 (.some tc138 (.some tc139 (.some tc140 (.some tc141 (.some tc142 (.none (.none (.some tc145 (.none (.none (.some tc148 (.some tc149 (.some tc150 (.some tc151 (.some tc152 (.none (.none .nil)))))))))))))))))))))))))))))))))))))))))))))))))))))))))))))))))))))))))))))))))))))))))))))))))))))))))))))))))))))))))))))))))))))))))))))))))))))))))))
theorem fc3 : FIOK Tryd.prog 3 fi3 := ⟨⟨Tryd.f3, Tryd.func3, rfl, rfl, rfl, by kernel_rfl⟩, by kernel_rfl⟩
theorem fc4 : FIOK Tryd.prog 4 fi4 := ⟨⟨Tryd.f4, Tryd.func4, rfl, rfl, rfl, by kernel_rfl⟩, by kernel_rfl⟩
theorem fc5 : FIOK Tryd.prog 5 fi5 := ⟨⟨Tryd.f5, Tryd.func5, rfl, rfl, rfl, by kernel_rfl⟩, by kernel_rfl⟩
theorem fc6 : FIOK Tryd.prog 6 fi6 := ⟨⟨Tryd.f6, Tryd.func6, rfl, rfl, rfl, by kernel_rfl⟩, by kernel_rfl⟩
theorem fc7 : FIOK Tryd.prog 7 fi7 := ⟨⟨Tryd.f7, Tryd.func7, rfl, rfl, rfl, by kernel_rfl⟩, by kernel_rfl⟩
theorem fc8 : FIOK Tryd.prog 8 fi8 := ⟨⟨Tryd.f8, Tryd.func8, rfl, rfl, rfl, by kernel_rfl⟩, by kernel_rfl⟩
theorem fc9 : FIOK Tryd.prog 9 fi9 := ⟨⟨Tryd.f9, Tryd.func9, rfl, rfl, rfl, by kernel_rfl⟩, by kernel_rfl⟩
theorem fc10 : FIOK Tryd.prog 10 fi10 := ⟨⟨Tryd.f10, Tryd.func10, rfl, rfl, rfl, by kernel_rfl⟩, by kernel_rfl⟩
theorem fc11 : FIOK Tryd.prog 11 fi11 := ⟨⟨Tryd.f11, Tryd.func11, rfl, rfl, rfl, by kernel_rfl⟩, by kernel_rfl⟩
theorem fc12 : FIOK Tryd.prog 12 fi12 := ⟨⟨Tryd.f12, Tryd.func12, rfl, rfl, rfl, by kernel_rfl⟩, by kernel_rfl⟩
theorem fc13 : FIOK Tryd.prog 13 fi13 := ⟨⟨Tryd.f13, Tryd.func13, rfl, rfl, rfl, by kernel_rfl⟩, by kernel_rfl⟩
theorem fc14 : FIOK Tryd.prog 14 fi14 := ⟨⟨Tryd.f14, Tryd.func14, rfl, rfl, rfl, by kernel_rfl⟩, by kernel_rfl⟩
theorem fc15 : FIOK Tryd.prog 15 fi15 := ⟨⟨Tryd.f15, Tryd.func15, rfl, rfl, rfl, by kernel_rfl⟩, by kernel_rfl⟩
theorem fc16 : FIOK Tryd.prog 16 fi16 := ⟨⟨Tryd.f16, Tryd.func16, rfl, rfl, rfl, by kernel_rfl⟩, by kernel_rfl⟩
theorem fc17 : FIOK Tryd.prog 17 fi17 := ⟨⟨Tryd.f17, Tryd.func17, rfl, rfl, rfl, by kernel_rfl⟩, by kernel_rfl⟩
theorem fc18 : FIOK Tryd.prog 18 fi18 := ⟨⟨Tryd.f18, Tryd.func18, rfl, rfl, rfl, by kernel_rfl⟩, by kernel_rfl⟩
theorem fc19 : FIOK Tryd.prog 19 fi19 := ⟨⟨Tryd.f19, Tryd.func19, rfl, rfl, rfl, by kernel_rfl⟩, by kernel_rfl⟩
theorem fc20 : FIOK Tryd.prog 20 fi20 := ⟨⟨Tryd.f20, Tryd.func20, rfl, rfl, rfl, by kernel_rfl⟩, by kernel_rfl⟩
theorem fc21 : FIOK Tryd.prog 21 fi21 := ⟨⟨Tryd.f21, Tryd.func21, rfl, rfl, rfl, by kernel_rfl⟩, by kernel_rfl⟩
theorem fc22 : FIOK Tryd.prog 22 fi22 := ⟨⟨Tryd.f22, Tryd.func22, rfl, rfl, rfl, by kernel_rfl⟩, by kernel_rfl⟩
theorem fc23 : FIOK Tryd.prog 23 fi23 := ⟨⟨Tryd.f23, Tryd.func23, rfl, rfl, rfl, by kernel_rfl⟩, by kernel_rfl⟩
theorem fc24 : FIOK Tryd.prog 24 fi24 := ⟨⟨Tryd.f24, Tryd.func24, rfl, rfl, rfl, by kernel_rfl⟩, by kernel_rfl⟩
theorem fc25 : FIOK Tryd.prog 25 fi25 := ⟨⟨Tryd.f25, Tryd.func25, rfl, rfl, rfl, by kernel_rfl⟩, by kernel_rfl⟩
theorem fc26 : FIOK Tryd.prog 26 fi26 := ⟨⟨Tryd.f26, Tryd.func26, rfl, rfl, rfl, by kernel_rfl⟩, by kernel_rfl⟩
theorem fc27 : FIOK Tryd.prog 27 fi27 := ⟨⟨Tryd.f27, Tryd.func27, rfl, rfl, rfl, by kernel_rfl⟩, by kernel_rfl⟩
theorem fc28 : FIOK Tryd.prog 28 fi28 := ⟨⟨Tryd.f28, Tryd.func28, rfl, rfl, rfl, by kernel_rfl⟩, by kernel_rfl⟩
theorem fc29 : FIOK Tryd.prog 29 fi29 := ⟨⟨Tryd.f29, Tryd.func29, rfl, rfl, rfl, by kernel_rfl⟩, by kernel_rfl⟩
theorem fc30 : FIOK Tryd.prog 30 fi30 := ⟨⟨Tryd.f30, Tryd.func30, rfl, rfl, rfl, by kernel_rfl⟩, by kernel_rfl⟩
theorem fc31 : FIOK Tryd.prog 31 fi31 := ⟨⟨Tryd.f31, Tryd.func31, rfl, rfl, rfl, by kernel_rfl⟩, by kernel_rfl⟩
theorem fc32 : FIOK Tryd.prog 32 fi32 := ⟨⟨Tryd.f32, Tryd.func32, rfl, rfl, rfl, by kernel_rfl⟩, by kernel_rfl⟩
theorem fc33 : FIOK Tryd.prog 33 fi33 := ⟨⟨Tryd.f33, Tryd.func33, rfl, rfl, rfl, by kernel_rfl⟩, by kernel_rfl⟩
theorem fc34 : FIOK Tryd.prog 34 fi34 := ⟨⟨Tryd.f34, Tryd.func34, rfl, rfl, rfl, by kernel_rfl⟩, by kernel_rfl⟩
theorem fc35 : FIOK Tryd.prog 35 fi35 := ⟨⟨Tryd.f35, Tryd.func35, rfl, rfl, rfl, by kernel_rfl⟩, by kernel_rfl⟩
theorem fc36 : FIOK Tryd.prog 36 fi36 := ⟨⟨Tryd.f36, Tryd.func36, rfl, rfl, rfl, by kernel_rfl⟩, by kernel_rfl⟩
theorem fc37 : FIOK Tryd.prog 37 fi37 := ⟨⟨Tryd.f37, Tryd.func37, rfl, rfl, rfl, by kernel_rfl⟩, by kernel_rfl⟩
theorem fc38 : FIOK Tryd.prog 38 fi38 := ⟨⟨Tryd.f38, Tryd.func38, rfl, rfl, rfl, by kernel_rfl⟩, by kernel_rfl⟩
theorem fc39 : FIOK Tryd.prog 39 fi39 := ⟨⟨Tryd.f39, Tryd.func39, rfl, rfl, rfl, by kernel_rfl⟩, by kernel_rfl⟩
theorem fc40 : FIOK Tryd.prog 40 fi40 := ⟨⟨Tryd.f40, Tryd.func40, rfl, rfl, rfl, by kernel_rfl⟩, by kernel_rfl⟩
theorem fc41 : FIOK Tryd.prog 41 fi41 := ⟨⟨Tryd.f41, Tryd.func41, rfl, rfl, rfl, by kernel_rfl⟩, by kernel_rfl⟩
theorem fc42 : FIOK Tryd.prog 42 fi42 := ⟨⟨Tryd.f42, Tryd.func42, rfl, rfl, rfl, by kernel_rfl⟩, by kernel_rfl⟩
theorem fc43 : FIOK Tryd.prog 43 fi43 := ⟨⟨Tryd.f43, Tryd.func43, rfl, rfl, rfl, by kernel_rfl⟩, by kernel_rfl⟩
theorem fc44 : FIOK Tryd.prog 44 fi44 := ⟨⟨Tryd.f44, Tryd.func44, rfl, rfl, rfl, by kernel_rfl⟩, by kernel_rfl⟩
theorem fc45 : FIOK Tryd.prog 45 fi45 := ⟨⟨Tryd.f45, Tryd.func45, rfl, rfl, rfl, by kernel_rfl⟩, by kernel_rfl⟩
theorem fc46 : FIOK Tryd.prog 46 fi46 := ⟨⟨Tryd.f46, Tryd.func46, rfl, rfl, rfl, by kernel_rfl⟩, by kernel_rfl⟩
theorem fc47 : FIOK Tryd.prog 47 fi47 := ⟨⟨Tryd.f47, Tryd.func47, rfl, rfl, rfl, by kernel_rfl⟩, by kernel_rfl⟩
theorem fc48 : FIOK Tryd.prog 48 fi48 := ⟨⟨Tryd.f48, Tryd.func48, rfl, rfl, rfl, by kernel_rfl⟩, by kernel_rfl⟩
theorem fc49 : FIOK Tryd.prog 49 fi49 := ⟨⟨Tryd.f49, Tryd.func49, rfl, rfl, rfl, by kernel_rfl⟩, by kernel_rfl⟩
theorem fc50 : FIOK Tryd.prog 50 fi50 := ⟨⟨Tryd.f50, Tryd.func50, rfl, rfl, rfl, by kernel_rfl⟩, by kernel_rfl⟩
theorem fc51 : FIOK Tryd.prog 51 fi51 := ⟨⟨Tryd.f51, Tryd.func51, rfl, rfl, rfl, by kernel_rfl⟩, by kernel_rfl⟩
theorem fc52 : FIOK Tryd.prog 52 fi52 := ⟨⟨Tryd.f52, Tryd.func52, rfl, rfl, rfl, by kernel_rfl⟩, by kernel_rfl⟩
theorem fc55 : FIOK Tryd.prog 55 fi55 := ⟨⟨Tryd.f55, Tryd.func55, rfl, rfl, rfl, by kernel_rfl⟩, by kernel_rfl⟩
theorem fc63 : FIOK Tryd.prog 63 fi63 := ⟨⟨Tryd.f63, Tryd.func63, rfl, rfl, rfl, by kernel_rfl⟩, by kernel_rfl⟩
theorem fchk : FChk Tryd.prog 0 fis :=
  (.none (.none (.none (.some fc3 (.some fc4 (.some fc5 (.some fc6 (.some fc7 (.some fc8 (.some fc9 (.some fc10 (.some fc11 (.some fc12 (.some fc13 (.some fc14 (.some fc15 (.some fc16 (.some fc17 (.some fc18 (.some fc19 (.some fc20 (.some fc21 (.some fc22 (.some fc23 (.some fc24 (.some fc25 (.some fc26 (.some fc27 (.some fc28 (.some fc29 (.some fc30 (.some fc31 (.some fc32 (.some fc33 (.some fc34 (.some fc35 (.some fc36 (.some fc37 (.some fc38 (.some fc39 (.some fc40 (.some fc41 (.some fc42 (.some fc43 (.some fc44 (.some fc45 (.some fc46 (.some fc47 (.some fc48 (.some fc49 (.some fc50 (.some fc51 (.some fc52 (.none (.none (.some fc55 (.none (.none (.none (.none (.none (.none (.none (.some fc63 .nil))))))))))))))))))))))))))))))))))))))))))))))))))))))))))))))))
theorem envOK (intr : List (Option Intr)) : EnvOK ⟨tis, fis, intr⟩ Tryd.prog := ⟨fun t ti h => by
  have h2 : nth tis t = some (some ti) := by
    unfold Env.T at h
    split at h
    · rename_i x hx; rw [hx, h]
    · cases h
  have := tchk t ti h2
  rwa [Nat.zero_add] at this, by kernel_rfl⟩
theorem fiOK : ∀ f fi, nth fis f = some (some fi) → FIOK Tryd.prog f fi := fun f fi h => by
  have := fchk f fi h
  rwa [Nat.zero_add] at this
end Go.Sx.Tryd
