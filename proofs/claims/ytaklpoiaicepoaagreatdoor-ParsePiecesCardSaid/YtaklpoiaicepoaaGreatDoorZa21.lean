/- A part of the proof: see the row's text. -/
import Derived.Test.YtaklpoiaicepoaaGreatDoorZa20
set_option linter.unusedVariables false
set_option linter.unusedSimpArgs false
noncomputable section
namespace Go.Sx.Tryz
open Go Go.Sx Go.Proofs Go.Shelf Go.Lib
open Go.Proofs.YtaklpoiaicepoaaGreatDoor
set_option maxRecDepth 1000000
theorem Qj(os:Os)(args:Array Value):LaidIn Tryz.prog (ig os args) [("internal/strconv.leftcheats",Rows.laid_internal_strconv_leftcheats)] [21,N0+8]:=
 LaidIn.of_run [21,N0+8] 8 (by kernel_rfl) (by kernel_rfl) (by kernel_rfl) (by kernel_rfl)
theorem PE(os:Os)(args:Array Value):LaidIn Tryz.prog (ig os args) [("strconv.isGraphic",Lib.sliceData .u16 Go.Pinned.isGraphicZ)] [8,N0+4]:=
 laidIn_slice (t:=168) (e:=167) (te:=167) Go.Pinned.isGraphicZ (N0+4) (by kernel_rfl) (by kernel_rfl) (by kernel_rfl) (by kernel_rfl) (by kernel_rfl) (by kernel_rfl) (by kernel_rfl) (by kernel_rfl) (of_decide_eq_true (by kernel_rfl)) (of_decide_eq_true (by kernel_rfl))
theorem P0(os:Os)(args:Array Value):LaidIn Tryz.prog (ig os args) [("strconv.isNotPrint16",Lib.sliceData .u16 Lib.goPrintTabs.n16)] [5,N0+1]:=
 laidIn_slice (t:=168) (e:=167) (te:=167) Lib.goPrintTabs.n16 (N0+1) (by kernel_rfl) (by kernel_rfl) (by kernel_rfl) (by kernel_rfl) (by kernel_rfl) (by kernel_rfl) (by kernel_rfl) (by kernel_rfl) (of_decide_eq_true (by kernel_rfl)) (of_decide_eq_true (by kernel_rfl))
theorem Qy(os:Os)(args:Array Value):LaidIn Tryz.prog (ig os args) [("strconv.isNotPrint32",Lib.sliceData .u16 Lib.goPrintTabs.n32)] [7,N0+3]:=
 laidIn_slice (t:=168) (e:=167) (te:=167) Lib.goPrintTabs.n32 (N0+3) (by kernel_rfl) (by kernel_rfl) (by kernel_rfl) (by kernel_rfl) (by kernel_rfl) (by kernel_rfl) (by kernel_rfl) (by kernel_rfl) (of_decide_eq_true (by kernel_rfl)) (of_decide_eq_true (by kernel_rfl))
theorem Ou(os:Os)(args:Array Value):LaidIn Tryz.prog (ig os args) [("strconv.isPrint16",Lib.sliceData .u16 Lib.goPrintTabs.p16)] [4,N0]:=
 laidIn_slice (t:=168) (e:=167) (te:=167) Lib.goPrintTabs.p16 N0 (by kernel_rfl) (by kernel_rfl) (by kernel_rfl) (by kernel_rfl) (by kernel_rfl) (by kernel_rfl) (by kernel_rfl) (by kernel_rfl) (of_decide_eq_true (by kernel_rfl)) (of_decide_eq_true (by kernel_rfl))
theorem Ov(os:Os)(args:Array Value):LaidIn Tryz.prog (ig os args) [("strconv.isPrint32",Lib.sliceData .u32 Lib.goPrintTabs.p32)] [6,N0+2]:=
 laidIn_slice (t:=170) (e:=121) (te:=121) Lib.goPrintTabs.p32 (N0+2) (by kernel_rfl) (by kernel_rfl) (by kernel_rfl) (by kernel_rfl) (by kernel_rfl) (by kernel_rfl) (by kernel_rfl) (by kernel_rfl) (of_decide_eq_true (by kernel_rfl)) (of_decide_eq_true (by kernel_rfl))
theorem Py(os:Os)(args:Array Value):LaidIn Tryz.prog (ig os args) [("unicode/utf8.first",Lib.firstData)] [1]:=
 LaidIn.of_run [1] 8 (by kernel_rfl) (by kernel_rfl) (by kernel_rfl) (by kernel_rfl)
end Go.Sx.Tryz
