/- A part of the proof: see the row's text. -/
import Derived.Test.YtehaoepopklboaaGreatDoorZh20
set_option linter.unusedVariables false
set_option linter.unusedSimpArgs false
noncomputable section
namespace Go.Sx.Tryz
open Go Go.Sx Go.Proofs Go.Shelf Go.Lib
open Go.Proofs.YtehaoepopklboaaGreatDoor
set_option maxRecDepth 1000000
theorem JP(os:Os)(args:Array Value):LaidIn Tryz.prog (l5 os args) [("internal/strconv.leftcheats",Rows.laid_internal_strconv_leftcheats)] [21,N0+8]:=
 LaidIn.of_run [21,N0+8] 8 (by kernel_rfl) (by kernel_rfl) (by kernel_rfl) (by kernel_rfl)
theorem Jp(os:Os)(args:Array Value):LaidIn Tryz.prog (l5 os args) [("unicode/utf8.first",Lib.firstData)] [1]:=
 LaidIn.of_run [1] 8 (by kernel_rfl) (by kernel_rfl) (by kernel_rfl) (by kernel_rfl)
end Go.Sx.Tryz
