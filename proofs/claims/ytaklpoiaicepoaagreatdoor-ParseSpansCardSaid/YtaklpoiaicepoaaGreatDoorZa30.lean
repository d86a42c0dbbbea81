/- A part of the proof: see the row's text. -/
import Derived.Test.YtaklpoiaicepoaaGreatDoorZa25
set_option linter.unusedVariables false
set_option linter.unusedSimpArgs false
noncomputable section
namespace Go.Sx.Tryz
open Go Go.Sx Go.Proofs
set_option maxRecDepth 100000
def cl : List (List Cut) := [[], [], [], [], [], [], [], [], [], [], [], [], [], [], [], [], [], [], [], [], [], [], [], [], [], [], [], [], [⟨[true, true, true, true, false, true, false, false], none⟩, ⟨[true, true, true, true, false, true, false, false, true, true, false, false, true, true, true, true, false, false], none⟩, ⟨[true, true, true, true, true, false, true, false, false], none⟩], [⟨[true, true, true, true, true, true, true, false, true, false, false], none⟩], [], [], [], [], [], [], [], [], [], [], [], [], [], [], [], [], [], [], [], [], [], [⟨[true, true, false, true, false, false], none⟩], [], [⟨[true, true, true, true, false, true, false, false], none⟩], [], [], [], [], [], [], [], [], [], [], [], [], [], [], [], [], [], [], [], [], [], [], [], [], [], [], [], [], [], [], [], [], [], [], [], [], [], [], [], [], [], [], [], [], [], [], [], [], [], [], [], [], [], [], [], [], [], [], [], [], [], [], [], [], [], [], [], [], [], [], [], [], [], [], [], [], []]
def lib9 : List (Nat × Intr) := [(10, parseC), (19, ofT 19 (stringT 48 5)), (38, ofT 38 (copyCheckT 48)), (52, ofT 52 quoteT), (54, ofT 54 formatT)]
theorem lib9_ok {w0 : World} (t : TabsW w0) : IChk Tryz.prog (GW w0) lib9 := .cons (par_ok t) (.cons str_ok (.cons cc_ok (.cons (quo_ok t) (.cons (fmt_ok t) .nil))))
theorem reads_run : runD E (intrList 132 lib9) cl 10000 60 (Out × List Blk) 9 [] [] .ok = .ok (.ret (.bool true), []) := by kernel_rfl
theorem reads_SA {w0 : World} (t : TabsW w0) : SA Tryz.prog (GW w0) 9 [] [] (.ret (.bool true), []) := by
 obtain ⟨o, h1, h2⟩ := runD_ok (G := GW w0) (envOK []) (lib9_ok t).ok fiOK 60 _ _ _ _ _ _ reads_run
 cases h1
 exact h2
end Go.Sx.Tryz
