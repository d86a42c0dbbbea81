/- A part of the proof: see the row's text. -/
import Derived.Test.YtbpfdbbijfpjkaaDoorUxSeatIntr
set_option linter.unusedVariables false
set_option linter.unusedSimpArgs false
namespace Go.Sx.Tryd
open Go Go.Sx
set_option maxRecDepth 100000
def cl : List (List Cut) := [[], [], [], [], [], [], [], [], [], [], [], [⟨[true, true, false, true, false, false], none⟩], [⟨[true, true, true, true, true, false, true, false, false], none⟩, ⟨[true, true, true, true, true, true, false, true, false, false], none⟩, ⟨[true, true, true, true, true, true, false, true, false, false, true, false, false, true, true, true, true, true, true, false, false], none⟩, ⟨[true, true, true, true, true, true, true, false, true, false, false], none⟩], [⟨[true, true, true, true, false, true, false, false], none⟩, ⟨[true, true, true, true, false, true, false, false, true, true, false, false, true, true, true, true, false, false], none⟩, ⟨[true, true, true, true, true, false, true, false, false], none⟩], [], [⟨[true, true, true, false, true, false, false], none⟩, ⟨[true, true, true, false, true, false, false, true, true, false, false, true, false, true, false, false], none⟩], [], [⟨[true, true, false, true, false, false], none⟩], [⟨[true, true, true, true, true, true, true, false, true, false, false], none⟩], [⟨[true, true, true, false, false, false], none⟩, ⟨[true, true, true, false, false, false, true, false, true, true, true, true, true, false, false], none⟩], [⟨[true, true, false, true, false, false], none⟩], [], [⟨[true, false, true, false, false], none⟩], [⟨[true, true, true, true, false, true, false, false], none⟩], [⟨[true, true, true, false, true, false, false], none⟩], [⟨[true, true, true, false, true, false, false], none⟩], [], [], [], [], [⟨[true, true, false, true, false, false], none⟩], [], [], [], [], [], [], [], [], [], [], [], [⟨[true, true, false, true, false, false], none⟩], [⟨[true, true, true, true, true, true, true, false, true, false, false], none⟩], [], [], [], [⟨[true, true, true, true, false, true, false, false], none⟩], [], [], [], [], [], [], [], [], [], [], [], [], [], [], [], []]
/-- the head of the laws: a closed run -/
theorem grows_run : runD E0 (intrList 64 lib1) cl 10000 60 (Out × List Blk) 10 [] [] .ok = .ok (.ret (.bool true), []) := by kernel_rfl
theorem grows_SA {w0 : World} (t : TabsAt w0) : SA Go.Proofs.Tryd.prog (GW w0) 10 [] [] (.ret (.bool true), []) := by
  obtain ⟨o, h1, h2⟩ := runD_ok (G := GW w0) (envOK []) (lib1_ok t).ok fiOK 60 _ _ _ _ _ _ grows_run
  cases h1
  exact h2
end Go.Sx.Tryd
