/- A part of the proof: see the row's text. -/
import Derived.Test.YtbpfdbbijfpjkaaDoorUxSeatIntr
import Derived.Test.YtbpfdbbijfpjkaaDoorRows
import Derived.PinnedBridge
import Derived.Lib.LaidIn
import Derived.Lib.LaidSlice
import Derived.ProofKit
import Derived.SizedLaws
import Derived.Handed
set_option linter.unusedVariables false
set_option linter.unusedSimpArgs false
namespace Go.Sx.Tryd
open Go Go.Sx Go.Proofs Go.Shelf Go.Lib
open Go.Proofs.YtbpfdbbijfpjkaaDoor
set_option maxRecDepth 100000

/-- what the rows list -/
def rowLaid : List (String × DataW Unit) := [("math/bits.deBruijn32tab", Rows.laid_math_bits_deBruijn32tab), ("math/bits.deBruijn64tab", Rows.laid_math_bits_deBruijn64tab), ("internal/strconv.uint64pow10", Rows.laid_internal_strconv_uint64pow10), ("unicode/utf8.acceptRanges", Rows.laid_unicode_utf8_acceptRanges), ("strconv.isGraphic", Rows.laid_strconv_isGraphic), ("strconv.isNotPrint16", Rows.laid_strconv_isNotPrint16), ("strconv.isNotPrint32", Rows.laid_strconv_isNotPrint32), ("strconv.isPrint16", Rows.laid_strconv_isPrint16), ("strconv.isPrint32", Rows.laid_strconv_isPrint32), ("unicode/utf8.first", Rows.laid_unicode_utf8_first)]

theorem u64pow10_eq : (Rows.laid_internal_strconv_uint64pow10 : DataW Unit) = tabData .u64 Lib.pow10Tab := by kernel_rfl

/-- the tables, where the listed variables read as listed -/
theorem tabs_of_laid {w : World} (h : laidMet Tryd.prog rowLaid w) : TabsAt w where
  pt := printTabs_of_reads (ρ := Tryd.lays177_ren) { Tryd.lays177 with } ⟨by kernel_rfl, by kernel_rfl, by kernel_rfl, by kernel_rfl, by kernel_rfl, by kernel_rfl, by kernel_rfl, by kernel_rfl, by kernel_rfl, by kernel_rfl⟩
    (Pinned.isPrint16_eq ▸ Lib.laidMet.reads h (n := "strconv.isPrint16") (d := Go.Pinned.isPrint16) (by simp only [rowLaid, Rows.laid_strconv_isPrint16]; simp))
    (Pinned.isNotPrint16_eq ▸ Lib.laidMet.reads h (n := "strconv.isNotPrint16") (d := Go.Pinned.isNotPrint16) (by simp only [rowLaid, Rows.laid_strconv_isNotPrint16]; simp))
    (Pinned.isPrint32_eq ▸ Lib.laidMet.reads h (n := "strconv.isPrint32") (d := Go.Pinned.isPrint32) (by simp only [rowLaid, Rows.laid_strconv_isPrint32]; simp))
    (Pinned.isNotPrint32_eq ▸ Lib.laidMet.reads h (n := "strconv.isNotPrint32") (d := Go.Pinned.isNotPrint32) (by simp only [rowLaid, Rows.laid_strconv_isNotPrint32]; simp))
  u8 := utf8Tabs_of_readsT (ρ := Tryd.lays177_ren) (U8Types.of260 { Tryd.lays177 with }) ⟨by kernel_rfl, by kernel_rfl, by kernel_rfl, by kernel_rfl, by kernel_rfl, by kernel_rfl, by kernel_rfl⟩
    (Pinned.utf8First_eq ▸ Lib.laidMet.reads h (n := "unicode/utf8.first") (d := Go.Pinned.utf8First) (by simp only [rowLaid, Rows.laid_unicode_utf8_first]; simp))
    ((show (Rows.laid_unicode_utf8_acceptRanges : DataW Unit) = Lib.acceptData by kernel_rfl) ▸ Lib.laidMet.reads h (n := "unicode/utf8.acceptRanges") (d := Rows.laid_unicode_utf8_acceptRanges) (by simp [rowLaid]))
  p10 := by
    have hr : VarReads Tryd.prog w "internal/strconv.uint64pow10" Rows.laid_internal_strconv_uint64pow10 := Lib.laidMet.reads h (by simp [rowLaid])
    rw [u64pow10_eq] at hr
    obtain ⟨g, t, cs, fuel, p, hg, hty, hvar, hd⟩ := hr
    obtain rfl := Option.some.inj ((show Tryd.prog.globalNamed "internal/strconv.uint64pow10" = some 0 by kernel_rfl).symm.trans hg)
    obtain rfl := Option.some.inj ((show (Tryd.prog.globals[0]?).map (·.type) = some 117 by kernel_rfl).symm.trans hty)
    have hcs := cells_of_tab (P := Tryd.prog) (e := 98) (n := 20) Tryd.underlying117 Tryd.underlying98 (by kernel_rfl) (by kernel_rfl) hd
    unfold Lib.TabIs
    rw [hvar]
    congr 1
    apply Array.ext'
    simpa using hcs

def litCells (d : DataW Unit) : List Value :=
  match d with
  | .agg l => l.flatMap fun x => match x with
    | .lit (.int k n) => [.int k n]
    | .agg l2 => l2.flatMap fun y => match y with
      | .lit (.int k n) => [.int k n]
      | _ => []
    | _ => []
  | _ => []

/-- THE WITNESS: the settled world, the listed variables holding what they are listed with. -/
noncomputable def laidWorld (os : Os) : World :=
  let N := (World.settled Tryd.prog os).heap.size
  let T := Lib.goPrintTabs
  let w0 := World.holding Tryd.prog os ⟨#[
    .cells (intCellsOf .u16 T.p16) 136, .cells (intCellsOf .u16 T.n16) 136, .cells (intCellsOf .u32 T.p32) 118, .cells (intCellsOf .u16 T.n32) 136, .cells (intCellsOf .u16 Go.Pinned.isGraphicZ) 136], #[], []⟩
  let put (h : Array Obj) (g : Nat) (cs : Array Value) : Array Obj := h.modify g fun
    | .cells _ t frozen => .cells cs t frozen
    | o => o
  let h := put w0.heap 0 (litCells Rows.laid_internal_strconv_uint64pow10).toArray
  let h := put h 1 (Lib.firstTab.map fun z => Value.int .u8 z).toArray
  let h := put h 2 (litCells Rows.laid_unicode_utf8_acceptRanges).toArray
  let h := put h 3 #[.slice (some ⟨N, 0, none⟩) T.p16.length T.p16.length]
  let h := put h 4 #[.slice (some ⟨N + 1, 0, none⟩) T.n16.length T.n16.length]
  let h := put h 5 #[.slice (some ⟨N + 2, 0, none⟩) T.p32.length T.p32.length]
  let h := put h 6 #[.slice (some ⟨N + 3, 0, none⟩) T.n32.length T.n32.length]
  let h := put h 7 #[.slice (some ⟨N + 4, 0, none⟩) Go.Pinned.isGraphicZ.length Go.Pinned.isGraphicZ.length]
  let h := put h 8 (litCells Rows.laid_math_bits_deBruijn32tab).toArray
  let h := put h 9 (litCells Rows.laid_math_bits_deBruijn64tab).toArray
  { w0 with heap := h }
noncomputable abbrev N0 : Nat := (World.settled Tryd.prog default).heap.size
noncomputable abbrev laidAt (os : Os) (args : Array Value) : World := ((laidWorld os).forCall (fun _ _ => 0) ⟨#[], args, []⟩).memory
theorem piece0 (os : Os) (args : Array Value) : LaidIn Tryd.prog (laidAt os args) [("math/bits.deBruijn32tab", Rows.laid_math_bits_deBruijn32tab), ("math/bits.deBruijn64tab", Rows.laid_math_bits_deBruijn64tab), ("internal/strconv.uint64pow10", Rows.laid_internal_strconv_uint64pow10), ("unicode/utf8.acceptRanges", Rows.laid_unicode_utf8_acceptRanges)] [8, 9, 0, 2] :=
  LaidIn.of_run [8, 9, 0, 2] 8 (by kernel_rfl) (by kernel_rfl) (by kernel_rfl) (by kernel_rfl)
theorem piece9 (os : Os) (args : Array Value) : LaidIn Tryd.prog (laidAt os args) [("unicode/utf8.first", Lib.firstData)] [1] :=
  LaidIn.of_run [1] 8 (by kernel_rfl) (by kernel_rfl) (by kernel_rfl) (by kernel_rfl)
set_option maxRecDepth 1000000 in
theorem piece4 (os : Os) (args : Array Value) : LaidIn Tryd.prog (laidAt os args) [("strconv.isGraphic", Lib.sliceData .u16 Go.Pinned.isGraphicZ)] [7, N0 + 4] :=
  laidIn_slice (t := 137) (e := 136) (te := 136) Go.Pinned.isGraphicZ (N0 + 4) (by kernel_rfl) (by kernel_rfl) (by kernel_rfl) (by kernel_rfl) (by kernel_rfl) (by kernel_rfl) (by kernel_rfl) (by kernel_rfl) (of_decide_eq_true (by kernel_rfl)) (of_decide_eq_true (by kernel_rfl))
set_option maxRecDepth 1000000 in
theorem piece5 (os : Os) (args : Array Value) : LaidIn Tryd.prog (laidAt os args) [("strconv.isNotPrint16", Lib.sliceData .u16 Lib.goPrintTabs.n16)] [4, N0 + 1] :=
  laidIn_slice (t := 137) (e := 136) (te := 136) Lib.goPrintTabs.n16 (N0 + 1) (by kernel_rfl) (by kernel_rfl) (by kernel_rfl) (by kernel_rfl) (by kernel_rfl) (by kernel_rfl) (by kernel_rfl) (by kernel_rfl) (of_decide_eq_true (by kernel_rfl)) (of_decide_eq_true (by kernel_rfl))
set_option maxRecDepth 1000000 in
theorem piece6 (os : Os) (args : Array Value) : LaidIn Tryd.prog (laidAt os args) [("strconv.isNotPrint32", Lib.sliceData .u16 Lib.goPrintTabs.n32)] [6, N0 + 3] :=
  laidIn_slice (t := 137) (e := 136) (te := 136) Lib.goPrintTabs.n32 (N0 + 3) (by kernel_rfl) (by kernel_rfl) (by kernel_rfl) (by kernel_rfl) (by kernel_rfl) (by kernel_rfl) (by kernel_rfl) (by kernel_rfl) (of_decide_eq_true (by kernel_rfl)) (of_decide_eq_true (by kernel_rfl))
set_option maxRecDepth 1000000 in
theorem piece7 (os : Os) (args : Array Value) : LaidIn Tryd.prog (laidAt os args) [("strconv.isPrint16", Lib.sliceData .u16 Lib.goPrintTabs.p16)] [3, N0] :=
  laidIn_slice (t := 137) (e := 136) (te := 136) Lib.goPrintTabs.p16 N0 (by kernel_rfl) (by kernel_rfl) (by kernel_rfl) (by kernel_rfl) (by kernel_rfl) (by kernel_rfl) (by kernel_rfl) (by kernel_rfl) (of_decide_eq_true (by kernel_rfl)) (of_decide_eq_true (by kernel_rfl))
set_option maxRecDepth 1000000 in
theorem piece8 (os : Os) (args : Array Value) : LaidIn Tryd.prog (laidAt os args) [("strconv.isPrint32", Lib.sliceData .u32 Lib.goPrintTabs.p32)] [5, N0 + 2] :=
  laidIn_slice (t := 139) (e := 118) (te := 118) Lib.goPrintTabs.p32 (N0 + 2) (by kernel_rfl) (by kernel_rfl) (by kernel_rfl) (by kernel_rfl) (by kernel_rfl) (by kernel_rfl) (by kernel_rfl) (by kernel_rfl) (of_decide_eq_true (by kernel_rfl)) (of_decide_eq_true (by kernel_rfl))
theorem laid_met (os : Os) (args : Array Value) : laidMet Tryd.prog rowLaid (laidAt os args) := by
  have h := ((((((piece0 os args).append (piece4 os args) (by kernel_rfl)).append (piece5 os args) (by kernel_rfl)).append (piece6 os args) (by kernel_rfl)).append (piece7 os args) (by kernel_rfl)).append (piece8 os args) (by kernel_rfl)).append (piece9 os args) (by kernel_rfl)
  have h2 := h.met
  rw [← Pinned.isPrint16_eq, ← Pinned.isNotPrint16_eq, ← Pinned.isPrint32_eq, ← Pinned.isNotPrint32_eq, ← Pinned.utf8First_eq] at h2
  exact h2
end Go.Sx.Tryd
