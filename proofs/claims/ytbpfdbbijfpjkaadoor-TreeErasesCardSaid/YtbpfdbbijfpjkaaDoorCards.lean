/-
  DERIVED. GIVEN WITH THE SEED: THE CARDS: each row of YtbpfdbbijfpjkaaDoorRows.lean that lists a variable, with what it lists TIED to the program's text (the seventh form; the later family's looks); each row that meets fmt, with fmt's text TOLD by the authors' own Lean function (tested against real Go, not proved from fmt's source: count such statements apart). THE CARD IS WHAT COUNTS. Prove the row's statement (the work); the ties are given (YtbpfdbbijfpjkaaDoorTie.lean); close each card by the builder's one call (the guide's Derived/Test/ToyasCard.lean, 'card_holds'). Laid BY PROGRAM, IN A SANDBOX (cutbox-door.mjs). By AI agents, Wed Nov 11 2026. No macro, syntax, notation, axiom, sorry.
-/
import Derived.Test.YtbpfdbbijfpjkaaDoorRows
import GoSem.ClaimSeven
namespace Go.Proofs.YtbpfdbbijfpjkaaDoor
namespace Rows

/-- THE TIED CARD OF 'caulkerlaw07.TreeChecks'. -/
def treeChecksCard : Claim7 := { stood := { row := treeChecksRow, standIns := [], harness := (true, "2def4420bb02a479c42e86214b2e6a5e25034af3e610a811c9241951764c50f0"), looks := false }, kinds := [], alts := [], laidByText := true, laidKinds := [.data, .data, .data, .data, .pinned, .pinned, .pinned, .pinned, .pinned, .pinned], laidTests := true, laidLooks := .later }
def TreeChecksCardSaid : Prop := Claim7.holds Tryd.pinned (.plain (OpenSpec.ofChange treeChecksSpec)) treeChecksCard

/-- THE TIED CARD OF 'caulkerlaw07.TreeForms'. -/
def treeFormsCard : Claim7 := { stood := { row := treeFormsRow, standIns := [], harness := (true, "2def4420bb02a479c42e86214b2e6a5e25034af3e610a811c9241951764c50f0"), looks := false }, kinds := [], alts := [], laidByText := true, laidKinds := [.data, .data, .data, .data, .pinned, .pinned, .pinned, .pinned, .pinned, .pinned], laidTests := true, laidLooks := .later }
def TreeFormsCardSaid : Prop := Claim7.holds Tryd.pinned (.plain (OpenSpec.ofChange treeFormsSpec)) treeFormsCard

/-- THE TIED CARD OF 'caulkerlaw07.TreeWalks'. -/
def treeWalksCard : Claim7 := { stood := { row := treeWalksRow, standIns := [], harness := (true, "2def4420bb02a479c42e86214b2e6a5e25034af3e610a811c9241951764c50f0"), looks := false }, kinds := [], alts := [], laidByText := true, laidKinds := [.data, .data, .data, .data, .pinned, .pinned, .pinned, .pinned, .pinned, .pinned], laidTests := true, laidLooks := .later }
def TreeWalksCardSaid : Prop := Claim7.holds Tryd.pinned (.plain (OpenSpec.ofChange treeWalksSpec)) treeWalksCard

/-- THE TIED CARD OF 'caulkerlaw07.TreeErases'. -/
def treeErasesCard : Claim7 := { stood := { row := treeErasesRow, standIns := [], harness := (true, "2def4420bb02a479c42e86214b2e6a5e25034af3e610a811c9241951764c50f0"), looks := false }, kinds := [], alts := [], laidByText := true, laidKinds := [.data, .data, .data, .data, .pinned, .pinned, .pinned, .pinned, .pinned, .pinned], laidTests := true, laidLooks := .later }
def TreeErasesCardSaid : Prop := Claim7.holds Tryd.pinned (.plain (OpenSpec.ofChange treeErasesSpec)) treeErasesCard

/-- THE TIED CARD OF 'caulkerlaw07.TreeTypes'. -/
def treeTypesCard : Claim7 := { stood := { row := treeTypesRow, standIns := [], harness := (true, "2def4420bb02a479c42e86214b2e6a5e25034af3e610a811c9241951764c50f0"), looks := false }, kinds := [], alts := [], laidByText := true, laidKinds := [.data, .data, .data, .data, .pinned, .pinned, .pinned, .pinned, .pinned, .pinned], laidTests := true, laidLooks := .later }
def TreeTypesCardSaid : Prop := Claim7.holds Tryd.pinned (.plain (OpenSpec.ofChange treeTypesSpec)) treeTypesCard

/-- THE TIED CARD OF 'caulkerlaw07.TreeOwn'. -/
def treeOwnCard : Claim7 := { stood := { row := treeOwnRow, standIns := [], harness := (true, "2def4420bb02a479c42e86214b2e6a5e25034af3e610a811c9241951764c50f0"), looks := false }, kinds := [], alts := [], laidByText := true, laidKinds := [.data, .data, .data, .data, .pinned, .pinned, .pinned, .pinned, .pinned, .pinned], laidTests := true, laidLooks := .later }
def TreeOwnCardSaid : Prop := Claim7.holds Tryd.pinned (.plain (OpenSpec.ofChange treeOwnSpec)) treeOwnCard

/-- THE TIED CARD OF 'caulkerlaw07.TreeKinds'. -/
def treeKindsCard : Claim7 := { stood := { row := treeKindsRow, standIns := [], harness := (true, "2def4420bb02a479c42e86214b2e6a5e25034af3e610a811c9241951764c50f0"), looks := false }, kinds := [], alts := [], laidByText := true, laidKinds := [.data, .data, .data, .data, .pinned, .pinned, .pinned, .pinned, .pinned, .pinned], laidTests := true, laidLooks := .later }
def TreeKindsCardSaid : Prop := Claim7.holds Tryd.pinned (.plain (OpenSpec.ofChange treeKindsSpec)) treeKindsCard

/-- THE SECOND FORM's CARD OF 'caulkerlaw07.TreeChecks'. -/
def treeChecksUptoCard : Claim7 := { stood := { row := treeChecksUptoRow, standIns := [], harness := (true, "2def4420bb02a479c42e86214b2e6a5e25034af3e610a811c9241951764c50f0"), looks := false }, kinds := [], alts := [], laidByText := true, laidKinds := [.data, .data, .data, .data, .pinned, .pinned, .pinned, .pinned, .pinned, .pinned], laidTests := true, laidLooks := .later }
def TreeChecksUptoCardSaid : Prop := Claim7.holds Tryd.pinned (.plain (OpenSpec.upto treeChecksSpec)) treeChecksUptoCard

/-- THE SECOND FORM's CARD OF 'caulkerlaw07.TreeForms'. -/
def treeFormsUptoCard : Claim7 := { stood := { row := treeFormsUptoRow, standIns := [], harness := (true, "2def4420bb02a479c42e86214b2e6a5e25034af3e610a811c9241951764c50f0"), looks := false }, kinds := [], alts := [], laidByText := true, laidKinds := [.data, .data, .data, .data, .pinned, .pinned, .pinned, .pinned, .pinned, .pinned], laidTests := true, laidLooks := .later }
def TreeFormsUptoCardSaid : Prop := Claim7.holds Tryd.pinned (.plain (OpenSpec.upto treeFormsSpec)) treeFormsUptoCard

/-- THE SECOND FORM's CARD OF 'caulkerlaw07.TreeWalks'. -/
def treeWalksUptoCard : Claim7 := { stood := { row := treeWalksUptoRow, standIns := [], harness := (true, "2def4420bb02a479c42e86214b2e6a5e25034af3e610a811c9241951764c50f0"), looks := false }, kinds := [], alts := [], laidByText := true, laidKinds := [.data, .data, .data, .data, .pinned, .pinned, .pinned, .pinned, .pinned, .pinned], laidTests := true, laidLooks := .later }
def TreeWalksUptoCardSaid : Prop := Claim7.holds Tryd.pinned (.plain (OpenSpec.upto treeWalksSpec)) treeWalksUptoCard

/-- THE SECOND FORM's CARD OF 'caulkerlaw07.TreeErases'. -/
def treeErasesUptoCard : Claim7 := { stood := { row := treeErasesUptoRow, standIns := [], harness := (true, "2def4420bb02a479c42e86214b2e6a5e25034af3e610a811c9241951764c50f0"), looks := false }, kinds := [], alts := [], laidByText := true, laidKinds := [.data, .data, .data, .data, .pinned, .pinned, .pinned, .pinned, .pinned, .pinned], laidTests := true, laidLooks := .later }
def TreeErasesUptoCardSaid : Prop := Claim7.holds Tryd.pinned (.plain (OpenSpec.upto treeErasesSpec)) treeErasesUptoCard

/-- THE SECOND FORM's CARD OF 'caulkerlaw07.TreeTypes'. -/
def treeTypesUptoCard : Claim7 := { stood := { row := treeTypesUptoRow, standIns := [], harness := (true, "2def4420bb02a479c42e86214b2e6a5e25034af3e610a811c9241951764c50f0"), looks := false }, kinds := [], alts := [], laidByText := true, laidKinds := [.data, .data, .data, .data, .pinned, .pinned, .pinned, .pinned, .pinned, .pinned], laidTests := true, laidLooks := .later }
def TreeTypesUptoCardSaid : Prop := Claim7.holds Tryd.pinned (.plain (OpenSpec.upto treeTypesSpec)) treeTypesUptoCard

/-- THE SECOND FORM's CARD OF 'caulkerlaw07.TreeOwn'. -/
def treeOwnUptoCard : Claim7 := { stood := { row := treeOwnUptoRow, standIns := [], harness := (true, "2def4420bb02a479c42e86214b2e6a5e25034af3e610a811c9241951764c50f0"), looks := false }, kinds := [], alts := [], laidByText := true, laidKinds := [.data, .data, .data, .data, .pinned, .pinned, .pinned, .pinned, .pinned, .pinned], laidTests := true, laidLooks := .later }
def TreeOwnUptoCardSaid : Prop := Claim7.holds Tryd.pinned (.plain (OpenSpec.upto treeOwnSpec)) treeOwnUptoCard

/-- THE SECOND FORM's CARD OF 'caulkerlaw07.TreeKinds'. -/
def treeKindsUptoCard : Claim7 := { stood := { row := treeKindsUptoRow, standIns := [], harness := (true, "2def4420bb02a479c42e86214b2e6a5e25034af3e610a811c9241951764c50f0"), looks := false }, kinds := [], alts := [], laidByText := true, laidKinds := [.data, .data, .data, .data, .pinned, .pinned, .pinned, .pinned, .pinned, .pinned], laidTests := true, laidLooks := .later }
def TreeKindsUptoCardSaid : Prop := Claim7.holds Tryd.pinned (.plain (OpenSpec.upto treeKindsSpec)) treeKindsUptoCard
end Rows
end Go.Proofs.YtbpfdbbijfpjkaaDoor
