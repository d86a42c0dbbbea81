/-
  DERIVED. GIVEN WITH THE SEED: THE CARDS: each row of YtehaoepopklboaaGreatDoorRows.lean that lists a variable, with what it lists TIED to the program's text (the seventh form; the later family's looks); each row that meets fmt, with fmt's text TOLD by the authors' own Lean function (tested against real Go, not proved from fmt's source: count such statements apart). THE CARD IS WHAT COUNTS. Prove the row's statement (the work); the ties are given (YtehaoepopklboaaGreatDoorTie.lean); close each card by the builder's one call (the guide's Derived/Test/ToyasCard.lean, 'card_holds'). Laid BY PROGRAM, IN A SANDBOX (cutbox-door.mjs). By AI agents, Wed Nov 11 2026. No macro, syntax, notation, axiom, sorry.
-/
import Derived.Test.YtehaoepopklboaaGreatDoorRows
import GoSem.ClaimSeven
namespace Go.Proofs.YtehaoepopklboaaGreatDoor
namespace Rows

/-- THE TIED CARD OF 'caulkerlaw09.ShowRefuses'. -/
def showRefusesCard : Claim7 := { stood := { row := showRefusesRow, standIns := [], harness := (true, "22a93e1c6224e9b462de59588f70464869516dd15ba7870af5d102f846abc5d6"), looks := true }, kinds := [], alts := [], laidByText := true, laidKinds := [.data, .data, .widerDeep, .widerDeep, .data, .data, .data, .data, .data, .data, .sentinel, .sentinel, .pinned, .pinned, .pinned], laidTests := true, laidLooks := .later }
def ShowRefusesCardSaid : Prop := Claim7.holds Tryz.pinned (.plain (OpenSpec.ofChange showRefusesSpec)) showRefusesCard

/-- THE TIED CARD OF 'caulkerlaw09.ShowLeast'. -/
def showLeastCard : Claim7 := { stood := { row := showLeastRow, standIns := [], harness := (true, "22a93e1c6224e9b462de59588f70464869516dd15ba7870af5d102f846abc5d6"), looks := true }, kinds := [], alts := [], laidByText := true, laidKinds := [.data, .data, .widerDeep, .widerDeep, .data, .data, .data, .data, .data, .data, .sentinel, .sentinel, .pinned, .pinned, .pinned], laidTests := true, laidLooks := .later }
def ShowLeastCardSaid : Prop := Claim7.holds Tryz.pinned (.plain (OpenSpec.ofChange showLeastSpec)) showLeastCard

/-- THE TIED CARD OF 'caulkerlaw09.ShowNodes'. -/
def showNodesCard : Claim7 := { stood := { row := showNodesRow, standIns := [], harness := (true, "22a93e1c6224e9b462de59588f70464869516dd15ba7870af5d102f846abc5d6"), looks := true }, kinds := [], alts := [], laidByText := true, laidKinds := [.data, .data, .widerDeep, .widerDeep, .data, .data, .data, .data, .data, .data, .sentinel, .sentinel, .pinned, .pinned, .pinned], laidTests := true, laidLooks := .later }
def ShowNodesCardSaid : Prop := Claim7.holds Tryz.pinned (.plain (OpenSpec.ofChange showNodesSpec)) showNodesCard

/-- THE TIED CARD OF 'caulkerlaw09.ShowBack'. -/
def showBackCard : Claim7 := { stood := { row := showBackRow, standIns := [], harness := (true, "22a93e1c6224e9b462de59588f70464869516dd15ba7870af5d102f846abc5d6"), looks := true }, kinds := [], alts := [], laidByText := true, laidKinds := [.data, .data, .widerDeep, .widerDeep, .data, .data, .data, .data, .data, .data, .sentinel, .sentinel, .pinned, .pinned, .pinned, .pinned, .pinned, .pinned, .pinned, .pinned], laidTests := true, laidLooks := .later }
def ShowBackCardSaid : Prop := Claim7.holds Tryz.pinned (.plain (OpenSpec.ofChange showBackSpec)) showBackCard

/-- THE TIED CARD OF 'caulkerlaw09.ShowOne'. -/
def showOneCard : Claim7 := { stood := { row := showOneRow, standIns := [], harness := (true, "22a93e1c6224e9b462de59588f70464869516dd15ba7870af5d102f846abc5d6"), looks := true }, kinds := [], alts := [], laidByText := true, laidKinds := [.data, .data, .widerDeep, .widerDeep, .data, .data, .data, .data, .data, .data, .sentinel, .sentinel, .pinned, .pinned, .pinned, .pinned, .pinned, .pinned, .pinned, .pinned], laidTests := true, laidLooks := .later }
def ShowOneCardSaid : Prop := Claim7.holds Tryz.pinned (.plain (OpenSpec.ofChange showOneSpec)) showOneCard

/-- THE TIED CARD OF 'caulkerlaw09.ShowRaw'. -/
def showRawCard : Claim7 := { stood := { row := showRawRow, standIns := [], harness := (true, "22a93e1c6224e9b462de59588f70464869516dd15ba7870af5d102f846abc5d6"), looks := true }, kinds := [], alts := [], laidByText := true, laidKinds := [.data, .data, .widerDeep, .widerDeep, .data, .data, .data, .data, .data, .data, .sentinel, .sentinel, .pinned, .pinned, .pinned, .pinned, .pinned, .pinned, .pinned, .pinned], laidTests := true, laidLooks := .later }
def ShowRawCardSaid : Prop := Claim7.holds Tryz.pinned (.plain (OpenSpec.ofChange showRawSpec)) showRawCard

/-- THE SECOND FORM's CARD OF 'caulkerlaw09.ShowRefuses'. -/
def showRefusesUptoCard : Claim7 := { stood := { row := showRefusesUptoRow, standIns := [], harness := (true, "22a93e1c6224e9b462de59588f70464869516dd15ba7870af5d102f846abc5d6"), looks := true }, kinds := [], alts := [], laidByText := true, laidKinds := [.data, .data, .widerDeep, .widerDeep, .data, .data, .data, .data, .data, .data, .sentinel, .sentinel, .pinned, .pinned, .pinned], laidTests := true, laidLooks := .later }
def ShowRefusesUptoCardSaid : Prop := Claim7.holds Tryz.pinned (.plain (OpenSpec.upto showRefusesSpec)) showRefusesUptoCard

/-- THE SECOND FORM's CARD OF 'caulkerlaw09.ShowLeast'. -/
def showLeastUptoCard : Claim7 := { stood := { row := showLeastUptoRow, standIns := [], harness := (true, "22a93e1c6224e9b462de59588f70464869516dd15ba7870af5d102f846abc5d6"), looks := true }, kinds := [], alts := [], laidByText := true, laidKinds := [.data, .data, .widerDeep, .widerDeep, .data, .data, .data, .data, .data, .data, .sentinel, .sentinel, .pinned, .pinned, .pinned], laidTests := true, laidLooks := .later }
def ShowLeastUptoCardSaid : Prop := Claim7.holds Tryz.pinned (.plain (OpenSpec.upto showLeastSpec)) showLeastUptoCard

/-- THE SECOND FORM's CARD OF 'caulkerlaw09.ShowNodes'. -/
def showNodesUptoCard : Claim7 := { stood := { row := showNodesUptoRow, standIns := [], harness := (true, "22a93e1c6224e9b462de59588f70464869516dd15ba7870af5d102f846abc5d6"), looks := true }, kinds := [], alts := [], laidByText := true, laidKinds := [.data, .data, .widerDeep, .widerDeep, .data, .data, .data, .data, .data, .data, .sentinel, .sentinel, .pinned, .pinned, .pinned], laidTests := true, laidLooks := .later }
def ShowNodesUptoCardSaid : Prop := Claim7.holds Tryz.pinned (.plain (OpenSpec.upto showNodesSpec)) showNodesUptoCard

/-- THE SECOND FORM's CARD OF 'caulkerlaw09.ShowBack'. -/
def showBackUptoCard : Claim7 := { stood := { row := showBackUptoRow, standIns := [], harness := (true, "22a93e1c6224e9b462de59588f70464869516dd15ba7870af5d102f846abc5d6"), looks := true }, kinds := [], alts := [], laidByText := true, laidKinds := [.data, .data, .widerDeep, .widerDeep, .data, .data, .data, .data, .data, .data, .sentinel, .sentinel, .pinned, .pinned, .pinned, .pinned, .pinned, .pinned, .pinned, .pinned], laidTests := true, laidLooks := .later }
def ShowBackUptoCardSaid : Prop := Claim7.holds Tryz.pinned (.plain (OpenSpec.upto showBackSpec)) showBackUptoCard

/-- THE SECOND FORM's CARD OF 'caulkerlaw09.ShowOne'. -/
def showOneUptoCard : Claim7 := { stood := { row := showOneUptoRow, standIns := [], harness := (true, "22a93e1c6224e9b462de59588f70464869516dd15ba7870af5d102f846abc5d6"), looks := true }, kinds := [], alts := [], laidByText := true, laidKinds := [.data, .data, .widerDeep, .widerDeep, .data, .data, .data, .data, .data, .data, .sentinel, .sentinel, .pinned, .pinned, .pinned, .pinned, .pinned, .pinned, .pinned, .pinned], laidTests := true, laidLooks := .later }
def ShowOneUptoCardSaid : Prop := Claim7.holds Tryz.pinned (.plain (OpenSpec.upto showOneSpec)) showOneUptoCard

/-- THE SECOND FORM's CARD OF 'caulkerlaw09.ShowRaw'. -/
def showRawUptoCard : Claim7 := { stood := { row := showRawUptoRow, standIns := [], harness := (true, "22a93e1c6224e9b462de59588f70464869516dd15ba7870af5d102f846abc5d6"), looks := true }, kinds := [], alts := [], laidByText := true, laidKinds := [.data, .data, .widerDeep, .widerDeep, .data, .data, .data, .data, .data, .data, .sentinel, .sentinel, .pinned, .pinned, .pinned, .pinned, .pinned, .pinned, .pinned, .pinned], laidTests := true, laidLooks := .later }
def ShowRawUptoCardSaid : Prop := Claim7.holds Tryz.pinned (.plain (OpenSpec.upto showRawSpec)) showRawUptoCard
end Rows
end Go.Proofs.YtehaoepopklboaaGreatDoor
