/-
  DERIVED. GIVEN WITH THE SEED: THE CARDS: each row of YtaklpoiaicepoaaGreatDoorRows.lean that lists a variable, with what it lists TIED to the program's text (the seventh form; the later family's looks); each row that meets fmt, with fmt's text TOLD by the authors' own Lean function (tested against real Go, not proved from fmt's source: count such statements apart). THE CARD IS WHAT COUNTS. Prove the row's statement (the work); the ties are given (YtaklpoiaicepoaaGreatDoorTie.lean); close each card by the builder's one call (the guide's Derived/Test/ToyasCard.lean, 'card_holds'). Laid BY PROGRAM, IN A SANDBOX (cutbox-door.mjs). By AI agents, Wed Nov 11 2026. No macro, syntax, notation, axiom, sorry.
-/
import Derived.Test.YtaklpoiaicepoaaGreatDoorRows
import GoSem.ClaimSeven
namespace Go.Proofs.YtaklpoiaicepoaaGreatDoor
namespace Rows

/-- THE TIED CARD OF 'caulkerlaw08.ParseWhole'. -/
def parseWholeCard : Claim7 := { stood := { row := parseWholeRow, standIns := [], harness := (true, "ecbe5053fcff2cbb4f6f17af245e5768c5d4ec8570a7104141b50f8d9a4f6d80"), looks := true }, kinds := [], alts := [], laidByText := true, laidKinds := [.data, .data, .widerDeep, .widerDeep, .data, .data, .data, .data, .data, .data, .sentinel, .sentinel, .pinned, .pinned, .pinned, .pinned, .pinned, .pinned, .pinned, .pinned], laidTests := true, laidLooks := .later }
def ParseWholeCardSaid : Prop := Claim7.holds Tryz.pinned (.plain (OpenSpec.ofChange parseWholeSpec)) parseWholeCard

/-- THE TIED CARD OF 'caulkerlaw08.ParseSpans'. -/
def parseSpansCard : Claim7 := { stood := { row := parseSpansRow, standIns := [], harness := (true, "ecbe5053fcff2cbb4f6f17af245e5768c5d4ec8570a7104141b50f8d9a4f6d80"), looks := true }, kinds := [], alts := [], laidByText := true, laidKinds := [.data, .data, .widerDeep, .widerDeep, .data, .data, .data, .data, .data, .data, .sentinel, .sentinel, .pinned, .pinned, .pinned, .pinned, .pinned, .pinned, .pinned, .pinned], laidTests := true, laidLooks := .later }
def ParseSpansCardSaid : Prop := Claim7.holds Tryz.pinned (.plain (OpenSpec.ofChange parseSpansSpec)) parseSpansCard

/-- THE TIED CARD OF 'caulkerlaw08.ParseBlanks'. -/
def parseBlanksCard : Claim7 := { stood := { row := parseBlanksRow, standIns := [], harness := (true, "ecbe5053fcff2cbb4f6f17af245e5768c5d4ec8570a7104141b50f8d9a4f6d80"), looks := true }, kinds := [], alts := [], laidByText := true, laidKinds := [.data, .data, .widerDeep, .widerDeep, .data, .data, .data, .data, .data, .data, .sentinel, .sentinel, .pinned, .pinned, .pinned, .pinned, .pinned, .pinned, .pinned, .pinned], laidTests := true, laidLooks := .later }
def ParseBlanksCardSaid : Prop := Claim7.holds Tryz.pinned (.plain (OpenSpec.ofChange parseBlanksSpec)) parseBlanksCard

/-- THE TIED CARD OF 'caulkerlaw08.ParsePieces'. -/
def parsePiecesCard : Claim7 := { stood := { row := parsePiecesRow, standIns := [], harness := (true, "ecbe5053fcff2cbb4f6f17af245e5768c5d4ec8570a7104141b50f8d9a4f6d80"), looks := true }, kinds := [], alts := [], laidByText := true, laidKinds := [.data, .data, .widerDeep, .widerDeep, .data, .data, .data, .data, .data, .data, .sentinel, .sentinel, .pinned, .pinned, .pinned, .pinned, .pinned, .pinned, .pinned, .pinned], laidTests := true, laidLooks := .later }
def ParsePiecesCardSaid : Prop := Claim7.holds Tryz.pinned (.plain (OpenSpec.ofChange parsePiecesSpec)) parsePiecesCard

/-- THE TIED CARD OF 'caulkerlaw08.ParseDeep'. -/
def parseDeepCard : Claim7 := { stood := { row := parseDeepRow, standIns := [], harness := (true, "ecbe5053fcff2cbb4f6f17af245e5768c5d4ec8570a7104141b50f8d9a4f6d80"), looks := true }, kinds := [], alts := [], laidByText := true, laidKinds := [.data, .data, .widerDeep, .widerDeep, .data, .data, .data, .data, .data, .data, .sentinel, .sentinel, .pinned, .pinned, .pinned, .pinned, .pinned, .pinned, .pinned, .pinned], laidTests := true, laidLooks := .later }
def ParseDeepCardSaid : Prop := Claim7.holds Tryz.pinned (.plain (OpenSpec.ofChange parseDeepSpec)) parseDeepCard

/-- THE TIED CARD OF 'caulkerlaw08.ParseMany'. -/
def parseManyCard : Claim7 := { stood := { row := parseManyRow, standIns := [], harness := (true, "ecbe5053fcff2cbb4f6f17af245e5768c5d4ec8570a7104141b50f8d9a4f6d80"), looks := true }, kinds := [], alts := [], laidByText := true, laidKinds := [.data, .data, .widerDeep, .widerDeep, .data, .data, .data, .data, .data, .data, .sentinel, .sentinel, .pinned, .pinned, .pinned, .pinned, .pinned, .pinned, .pinned, .pinned], laidTests := true, laidLooks := .later }
def ParseManyCardSaid : Prop := Claim7.holds Tryz.pinned (.plain (OpenSpec.ofChange parseManySpec)) parseManyCard

/-- THE SECOND FORM's CARD OF 'caulkerlaw08.ParseWhole'. -/
def parseWholeUptoCard : Claim7 := { stood := { row := parseWholeUptoRow, standIns := [], harness := (true, "ecbe5053fcff2cbb4f6f17af245e5768c5d4ec8570a7104141b50f8d9a4f6d80"), looks := true }, kinds := [], alts := [], laidByText := true, laidKinds := [.data, .data, .widerDeep, .widerDeep, .data, .data, .data, .data, .data, .data, .sentinel, .sentinel, .pinned, .pinned, .pinned, .pinned, .pinned, .pinned, .pinned, .pinned], laidTests := true, laidLooks := .later }
def ParseWholeUptoCardSaid : Prop := Claim7.holds Tryz.pinned (.plain (OpenSpec.upto parseWholeSpec)) parseWholeUptoCard

/-- THE SECOND FORM's CARD OF 'caulkerlaw08.ParseSpans'. -/
def parseSpansUptoCard : Claim7 := { stood := { row := parseSpansUptoRow, standIns := [], harness := (true, "ecbe5053fcff2cbb4f6f17af245e5768c5d4ec8570a7104141b50f8d9a4f6d80"), looks := true }, kinds := [], alts := [], laidByText := true, laidKinds := [.data, .data, .widerDeep, .widerDeep, .data, .data, .data, .data, .data, .data, .sentinel, .sentinel, .pinned, .pinned, .pinned, .pinned, .pinned, .pinned, .pinned, .pinned], laidTests := true, laidLooks := .later }
def ParseSpansUptoCardSaid : Prop := Claim7.holds Tryz.pinned (.plain (OpenSpec.upto parseSpansSpec)) parseSpansUptoCard

/-- THE SECOND FORM's CARD OF 'caulkerlaw08.ParseBlanks'. -/
def parseBlanksUptoCard : Claim7 := { stood := { row := parseBlanksUptoRow, standIns := [], harness := (true, "ecbe5053fcff2cbb4f6f17af245e5768c5d4ec8570a7104141b50f8d9a4f6d80"), looks := true }, kinds := [], alts := [], laidByText := true, laidKinds := [.data, .data, .widerDeep, .widerDeep, .data, .data, .data, .data, .data, .data, .sentinel, .sentinel, .pinned, .pinned, .pinned, .pinned, .pinned, .pinned, .pinned, .pinned], laidTests := true, laidLooks := .later }
def ParseBlanksUptoCardSaid : Prop := Claim7.holds Tryz.pinned (.plain (OpenSpec.upto parseBlanksSpec)) parseBlanksUptoCard

/-- THE SECOND FORM's CARD OF 'caulkerlaw08.ParsePieces'. -/
def parsePiecesUptoCard : Claim7 := { stood := { row := parsePiecesUptoRow, standIns := [], harness := (true, "ecbe5053fcff2cbb4f6f17af245e5768c5d4ec8570a7104141b50f8d9a4f6d80"), looks := true }, kinds := [], alts := [], laidByText := true, laidKinds := [.data, .data, .widerDeep, .widerDeep, .data, .data, .data, .data, .data, .data, .sentinel, .sentinel, .pinned, .pinned, .pinned, .pinned, .pinned, .pinned, .pinned, .pinned], laidTests := true, laidLooks := .later }
def ParsePiecesUptoCardSaid : Prop := Claim7.holds Tryz.pinned (.plain (OpenSpec.upto parsePiecesSpec)) parsePiecesUptoCard

/-- THE SECOND FORM's CARD OF 'caulkerlaw08.ParseDeep'. -/
def parseDeepUptoCard : Claim7 := { stood := { row := parseDeepUptoRow, standIns := [], harness := (true, "ecbe5053fcff2cbb4f6f17af245e5768c5d4ec8570a7104141b50f8d9a4f6d80"), looks := true }, kinds := [], alts := [], laidByText := true, laidKinds := [.data, .data, .widerDeep, .widerDeep, .data, .data, .data, .data, .data, .data, .sentinel, .sentinel, .pinned, .pinned, .pinned, .pinned, .pinned, .pinned, .pinned, .pinned], laidTests := true, laidLooks := .later }
def ParseDeepUptoCardSaid : Prop := Claim7.holds Tryz.pinned (.plain (OpenSpec.upto parseDeepSpec)) parseDeepUptoCard

/-- THE SECOND FORM's CARD OF 'caulkerlaw08.ParseMany'. -/
def parseManyUptoCard : Claim7 := { stood := { row := parseManyUptoRow, standIns := [], harness := (true, "ecbe5053fcff2cbb4f6f17af245e5768c5d4ec8570a7104141b50f8d9a4f6d80"), looks := true }, kinds := [], alts := [], laidByText := true, laidKinds := [.data, .data, .widerDeep, .widerDeep, .data, .data, .data, .data, .data, .data, .sentinel, .sentinel, .pinned, .pinned, .pinned, .pinned, .pinned, .pinned, .pinned, .pinned], laidTests := true, laidLooks := .later }
def ParseManyUptoCardSaid : Prop := Claim7.holds Tryz.pinned (.plain (OpenSpec.upto parseManySpec)) parseManyUptoCard
end Rows
end Go.Proofs.YtaklpoiaicepoaaGreatDoor
