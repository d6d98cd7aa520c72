/-
  DERIVED. GIVEN WITH THE SEED: THE CARDS: each row of YtimcmghhbdfjfaaGreatDoorRows.lean that lists a variable, with what it lists TIED to the program's text (the seventh form; the later family's looks); each row that meets fmt, with fmt's text TOLD by the authors' own Lean function (tested against real Go, not proved from fmt's source: count such statements apart). THE CARD IS WHAT COUNTS. Prove the row's statement (the work); the ties are given (YtimcmghhbdfjfaaGreatDoorTie.lean); close each card by the builder's one call (the guide's Derived/Test/ToyasCard.lean, 'card_holds'). Laid BY PROGRAM, IN A SANDBOX (cutbox-door.mjs). By AI agents, Wed Nov 11 2026. No macro, syntax, notation, axiom, sorry.
-/
import Derived.Test.YtimcmghhbdfjfaaGreatDoorRows
import GoSem.ClaimSeven
namespace Go.Proofs.YtimcmghhbdfjfaaGreatDoor
namespace Rows

/-- THE TIED CARD OF 'abacuslaw15.ParsePrinted'. -/
def parsePrintedCard : Claim7 := { stood := { row := parsePrintedRow, standIns := [], harness := (true, "2905f9fed1f9102a9625611ba31309af84306751917187da9a9cec02881a7456"), looks := true }, kinds := [], alts := [], laidByText := true, laidKinds := [.data, .data, .data, .data, .sentinel, .sentinel, .pinned], laidTests := true, laidLooks := .later }
def ParsePrintedCardSaid : Prop := Claim7.holds Tryz.pinned (.plain (OpenSpec.ofChange parsePrintedSpec)) parsePrintedCard

/-- THE TIED CARD OF 'abacuslaw15.ParseLined'. -/
def parseLinedCard : Claim7 := { stood := { row := parseLinedRow, standIns := [], harness := (true, "2905f9fed1f9102a9625611ba31309af84306751917187da9a9cec02881a7456"), looks := true }, kinds := [], alts := [], laidByText := true, laidKinds := [.data, .data, .data, .data, .sentinel, .sentinel, .pinned], laidTests := true, laidLooks := .later }
def ParseLinedCardSaid : Prop := Claim7.holds Tryz.pinned (.plain (OpenSpec.ofChange parseLinedSpec)) parseLinedCard

/-- THE TIED CARD OF 'abacuslaw15.ParseBrackets'. -/
def parseBracketsCard : Claim7 := { stood := { row := parseBracketsRow, standIns := [], harness := (true, "2905f9fed1f9102a9625611ba31309af84306751917187da9a9cec02881a7456"), looks := true }, kinds := [], alts := [], laidByText := true, laidKinds := [.data, .data, .data, .data, .sentinel, .sentinel, .pinned], laidTests := true, laidLooks := .later }
def ParseBracketsCardSaid : Prop := Claim7.holds Tryz.pinned (.plain (OpenSpec.ofChange parseBracketsSpec)) parseBracketsCard

/-- THE SECOND FORM's CARD OF 'abacuslaw15.ParsePrinted'. -/
def parsePrintedUptoCard : Claim7 := { stood := { row := parsePrintedUptoRow, standIns := [], harness := (true, "2905f9fed1f9102a9625611ba31309af84306751917187da9a9cec02881a7456"), looks := true }, kinds := [], alts := [], laidByText := true, laidKinds := [.data, .data, .data, .data, .sentinel, .sentinel, .pinned], laidTests := true, laidLooks := .later }
def ParsePrintedUptoCardSaid : Prop := Claim7.holds Tryz.pinned (.plain (OpenSpec.upto parsePrintedSpec)) parsePrintedUptoCard

/-- THE SECOND FORM's CARD OF 'abacuslaw15.ParseLined'. -/
def parseLinedUptoCard : Claim7 := { stood := { row := parseLinedUptoRow, standIns := [], harness := (true, "2905f9fed1f9102a9625611ba31309af84306751917187da9a9cec02881a7456"), looks := true }, kinds := [], alts := [], laidByText := true, laidKinds := [.data, .data, .data, .data, .sentinel, .sentinel, .pinned], laidTests := true, laidLooks := .later }
def ParseLinedUptoCardSaid : Prop := Claim7.holds Tryz.pinned (.plain (OpenSpec.upto parseLinedSpec)) parseLinedUptoCard

/-- THE SECOND FORM's CARD OF 'abacuslaw15.ParseBrackets'. -/
def parseBracketsUptoCard : Claim7 := { stood := { row := parseBracketsUptoRow, standIns := [], harness := (true, "2905f9fed1f9102a9625611ba31309af84306751917187da9a9cec02881a7456"), looks := true }, kinds := [], alts := [], laidByText := true, laidKinds := [.data, .data, .data, .data, .sentinel, .sentinel, .pinned], laidTests := true, laidLooks := .later }
def ParseBracketsUptoCardSaid : Prop := Claim7.holds Tryz.pinned (.plain (OpenSpec.upto parseBracketsSpec)) parseBracketsUptoCard
end Rows
end Go.Proofs.YtimcmghhbdfjfaaGreatDoor
