/-
  DERIVED. GIVEN WITH THE SEED: THE CARDS: each row of YtboondbognbnnaaGreatDoorRows.lean that lists a variable, with what it lists TIED to the program's text (the seventh form; the later family's looks); each row that meets fmt, with fmt's text TOLD by the authors' own Lean function (tested against real Go, not proved from fmt's source: count such statements apart). THE CARD IS WHAT COUNTS. Prove the row's statement (the work); the ties are given (YtboondbognbnnaaGreatDoorTie.lean); close each card by the builder's one call (the guide's Derived/Test/ToyasCard.lean, 'card_holds'). Laid BY PROGRAM, IN A SANDBOX (cutbox-door.mjs). By AI agents, Wed Nov 11 2026. No macro, syntax, notation, axiom, sorry.
-/
import Derived.Test.YtboondbognbnnaaGreatDoorRows
import GoSem.ClaimSeven
namespace Go.Proofs.YtboondbognbnnaaGreatDoor
namespace Rows

/-- THE TIED CARD OF 'abacuslaw18.SpaceSays'. -/
def spaceSaysCard : Claim7 := { stood := { row := spaceSaysRow, standIns := [], harness := (true, "cbcc26d28876830df26435de560e8cce799f1e34bad8626b068303aa1b49ba38"), looks := true }, kinds := [], alts := [], laidByText := true, laidKinds := [.data, .data, .data, .data, .sentinel, .sentinel, .pinned], laidTests := true, laidLooks := .later }
def SpaceSaysCardSaid : Prop := Claim7.holds Tryz.pinned (.plain (OpenSpec.ofChange spaceSaysSpec)) spaceSaysCard

/-- THE TIED CARD OF 'abacuslaw18.SpaceFixed'. -/
def spaceFixedCard : Claim7 := { stood := { row := spaceFixedRow, standIns := [], harness := (true, "cbcc26d28876830df26435de560e8cce799f1e34bad8626b068303aa1b49ba38"), looks := true }, kinds := [], alts := [], laidByText := true, laidKinds := [.data, .data, .data, .data, .sentinel, .sentinel, .pinned], laidTests := true, laidLooks := .later }
def SpaceFixedCardSaid : Prop := Claim7.holds Tryz.pinned (.plain (OpenSpec.ofChange spaceFixedSpec)) spaceFixedCard

/-- THE SECOND FORM's CARD OF 'abacuslaw18.SpaceSays'. -/
def spaceSaysUptoCard : Claim7 := { stood := { row := spaceSaysUptoRow, standIns := [], harness := (true, "cbcc26d28876830df26435de560e8cce799f1e34bad8626b068303aa1b49ba38"), looks := true }, kinds := [], alts := [], laidByText := true, laidKinds := [.data, .data, .data, .data, .sentinel, .sentinel, .pinned], laidTests := true, laidLooks := .later }
def SpaceSaysUptoCardSaid : Prop := Claim7.holds Tryz.pinned (.plain (OpenSpec.upto spaceSaysSpec)) spaceSaysUptoCard

/-- THE SECOND FORM's CARD OF 'abacuslaw18.SpaceFixed'. -/
def spaceFixedUptoCard : Claim7 := { stood := { row := spaceFixedUptoRow, standIns := [], harness := (true, "cbcc26d28876830df26435de560e8cce799f1e34bad8626b068303aa1b49ba38"), looks := true }, kinds := [], alts := [], laidByText := true, laidKinds := [.data, .data, .data, .data, .sentinel, .sentinel, .pinned], laidTests := true, laidLooks := .later }
def SpaceFixedUptoCardSaid : Prop := Claim7.holds Tryz.pinned (.plain (OpenSpec.upto spaceFixedSpec)) spaceFixedUptoCard
end Rows
end Go.Proofs.YtboondbognbnnaaGreatDoor
