/-
  DERIVED. GIVEN WITH THE SEED: THE CARDS: each row of YtcpkihikmpkdnaaGreatDoorRows.lean that lists a variable, with what it lists TIED to the program's text (the seventh form; the later family's looks); each row that meets fmt, with fmt's text TOLD by the authors' own Lean function (tested against real Go, not proved from fmt's source: count such statements apart). THE CARD IS WHAT COUNTS. Prove the row's statement (the work); the ties are given (YtcpkihikmpkdnaaGreatDoorTie.lean); close each card by the builder's one call (the guide's Derived/Test/ToyasCard.lean, 'card_holds'). Laid BY PROGRAM, IN A SANDBOX (cutbox-door.mjs). By AI agents, Wed Nov 11 2026. No macro, syntax, notation, axiom, sorry.
-/
import Derived.Test.YtcpkihikmpkdnaaGreatDoorRows
import GoSem.ClaimSeven
namespace Go.Proofs.YtcpkihikmpkdnaaGreatDoor
namespace Rows

/-- THE TIED CARD OF 'abacuslaw23.MachNil'. -/
def machNilCard : Claim7 := { stood := { row := machNilRow, standIns := [], harness := (true, "0db7a5c3873b29ce53893c868510cc469263a074c390339499e1ab70548fff8d"), looks := true }, kinds := [], alts := [], laidByText := true, laidKinds := [.data, .data, .data, .handle], laidTests := true, laidLooks := .later }
def MachNilCardSaid : Prop := Claim7.holds Tryz.pinned (.plain (OpenSpec.ofChange machNilSpec)) machNilCard

/-- THE SECOND FORM's CARD OF 'abacuslaw23.MachNil'. -/
def machNilUptoCard : Claim7 := { stood := { row := machNilUptoRow, standIns := [], harness := (true, "0db7a5c3873b29ce53893c868510cc469263a074c390339499e1ab70548fff8d"), looks := true }, kinds := [], alts := [], laidByText := true, laidKinds := [.data, .data, .data, .handle], laidTests := true, laidLooks := .later }
def MachNilUptoCardSaid : Prop := Claim7.holds Tryz.pinned (.plain (OpenSpec.upto machNilSpec)) machNilUptoCard
end Rows
end Go.Proofs.YtcpkihikmpkdnaaGreatDoor
