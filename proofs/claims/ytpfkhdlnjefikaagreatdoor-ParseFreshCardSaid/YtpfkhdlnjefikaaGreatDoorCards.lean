/-
  DERIVED. GIVEN WITH THE SEED: THE CARDS: each row of YtpfkhdlnjefikaaGreatDoorRows.lean that lists a variable, with what it lists TIED to the program's text (the seventh form; the later family's looks); each row that meets fmt, with fmt's text TOLD by the authors' own Lean function (tested against real Go, not proved from fmt's source: count such statements apart). THE CARD IS WHAT COUNTS. Prove the row's statement (the work); the ties are given (YtpfkhdlnjefikaaGreatDoorTie.lean); close each card by the builder's one call (the guide's Derived/Test/ToyasCard.lean, 'card_holds'). Laid BY PROGRAM, IN A SANDBOX (cutbox-door.mjs). By AI agents, Wed Nov 11 2026. No macro, syntax, notation, axiom, sorry.
-/
import Derived.Test.YtpfkhdlnjefikaaGreatDoorRows
import GoSem.ClaimSeven
namespace Go.Proofs.YtpfkhdlnjefikaaGreatDoor
namespace Rows

/-- THE TIED CARD OF 'abacuslaw15.ParseAll'. -/
def parseAllCard : Claim7 := { stood := { row := parseAllRow, standIns := [], harness := (true, "28f83c4f115df76aa77fdf349539f0140d0e4f71eff7a9cf4881c07425f12381"), looks := true }, kinds := [], alts := [], laidByText := true, laidKinds := [.data, .data, .data, .data, .sentinel, .sentinel, .pinned], laidTests := true, laidLooks := .later }
def ParseAllCardSaid : Prop := Claim7.holds Tryz.pinned (.plain (OpenSpec.ofChange parseAllSpec)) parseAllCard

/-- THE TIED CARD OF 'abacuslaw15.ParseBytes'. -/
def parseBytesCard : Claim7 := { stood := { row := parseBytesRow, standIns := [], harness := (true, "28f83c4f115df76aa77fdf349539f0140d0e4f71eff7a9cf4881c07425f12381"), looks := true }, kinds := [], alts := [], laidByText := true, laidKinds := [.data, .data, .data, .data, .sentinel, .sentinel, .pinned], laidTests := true, laidLooks := .later }
def ParseBytesCardSaid : Prop := Claim7.holds Tryz.pinned (.plain (OpenSpec.ofChange parseBytesSpec)) parseBytesCard

/-- THE TIED CARD OF 'abacuslaw15.ParseFresh'. -/
def parseFreshCard : Claim7 := { stood := { row := parseFreshRow, standIns := [], harness := (true, "28f83c4f115df76aa77fdf349539f0140d0e4f71eff7a9cf4881c07425f12381"), looks := true }, kinds := [], alts := [], laidByText := true, laidKinds := [.data, .data, .data, .data, .sentinel, .sentinel, .pinned], laidTests := true, laidLooks := .later }
def ParseFreshCardSaid : Prop := Claim7.holds Tryz.pinned (.plain (OpenSpec.ofChange parseFreshSpec)) parseFreshCard

/-- THE SECOND FORM's CARD OF 'abacuslaw15.ParseAll'. -/
def parseAllUptoCard : Claim7 := { stood := { row := parseAllUptoRow, standIns := [], harness := (true, "28f83c4f115df76aa77fdf349539f0140d0e4f71eff7a9cf4881c07425f12381"), looks := true }, kinds := [], alts := [], laidByText := true, laidKinds := [.data, .data, .data, .data, .sentinel, .sentinel, .pinned], laidTests := true, laidLooks := .later }
def ParseAllUptoCardSaid : Prop := Claim7.holds Tryz.pinned (.plain (OpenSpec.upto parseAllSpec)) parseAllUptoCard

/-- THE SECOND FORM's CARD OF 'abacuslaw15.ParseBytes'. -/
def parseBytesUptoCard : Claim7 := { stood := { row := parseBytesUptoRow, standIns := [], harness := (true, "28f83c4f115df76aa77fdf349539f0140d0e4f71eff7a9cf4881c07425f12381"), looks := true }, kinds := [], alts := [], laidByText := true, laidKinds := [.data, .data, .data, .data, .sentinel, .sentinel, .pinned], laidTests := true, laidLooks := .later }
def ParseBytesUptoCardSaid : Prop := Claim7.holds Tryz.pinned (.plain (OpenSpec.upto parseBytesSpec)) parseBytesUptoCard

/-- THE SECOND FORM's CARD OF 'abacuslaw15.ParseFresh'. -/
def parseFreshUptoCard : Claim7 := { stood := { row := parseFreshUptoRow, standIns := [], harness := (true, "28f83c4f115df76aa77fdf349539f0140d0e4f71eff7a9cf4881c07425f12381"), looks := true }, kinds := [], alts := [], laidByText := true, laidKinds := [.data, .data, .data, .data, .sentinel, .sentinel, .pinned], laidTests := true, laidLooks := .later }
def ParseFreshUptoCardSaid : Prop := Claim7.holds Tryz.pinned (.plain (OpenSpec.upto parseFreshSpec)) parseFreshUptoCard
end Rows
end Go.Proofs.YtpfkhdlnjefikaaGreatDoor
