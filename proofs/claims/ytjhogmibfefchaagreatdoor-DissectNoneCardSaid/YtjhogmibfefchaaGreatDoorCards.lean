/-
  DERIVED. GIVEN WITH THE SEED: THE CARDS: each row of YtjhogmibfefchaaGreatDoorRows.lean that lists a variable, with what it lists TIED to the program's text (the seventh form; the later family's looks); each row that meets fmt, with fmt's text TOLD by the authors' own Lean function (tested against real Go, not proved from fmt's source: count such statements apart). THE CARD IS WHAT COUNTS. Prove the row's statement (the work); the ties are given (YtjhogmibfefchaaGreatDoorTie.lean); close each card by the builder's one call (the guide's Derived/Test/ToyasCard.lean, 'card_holds'). Laid BY PROGRAM, IN A SANDBOX (cutbox-door.mjs). By AI agents, Wed Nov 11 2026. No macro, syntax, notation, axiom, sorry.
-/
import Derived.Test.YtjhogmibfefchaaGreatDoorRows
import GoSem.ClaimSeven
namespace Go.Proofs.YtjhogmibfefchaaGreatDoor
namespace Rows

/-- THE TIED CARD OF 'abacuslaw20.DissectNone'. -/
def dissectNoneCard : Claim7 := { stood := { row := dissectNoneRow, standIns := [], harness := (true, "67f8da05ddf7b566b8c1fe5f89726278f2123477629092598e3a276128d8596e"), looks := true }, kinds := [], alts := [], laidByText := true, laidKinds := [.handle], laidTests := true, laidLooks := .later }
def DissectNoneCardSaid : Prop := Claim7.holds Tryz.pinned (.plain (OpenSpec.ofChange dissectNoneSpec)) dissectNoneCard

/-- THE TIED CARD OF 'abacuslaw19.WalkNone'. -/
def walkNoneCard : Claim7 := { stood := { row := walkNoneRow, standIns := [], harness := (true, "67f8da05ddf7b566b8c1fe5f89726278f2123477629092598e3a276128d8596e"), looks := true }, kinds := [], alts := [], laidByText := true, laidKinds := [.handle], laidTests := true, laidLooks := .later }
def WalkNoneCardSaid : Prop := Claim7.holds Tryz.pinned (.plain (OpenSpec.ofChange walkNoneSpec)) walkNoneCard

/-- THE SECOND FORM's CARD OF 'abacuslaw20.DissectNone'. -/
def dissectNoneUptoCard : Claim7 := { stood := { row := dissectNoneUptoRow, standIns := [], harness := (true, "67f8da05ddf7b566b8c1fe5f89726278f2123477629092598e3a276128d8596e"), looks := true }, kinds := [], alts := [], laidByText := true, laidKinds := [.handle], laidTests := true, laidLooks := .later }
def DissectNoneUptoCardSaid : Prop := Claim7.holds Tryz.pinned (.plain (OpenSpec.upto dissectNoneSpec)) dissectNoneUptoCard

/-- THE SECOND FORM's CARD OF 'abacuslaw19.WalkNone'. -/
def walkNoneUptoCard : Claim7 := { stood := { row := walkNoneUptoRow, standIns := [], harness := (true, "67f8da05ddf7b566b8c1fe5f89726278f2123477629092598e3a276128d8596e"), looks := true }, kinds := [], alts := [], laidByText := true, laidKinds := [.handle], laidTests := true, laidLooks := .later }
def WalkNoneUptoCardSaid : Prop := Claim7.holds Tryz.pinned (.plain (OpenSpec.upto walkNoneSpec)) walkNoneUptoCard
end Rows
end Go.Proofs.YtjhogmibfefchaaGreatDoor
