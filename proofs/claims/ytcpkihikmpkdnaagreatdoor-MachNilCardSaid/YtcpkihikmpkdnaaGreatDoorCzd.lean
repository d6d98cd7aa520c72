/- MachNil's row. -/
import Derived.Test.YtcpkihikmpkdnaaGreatDoorCards
import Derived.Test.YtcpkihikmpkdnaaGreatDoorCzc
import Derived.Test.YtcpkihikmpkdnaaGreatDoorCzr
import Derived.Test.YtcpkihikmpkdnaaGreatDoorTie
import Derived.ChangeSame
import Derived.ChangeVars
import Derived.JoinedOf
import Derived.RowKit
import Derived.RowKitTokens
import Derived.LaidLaws
import Derived.LaidHandle
import Derived.Stop.Joined
import Derived.SevenTiedAt
import Derived.ProofKit
import Derived.OpenShut
import Derived.Lay
set_option linter.unusedVariables false
set_option linter.unusedSimpArgs false
namespace Go.Proofs.YtcpkihikmpkdnaaGreatDoor
open Go.ChangeShapes Go.WideShapes Go.ChangeAt Go.RowKit
theorem machNil_said : Rows.MachNilSaid :=
  OpenClaim.holds_of_wide 3 Tryz.f3 rfl rfl rfl rfl rfl rfl rfl ⟨rfl, rfl, rfl, rfl, rfl⟩ rfl rfl rfl rfl rfl row_name Tryz.func3 row_closed
    row_inst row_wrap (fun os started H enc _ => machNil_lifted os started H enc)
theorem machNil_plain (f : FuncId) (fn : Func) (hf : Tryz.pinned.checked.prog.funcNamed "abacus/abacuslaw23.MachNil" = some f) (hfn : Tryz.pinned.checked.prog.funcs[f]? = some fn) :
    true = Tryz.pinned.checked.prog.looks [] ∧ ∀ (j : Nat) t, fn.params[j]? = some t → Tryz.pinned.checked.prog.wantsStandIn t = false := by
  obtain rfl : f = 3 := Option.some.inj (row_name.symm.trans hf) |>.symm
  obtain rfl : fn = Tryz.f3 := (Option.some.inj (Tryz.func3.symm.trans hfn)).symm
  refine ⟨row_looks, fun j t ht => ?_⟩
  rw [Tryz.params3] at ht
  simp at ht

/-- THE CARD. -/
theorem machNil_card : Rows.MachNilCardSaid :=
  Claim7.holds_tied_plain_at .later [] _ _ (true, "0db7a5c3873b29ce53893c868510cc469263a074c390339499e1ab70548fff8d") _ machNil_said (fun _ h => by cases h) row_wfText (fun _ h => by cases h) machNil_row_tie rfl ⟨rfl, rfl⟩ row_main rfl machNil_plain row_goes
#print axioms machNil_card
end Go.Proofs.YtcpkihikmpkdnaaGreatDoor
