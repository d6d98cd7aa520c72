/- The closed facts of the world that is ParseBytes' witness, and of its variables. -/
import Derived.Test.YtpfkhdlnjefikaaGreatDoorCards
import Derived.Test.YtpfkhdlnjefikaaGreatDoorTie
import Derived.ChangeSame
import Derived.ChangeVars
import Derived.JoinedOf
import Derived.RowKit
import Derived.ProofKit
import Derived.OpenShut
import Derived.LaidMore
import Derived.Lay
import Derived.SevenTiedAt
import Derived.Stop.Joined
namespace Go.Proofs.YtpfkhdlnjefikaaGreatDoor
open Go.ChangeShapes Go.WideShapes Go.ChangeAt Go.RowKit
theorem wit_zip (os : Os) : ((World.laidAll Tryz.prog os Rows.parseBytesRow.laid).forCall (fun _ _ => 0) ⟨#[], #[.string ByteArray.empty], []⟩).variablesZipB Tryz.prog = true := by kernel_rfl
theorem wit_rest (os : Os) : (((World.laidAll Tryz.prog os Rows.parseBytesRow.laid).forCall (fun _ _ => 0) ⟨#[], #[.string ByteArray.empty], []⟩).heap.toList.drop Tryz.prog.globals.size).take ((begin Tryz.prog (fun _ _ => 0) default).world.heap.size - Tryz.prog.globals.size) = (begin Tryz.prog (fun _ _ => 0) default).world.heap.toList.drop Tryz.prog.globals.size := by kernel_rfl
theorem wit_ok (os : Os) : Input.okWideB Tryz.prog ((World.laidAll Tryz.prog os Rows.parseBytesRow.laid).forCall (fun _ _ => 0) ⟨#[], #[.string ByteArray.empty], []⟩) 4 ⟨#[], #[.string ByteArray.empty], []⟩ = true := by kernel_rfl
theorem wit_pre (os : Os) (H : Type) (enc : TypeId × Value → H) : Rows.parseBytesSpec.preB enc Tryz.prog Tryz.f4 Rows.parseBytesRow.domain false ((World.laidAll Tryz.prog os Rows.parseBytesRow.laid).forCall (fun _ _ => 0) ⟨#[], #[.string ByteArray.empty], []⟩).memory #[.string ByteArray.empty] 8 = true := by kernel_rfl
theorem wit_sized (os : Os) (H : Type) (enc : TypeId × Value → H) : Rows.parseBytesSpec.sizedB enc Tryz.prog Tryz.f4 false ((World.laidAll Tryz.prog os Rows.parseBytesRow.laid).forCall (fun _ _ => 0) ⟨#[], #[.string ByteArray.empty], []⟩).memory #[.string ByteArray.empty] 8 = true := by kernel_rfl
theorem wit_fits (os : Os) : (World.holding Tryz.prog os ⟨#[], #[], []⟩).layFits Tryz.prog Rows.parseBytesRow.laid [] = true := by kernel_rfl
theorem wit_ifaces (os : Os) : (World.holding Tryz.prog os ⟨#[], #[], []⟩).layIfaces Tryz.prog Rows.parseBytesRow.laid (World.laidAll Tryz.prog os Rows.parseBytesRow.laid) = true := by kernel_rfl
theorem err_global : Tryz.prog.globalNamed "strconv.ErrRange" = some 4 := by kernel_rfl
theorem err_type : (Tryz.prog.globals[4]?).map (·.type) = some 149 := by kernel_rfl
theorem max_row : ((begin Tryz.prog (fun _ _ => 0) default).world.heap[2]?).bind Obj.row? = some (#[.int .i64 0], 3) := by kernel_rfl
theorem max_in : 2 < Tryz.prog.globals.size := of_decide_eq_true (by kernel_rfl)
theorem int_builds : Tryz.prog.buildable 3 = true := by kernel_rfl
theorem int_cells : Tryz.prog.cellTypes Tryz.prog.depth 3 = some [3] := by kernel_rfl
theorem str_plain : ([9].all fun u => !Tryz.prog.wantsStandIn u) = true := by kernel_rfl
end Go.Proofs.YtpfkhdlnjefikaaGreatDoor
