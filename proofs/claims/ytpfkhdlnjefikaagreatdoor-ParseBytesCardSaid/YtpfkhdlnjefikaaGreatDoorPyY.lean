/- The closed facts of ParseBytes' row, each by the kernel, and of the world that its witness is. -/
import Derived.Test.YtpfkhdlnjefikaaGreatDoorCards
import Derived.Test.YtpfkhdlnjefikaaGreatDoorTie
import Derived.ChangeSame
import Derived.ChangeVars
import Derived.JoinedOf
import Derived.RowKit
import Derived.ProofKit
import Derived.OpenShut
import Derived.LaidMore
import Derived.Lay
import Derived.SevenTiedAt
import Derived.Stop.Joined
namespace Go.Proofs.YtpfkhdlnjefikaaGreatDoor
open Go.ChangeShapes Go.WideShapes Go.ChangeAt Go.RowKit
theorem own_knob : ownKnob Tryz.prog.godebug = none := by kernel_rfl
theorem jf0 : (Rows.parseBytesRow.wf (OpenSpec.ofChange Rows.parseBytesSpec)) = true := by kernel_rfl
theorem jf1 : (laidOutB Tryz.pinned.checked.prog) = true := by kernel_rfl
theorem jf2 : (mapsRowed Tryz.pinned.checked.prog) = true := by kernel_rfl
theorem jf3 : (Tryz.f4.params.all (Tryz.pinned.checked.prog.readableRec ·)) = true := by kernel_rfl
theorem jf4 : (namedTie Tryz.pinned.checked.prog Rows.parseBytesRow.named Rows.parseBytesSpec.vars) = true := by kernel_rfl
theorem jf5 : ((Rows.parseBytesRow.stops == [])) = true := by kernel_rfl
theorem jf6 : ((Tryz.pinned.checked.prog.stops == [])) = true := by kernel_rfl
theorem jf7 : ((Rows.parseBytesRow.knobs == [])) = true := by kernel_rfl
theorem jf8 : ((Tryz.pinned.checked.prog.stopKnobs == [])) = true := by kernel_rfl
theorem jf9 : ((Rows.parseBytesRow.inPlace == Tryz.pinned.checked.prog.inPlace 4)) = true := by kernel_rfl
theorem jf10 : ((Rows.parseBytesRow.unfollowed == Tryz.pinned.checked.prog.unfollowed 4)) = true := by kernel_rfl
theorem jf11 : ((Rows.parseBytesRow.recurses == Tryz.pinned.checked.prog.recurses 4)) = true := by kernel_rfl
theorem jf12 : ((Rows.parseBytesRow.named == Tryz.pinned.checked.prog.varsNamed 4)) = true := by kernel_rfl
theorem jf13 : ((Rows.parseBytesRow.maps == (Tryz.f4.params.toList ++ Rows.parseBytesSpec.plain.varTypes Tryz.pinned.checked.prog).any (Tryz.pinned.checked.prog.mapsRec ·))) = true := by kernel_rfl
theorem jf14 : ((Rows.parseBytesRow.ifaces == (Tryz.f4.params.toList ++ Rows.parseBytesSpec.plain.varTypes Tryz.pinned.checked.prog).any (Tryz.pinned.checked.prog.ifacesRec ·))) = true := by kernel_rfl
theorem jf15 : ((Rows.parseBytesRow.mapsOut == Tryz.pinned.checked.prog.mapsAmong Tryz.f4.resultTypes.toList)) = true := by kernel_rfl
theorem jf16 : ((Rows.parseBytesRow.loops == (Tryz.f4.params.toList ++ Rows.parseBytesSpec.plain.varTypes Tryz.pinned.checked.prog).any (Tryz.pinned.checked.prog.loopsFrom ·))) = true := by kernel_rfl
theorem jf17 : ((Rows.parseBytesRow.wideKeys == (Tryz.f4.params.toList ++ Rows.parseBytesSpec.plain.varTypes Tryz.pinned.checked.prog ++ Tryz.f4.resultTypes.toList).any (Tryz.pinned.checked.prog.wideKeysFrom ·))) = true := by kernel_rfl
theorem jf18 : (Rows.parseBytesSpec.vars.all (Tryz.pinned.checked.prog.varReadable ·)) = true := by kernel_rfl
theorem jf19 : (Tryz.f4.resultTypes.all (fun t => Tryz.pinned.checked.prog.readableRec t && decide (t < Tryz.pinned.checked.prog.types.size))) = true := by kernel_rfl
theorem jf20 : ((Rows.parseBytesRow.ifacesOut == Tryz.f4.resultTypes.toList.any (Tryz.pinned.checked.prog.ifacesRec ·))) = true := by kernel_rfl
theorem jf21 : ((Rows.parseBytesRow.loopsOut == Tryz.f4.resultTypes.toList.any (Tryz.pinned.checked.prog.loopsFrom ·))) = true := by kernel_rfl
theorem jf22 : ((Rows.parseBytesRow.plainKeys == Tryz.pinned.checked.prog.plainKeys)) = true := by kernel_rfl
theorem jf23 : (Rows.parseBytesRow.shortTexts.isNone) = true := by kernel_rfl
theorem jf24 : (Tryz.pinned.checked.prog.stopsHeard) = true := by kernel_rfl
theorem jf25 : (Tryz.pinned.checked.prog.mayEnter) = true := by kernel_rfl
theorem jf26 : ((Rows.parseBytesRow.lifted == Tryz.pinned.checked.prog.liftsFinal)) = true := by kernel_rfl
theorem jf27 : ((Tryz.pinned.checked.prog.make == some Rows.parseBytesRow.make)) = true := by kernel_rfl
theorem jf29 : ((Rows.parseBytesRow.pinned == Rows.parseBytesRow.pinnedBy)) = true := by kernel_rfl
theorem jf30 : ((Rows.parseBytesRow.veiled == (Tryz.f4.params.toList ++ Rows.parseBytesSpec.plain.varTypes Tryz.pinned.checked.prog ++ Tryz.f4.resultTypes.toList).any (Tryz.pinned.checked.prog.veiledRec ·))) = true := by kernel_rfl
theorem jf31 : (Rows.parseBytesRow.veiledFits Tryz.pinned.checked.prog Tryz.f4.params.toList (Tryz.f4.params.toList ++ Rows.parseBytesSpec.plain.varTypes Tryz.pinned.checked.prog ++ Tryz.f4.resultTypes.toList)) = true := by kernel_rfl
theorem and2 {a b : Bool} (h : a = true) (k : b = true) : (a && b) = true := by rw [h, k]; rfl
theorem row_closed : joinedFacts Tryz.pinned.checked.prog 4 Tryz.f4 Rows.parseBytesSpec Rows.parseBytesRow = true := by
  unfold joinedFacts
  refine (and2 (and2 (and2 (and2 (and2 (and2 (and2 (and2 (and2 (and2 (and2 (and2 (and2 (and2 (and2 (and2 (and2 (and2 (and2 (and2 (and2 (and2 (and2 (and2 (and2 (and2 (and2 (and2 (and2 (and2 (and2 jf0 jf1) jf2) jf3) jf4) jf5) jf6) jf7) jf8) jf9) jf10) jf11) jf12) jf13) jf14) jf15) jf16) jf17) jf18) jf19) jf20) jf21) jf22) jf23) jf24) jf25) jf26) jf27) ?_) jf29) jf30) jf31)
  kernel_rfl
theorem row_name : Tryz.pinned.checked.prog.funcNamed Rows.parseBytesRow.func = some 4 := by kernel_rfl
theorem row_inst : Tryz.f4.isInstance Tryz.pinned.checked.prog Rows.parseBytesRow.origin Rows.parseBytesRow.targs := of_decide_eq_true (by kernel_rfl)
theorem row_wrap : Tryz.f4.isWrapper Tryz.pinned.checked.prog Rows.parseBytesRow.wrapper Rows.parseBytesRow.mainSum := by
  unfold Func.isWrapper
  rw [if_neg (of_decide_eq_false (by kernel_rfl))]
  exact ⟨rfl, rfl⟩
theorem row_noInit : Tryz.prog.inits.idxOf? 4 = none := by kernel_rfl
theorem row_wfText : Rows.parseBytesRow.wfByText (OpenSpec.ofChange Rows.parseBytesSpec) = true := by kernel_rfl
theorem row_main : Tryz.pinned.checked.prog.mainIs = some (true, "28f83c4f115df76aa77fdf349539f0140d0e4f71eff7a9cf4881c07425f12381".toList) := by kernel_rfl
theorem row_goes : false = Rows.parseBytesRow.goesBy Tryz.pinned.checked.prog := by kernel_rfl
theorem row_looks : true = Tryz.pinned.checked.prog.looks [] := by kernel_rfl
theorem row_plainLaid : (Rows.parseBytesRow.laid.all fun x => x.2.handleName?.isNone) = true := by kernel_rfl
end Go.Proofs.YtpfkhdlnjefikaaGreatDoor
