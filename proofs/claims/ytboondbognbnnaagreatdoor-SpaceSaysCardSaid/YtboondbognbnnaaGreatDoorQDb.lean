/- The closed facts of SpaceSays' row, each by the kernel, and of the world that its witness is. -/
import Derived.Test.YtboondbognbnnaaGreatDoorCards
import Derived.Test.YtboondbognbnnaaGreatDoorTie
import Derived.ChangeSame
import Derived.ChangeVars
import Derived.JoinedOf
import Derived.RowKit
import Derived.ProofKit
import Derived.OpenShut
import Derived.LaidMore
import Derived.Lay
import Derived.SevenTiedAt
import Derived.Stop.Joined
set_option linter.unusedVariables false
set_option linter.unusedSimpArgs false
namespace Go.Proofs.YtboondbognbnnaaGreatDoor
open Go.ChangeShapes Go.WideShapes Go.ChangeAt Go.RowKit
theorem own_knob : ownKnob Tryz.prog.godebug = none := by kernel_rfl
theorem jf0 : (Rows.spaceSaysRow.wf (OpenSpec.ofChange Rows.spaceSaysSpec)) = true := by kernel_rfl
theorem jf1 : (laidOutB Tryz.pinned.checked.prog) = true := by kernel_rfl
theorem jf2 : (mapsRowed Tryz.pinned.checked.prog) = true := by kernel_rfl
theorem jf3 : (Tryz.f3.params.all (Tryz.pinned.checked.prog.readableRec ·)) = true := by kernel_rfl
theorem jf4 : (namedTie Tryz.pinned.checked.prog Rows.spaceSaysRow.named Rows.spaceSaysSpec.vars) = true := by kernel_rfl
theorem jf5 : ((Rows.spaceSaysRow.stops == [])) = true := by kernel_rfl
theorem jf6 : ((Tryz.pinned.checked.prog.stops == [])) = true := by kernel_rfl
theorem jf7 : ((Rows.spaceSaysRow.knobs == [])) = true := by kernel_rfl
theorem jf8 : ((Tryz.pinned.checked.prog.stopKnobs == [])) = true := by kernel_rfl
theorem jf9 : ((Rows.spaceSaysRow.inPlace == Tryz.pinned.checked.prog.inPlace 3)) = true := by kernel_rfl
theorem jf10 : ((Rows.spaceSaysRow.unfollowed == Tryz.pinned.checked.prog.unfollowed 3)) = true := by kernel_rfl
theorem jf11 : ((Rows.spaceSaysRow.recurses == Tryz.pinned.checked.prog.recurses 3)) = true := by kernel_rfl
theorem jf12 : ((Rows.spaceSaysRow.named == Tryz.pinned.checked.prog.varsNamed 3)) = true := by kernel_rfl
theorem jf13 : ((Rows.spaceSaysRow.maps == (Tryz.f3.params.toList ++ Rows.spaceSaysSpec.plain.varTypes Tryz.pinned.checked.prog).any (Tryz.pinned.checked.prog.mapsRec ·))) = true := by kernel_rfl
theorem jf14 : ((Rows.spaceSaysRow.ifaces == (Tryz.f3.params.toList ++ Rows.spaceSaysSpec.plain.varTypes Tryz.pinned.checked.prog).any (Tryz.pinned.checked.prog.ifacesRec ·))) = true := by kernel_rfl
theorem jf15 : ((Rows.spaceSaysRow.mapsOut == Tryz.pinned.checked.prog.mapsAmong Tryz.f3.resultTypes.toList)) = true := by kernel_rfl
theorem jf16 : ((Rows.spaceSaysRow.loops == (Tryz.f3.params.toList ++ Rows.spaceSaysSpec.plain.varTypes Tryz.pinned.checked.prog).any (Tryz.pinned.checked.prog.loopsFrom ·))) = true := by kernel_rfl
theorem jf17 : ((Rows.spaceSaysRow.wideKeys == (Tryz.f3.params.toList ++ Rows.spaceSaysSpec.plain.varTypes Tryz.pinned.checked.prog ++ Tryz.f3.resultTypes.toList).any (Tryz.pinned.checked.prog.wideKeysFrom ·))) = true := by kernel_rfl
theorem jf18 : (Rows.spaceSaysSpec.vars.all (Tryz.pinned.checked.prog.varReadable ·)) = true := by kernel_rfl
theorem jf19 : (Tryz.f3.resultTypes.all (fun t => Tryz.pinned.checked.prog.readableRec t && decide (t < Tryz.pinned.checked.prog.types.size))) = true := by kernel_rfl
theorem jf20 : ((Rows.spaceSaysRow.ifacesOut == Tryz.f3.resultTypes.toList.any (Tryz.pinned.checked.prog.ifacesRec ·))) = true := by kernel_rfl
theorem jf21 : ((Rows.spaceSaysRow.loopsOut == Tryz.f3.resultTypes.toList.any (Tryz.pinned.checked.prog.loopsFrom ·))) = true := by kernel_rfl
theorem jf22 : ((Rows.spaceSaysRow.plainKeys == Tryz.pinned.checked.prog.plainKeys)) = true := by kernel_rfl
theorem jf23 : (Rows.spaceSaysRow.shortTexts.isNone) = true := by kernel_rfl
theorem jf24 : (Tryz.pinned.checked.prog.stopsHeard) = true := by kernel_rfl
theorem jf25 : (Tryz.pinned.checked.prog.mayEnter) = true := by kernel_rfl
theorem jf26 : ((Rows.spaceSaysRow.lifted == Tryz.pinned.checked.prog.liftsFinal)) = true := by kernel_rfl
theorem jf27 : ((Tryz.pinned.checked.prog.make == some Rows.spaceSaysRow.make)) = true := by kernel_rfl
theorem jf29 : ((Rows.spaceSaysRow.pinned == Rows.spaceSaysRow.pinnedBy)) = true := by kernel_rfl
theorem jf30 : ((Rows.spaceSaysRow.veiled == (Tryz.f3.params.toList ++ Rows.spaceSaysSpec.plain.varTypes Tryz.pinned.checked.prog ++ Tryz.f3.resultTypes.toList).any (Tryz.pinned.checked.prog.veiledRec ·))) = true := by kernel_rfl
theorem jf31 : (Rows.spaceSaysRow.veiledFits Tryz.pinned.checked.prog Tryz.f3.params.toList (Tryz.f3.params.toList ++ Rows.spaceSaysSpec.plain.varTypes Tryz.pinned.checked.prog ++ Tryz.f3.resultTypes.toList)) = true := by kernel_rfl
theorem and2 {a b : Bool} (h : a = true) (k : b = true) : (a && b) = true := by rw [h, k]; rfl
theorem row_closed : joinedFacts Tryz.pinned.checked.prog 3 Tryz.f3 Rows.spaceSaysSpec Rows.spaceSaysRow = true := by
  unfold joinedFacts
  refine (and2 (and2 (and2 (and2 (and2 (and2 (and2 (and2 (and2 (and2 (and2 (and2 (and2 (and2 (and2 (and2 (and2 (and2 (and2 (and2 (and2 (and2 (and2 (and2 (and2 (and2 (and2 (and2 (and2 (and2 (and2 jf0 jf1) jf2) jf3) jf4) jf5) jf6) jf7) jf8) jf9) jf10) jf11) jf12) jf13) jf14) jf15) jf16) jf17) jf18) jf19) jf20) jf21) jf22) jf23) jf24) jf25) jf26) jf27) ?_) jf29) jf30) jf31)
  kernel_rfl
theorem row_name : Tryz.pinned.checked.prog.funcNamed Rows.spaceSaysRow.func = some 3 := by kernel_rfl
theorem row_inst : Tryz.f3.isInstance Tryz.pinned.checked.prog Rows.spaceSaysRow.origin Rows.spaceSaysRow.targs := of_decide_eq_true (by kernel_rfl)
theorem row_wrap : Tryz.f3.isWrapper Tryz.pinned.checked.prog Rows.spaceSaysRow.wrapper Rows.spaceSaysRow.mainSum := by
  unfold Func.isWrapper
  rw [if_neg (of_decide_eq_false (by kernel_rfl))]
  exact ⟨rfl, rfl⟩
theorem row_noInit : Tryz.prog.inits.idxOf? 3 = none := by kernel_rfl
theorem row_wfText : Rows.spaceSaysRow.wfByText (OpenSpec.ofChange Rows.spaceSaysSpec) = true := by kernel_rfl
theorem row_main : Tryz.pinned.checked.prog.mainIs = some (true, "cbcc26d28876830df26435de560e8cce799f1e34bad8626b068303aa1b49ba38".toList) := by kernel_rfl
theorem row_goes : false = Rows.spaceSaysRow.goesBy Tryz.pinned.checked.prog := by kernel_rfl
theorem row_looks : true = Tryz.pinned.checked.prog.looks [] := by kernel_rfl
theorem row_plainLaid : (Rows.spaceSaysRow.laid.all fun x => x.2.handleName?.isNone) = true := by kernel_rfl
theorem ops_plainDefs : Tryz.prog.readableRec 22 = true := by kernel_rfl
theorem ops_inDefs : decide (22 < Tryz.prog.types.size) = true := by kernel_rfl
theorem ops_plainTerm : Tryz.prog.readableRec 29 = true := by kernel_rfl
theorem ops_inTerm : decide (29 < Tryz.prog.types.size) = true := by kernel_rfl
theorem ops_plainArr : Tryz.prog.readableRec 26 = true := by kernel_rfl
theorem ops_inArr : decide (26 < Tryz.prog.types.size) = true := by kernel_rfl
theorem laid_out : laidOutB Tryz.prog = true := jf1
end Go.Proofs.YtboondbognbnnaaGreatDoor
