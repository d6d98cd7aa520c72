/- The closed facts of ParseBrackets' row, each by the kernel, and of the world that its witn. -/
import Derived.Test.YtimcmghhbdfjfaaGreatDoorCards
import Derived.Test.YtimcmghhbdfjfaaGreatDoorTie
import Derived.ChangeSame
import Derived.ChangeVars
import Derived.JoinedOf
import Derived.RowKit
import Derived.ProofKit
import Derived.OpenShut
import Derived.LaidMore
import Derived.Lay
import Derived.SevenTiedAt
import Derived.Stop.Joined
set_option linter.unusedVariables false
set_option linter.unusedSimpArgs false
namespace Go.Proofs.YtimcmghhbdfjfaaGreatDoor
open Go.ChangeShapes Go.WideShapes Go.ChangeAt Go.RowKit
theorem own_knob:ownKnob Tryz.prog.godebug=none:=by kernel_rfl
theorem jf0:(Rows.parseBracketsRow.wf (OpenSpec.ofChange Rows.parseBracketsSpec))=true:=by kernel_rfl
theorem jf1:(laidOutB Tryz.pinned.checked.prog)=true:=by kernel_rfl
theorem jf2:(mapsRowed Tryz.pinned.checked.prog)=true:=by kernel_rfl
theorem jf3:(Tryz.f5.params.all (Tryz.pinned.checked.prog.readableRec ·))=true:=by kernel_rfl
theorem jf4:(namedTie Tryz.pinned.checked.prog Rows.parseBracketsRow.named Rows.parseBracketsSpec.vars)=true:=by kernel_rfl
theorem jf5:((Rows.parseBracketsRow.stops==[]))=true:=by kernel_rfl
theorem jf6:((Tryz.pinned.checked.prog.stops==[]))=true:=by kernel_rfl
theorem jf7:((Rows.parseBracketsRow.knobs==[]))=true:=by kernel_rfl
theorem jf8:((Tryz.pinned.checked.prog.stopKnobs==[]))=true:=by kernel_rfl
theorem jf9:((Rows.parseBracketsRow.inPlace==Tryz.pinned.checked.prog.inPlace 5))=true:=by kernel_rfl
theorem jf10:((Rows.parseBracketsRow.unfollowed==Tryz.pinned.checked.prog.unfollowed 5))=true:=by kernel_rfl
theorem jf11:((Rows.parseBracketsRow.recurses==Tryz.pinned.checked.prog.recurses 5))=true:=by kernel_rfl
theorem jf12:((Rows.parseBracketsRow.named==Tryz.pinned.checked.prog.varsNamed 5))=true:=by kernel_rfl
theorem jf13:((Rows.parseBracketsRow.maps==(Tryz.f5.params.toList++Rows.parseBracketsSpec.plain.varTypes Tryz.pinned.checked.prog).any (Tryz.pinned.checked.prog.mapsRec ·)))=true:=by kernel_rfl
theorem jf14:((Rows.parseBracketsRow.ifaces==(Tryz.f5.params.toList++Rows.parseBracketsSpec.plain.varTypes Tryz.pinned.checked.prog).any (Tryz.pinned.checked.prog.ifacesRec ·)))=true:=by kernel_rfl
theorem jf15:((Rows.parseBracketsRow.mapsOut==Tryz.pinned.checked.prog.mapsAmong Tryz.f5.resultTypes.toList))=true:=by kernel_rfl
theorem jf16:((Rows.parseBracketsRow.loops==(Tryz.f5.params.toList++Rows.parseBracketsSpec.plain.varTypes Tryz.pinned.checked.prog).any (Tryz.pinned.checked.prog.loopsFrom ·)))=true:=by kernel_rfl
theorem jf17:((Rows.parseBracketsRow.wideKeys==(Tryz.f5.params.toList++Rows.parseBracketsSpec.plain.varTypes Tryz.pinned.checked.prog++Tryz.f5.resultTypes.toList).any (Tryz.pinned.checked.prog.wideKeysFrom ·)))=true:=by kernel_rfl
theorem jf18:(Rows.parseBracketsSpec.vars.all (Tryz.pinned.checked.prog.varReadable ·))=true:=by kernel_rfl
theorem jf19:(Tryz.f5.resultTypes.all (fun t=>Tryz.pinned.checked.prog.readableRec t&&decide (t<Tryz.pinned.checked.prog.types.size)))=true:=by kernel_rfl
theorem jf20:((Rows.parseBracketsRow.ifacesOut==Tryz.f5.resultTypes.toList.any (Tryz.pinned.checked.prog.ifacesRec ·)))=true:=by kernel_rfl
theorem jf21:((Rows.parseBracketsRow.loopsOut==Tryz.f5.resultTypes.toList.any (Tryz.pinned.checked.prog.loopsFrom ·)))=true:=by kernel_rfl
theorem jf22:((Rows.parseBracketsRow.plainKeys==Tryz.pinned.checked.prog.plainKeys))=true:=by kernel_rfl
theorem jf23:(Rows.parseBracketsRow.shortTexts.isNone)=true:=by kernel_rfl
theorem jf24:(Tryz.pinned.checked.prog.stopsHeard)=true:=by kernel_rfl
theorem jf25:(Tryz.pinned.checked.prog.mayEnter)=true:=by kernel_rfl
theorem jf26:((Rows.parseBracketsRow.lifted==Tryz.pinned.checked.prog.liftsFinal))=true:=by kernel_rfl
theorem jf27:((Tryz.pinned.checked.prog.make==some Rows.parseBracketsRow.make))=true:=by kernel_rfl
theorem jf29:((Rows.parseBracketsRow.pinned==Rows.parseBracketsRow.pinnedBy))=true:=by kernel_rfl
theorem jf30:((Rows.parseBracketsRow.veiled==(Tryz.f5.params.toList++Rows.parseBracketsSpec.plain.varTypes Tryz.pinned.checked.prog++Tryz.f5.resultTypes.toList).any (Tryz.pinned.checked.prog.veiledRec ·)))=true:=by kernel_rfl
theorem jf31:(Rows.parseBracketsRow.veiledFits Tryz.pinned.checked.prog Tryz.f5.params.toList (Tryz.f5.params.toList++Rows.parseBracketsSpec.plain.varTypes Tryz.pinned.checked.prog++Tryz.f5.resultTypes.toList))=true:=by kernel_rfl
theorem and2 {a b:Bool} (h:a=true) (k:b=true):(a&&b)=true:=by rw [h,k];rfl
theorem row_closed:joinedFacts Tryz.pinned.checked.prog 5 Tryz.f5 Rows.parseBracketsSpec Rows.parseBracketsRow=true:=by
 unfold joinedFacts;refine (and2 (and2 (and2 (and2 (and2 (and2 (and2 (and2 (and2 (and2 (and2 (and2 (and2 (and2 (and2 (and2 (and2 (and2 (and2 (and2 (and2 (and2 (and2 (and2 (and2 (and2 (and2 (and2 (and2 (and2 (and2 jf0 jf1) jf2) jf3) jf4) jf5) jf6) jf7) jf8) jf9) jf10) jf11) jf12) jf13) jf14) jf15) jf16) jf17) jf18) jf19) jf20) jf21) jf22) jf23) jf24) jf25) jf26) jf27) ?_) jf29) jf30) jf31)
 kernel_rfl
theorem row_name:Tryz.pinned.checked.prog.funcNamed Rows.parseBracketsRow.func=some 5:=by kernel_rfl
theorem row_inst:Tryz.f5.isInstance Tryz.pinned.checked.prog Rows.parseBracketsRow.origin Rows.parseBracketsRow.targs:=of_decide_eq_true (by kernel_rfl)
theorem row_wrap:Tryz.f5.isWrapper Tryz.pinned.checked.prog Rows.parseBracketsRow.wrapper Rows.parseBracketsRow.mainSum:=by
 unfold Func.isWrapper;rw [if_neg (of_decide_eq_false (by kernel_rfl))];exact ⟨rfl,rfl⟩
theorem row_noInit:Tryz.prog.inits.idxOf? 5=none:=by kernel_rfl
theorem row_wfText:Rows.parseBracketsRow.wfByText (OpenSpec.ofChange Rows.parseBracketsSpec)=true:=by kernel_rfl
theorem row_main:Tryz.pinned.checked.prog.mainIs=some (true, "2905f9fed1f9102a9625611ba31309af84306751917187da9a9cec02881a7456".toList):=by kernel_rfl
theorem row_goes:false=Rows.parseBracketsRow.goesBy Tryz.pinned.checked.prog:=by kernel_rfl
theorem row_looks:true=Tryz.pinned.checked.prog.looks []:=by kernel_rfl
theorem row_plainLaid:(Rows.parseBracketsRow.laid.all fun x=>x.2.handleName?.isNone)=true:=by kernel_rfl
theorem ops_plain:Tryz.prog.readableRec 28=true:=by kernel_rfl
theorem ops_in:decide (28<Tryz.prog.types.size)=true:=by kernel_rfl
theorem laid_out:laidOutB Tryz.prog=true:=jf1
end Go.Proofs.YtimcmghhbdfjfaaGreatDoor
