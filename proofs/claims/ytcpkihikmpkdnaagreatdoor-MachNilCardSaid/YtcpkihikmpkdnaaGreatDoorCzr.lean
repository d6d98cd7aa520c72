/- The closed facts of MachNil's row, each by the kernel. -/
import Derived.Test.YtcpkihikmpkdnaaGreatDoorCards
import Derived.Test.YtcpkihikmpkdnaaGreatDoorTie
import Derived.ChangeSame
import Derived.ChangeVars
import Derived.JoinedOf
import Derived.RowKit
import Derived.ProofKit
import Derived.OpenShut
import Derived.LaidMore
import Derived.Lay
import Derived.SevenTiedAt
import Derived.Stop.Joined
set_option linter.unusedVariables false
set_option linter.unusedSimpArgs false
namespace Go.Proofs.YtcpkihikmpkdnaaGreatDoor
open Go.ChangeShapes Go.WideShapes Go.ChangeAt Go.RowKit
theorem jf0:(Rows.machNilRow.wf (OpenSpec.ofChange Rows.machNilSpec))=true:=by kernel_rfl
theorem jf1:(laidOutB Tryz.pinned.checked.prog)=true:=by kernel_rfl
theorem jf2:(mapsRowed Tryz.pinned.checked.prog)=true:=by kernel_rfl
theorem jf3:(Tryz.f3.params.all (Tryz.pinned.checked.prog.readableRec ·))=true:=by kernel_rfl
theorem jf4:(namedTie Tryz.pinned.checked.prog Rows.machNilRow.named Rows.machNilSpec.vars)=true:=by kernel_rfl
theorem jf5:((Rows.machNilRow.stops==[]))=true:=by kernel_rfl
theorem jf6:((Tryz.pinned.checked.prog.stops==[]))=true:=by kernel_rfl
theorem jf7:((Rows.machNilRow.knobs==[]))=true:=by kernel_rfl
theorem jf8:((Tryz.pinned.checked.prog.stopKnobs==[]))=true:=by kernel_rfl
theorem jf9:((Rows.machNilRow.inPlace==Tryz.pinned.checked.prog.inPlace 3))=true:=by kernel_rfl
theorem jf10:((Rows.machNilRow.unfollowed==Tryz.pinned.checked.prog.unfollowed 3))=true:=by kernel_rfl
theorem jf11:((Rows.machNilRow.recurses==Tryz.pinned.checked.prog.recurses 3))=true:=by kernel_rfl
theorem jf12:((Rows.machNilRow.named==Tryz.pinned.checked.prog.varsNamed 3))=true:=by kernel_rfl
theorem jf13:((Rows.machNilRow.maps==(Tryz.f3.params.toList++Rows.machNilSpec.plain.varTypes Tryz.pinned.checked.prog).any (Tryz.pinned.checked.prog.mapsRec ·)))=true:=by kernel_rfl
theorem jf14:((Rows.machNilRow.ifaces==(Tryz.f3.params.toList++Rows.machNilSpec.plain.varTypes Tryz.pinned.checked.prog).any (Tryz.pinned.checked.prog.ifacesRec ·)))=true:=by kernel_rfl
theorem jf15:((Rows.machNilRow.mapsOut==Tryz.pinned.checked.prog.mapsAmong Tryz.f3.resultTypes.toList))=true:=by kernel_rfl
theorem jf16:((Rows.machNilRow.loops==(Tryz.f3.params.toList++Rows.machNilSpec.plain.varTypes Tryz.pinned.checked.prog).any (Tryz.pinned.checked.prog.loopsFrom ·)))=true:=by kernel_rfl
theorem jf17:((Rows.machNilRow.wideKeys==(Tryz.f3.params.toList++Rows.machNilSpec.plain.varTypes Tryz.pinned.checked.prog++Tryz.f3.resultTypes.toList).any (Tryz.pinned.checked.prog.wideKeysFrom ·)))=true:=by kernel_rfl
theorem jf18:(Rows.machNilSpec.vars.all (Tryz.pinned.checked.prog.varReadable ·))=true:=by kernel_rfl
theorem jf19:(Tryz.f3.resultTypes.all (fun t=>Tryz.pinned.checked.prog.readableRec t&&decide (t<Tryz.pinned.checked.prog.types.size)))=true:=by kernel_rfl
theorem jf20:((Rows.machNilRow.ifacesOut==Tryz.f3.resultTypes.toList.any (Tryz.pinned.checked.prog.ifacesRec ·)))=true:=by kernel_rfl
theorem jf21:((Rows.machNilRow.loopsOut==Tryz.f3.resultTypes.toList.any (Tryz.pinned.checked.prog.loopsFrom ·)))=true:=by kernel_rfl
theorem jf22:((Rows.machNilRow.plainKeys==Tryz.pinned.checked.prog.plainKeys))=true:=by kernel_rfl
theorem jf23:(Rows.machNilRow.shortTexts.isNone)=true:=by kernel_rfl
theorem jf24:(Tryz.pinned.checked.prog.stopsHeard)=true:=by kernel_rfl
theorem jf25:(Tryz.pinned.checked.prog.mayEnter)=true:=by kernel_rfl
theorem jf26:((Rows.machNilRow.lifted==Tryz.pinned.checked.prog.liftsFinal))=true:=by kernel_rfl
theorem jf27:((Tryz.pinned.checked.prog.make==some Rows.machNilRow.make))=true:=by kernel_rfl
theorem jf29:((Rows.machNilRow.pinned==Rows.machNilRow.pinnedBy))=true:=by kernel_rfl
theorem jf30:((Rows.machNilRow.veiled==(Tryz.f3.params.toList++Rows.machNilSpec.plain.varTypes Tryz.pinned.checked.prog++Tryz.f3.resultTypes.toList).any (Tryz.pinned.checked.prog.veiledRec ·)))=true:=by kernel_rfl
theorem jf31:(Rows.machNilRow.veiledFits Tryz.pinned.checked.prog Tryz.f3.params.toList (Tryz.f3.params.toList++Rows.machNilSpec.plain.varTypes Tryz.pinned.checked.prog++Tryz.f3.resultTypes.toList))=true:=by kernel_rfl
theorem and2 {a b:Bool} (h:a=true) (k:b=true):(a&&b)=true:=by rw [h,k];rfl
theorem row_closed:joinedFacts Tryz.pinned.checked.prog 3 Tryz.f3 Rows.machNilSpec Rows.machNilRow=true:=by
 unfold joinedFacts;refine (and2 (and2 (and2 (and2 (and2 (and2 (and2 (and2 (and2 (and2 (and2 (and2 (and2 (and2 (and2 (and2 (and2 (and2 (and2 (and2 (and2 (and2 (and2 (and2 (and2 (and2 (and2 (and2 (and2 (and2 (and2 jf0 jf1) jf2) jf3) jf4) jf5) jf6) jf7) jf8) jf9) jf10) jf11) jf12) jf13) jf14) jf15) jf16) jf17) jf18) jf19) jf20) jf21) jf22) jf23) jf24) jf25) jf26) jf27) ?_) jf29) jf30) jf31)
 kernel_rfl
theorem row_name:Tryz.pinned.checked.prog.funcNamed Rows.machNilRow.func=some 3:=by kernel_rfl
theorem row_inst:Tryz.f3.isInstance Tryz.pinned.checked.prog Rows.machNilRow.origin Rows.machNilRow.targs:=of_decide_eq_true (by kernel_rfl)
theorem row_wrap:Tryz.f3.isWrapper Tryz.pinned.checked.prog Rows.machNilRow.wrapper Rows.machNilRow.mainSum:=by
 unfold Func.isWrapper;rw [if_neg (of_decide_eq_false (by kernel_rfl))];exact ⟨rfl,rfl⟩
theorem row_noInit:Tryz.prog.inits.idxOf? 3=none:=by kernel_rfl
theorem row_wfText:Rows.machNilRow.wfByText (OpenSpec.ofChange Rows.machNilSpec)=true:=by kernel_rfl
theorem row_main:Tryz.pinned.checked.prog.mainIs=some (true, "0db7a5c3873b29ce53893c868510cc469263a074c390339499e1ab70548fff8d".toList):=by kernel_rfl
theorem row_goes:false=Rows.machNilRow.goesBy Tryz.pinned.checked.prog:=by kernel_rfl
theorem row_looks:true=Tryz.pinned.checked.prog.looks []:=by kernel_rfl
end Go.Proofs.YtcpkihikmpkdnaaGreatDoor
