/- The closed facts of ParseFresh' row, each by the kernel, and of the world that its witness is. The closed facts of the world that is ParseFresh' witness, and of its variables. -/
import Derived.Test.YtpfkhdlnjefikaaGreatDoorCards
import Derived.Test.YtpfkhdlnjefikaaGreatDoorTie
import Derived.ChangeSame
import Derived.ChangeVars
import Derived.JoinedOf
import Derived.RowKit
import Derived.ProofKit
import Derived.OpenShut
import Derived.LaidMore
import Derived.Lay
import Derived.SevenTiedAt
import Derived.Stop.Joined
set_option linter.unusedVariables false
set_option linter.unusedSimpArgs false
namespace Go.Proofs.YtpfkhdlnjefikaaGreatDoor
open Go.ChangeShapes Go.WideShapes Go.ChangeAt Go.RowKit
theorem own_knob:ownKnob Tryz.prog.godebug=none:=by kernel_rfl
theorem jf0:(Rows.parseFreshRow.wf (OpenSpec.ofChange Rows.parseFreshSpec))=true:=by kernel_rfl
theorem jf1:(laidOutB Tryz.pinned.checked.prog)=true:=by kernel_rfl
theorem jf2:(mapsRowed Tryz.pinned.checked.prog)=true:=by kernel_rfl
theorem jf3:(Tryz.f5.params.all (Tryz.pinned.checked.prog.readableRec ·))=true:=by kernel_rfl
theorem jf4:(namedTie Tryz.pinned.checked.prog Rows.parseFreshRow.named Rows.parseFreshSpec.vars)=true:=by kernel_rfl
theorem jf5:((Rows.parseFreshRow.stops==[]))=true:=by kernel_rfl
theorem jf6:((Tryz.pinned.checked.prog.stops==[]))=true:=by kernel_rfl
theorem jf7:((Rows.parseFreshRow.knobs==[]))=true:=by kernel_rfl
theorem jf8:((Tryz.pinned.checked.prog.stopKnobs==[]))=true:=by kernel_rfl
theorem jf9:((Rows.parseFreshRow.inPlace==Tryz.pinned.checked.prog.inPlace 5))=true:=by kernel_rfl
theorem jf10:((Rows.parseFreshRow.unfollowed==Tryz.pinned.checked.prog.unfollowed 5))=true:=by kernel_rfl
theorem jf11:((Rows.parseFreshRow.recurses==Tryz.pinned.checked.prog.recurses 5))=true:=by kernel_rfl
theorem jf12:((Rows.parseFreshRow.named==Tryz.pinned.checked.prog.varsNamed 5))=true:=by kernel_rfl
theorem jf13:((Rows.parseFreshRow.maps==(Tryz.f5.params.toList++Rows.parseFreshSpec.plain.varTypes Tryz.pinned.checked.prog).any (Tryz.pinned.checked.prog.mapsRec ·)))=true:=by kernel_rfl
theorem jf14:((Rows.parseFreshRow.ifaces==(Tryz.f5.params.toList++Rows.parseFreshSpec.plain.varTypes Tryz.pinned.checked.prog).any (Tryz.pinned.checked.prog.ifacesRec ·)))=true:=by kernel_rfl
theorem jf15:((Rows.parseFreshRow.mapsOut==Tryz.pinned.checked.prog.mapsAmong Tryz.f5.resultTypes.toList))=true:=by kernel_rfl
theorem jf16:((Rows.parseFreshRow.loops==(Tryz.f5.params.toList++Rows.parseFreshSpec.plain.varTypes Tryz.pinned.checked.prog).any (Tryz.pinned.checked.prog.loopsFrom ·)))=true:=by kernel_rfl
theorem jf17:((Rows.parseFreshRow.wideKeys==(Tryz.f5.params.toList++Rows.parseFreshSpec.plain.varTypes Tryz.pinned.checked.prog++Tryz.f5.resultTypes.toList).any (Tryz.pinned.checked.prog.wideKeysFrom ·)))=true:=by kernel_rfl
theorem jf18:(Rows.parseFreshSpec.vars.all (Tryz.pinned.checked.prog.varReadable ·))=true:=by kernel_rfl
theorem jf19:(Tryz.f5.resultTypes.all (fun t=>Tryz.pinned.checked.prog.readableRec t&&decide (t<Tryz.pinned.checked.prog.types.size)))=true:=by kernel_rfl
theorem jf20:((Rows.parseFreshRow.ifacesOut==Tryz.f5.resultTypes.toList.any (Tryz.pinned.checked.prog.ifacesRec ·)))=true:=by kernel_rfl
theorem jf21:((Rows.parseFreshRow.loopsOut==Tryz.f5.resultTypes.toList.any (Tryz.pinned.checked.prog.loopsFrom ·)))=true:=by kernel_rfl
theorem jf22:((Rows.parseFreshRow.plainKeys==Tryz.pinned.checked.prog.plainKeys))=true:=by kernel_rfl
theorem jf23:(Rows.parseFreshRow.shortTexts.isNone)=true:=by kernel_rfl
theorem jf24:(Tryz.pinned.checked.prog.stopsHeard)=true:=by kernel_rfl
theorem jf25:(Tryz.pinned.checked.prog.mayEnter)=true:=by kernel_rfl
theorem jf26:((Rows.parseFreshRow.lifted==Tryz.pinned.checked.prog.liftsFinal))=true:=by kernel_rfl
theorem jf27:((Tryz.pinned.checked.prog.make==some Rows.parseFreshRow.make))=true:=by kernel_rfl
theorem jf29:((Rows.parseFreshRow.pinned==Rows.parseFreshRow.pinnedBy))=true:=by kernel_rfl
theorem jf30:((Rows.parseFreshRow.veiled==(Tryz.f5.params.toList++Rows.parseFreshSpec.plain.varTypes Tryz.pinned.checked.prog++Tryz.f5.resultTypes.toList).any (Tryz.pinned.checked.prog.veiledRec ·)))=true:=by kernel_rfl
theorem jf31:(Rows.parseFreshRow.veiledFits Tryz.pinned.checked.prog Tryz.f5.params.toList (Tryz.f5.params.toList++Rows.parseFreshSpec.plain.varTypes Tryz.pinned.checked.prog++Tryz.f5.resultTypes.toList))=true:=by kernel_rfl
theorem and2 {a b:Bool} (h:a=true) (k:b=true):(a&&b)=true:=by rw [h,k];rfl
theorem row_closed:joinedFacts Tryz.pinned.checked.prog 5 Tryz.f5 Rows.parseFreshSpec Rows.parseFreshRow=true:=by
 unfold joinedFacts
 refine (and2 (and2 (and2 (and2 (and2 (and2 (and2 (and2 (and2 (and2 (and2 (and2 (and2 (and2 (and2 (and2 (and2 (and2 (and2 (and2 (and2 (and2 (and2 (and2 (and2 (and2 (and2 (and2 (and2 (and2 (and2 jf0 jf1) jf2) jf3) jf4) jf5) jf6) jf7) jf8) jf9) jf10) jf11) jf12) jf13) jf14) jf15) jf16) jf17) jf18) jf19) jf20) jf21) jf22) jf23) jf24) jf25) jf26) jf27) ?_) jf29) jf30) jf31)
 kernel_rfl
theorem row_name:Tryz.pinned.checked.prog.funcNamed Rows.parseFreshRow.func=some 5:=by kernel_rfl
theorem row_inst:Tryz.f5.isInstance Tryz.pinned.checked.prog Rows.parseFreshRow.origin Rows.parseFreshRow.targs:=of_decide_eq_true (by kernel_rfl)
theorem row_wrap:Tryz.f5.isWrapper Tryz.pinned.checked.prog Rows.parseFreshRow.wrapper Rows.parseFreshRow.mainSum:=by
 unfold Func.isWrapper
 rw [if_neg (of_decide_eq_false (by kernel_rfl))]
 exact ⟨rfl,rfl⟩
theorem row_noInit:Tryz.prog.inits.idxOf? 5=none:=by kernel_rfl
theorem row_wfText:Rows.parseFreshRow.wfByText (OpenSpec.ofChange Rows.parseFreshSpec)=true:=by kernel_rfl
theorem row_main:Tryz.pinned.checked.prog.mainIs=some (true, "28f83c4f115df76aa77fdf349539f0140d0e4f71eff7a9cf4881c07425f12381".toList):=by kernel_rfl
theorem row_goes:false=Rows.parseFreshRow.goesBy Tryz.pinned.checked.prog:=by kernel_rfl
theorem row_looks:true=Tryz.pinned.checked.prog.looks []:=by kernel_rfl
theorem row_plainLaid:(Rows.parseFreshRow.laid.all fun x=>x.2.handleName?.isNone)=true:=by kernel_rfl
theorem ops_plain:Tryz.prog.readableRec 22=true:=by kernel_rfl
theorem ops_in:decide (22<Tryz.prog.types.size)=true:=by kernel_rfl
theorem laid_out:laidOutB Tryz.prog=true:=jf1
theorem wit_zip (os:Os):((World.laidAll Tryz.prog os Rows.parseFreshRow.laid).forCall (fun _ _=>0) ⟨#[],#[.slice none 0 0],[]⟩).variablesZipB Tryz.prog=true:=by kernel_rfl
theorem wit_rest (os:Os):(((World.laidAll Tryz.prog os Rows.parseFreshRow.laid).forCall (fun _ _=>0) ⟨#[],#[.slice none 0 0],[]⟩).heap.toList.drop Tryz.prog.globals.size).take ((begin Tryz.prog (fun _ _=>0) default).world.heap.size-Tryz.prog.globals.size)=(begin Tryz.prog (fun _ _=>0) default).world.heap.toList.drop Tryz.prog.globals.size:=by kernel_rfl
theorem wit_ok (os:Os):Input.okWideB Tryz.prog ((World.laidAll Tryz.prog os Rows.parseFreshRow.laid).forCall (fun _ _=>0) ⟨#[],#[.slice none 0 0],[]⟩) 5 ⟨#[],#[.slice none 0 0],[]⟩=true:=by kernel_rfl
theorem wit_pre (os:Os) (H:Type) (enc:TypeId × Value->H):Rows.parseFreshSpec.preB enc Tryz.prog Tryz.f5 Rows.parseFreshRow.domain false ((World.laidAll Tryz.prog os Rows.parseFreshRow.laid).forCall (fun _ _=>0) ⟨#[],#[.slice none 0 0],[]⟩).memory #[.slice none 0 0] 8=true:=by kernel_rfl
theorem wit_sized (os:Os) (H:Type) (enc:TypeId × Value->H):Rows.parseFreshSpec.sizedB enc Tryz.prog Tryz.f5 false ((World.laidAll Tryz.prog os Rows.parseFreshRow.laid).forCall (fun _ _=>0) ⟨#[],#[.slice none 0 0],[]⟩).memory #[.slice none 0 0] 8=true:=by kernel_rfl
theorem wit_fits (os:Os):(World.holding Tryz.prog os ⟨#[],#[],[]⟩).layFits Tryz.prog Rows.parseFreshRow.laid []=true:=by kernel_rfl
theorem wit_ifaces (os:Os):(World.holding Tryz.prog os ⟨#[],#[],[]⟩).layIfaces Tryz.prog Rows.parseFreshRow.laid (World.laidAll Tryz.prog os Rows.parseFreshRow.laid)=true:=by kernel_rfl
theorem err_global:Tryz.prog.globalNamed "strconv.ErrRange" =some 4:=by kernel_rfl
theorem err_type:(Tryz.prog.globals[4]?).map (·.type)=some 149:=by kernel_rfl
theorem max_row:((begin Tryz.prog (fun _ _=>0) default).world.heap[2]?).bind Obj.row? =some (#[.int .i64 0],3):=by kernel_rfl
theorem max_in:2<Tryz.prog.globals.size:=of_decide_eq_true (by kernel_rfl)
theorem int_builds:Tryz.prog.buildable 3=true:=by kernel_rfl
theorem int_cells:Tryz.prog.cellTypes Tryz.prog.depth 3=some [3]:=by kernel_rfl
theorem str_plain:([22].all fun u=>!Tryz.prog.wantsStandIn u)=true:=by kernel_rfl
end Go.Proofs.YtpfkhdlnjefikaaGreatDoor
