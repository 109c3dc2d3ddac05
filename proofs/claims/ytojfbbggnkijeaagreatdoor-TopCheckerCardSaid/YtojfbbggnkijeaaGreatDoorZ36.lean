import Derived.Test.YtojfbbggnkijeaaGreatDoorCards
import Derived.JoinedOf
set_option linter.all false
namespace Go.Proofs.YtojfbbggnkijeaaGreatDoor
open Go
theorem and_t {a b:Bool}(h:a=true)(k:b=true):(a&&b)=true:=by rw[h,k];rfl
theorem jf1:(Rows.topCheckerRow.wf (OpenSpec.ofChange Rows.topCheckerSpec))=true:=by kernel_rfl
theorem jf2:(laidOutB Tryz.prog)=true:=by kernel_rfl
theorem jf3:(mapsRowed Tryz.prog)=true:=by kernel_rfl
theorem jf4:(Tryz.f4.params.all (Tryz.prog.readableRec ·))=true:=by kernel_rfl
theorem jf5:(namedTie Tryz.prog Rows.topCheckerRow.named Rows.topCheckerSpec.vars)=true:=by kernel_rfl
theorem jf6:((Rows.topCheckerRow.stops==[]))=true:=by kernel_rfl
theorem jf7:((Tryz.prog.stops==[]))=true:=by kernel_rfl
theorem jf8:((Rows.topCheckerRow.knobs==[]))=true:=by kernel_rfl
theorem jf9:((Tryz.prog.stopKnobs==[]))=true:=by kernel_rfl
theorem jf10:((Rows.topCheckerRow.inPlace==Tryz.prog.inPlace 4))=true:=by kernel_rfl
theorem jf11:((Rows.topCheckerRow.unfollowed==Tryz.prog.unfollowed 4))=true:=by kernel_rfl
theorem jf12:((Rows.topCheckerRow.recurses==Tryz.prog.recurses 4))=true:=by kernel_rfl
theorem jf13:((Rows.topCheckerRow.named==Tryz.prog.varsNamed 4))=true:=by kernel_rfl
theorem jf14:((Rows.topCheckerRow.maps==(Tryz.f4.params.toList++Rows.topCheckerSpec.plain.varTypes Tryz.prog).any (Tryz.prog.mapsRec ·)))=true:=by kernel_rfl
theorem jf15:((Rows.topCheckerRow.ifaces==(Tryz.f4.params.toList++Rows.topCheckerSpec.plain.varTypes Tryz.prog).any (Tryz.prog.ifacesRec ·)))=true:=by kernel_rfl
theorem jf16:((Rows.topCheckerRow.mapsOut==Tryz.prog.mapsAmong Tryz.f4.resultTypes.toList))=true:=by kernel_rfl
theorem jf17:((Rows.topCheckerRow.loops==(Tryz.f4.params.toList++Rows.topCheckerSpec.plain.varTypes Tryz.prog).any (Tryz.prog.loopsFrom ·)))=true:=by kernel_rfl
theorem jf18:((Rows.topCheckerRow.wideKeys==(Tryz.f4.params.toList++Rows.topCheckerSpec.plain.varTypes Tryz.prog++Tryz.f4.resultTypes.toList).any (Tryz.prog.wideKeysFrom ·)))=true:=by kernel_rfl
theorem jf19:(Rows.topCheckerSpec.vars.all (Tryz.prog.varReadable ·))=true:=by kernel_rfl
theorem jf20:(Tryz.f4.resultTypes.all (fun t=>Tryz.prog.readableRec t&&decide (t<Tryz.prog.types.size)))=true:=by kernel_rfl
theorem jf21:((Rows.topCheckerRow.ifacesOut==Tryz.f4.resultTypes.toList.any (Tryz.prog.ifacesRec ·)))=true:=by kernel_rfl
theorem jf22:((Rows.topCheckerRow.loopsOut==Tryz.f4.resultTypes.toList.any (Tryz.prog.loopsFrom ·)))=true:=by kernel_rfl
theorem jf23:((Rows.topCheckerRow.plainKeys==Tryz.prog.plainKeys))=true:=by kernel_rfl
theorem jf24:(Rows.topCheckerRow.shortTexts.isNone)=true:=by kernel_rfl
theorem jf25:(Tryz.prog.stopsHeard)=true:=by kernel_rfl
theorem jf26:(Tryz.prog.mayEnter)=true:=by kernel_rfl
theorem jf27:((Rows.topCheckerRow.lifted==Tryz.prog.liftsFinal))=true:=by kernel_rfl
theorem jf28:((Tryz.prog.make==some Rows.topCheckerRow.make))=true:=by kernel_rfl
theorem jf29:((Rows.topCheckerRow.kinds==(if Rows.topCheckerRow.domain.isEmpty then [] else Tryz.f4.params.toList.map fun t=>match Tryz.prog.underlying t with|some (.int k)=>some k|_=>none)))=true:=by kernel_rfl
theorem jf30:((Rows.topCheckerRow.pinned==Rows.topCheckerRow.pinnedBy))=true:=by kernel_rfl
theorem jf31:((Rows.topCheckerRow.veiled==(Tryz.f4.params.toList++Rows.topCheckerSpec.plain.varTypes Tryz.prog++Tryz.f4.resultTypes.toList).any (Tryz.prog.veiledRec ·)))=true:=by kernel_rfl
theorem jf32:(Rows.topCheckerRow.veiledFits Tryz.prog Tryz.f4.params.toList (Tryz.f4.params.toList++Rows.topCheckerSpec.plain.varTypes Tryz.prog++Tryz.f4.resultTypes.toList))=true:=by kernel_rfl
set_option maxRecDepth 100000 in
theorem topChecker_closed:joinedFacts Tryz.prog 4 Tryz.f4 Rows.topCheckerSpec Rows.topCheckerRow=true:=by
 unfold joinedFacts;exact and_t (and_t (and_t (and_t (and_t (and_t (and_t (and_t (and_t (and_t (and_t (and_t (and_t (and_t (and_t (and_t (and_t (and_t (and_t (and_t (and_t (and_t (and_t (and_t (and_t (and_t (and_t (and_t (and_t (and_t (and_t jf1 jf2) jf3) jf4) jf5) jf6) jf7) jf8) jf9) jf10) jf11) jf12) jf13) jf14) jf15) jf16) jf17) jf18) jf19) jf20) jf21) jf22) jf23) jf24) jf25) jf26) jf27) jf28) jf29) jf30) jf31) jf32
end Go.Proofs.YtojfbbggnkijeaaGreatDoor
