/- The closed facts of the row 'WholeDashes', limb by limb. By an AI agent. -/
import Derived.Test.YtplljnfjkkloeaaGreatDoorRows
import Derived.JoinedOf
import Derived.ProofKit
set_option linter.unusedVariables false
set_option linter.unusedSimpArgs false
namespace Go.Proofs.YtplljnfjkkloeaaGreatDoor
open Go.ChangeShapes Go.WideShapes Go.ChangeAt Go.RowKit
set_option maxRecDepth 100000
theorem wholeDashes_and {a b:Bool} (h:a=true) (k:b=true):(a&&b)=true:=by rw[h,k];rfl
theorem wholeDashes_k0:(Rows.wholeDashesRow.wf (OpenSpec.ofChange Rows.wholeDashesSpec))=true:=by kernel_rfl
theorem wholeDashes_k1:(laidOutB Tryz.pinned.checked.prog)=true:=by kernel_rfl
theorem wholeDashes_k2:(mapsRowed Tryz.pinned.checked.prog)=true:=by kernel_rfl
theorem wholeDashes_k3:(Tryz.f8.params.all (Tryz.pinned.checked.prog.readableRec ·))=true:=by kernel_rfl
theorem wholeDashes_k4:(namedTie Tryz.pinned.checked.prog Rows.wholeDashesRow.named Rows.wholeDashesSpec.vars)=true:=by kernel_rfl
theorem wholeDashes_k5:((Rows.wholeDashesRow.stops==[]))=true:=by kernel_rfl
theorem wholeDashes_k6:((Tryz.pinned.checked.prog.stops==[]))=true:=by kernel_rfl
theorem wholeDashes_k7:((Rows.wholeDashesRow.knobs==[]))=true:=by kernel_rfl
theorem wholeDashes_k8:((Tryz.pinned.checked.prog.stopKnobs==[]))=true:=by kernel_rfl
theorem wholeDashes_k9:((Rows.wholeDashesRow.inPlace==Tryz.pinned.checked.prog.inPlace 8))=true:=by kernel_rfl
theorem wholeDashes_k10:((Rows.wholeDashesRow.unfollowed==Tryz.pinned.checked.prog.unfollowed 8))=true:=by kernel_rfl
theorem wholeDashes_k11:((Rows.wholeDashesRow.recurses==Tryz.pinned.checked.prog.recurses 8))=true:=by kernel_rfl
theorem wholeDashes_k12:((Rows.wholeDashesRow.named==Tryz.pinned.checked.prog.varsNamed 8))=true:=by kernel_rfl
theorem wholeDashes_k13:((Rows.wholeDashesRow.maps==(Tryz.f8.params.toList++Rows.wholeDashesSpec.plain.varTypes Tryz.pinned.checked.prog).any (Tryz.pinned.checked.prog.mapsRec ·)))=true:=by kernel_rfl
theorem wholeDashes_k14:((Rows.wholeDashesRow.ifaces==(Tryz.f8.params.toList++Rows.wholeDashesSpec.plain.varTypes Tryz.pinned.checked.prog).any (Tryz.pinned.checked.prog.ifacesRec ·)))=true:=by kernel_rfl
theorem wholeDashes_k15:((Rows.wholeDashesRow.mapsOut==Tryz.pinned.checked.prog.mapsAmong Tryz.f8.resultTypes.toList))=true:=by kernel_rfl
theorem wholeDashes_k16:((Rows.wholeDashesRow.loops==(Tryz.f8.params.toList++Rows.wholeDashesSpec.plain.varTypes Tryz.pinned.checked.prog).any (Tryz.pinned.checked.prog.loopsFrom ·)))=true:=by kernel_rfl
theorem wholeDashes_k17:((Rows.wholeDashesRow.wideKeys==(Tryz.f8.params.toList++Rows.wholeDashesSpec.plain.varTypes Tryz.pinned.checked.prog++Tryz.f8.resultTypes.toList).any (Tryz.pinned.checked.prog.wideKeysFrom ·)))=true:=by kernel_rfl
theorem wholeDashes_k18:(Rows.wholeDashesSpec.vars.all (Tryz.pinned.checked.prog.varReadable ·))=true:=by kernel_rfl
theorem wholeDashes_k19:(Tryz.f8.resultTypes.all (fun t=>Tryz.pinned.checked.prog.readableRec t&&decide (t<Tryz.pinned.checked.prog.types.size)))=true:=by kernel_rfl
theorem wholeDashes_k20:((Rows.wholeDashesRow.ifacesOut==Tryz.f8.resultTypes.toList.any (Tryz.pinned.checked.prog.ifacesRec ·)))=true:=by kernel_rfl
theorem wholeDashes_k21:((Rows.wholeDashesRow.loopsOut==Tryz.f8.resultTypes.toList.any (Tryz.pinned.checked.prog.loopsFrom ·)))=true:=by kernel_rfl
theorem wholeDashes_k22:((Rows.wholeDashesRow.plainKeys==Tryz.pinned.checked.prog.plainKeys))=true:=by kernel_rfl
theorem wholeDashes_k23:(Rows.wholeDashesRow.shortTexts.isNone)=true:=by kernel_rfl
theorem wholeDashes_k24:(Tryz.pinned.checked.prog.stopsHeard)=true:=by kernel_rfl
theorem wholeDashes_k25:(Tryz.pinned.checked.prog.mayEnter)=true:=by kernel_rfl
theorem wholeDashes_k26:((Rows.wholeDashesRow.lifted==Tryz.pinned.checked.prog.liftsFinal))=true:=by kernel_rfl
theorem wholeDashes_k27:((Tryz.pinned.checked.prog.make==some Rows.wholeDashesRow.make))=true:=by kernel_rfl
theorem wholeDashes_k28:((Rows.wholeDashesRow.kinds==(if Rows.wholeDashesRow.domain.isEmpty then[]else Tryz.f8.params.toList.map fun t=>match Tryz.pinned.checked.prog.underlying t with|some (.int k)=>some k|_=>none)))=true:=by kernel_rfl
theorem wholeDashes_k29:((Rows.wholeDashesRow.pinned==Rows.wholeDashesRow.pinnedBy))=true:=by kernel_rfl
theorem wholeDashes_k30:((Rows.wholeDashesRow.veiled==(Tryz.f8.params.toList++Rows.wholeDashesSpec.plain.varTypes Tryz.pinned.checked.prog++Tryz.f8.resultTypes.toList).any (Tryz.pinned.checked.prog.veiledRec ·)))=true:=by kernel_rfl
theorem wholeDashes_k31:(Rows.wholeDashesRow.veiledFits Tryz.pinned.checked.prog Tryz.f8.params.toList (Tryz.f8.params.toList++Rows.wholeDashesSpec.plain.varTypes Tryz.pinned.checked.prog++Tryz.f8.resultTypes.toList))=true:=by kernel_rfl
theorem wholeDashes_facts:joinedFacts Tryz.pinned.checked.prog 8 Tryz.f8 Rows.wholeDashesSpec Rows.wholeDashesRow=true:=by unfold joinedFacts;exact wholeDashes_and (wholeDashes_and (wholeDashes_and (wholeDashes_and (wholeDashes_and (wholeDashes_and (wholeDashes_and (wholeDashes_and (wholeDashes_and (wholeDashes_and (wholeDashes_and (wholeDashes_and (wholeDashes_and (wholeDashes_and (wholeDashes_and (wholeDashes_and (wholeDashes_and (wholeDashes_and (wholeDashes_and (wholeDashes_and (wholeDashes_and (wholeDashes_and (wholeDashes_and (wholeDashes_and (wholeDashes_and (wholeDashes_and (wholeDashes_and (wholeDashes_and (wholeDashes_and (wholeDashes_and (wholeDashes_and (wholeDashes_k0) wholeDashes_k1) wholeDashes_k2) wholeDashes_k3) wholeDashes_k4) wholeDashes_k5) wholeDashes_k6) wholeDashes_k7) wholeDashes_k8) wholeDashes_k9) wholeDashes_k10) wholeDashes_k11) wholeDashes_k12) wholeDashes_k13) wholeDashes_k14) wholeDashes_k15) wholeDashes_k16) wholeDashes_k17) wholeDashes_k18) wholeDashes_k19) wholeDashes_k20) wholeDashes_k21) wholeDashes_k22) wholeDashes_k23) wholeDashes_k24) wholeDashes_k25) wholeDashes_k26) wholeDashes_k27) wholeDashes_k28) wholeDashes_k29) wholeDashes_k30) wholeDashes_k31
end Go.Proofs.YtplljnfjkkloeaaGreatDoor
