/- The closed facts of the row 'WholeSplit', limb by limb. By an AI agent. -/
import Derived.Test.YtplljnfjkkloeaaGreatDoorRows
import Derived.JoinedOf
import Derived.ProofKit
set_option linter.unusedVariables false
set_option linter.unusedSimpArgs false
namespace Go.Proofs.YtplljnfjkkloeaaGreatDoor
open Go.ChangeShapes Go.WideShapes Go.ChangeAt Go.RowKit
set_option maxRecDepth 100000
theorem wholeSplit_and {a b : Bool} (h : a = true) (k : b = true) : (a && b) = true := by rw [h, k]; rfl
theorem wholeSplit_k0 : (Rows.wholeSplitRow.wf (OpenSpec.ofChange Rows.wholeSplitSpec)) = true := by kernel_rfl
theorem wholeSplit_k1 : (laidOutB Tryz.pinned.checked.prog) = true := by kernel_rfl
theorem wholeSplit_k2 : (mapsRowed Tryz.pinned.checked.prog) = true := by kernel_rfl
theorem wholeSplit_k3 : (Tryz.f6.params.all (Tryz.pinned.checked.prog.readableRec ·)) = true := by kernel_rfl
theorem wholeSplit_k4 : (namedTie Tryz.pinned.checked.prog Rows.wholeSplitRow.named Rows.wholeSplitSpec.vars) = true := by kernel_rfl
theorem wholeSplit_k5 : ((Rows.wholeSplitRow.stops == [])) = true := by kernel_rfl
theorem wholeSplit_k6 : ((Tryz.pinned.checked.prog.stops == [])) = true := by kernel_rfl
theorem wholeSplit_k7 : ((Rows.wholeSplitRow.knobs == [])) = true := by kernel_rfl
theorem wholeSplit_k8 : ((Tryz.pinned.checked.prog.stopKnobs == [])) = true := by kernel_rfl
theorem wholeSplit_k9 : ((Rows.wholeSplitRow.inPlace == Tryz.pinned.checked.prog.inPlace 6)) = true := by kernel_rfl
theorem wholeSplit_k10 : ((Rows.wholeSplitRow.unfollowed == Tryz.pinned.checked.prog.unfollowed 6)) = true := by kernel_rfl
theorem wholeSplit_k11 : ((Rows.wholeSplitRow.recurses == Tryz.pinned.checked.prog.recurses 6)) = true := by kernel_rfl
theorem wholeSplit_k12 : ((Rows.wholeSplitRow.named == Tryz.pinned.checked.prog.varsNamed 6)) = true := by kernel_rfl
theorem wholeSplit_k13 : ((Rows.wholeSplitRow.maps == (Tryz.f6.params.toList ++ Rows.wholeSplitSpec.plain.varTypes Tryz.pinned.checked.prog).any (Tryz.pinned.checked.prog.mapsRec ·))) = true := by kernel_rfl
theorem wholeSplit_k14 : ((Rows.wholeSplitRow.ifaces == (Tryz.f6.params.toList ++ Rows.wholeSplitSpec.plain.varTypes Tryz.pinned.checked.prog).any (Tryz.pinned.checked.prog.ifacesRec ·))) = true := by kernel_rfl
theorem wholeSplit_k15 : ((Rows.wholeSplitRow.mapsOut == Tryz.pinned.checked.prog.mapsAmong Tryz.f6.resultTypes.toList)) = true := by kernel_rfl
theorem wholeSplit_k16 : ((Rows.wholeSplitRow.loops == (Tryz.f6.params.toList ++ Rows.wholeSplitSpec.plain.varTypes Tryz.pinned.checked.prog).any (Tryz.pinned.checked.prog.loopsFrom ·))) = true := by kernel_rfl
theorem wholeSplit_k17 : ((Rows.wholeSplitRow.wideKeys == (Tryz.f6.params.toList ++ Rows.wholeSplitSpec.plain.varTypes Tryz.pinned.checked.prog ++ Tryz.f6.resultTypes.toList).any (Tryz.pinned.checked.prog.wideKeysFrom ·))) = true := by kernel_rfl
theorem wholeSplit_k18 : (Rows.wholeSplitSpec.vars.all (Tryz.pinned.checked.prog.varReadable ·)) = true := by kernel_rfl
theorem wholeSplit_k19 : (Tryz.f6.resultTypes.all (fun t => Tryz.pinned.checked.prog.readableRec t && decide (t < Tryz.pinned.checked.prog.types.size))) = true := by kernel_rfl
theorem wholeSplit_k20 : ((Rows.wholeSplitRow.ifacesOut == Tryz.f6.resultTypes.toList.any (Tryz.pinned.checked.prog.ifacesRec ·))) = true := by kernel_rfl
theorem wholeSplit_k21 : ((Rows.wholeSplitRow.loopsOut == Tryz.f6.resultTypes.toList.any (Tryz.pinned.checked.prog.loopsFrom ·))) = true := by kernel_rfl
theorem wholeSplit_k22 : ((Rows.wholeSplitRow.plainKeys == Tryz.pinned.checked.prog.plainKeys)) = true := by kernel_rfl
theorem wholeSplit_k23 : (Rows.wholeSplitRow.shortTexts.isNone) = true := by kernel_rfl
theorem wholeSplit_k24 : (Tryz.pinned.checked.prog.stopsHeard) = true := by kernel_rfl
theorem wholeSplit_k25 : (Tryz.pinned.checked.prog.mayEnter) = true := by kernel_rfl
theorem wholeSplit_k26 : ((Rows.wholeSplitRow.lifted == Tryz.pinned.checked.prog.liftsFinal)) = true := by kernel_rfl
theorem wholeSplit_k27 : ((Tryz.pinned.checked.prog.make == some Rows.wholeSplitRow.make)) = true := by kernel_rfl
theorem wholeSplit_k28 : ((Rows.wholeSplitRow.kinds == (if Rows.wholeSplitRow.domain.isEmpty then [] else Tryz.f6.params.toList.map fun t => match Tryz.pinned.checked.prog.underlying t with | some (.int k) => some k | _ => none))) = true := by kernel_rfl
theorem wholeSplit_k29 : ((Rows.wholeSplitRow.pinned == Rows.wholeSplitRow.pinnedBy)) = true := by kernel_rfl
theorem wholeSplit_k30 : ((Rows.wholeSplitRow.veiled == (Tryz.f6.params.toList ++ Rows.wholeSplitSpec.plain.varTypes Tryz.pinned.checked.prog ++ Tryz.f6.resultTypes.toList).any (Tryz.pinned.checked.prog.veiledRec ·))) = true := by kernel_rfl
theorem wholeSplit_k31 : (Rows.wholeSplitRow.veiledFits Tryz.pinned.checked.prog Tryz.f6.params.toList (Tryz.f6.params.toList ++ Rows.wholeSplitSpec.plain.varTypes Tryz.pinned.checked.prog ++ Tryz.f6.resultTypes.toList)) = true := by kernel_rfl
theorem wholeSplit_facts : joinedFacts Tryz.pinned.checked.prog 6 Tryz.f6 Rows.wholeSplitSpec Rows.wholeSplitRow = true := by unfold joinedFacts; exact wholeSplit_and (wholeSplit_and (wholeSplit_and (wholeSplit_and (wholeSplit_and (wholeSplit_and (wholeSplit_and (wholeSplit_and (wholeSplit_and (wholeSplit_and (wholeSplit_and (wholeSplit_and (wholeSplit_and (wholeSplit_and (wholeSplit_and (wholeSplit_and (wholeSplit_and (wholeSplit_and (wholeSplit_and (wholeSplit_and (wholeSplit_and (wholeSplit_and (wholeSplit_and (wholeSplit_and (wholeSplit_and (wholeSplit_and (wholeSplit_and (wholeSplit_and (wholeSplit_and (wholeSplit_and (wholeSplit_and (wholeSplit_k0) wholeSplit_k1) wholeSplit_k2) wholeSplit_k3) wholeSplit_k4) wholeSplit_k5) wholeSplit_k6) wholeSplit_k7) wholeSplit_k8) wholeSplit_k9) wholeSplit_k10) wholeSplit_k11) wholeSplit_k12) wholeSplit_k13) wholeSplit_k14) wholeSplit_k15) wholeSplit_k16) wholeSplit_k17) wholeSplit_k18) wholeSplit_k19) wholeSplit_k20) wholeSplit_k21) wholeSplit_k22) wholeSplit_k23) wholeSplit_k24) wholeSplit_k25) wholeSplit_k26) wholeSplit_k27) wholeSplit_k28) wholeSplit_k29) wholeSplit_k30) wholeSplit_k31
end Go.Proofs.YtplljnfjkkloeaaGreatDoor
