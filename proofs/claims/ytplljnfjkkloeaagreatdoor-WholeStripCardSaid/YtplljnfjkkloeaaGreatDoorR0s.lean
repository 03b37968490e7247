/- The closed facts of the row 'WholeStrip', limb by limb. By an AI agent. -/
import Derived.Test.YtplljnfjkkloeaaGreatDoorRows
import Derived.JoinedOf
import Derived.ProofKit
set_option linter.unusedVariables false
set_option linter.unusedSimpArgs false
namespace Go.Proofs.YtplljnfjkkloeaaGreatDoor
open Go.ChangeShapes Go.WideShapes Go.ChangeAt Go.RowKit
set_option maxRecDepth 100000
theorem wholeStrip_and {a b : Bool} (h : a = true) (k : b = true) : (a && b) = true := by rw [h, k]; rfl
theorem wholeStrip_k0 : (Rows.wholeStripRow.wf (OpenSpec.ofChange Rows.wholeStripSpec)) = true := by kernel_rfl
theorem wholeStrip_k1 : (laidOutB Tryz.pinned.checked.prog) = true := by kernel_rfl
theorem wholeStrip_k2 : (mapsRowed Tryz.pinned.checked.prog) = true := by kernel_rfl
theorem wholeStrip_k3 : (Tryz.f5.params.all (Tryz.pinned.checked.prog.readableRec ·)) = true := by kernel_rfl
theorem wholeStrip_k4 : (namedTie Tryz.pinned.checked.prog Rows.wholeStripRow.named Rows.wholeStripSpec.vars) = true := by kernel_rfl
theorem wholeStrip_k5 : ((Rows.wholeStripRow.stops == [])) = true := by kernel_rfl
theorem wholeStrip_k6 : ((Tryz.pinned.checked.prog.stops == [])) = true := by kernel_rfl
theorem wholeStrip_k7 : ((Rows.wholeStripRow.knobs == [])) = true := by kernel_rfl
theorem wholeStrip_k8 : ((Tryz.pinned.checked.prog.stopKnobs == [])) = true := by kernel_rfl
theorem wholeStrip_k9 : ((Rows.wholeStripRow.inPlace == Tryz.pinned.checked.prog.inPlace 5)) = true := by kernel_rfl
theorem wholeStrip_k10 : ((Rows.wholeStripRow.unfollowed == Tryz.pinned.checked.prog.unfollowed 5)) = true := by kernel_rfl
theorem wholeStrip_k11 : ((Rows.wholeStripRow.recurses == Tryz.pinned.checked.prog.recurses 5)) = true := by kernel_rfl
theorem wholeStrip_k12 : ((Rows.wholeStripRow.named == Tryz.pinned.checked.prog.varsNamed 5)) = true := by kernel_rfl
theorem wholeStrip_k13 : ((Rows.wholeStripRow.maps == (Tryz.f5.params.toList ++ Rows.wholeStripSpec.plain.varTypes Tryz.pinned.checked.prog).any (Tryz.pinned.checked.prog.mapsRec ·))) = true := by kernel_rfl
theorem wholeStrip_k14 : ((Rows.wholeStripRow.ifaces == (Tryz.f5.params.toList ++ Rows.wholeStripSpec.plain.varTypes Tryz.pinned.checked.prog).any (Tryz.pinned.checked.prog.ifacesRec ·))) = true := by kernel_rfl
theorem wholeStrip_k15 : ((Rows.wholeStripRow.mapsOut == Tryz.pinned.checked.prog.mapsAmong Tryz.f5.resultTypes.toList)) = true := by kernel_rfl
theorem wholeStrip_k16 : ((Rows.wholeStripRow.loops == (Tryz.f5.params.toList ++ Rows.wholeStripSpec.plain.varTypes Tryz.pinned.checked.prog).any (Tryz.pinned.checked.prog.loopsFrom ·))) = true := by kernel_rfl
theorem wholeStrip_k17 : ((Rows.wholeStripRow.wideKeys == (Tryz.f5.params.toList ++ Rows.wholeStripSpec.plain.varTypes Tryz.pinned.checked.prog ++ Tryz.f5.resultTypes.toList).any (Tryz.pinned.checked.prog.wideKeysFrom ·))) = true := by kernel_rfl
theorem wholeStrip_k18 : (Rows.wholeStripSpec.vars.all (Tryz.pinned.checked.prog.varReadable ·)) = true := by kernel_rfl
theorem wholeStrip_k19 : (Tryz.f5.resultTypes.all (fun t => Tryz.pinned.checked.prog.readableRec t && decide (t < Tryz.pinned.checked.prog.types.size))) = true := by kernel_rfl
theorem wholeStrip_k20 : ((Rows.wholeStripRow.ifacesOut == Tryz.f5.resultTypes.toList.any (Tryz.pinned.checked.prog.ifacesRec ·))) = true := by kernel_rfl
theorem wholeStrip_k21 : ((Rows.wholeStripRow.loopsOut == Tryz.f5.resultTypes.toList.any (Tryz.pinned.checked.prog.loopsFrom ·))) = true := by kernel_rfl
theorem wholeStrip_k22 : ((Rows.wholeStripRow.plainKeys == Tryz.pinned.checked.prog.plainKeys)) = true := by kernel_rfl
theorem wholeStrip_k23 : (Rows.wholeStripRow.shortTexts.isNone) = true := by kernel_rfl
theorem wholeStrip_k24 : (Tryz.pinned.checked.prog.stopsHeard) = true := by kernel_rfl
theorem wholeStrip_k25 : (Tryz.pinned.checked.prog.mayEnter) = true := by kernel_rfl
theorem wholeStrip_k26 : ((Rows.wholeStripRow.lifted == Tryz.pinned.checked.prog.liftsFinal)) = true := by kernel_rfl
theorem wholeStrip_k27 : ((Tryz.pinned.checked.prog.make == some Rows.wholeStripRow.make)) = true := by kernel_rfl
theorem wholeStrip_k28 : ((Rows.wholeStripRow.kinds == (if Rows.wholeStripRow.domain.isEmpty then [] else Tryz.f5.params.toList.map fun t => match Tryz.pinned.checked.prog.underlying t with | some (.int k) => some k | _ => none))) = true := by kernel_rfl
theorem wholeStrip_k29 : ((Rows.wholeStripRow.pinned == Rows.wholeStripRow.pinnedBy)) = true := by kernel_rfl
theorem wholeStrip_k30 : ((Rows.wholeStripRow.veiled == (Tryz.f5.params.toList ++ Rows.wholeStripSpec.plain.varTypes Tryz.pinned.checked.prog ++ Tryz.f5.resultTypes.toList).any (Tryz.pinned.checked.prog.veiledRec ·))) = true := by kernel_rfl
theorem wholeStrip_k31 : (Rows.wholeStripRow.veiledFits Tryz.pinned.checked.prog Tryz.f5.params.toList (Tryz.f5.params.toList ++ Rows.wholeStripSpec.plain.varTypes Tryz.pinned.checked.prog ++ Tryz.f5.resultTypes.toList)) = true := by kernel_rfl
theorem wholeStrip_facts : joinedFacts Tryz.pinned.checked.prog 5 Tryz.f5 Rows.wholeStripSpec Rows.wholeStripRow = true := by unfold joinedFacts; exact wholeStrip_and (wholeStrip_and (wholeStrip_and (wholeStrip_and (wholeStrip_and (wholeStrip_and (wholeStrip_and (wholeStrip_and (wholeStrip_and (wholeStrip_and (wholeStrip_and (wholeStrip_and (wholeStrip_and (wholeStrip_and (wholeStrip_and (wholeStrip_and (wholeStrip_and (wholeStrip_and (wholeStrip_and (wholeStrip_and (wholeStrip_and (wholeStrip_and (wholeStrip_and (wholeStrip_and (wholeStrip_and (wholeStrip_and (wholeStrip_and (wholeStrip_and (wholeStrip_and (wholeStrip_and (wholeStrip_and (wholeStrip_k0) wholeStrip_k1) wholeStrip_k2) wholeStrip_k3) wholeStrip_k4) wholeStrip_k5) wholeStrip_k6) wholeStrip_k7) wholeStrip_k8) wholeStrip_k9) wholeStrip_k10) wholeStrip_k11) wholeStrip_k12) wholeStrip_k13) wholeStrip_k14) wholeStrip_k15) wholeStrip_k16) wholeStrip_k17) wholeStrip_k18) wholeStrip_k19) wholeStrip_k20) wholeStrip_k21) wholeStrip_k22) wholeStrip_k23) wholeStrip_k24) wholeStrip_k25) wholeStrip_k26) wholeStrip_k27) wholeStrip_k28) wholeStrip_k29) wholeStrip_k30) wholeStrip_k31
end Go.Proofs.YtplljnfjkkloeaaGreatDoor
