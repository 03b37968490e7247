/- The closed facts of the row 'WholeOnce', limb by limb. By an AI agent. -/
import Derived.Test.YtplljnfjkkloeaaGreatDoorRows
import Derived.JoinedOf
import Derived.ProofKit
set_option linter.unusedVariables false
set_option linter.unusedSimpArgs false
namespace Go.Proofs.YtplljnfjkkloeaaGreatDoor
open Go.ChangeShapes Go.WideShapes Go.ChangeAt Go.RowKit
set_option maxRecDepth 100000
theorem and_t {a b : Bool} (h : a = true) (k : b = true) : (a && b) = true := by rw [h, k]; rfl
theorem wholeOnce_k0 : (Rows.wholeOnceRow.wf (OpenSpec.ofChange Rows.wholeOnceSpec)) = true := by kernel_rfl
theorem wholeOnce_k1 : (laidOutB Tryz.pinned.checked.prog) = true := by kernel_rfl
theorem wholeOnce_k2 : (mapsRowed Tryz.pinned.checked.prog) = true := by kernel_rfl
theorem wholeOnce_k3 : (Tryz.f7.params.all (Tryz.pinned.checked.prog.readableRec ·)) = true := by kernel_rfl
theorem wholeOnce_k4 : (namedTie Tryz.pinned.checked.prog Rows.wholeOnceRow.named Rows.wholeOnceSpec.vars) = true := by kernel_rfl
theorem wholeOnce_k5 : ((Rows.wholeOnceRow.stops == [])) = true := by kernel_rfl
theorem wholeOnce_k6 : ((Tryz.pinned.checked.prog.stops == [])) = true := by kernel_rfl
theorem wholeOnce_k7 : ((Rows.wholeOnceRow.knobs == [])) = true := by kernel_rfl
theorem wholeOnce_k8 : ((Tryz.pinned.checked.prog.stopKnobs == [])) = true := by kernel_rfl
theorem wholeOnce_k9 : ((Rows.wholeOnceRow.inPlace == Tryz.pinned.checked.prog.inPlace 7)) = true := by kernel_rfl
theorem wholeOnce_k10 : ((Rows.wholeOnceRow.unfollowed == Tryz.pinned.checked.prog.unfollowed 7)) = true := by kernel_rfl
theorem wholeOnce_k11 : ((Rows.wholeOnceRow.recurses == Tryz.pinned.checked.prog.recurses 7)) = true := by kernel_rfl
theorem wholeOnce_k12 : ((Rows.wholeOnceRow.named == Tryz.pinned.checked.prog.varsNamed 7)) = true := by kernel_rfl
theorem wholeOnce_k13 : ((Rows.wholeOnceRow.maps == (Tryz.f7.params.toList ++ Rows.wholeOnceSpec.plain.varTypes Tryz.pinned.checked.prog).any (Tryz.pinned.checked.prog.mapsRec ·))) = true := by kernel_rfl
theorem wholeOnce_k14 : ((Rows.wholeOnceRow.ifaces == (Tryz.f7.params.toList ++ Rows.wholeOnceSpec.plain.varTypes Tryz.pinned.checked.prog).any (Tryz.pinned.checked.prog.ifacesRec ·))) = true := by kernel_rfl
theorem wholeOnce_k15 : ((Rows.wholeOnceRow.mapsOut == Tryz.pinned.checked.prog.mapsAmong Tryz.f7.resultTypes.toList)) = true := by kernel_rfl
theorem wholeOnce_k16 : ((Rows.wholeOnceRow.loops == (Tryz.f7.params.toList ++ Rows.wholeOnceSpec.plain.varTypes Tryz.pinned.checked.prog).any (Tryz.pinned.checked.prog.loopsFrom ·))) = true := by kernel_rfl
theorem wholeOnce_k17 : ((Rows.wholeOnceRow.wideKeys == (Tryz.f7.params.toList ++ Rows.wholeOnceSpec.plain.varTypes Tryz.pinned.checked.prog ++ Tryz.f7.resultTypes.toList).any (Tryz.pinned.checked.prog.wideKeysFrom ·))) = true := by kernel_rfl
theorem wholeOnce_k18 : (Rows.wholeOnceSpec.vars.all (Tryz.pinned.checked.prog.varReadable ·)) = true := by kernel_rfl
theorem wholeOnce_k19 : (Tryz.f7.resultTypes.all (fun t => Tryz.pinned.checked.prog.readableRec t && decide (t < Tryz.pinned.checked.prog.types.size))) = true := by kernel_rfl
theorem wholeOnce_k20 : ((Rows.wholeOnceRow.ifacesOut == Tryz.f7.resultTypes.toList.any (Tryz.pinned.checked.prog.ifacesRec ·))) = true := by kernel_rfl
theorem wholeOnce_k21 : ((Rows.wholeOnceRow.loopsOut == Tryz.f7.resultTypes.toList.any (Tryz.pinned.checked.prog.loopsFrom ·))) = true := by kernel_rfl
theorem wholeOnce_k22 : ((Rows.wholeOnceRow.plainKeys == Tryz.pinned.checked.prog.plainKeys)) = true := by kernel_rfl
theorem wholeOnce_k23 : (Rows.wholeOnceRow.shortTexts.isNone) = true := by kernel_rfl
theorem wholeOnce_k24 : (Tryz.pinned.checked.prog.stopsHeard) = true := by kernel_rfl
theorem wholeOnce_k25 : (Tryz.pinned.checked.prog.mayEnter) = true := by kernel_rfl
theorem wholeOnce_k26 : ((Rows.wholeOnceRow.lifted == Tryz.pinned.checked.prog.liftsFinal)) = true := by kernel_rfl
theorem wholeOnce_k27 : ((Tryz.pinned.checked.prog.make == some Rows.wholeOnceRow.make)) = true := by kernel_rfl
theorem wholeOnce_k28 : ((Rows.wholeOnceRow.kinds == (if Rows.wholeOnceRow.domain.isEmpty then [] else Tryz.f7.params.toList.map fun t => match Tryz.pinned.checked.prog.underlying t with | some (.int k) => some k | _ => none))) = true := by kernel_rfl
theorem wholeOnce_k29 : ((Rows.wholeOnceRow.pinned == Rows.wholeOnceRow.pinnedBy)) = true := by kernel_rfl
theorem wholeOnce_k30 : ((Rows.wholeOnceRow.veiled == (Tryz.f7.params.toList ++ Rows.wholeOnceSpec.plain.varTypes Tryz.pinned.checked.prog ++ Tryz.f7.resultTypes.toList).any (Tryz.pinned.checked.prog.veiledRec ·))) = true := by kernel_rfl
theorem wholeOnce_k31 : (Rows.wholeOnceRow.veiledFits Tryz.pinned.checked.prog Tryz.f7.params.toList (Tryz.f7.params.toList ++ Rows.wholeOnceSpec.plain.varTypes Tryz.pinned.checked.prog ++ Tryz.f7.resultTypes.toList)) = true := by kernel_rfl
theorem wholeOnce_facts : joinedFacts Tryz.pinned.checked.prog 7 Tryz.f7 Rows.wholeOnceSpec Rows.wholeOnceRow = true := by unfold joinedFacts; exact and_t (and_t (and_t (and_t (and_t (and_t (and_t (and_t (and_t (and_t (and_t (and_t (and_t (and_t (and_t (and_t (and_t (and_t (and_t (and_t (and_t (and_t (and_t (and_t (and_t (and_t (and_t (and_t (and_t (and_t (and_t (wholeOnce_k0) wholeOnce_k1) wholeOnce_k2) wholeOnce_k3) wholeOnce_k4) wholeOnce_k5) wholeOnce_k6) wholeOnce_k7) wholeOnce_k8) wholeOnce_k9) wholeOnce_k10) wholeOnce_k11) wholeOnce_k12) wholeOnce_k13) wholeOnce_k14) wholeOnce_k15) wholeOnce_k16) wholeOnce_k17) wholeOnce_k18) wholeOnce_k19) wholeOnce_k20) wholeOnce_k21) wholeOnce_k22) wholeOnce_k23) wholeOnce_k24) wholeOnce_k25) wholeOnce_k26) wholeOnce_k27) wholeOnce_k28) wholeOnce_k29) wholeOnce_k30) wholeOnce_k31
end Go.Proofs.YtplljnfjkkloeaaGreatDoor
