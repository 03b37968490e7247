/- 'WholeStrip' holds of every input: the given row, and its tied card. No condition. By an AI agent. -/
import Derived.Test.YtplljnfjkkloeaaGreatDoorR1s
import Derived.Test.YtplljnfjkkloeaaGreatDoorR0s
import Derived.Test.YtplljnfjkkloeaaGreatDoorCards
import Derived.Test.YtplljnfjkkloeaaGreatDoorTie
import Derived.SevenTiedAt
set_option linter.unusedVariables false
set_option linter.unusedSimpArgs false
namespace Go.Proofs.YtplljnfjkkloeaaGreatDoor
open Go.ChangeShapes Go.WideShapes Go.ChangeAt Go.RowKit Go.Joins
set_option maxRecDepth 100000
theorem wholeStrip_named : Tryz.pinned.checked.prog.funcNamed Rows.wholeStripRow.func = some 5 := by kernel_rfl
theorem wholeStrip_plain : (Tryz.f5).isInstance Tryz.pinned.checked.prog Rows.wholeStripRow.origin Rows.wholeStripRow.targs := of_decide_eq_true (by kernel_rfl)
theorem wholeStrip_bare : (Tryz.f5).isWrapper Tryz.pinned.checked.prog Rows.wholeStripRow.wrapper Rows.wholeStripRow.mainSum := by
  unfold Func.isWrapper; rw [if_neg (of_decide_eq_false (by kernel_rfl))]; exact ⟨rfl, rfl⟩
theorem wholeStrip_row : Rows.WholeStripSaid :=
  OpenClaim.holds_of_wide 5 Tryz.f5 rfl rfl rfl rfl rfl rfl rfl ⟨rfl, rfl, rfl, rfl, rfl⟩ rfl rfl rfl rfl rfl wholeStrip_named Tryz.func5 wholeStrip_facts wholeStrip_plain wholeStrip_bare
    (fun os started H enc _ => wholeStrip_lifted os started H enc)
theorem wholeStrip_holds : Rows.WholeStripCardSaid :=
  Claim7.holds_tied_plain_at .later [] [.data, .data, .data, .data, .data, .sentinel, .sentinel] true (true, "fbbe067b17e19b0cdea9796fa0a81e0286574e4c45cac3cef236e0a0b3be283a") true
    wholeStrip_row (fun _ h => by cases h) (by kernel_rfl) (fun _ h => by cases h) wholeStrip_row_tie rfl ⟨rfl, rfl⟩ (by kernel_rfl) rfl
    (fun f fn hf hfn => by
      obtain rfl : f = 5 := Option.some.inj ((show Tryz.prog.funcNamed "rastrum/rastrumtop.WholeStrip" = some 5 by kernel_rfl).symm.trans hf) |>.symm
      obtain rfl : fn = Tryz.f5 := (Option.some.inj (Tryz.func5.symm.trans hfn)).symm
      exact ⟨by kernel_rfl, fun j t ht => by
        rw [Tryz.params5] at ht
        rcases j with _ | j
        · obtain rfl : t = 71 := by simpa using ht.symm
          exact (show Tryz.prog.wantsStandIn 71 = false by kernel_rfl)
        · simp at ht⟩)
    (by kernel_rfl)
#print axioms wholeStrip_holds
end Go.Proofs.YtplljnfjkkloeaaGreatDoor
