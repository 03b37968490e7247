/- 'WholeOnce' holds of every input: the given row, and its tied card. No condition. By an AI agent. -/
import Derived.Test.YtplljnfjkkloeaaGreatDoorR1w
import Derived.Test.YtplljnfjkkloeaaGreatDoorR0w
import Derived.Test.YtplljnfjkkloeaaGreatDoorCards
import Derived.Test.YtplljnfjkkloeaaGreatDoorTie
import Derived.SevenTiedAt
set_option linter.unusedVariables false
set_option linter.unusedSimpArgs false
namespace Go.Proofs.YtplljnfjkkloeaaGreatDoor
open Go.ChangeShapes Go.WideShapes Go.ChangeAt Go.RowKit Go.Joins
set_option maxRecDepth 100000
theorem wholeOnce_named : Tryz.pinned.checked.prog.funcNamed Rows.wholeOnceRow.func = some 7 := by kernel_rfl
theorem wholeOnce_plain : (Tryz.f7).isInstance Tryz.pinned.checked.prog Rows.wholeOnceRow.origin Rows.wholeOnceRow.targs := of_decide_eq_true (by kernel_rfl)
theorem wholeOnce_bare : (Tryz.f7).isWrapper Tryz.pinned.checked.prog Rows.wholeOnceRow.wrapper Rows.wholeOnceRow.mainSum := by
  unfold Func.isWrapper; rw [if_neg (of_decide_eq_false (by kernel_rfl))]; exact ⟨rfl, rfl⟩
theorem wholeOnce_row : Rows.WholeOnceSaid :=
  OpenClaim.holds_of_wide 7 Tryz.f7 rfl rfl rfl rfl rfl rfl rfl ⟨rfl, rfl, rfl, rfl, rfl⟩ rfl rfl rfl rfl rfl wholeOnce_named Tryz.func7 wholeOnce_facts wholeOnce_plain wholeOnce_bare
    (fun os started H enc _ => wholeOnce_lifted os started H enc)
theorem wholeOnce_holds : Rows.WholeOnceCardSaid :=
  Claim7.holds_tied_plain_at .later [] [.data, .data, .data, .data, .data, .sentinel, .sentinel] true (true, "fbbe067b17e19b0cdea9796fa0a81e0286574e4c45cac3cef236e0a0b3be283a") true
    wholeOnce_row (fun _ h => by cases h) (by kernel_rfl) (fun _ h => by cases h) wholeOnce_row_tie rfl ⟨rfl, rfl⟩ (by kernel_rfl) rfl
    (fun f fn hf hfn => by
      obtain rfl : f = 7 := Option.some.inj ((show Tryz.prog.funcNamed "rastrum/rastrumtop.WholeOnce" = some 7 by kernel_rfl).symm.trans hf) |>.symm
      obtain rfl : fn = Tryz.f7 := (Option.some.inj (Tryz.func7.symm.trans hfn)).symm
      exact ⟨by kernel_rfl, fun j t ht => by
        rw [Tryz.params7] at ht
        rcases j with _ | j
        · obtain rfl : t = 79 := by simpa using ht.symm
          exact (show Tryz.prog.wantsStandIn 79 = false by kernel_rfl)
        · rcases j with _ | j
          · obtain rfl : t = 91 := by simpa using ht.symm
            exact (show Tryz.prog.wantsStandIn 91 = false by kernel_rfl)
          · rcases j with _ | j
            · obtain rfl : t = 5 := by simpa using ht.symm
              exact (show Tryz.prog.wantsStandIn 5 = false by kernel_rfl)
            · simp at ht⟩)
    (by kernel_rfl)
#print axioms wholeOnce_holds
end Go.Proofs.YtplljnfjkkloeaaGreatDoor
