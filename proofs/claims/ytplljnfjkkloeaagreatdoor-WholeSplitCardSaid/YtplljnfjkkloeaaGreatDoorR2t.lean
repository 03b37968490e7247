/- 'WholeSplit' holds of every input: the given row, and its tied card. No condition. By an AI agent. -/
import Derived.Test.YtplljnfjkkloeaaGreatDoorR1t
import Derived.Test.YtplljnfjkkloeaaGreatDoorR0t
import Derived.Test.YtplljnfjkkloeaaGreatDoorCards
import Derived.Test.YtplljnfjkkloeaaGreatDoorTie
import Derived.SevenTiedAt
set_option linter.unusedVariables false
set_option linter.unusedSimpArgs false
namespace Go.Proofs.YtplljnfjkkloeaaGreatDoor
open Go.ChangeShapes Go.WideShapes Go.ChangeAt Go.RowKit Go.Joins
set_option maxRecDepth 100000
theorem wholeSplit_named : Tryz.pinned.checked.prog.funcNamed Rows.wholeSplitRow.func = some 6 := by kernel_rfl
theorem wholeSplit_plain : (Tryz.f6).isInstance Tryz.pinned.checked.prog Rows.wholeSplitRow.origin Rows.wholeSplitRow.targs := of_decide_eq_true (by kernel_rfl)
theorem wholeSplit_bare : (Tryz.f6).isWrapper Tryz.pinned.checked.prog Rows.wholeSplitRow.wrapper Rows.wholeSplitRow.mainSum := by
  unfold Func.isWrapper; rw [if_neg (of_decide_eq_false (by kernel_rfl))]; exact ⟨rfl, rfl⟩
theorem wholeSplit_row : Rows.WholeSplitSaid :=
  OpenClaim.holds_of_wide 6 Tryz.f6 rfl rfl rfl rfl rfl rfl rfl ⟨rfl, rfl, rfl, rfl, rfl⟩ rfl rfl rfl rfl rfl wholeSplit_named Tryz.func6 wholeSplit_facts wholeSplit_plain wholeSplit_bare
    (fun os started H enc _ => wholeSplit_lifted os started H enc)
theorem wholeSplit_holds : Rows.WholeSplitCardSaid :=
  Claim7.holds_tied_plain_at .later [] [.data, .data, .data, .data, .data, .sentinel, .sentinel] true (true, "fbbe067b17e19b0cdea9796fa0a81e0286574e4c45cac3cef236e0a0b3be283a") true
    wholeSplit_row (fun _ h => by cases h) (by kernel_rfl) (fun _ h => by cases h) wholeSplit_row_tie rfl ⟨rfl, rfl⟩ (by kernel_rfl) rfl
    (fun f fn hf hfn => by
      obtain rfl : f = 6 := Option.some.inj ((show Tryz.prog.funcNamed "rastrum/rastrumtop.WholeSplit" = some 6 by kernel_rfl).symm.trans hf) |>.symm
      obtain rfl : fn = Tryz.f6 := (Option.some.inj (Tryz.func6.symm.trans hfn)).symm
      exact ⟨by kernel_rfl, fun j t ht => by
        rw [Tryz.params6] at ht
        rcases j with _ | j
        · obtain rfl : t = 86 := by simpa using ht.symm
          exact (show Tryz.prog.wantsStandIn 86 = false by kernel_rfl)
        · simp at ht⟩)
    (by kernel_rfl)
#print axioms wholeSplit_holds
end Go.Proofs.YtplljnfjkkloeaaGreatDoor
