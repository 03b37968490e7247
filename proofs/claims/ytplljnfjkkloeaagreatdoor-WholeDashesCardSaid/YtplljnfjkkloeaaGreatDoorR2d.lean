/- 'WholeDashes' holds of every input: the given row, and its tied card. No condition. By an AI agent. -/
import Derived.Test.YtplljnfjkkloeaaGreatDoorR1d
import Derived.Test.YtplljnfjkkloeaaGreatDoorR0d
import Derived.Test.YtplljnfjkkloeaaGreatDoorCards
import Derived.Test.YtplljnfjkkloeaaGreatDoorTie
import Derived.SevenTiedAt
set_option linter.unusedVariables false
set_option linter.unusedSimpArgs false
namespace Go.Proofs.YtplljnfjkkloeaaGreatDoor
open Go.ChangeShapes Go.WideShapes Go.ChangeAt Go.RowKit Go.Joins
set_option maxRecDepth 100000
theorem wholeDashes_named:Tryz.pinned.checked.prog.funcNamed Rows.wholeDashesRow.func=some 8:=by kernel_rfl
theorem wholeDashes_plain:(Tryz.f8).isInstance Tryz.pinned.checked.prog Rows.wholeDashesRow.origin Rows.wholeDashesRow.targs:=of_decide_eq_true (by kernel_rfl)
theorem wholeDashes_bare:(Tryz.f8).isWrapper Tryz.pinned.checked.prog Rows.wholeDashesRow.wrapper Rows.wholeDashesRow.mainSum:=by
 unfold Func.isWrapper;rw[if_neg (of_decide_eq_false (by kernel_rfl))];exact⟨rfl,rfl⟩
theorem wholeDashes_row:Rows.WholeDashesSaid:=
 OpenClaim.holds_of_wide 8 Tryz.f8 rfl rfl rfl rfl rfl rfl rfl ⟨rfl,rfl,rfl,rfl,rfl⟩ rfl rfl rfl rfl rfl wholeDashes_named Tryz.func8 wholeDashes_facts wholeDashes_plain wholeDashes_bare
  (fun os started H enc _=>wholeDashes_lifted os started H enc)
theorem wholeDashes_holds:Rows.WholeDashesCardSaid:=
 Claim7.holds_tied_plain_at .later [] [.data,.data,.data,.data,.data,.sentinel,.sentinel] true (true, "fbbe067b17e19b0cdea9796fa0a81e0286574e4c45cac3cef236e0a0b3be283a") true
  wholeDashes_row (fun _ h=>by cases h) (by kernel_rfl) (fun _ h=>by cases h) wholeDashes_row_tie rfl ⟨rfl,rfl⟩ (by kernel_rfl) rfl
  (fun f fn hf hfn=>by
   obtain rfl:f=8:=Option.some.inj ((show Tryz.prog.funcNamed "rastrum/rastrumtop.WholeDashes" =some 8 by kernel_rfl).symm.trans hf) |>.symm
   obtain rfl:fn=Tryz.f8:=(Option.some.inj (Tryz.func8.symm.trans hfn)).symm
   exact⟨by kernel_rfl,fun j t ht=>by
    rw[Tryz.params8]at ht
    rcases j with _|j
    ·obtain rfl:t=71:=by simpa using ht.symm
     exact(show Tryz.prog.wantsStandIn 71=false by kernel_rfl)
    ·rcases j with _|j
     ·obtain rfl:t=44:=by simpa using ht.symm
      exact(show Tryz.prog.wantsStandIn 44=false by kernel_rfl)
     ·simp at ht⟩)
  (by kernel_rfl)
#print axioms wholeDashes_holds
end Go.Proofs.YtplljnfjkkloeaaGreatDoor
