/- Proof text of the claims about the statements of layer 4 (code). By an AI agent. No condition beyond what each theorem states. -/
import Derived.Test.YtgibagnllbbeiaaDoorH
import Derived.Test.YtgibagnllbbeiaaDoorE
set_option linter.unusedVariables false
namespace Go.Proofs.YtgibagnllbbeiaaDoor
open Go.RowKit
set_option maxHeartbeats 1000000 in
theorem law_tells (op i : Int) (w : World) (h : Glob w) : Calls Tryd.prog 7 #[.int .i64 op, .int .i64 i] w fun e w' => e = .returned (.bool true) ∧ Ext w w' := by
  have Hg := Lib.hid h
  clear h
  have e0 := ask_bounds op
  have A1 := fun w1 (h1 : Glob w1) => arity_any op w1 h1
  have A2 := fun w1 => rarity_any op w1
  have R1 := fun w1 (h1 : Glob w1) => range_any op i w1 h1
  have R2 := fun w1 => rrange_any op i w1
  rw [← e0] at A2 R2
  generalize askT op = o at A1 A2 R1 R2
  generalize ((o.getD []).length : Int) = n at A1 A2
  generalize o.isSome = b at A1 A2
  generalize rangeT o i = r at R1 R2
  have HA1 := Lib.hid A1
  have HA2 := Lib.hid A2
  have HR1 := Lib.hid R1
  have HR2 := Lib.hid R2
  clear A1 A2 R1 R2 e0
  go_enter Tryd.func7, Tryd.ntmps7
  go_wp2_with fail
  refine (HA1.out w Hg.out).mono ?_
  rintro e w1 ⟨rfl, hE1⟩
  go_wp2_with fail
  refine (HA2.out w1).mono ?_
  rintro e w2 ⟨rfl, hE2⟩
  go_wp2_with fail
  refine (HR1.out w2 (Hg.out.ext (hE1.trans hE2))).mono ?_
  rintro e w3 ⟨rfl, hE3⟩
  go_wp2_with fail
  refine (HR2.out w3).mono ?_
  rintro e w4 ⟨rfl, hE4⟩
  have hE : Ext w w4 := ((hE1.trans hE2).trans hE3).trans hE4
  go_wp2_with (go_at_call 10; refine (awake_any _ (Hg.out.ext hE)).mono ?_; rintro e w5 ⟨rfl, hE5⟩)
  go_ret
  exact ⟨rfl, hE.trans hE5⟩
end Go.Proofs.YtgibagnllbbeiaaDoor
