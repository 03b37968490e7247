/- Proof text: the examples of layer 8, and the law SideTells. By an AI agent. No condition beyond what each theorem states. -/
import Derived.Test.YtibhfclkdbmmoaaSL
set_option linter.unusedVariables false
set_option linter.unusedSimpArgs false
namespace Go.Proofs.Ytibhfclkdbmmoaa
open Go.RowKit
theorem fit_of (v : Vx) (h : (-68719476736 ≤ v.x ∧ v.x ≤ 68719476736) ∧ (-68719476736 ≤ v.y ∧ v.y ≤ 68719476736) ∧ (-68719476736 ≤ v.z ∧ v.z ≤ 68719476736) ∧ (-68719476736 ≤ v.w ∧ v.w ≤ 68719476736))
    (k : (0 ≤ v.c0 ∧ v.c0 ≤ 255) ∧ (0 ≤ v.c1 ∧ v.c1 ≤ 255) ∧ (0 ≤ v.c2 ∧ v.c2 ≤ 255) ∧ (0 ≤ v.c3 ∧ v.c3 ≤ 255)) : v.Fit :=
  ⟨four_cases h, four_cases k⟩
theorem fit1 : (⟨0, 0, 0, 5, 0, 0, 0, 0⟩ : Vx).Fit := fit_of _ (by decide) (by decide)
theorem fit2 : (⟨0, 0, 0, -3, 0, 0, 0, 0⟩ : Vx).Fit := fit_of _ (by decide) (by decide)
theorem fit3 : (⟨0, 0, 2, 5, 0, 0, 0, 0⟩ : Vx).Fit := fit_of _ (by decide) (by decide)
theorem ok2 : (⟨2, 0, 0, 0, 0⟩ : Sd).Ok := .inr ⟨by decide, by decide, four_cases ⟨rfl, rfl, rfl, rfl⟩⟩
theorem at_ex (w : World) : Calls Try.prog 7 #[.agg #[.int .i64 0, .int .i64 0, .int .i64 0, .int .i64 5, .int .i64 0, .int .i64 0, .int .i64 0, .int .i64 0], .agg #[.int .i64 0, .int .i64 0, .int .i64 0, .int .i64 (-3), .int .i64 0, .int .i64 0, .int .i64 0, .int .i64 0], .int .i64 4, .int .i64 8] w fun e w' => e = .returned (.tuple #[.agg #[.int .i64 0, .int .i64 0, .int .i64 0, .int .i64 1, .int .i64 0, .int .i64 0, .int .i64 0, .int .i64 0], .int .i64 0]) ∧ Ext w w' :=
  at_may ⟨0, 0, 0, 5, 0, 0, 0, 0⟩ ⟨0, 0, 0, -3, 0, 0, 0, 0⟩ 4 8 w ⟨fit1, fit2, by decide, by decide, by decide⟩ (by decide)
theorem list_ex (w : World) : Calls Try.prog 26 #[.slice none 0 0] w fun e w' => ∃ a c, e = .returned (.tuple #[.slice a 3 c, .int .i64 0]) ∧ Ext w w' :=
  (list_yes [] none 0 0 w (Rd.empty w 5 none 0 (by unfold maxLen; omega)) rfl (by omega) (by simp)).mono fun _ _ ⟨a, c, h1, _, h2⟩ => ⟨a, c, h1, h2⟩
theorem dist_ex (w : World) : Calls Try.prog 27 #[.agg #[.int .i64 2, .int .i64 0, .int .i64 0, .int .i64 0, .int .i64 0], .agg #[.int .i64 0, .int .i64 0, .int .i64 2, .int .i64 5, .int .i64 0, .int .i64 0, .int .i64 0, .int .i64 0]] w fun e w' => e = .returned (.int .i64 3) ∧ Ext w w' :=
  dist_any ⟨2, 0, 0, 0, 0⟩ ⟨0, 0, 2, 5, 0, 0, 0, 0⟩ w ok2 fit3
set_option maxHeartbeats 1000000 in
theorem awake8 (w : World) : Calls Try.prog 9 #[] w fun e w' => e = .returned (.bool true) ∧ Ext w w' := by
  have he : ∀ W : World, (Op.equalIn 10000 25 (.agg #[.int .i64 0, .int .i64 0, .int .i64 0, .int .i64 1, .int .i64 0, .int .i64 0, .int .i64 0, .int .i64 0]) (.agg #[.int .i64 0, .int .i64 0, .int .i64 0, .int .i64 1, .int .i64 0, .int .i64 0, .int .i64 0, .int .i64 0])).run Try.prog W = .ok true W := fun W => eq_vx ⟨0, 0, 0, 1, 0, 0, 0, 0⟩ ⟨0, 0, 0, 1, 0, 0, 0, 0⟩ W
  go_enter Try.func9, Try.ntmps9
  go_wp2_with fail
  refine (at_ex _).mono ?_
  rintro e w1 ⟨rfl, hE⟩
  obtain ⟨x1, rfl⟩ := Later.mk' hE
  clear hE
  go_wp2_with fail
  refine (list_ex _).mono ?_
  rintro e w1 ⟨a, c, rfl, hE⟩
  obtain ⟨x2, rfl⟩ := Later.mk' hE
  clear hE
  have B1 := (Blk.new x1.w 25 (⟨0, 0, 0, 1, 0, 0, 0, 0⟩ : Vx).row).later x2
  obtain ⟨q0, q1, q2, q3, q4, q5, q6, q7⟩ := cells8 B1
  clear B1
  simp at q0 q1 q2 q3 q4 q5 q6 q7
  go_wp2_with fail
  refine (dist_ex _).mono ?_
  rintro e w1 ⟨rfl, hE⟩
  obtain ⟨x3, rfl⟩ := Later.mk' hE
  clear hE
  go_wp2_with fail
  go_ret
  exact ⟨rfl, by (repeat (first | with_reducible exact Ext.refl _ | with_reducible assumption | with_reducible refine Ext.alloc ?_ _ | with_reducible refine Ext.drew ?_ | with_reducible refine Ext.drewN ?_ _ | with_reducible refine Ext.later ?_ _ | (with_reducible refine Ext.setCell ?_ _ ?hp; case hp => first | (simp; done) | (simp; omega) | omega)))⟩
end Go.Proofs.Ytibhfclkdbmmoaa
