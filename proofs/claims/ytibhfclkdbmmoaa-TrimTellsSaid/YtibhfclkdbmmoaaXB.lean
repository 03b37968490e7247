/- Proof text: numbers of 128 bits (package xint), on. By an AI agent. No condition beyond what each theorem states. -/
import Derived.Test.YtibhfclkdbmmoaaXA
set_option linter.unusedVariables false
set_option linter.unusedSimpArgs false
namespace Go.Proofs.Ytibhfclkdbmmoaa
open Go.RowKit
set_option maxHeartbeats 400000 in
theorem signed_up (h l h' : Int) (w : World) (hx : IntKind.i64.wrap h = h') (e1 : decide (h' ≥ 0) = true) :
    Calls Try.prog 59 #[.int .u64 h, .int .u64 l, .bool false] w fun e w' => e = .returned (.tuple #[.agg #[.int .i64 h', .int .u64 l], .bool true]) ∧ Ext w w' := by
  go_enter Try.func59, Try.ntmps59
  go_wp2
  go_region
  all_goals (try go_wp2)
  all_goals go_returns
  all_goals exact ⟨rfl, by (repeat (first | with_reducible exact Ext.refl _ | with_reducible assumption | with_reducible refine Ext.alloc ?_ _ | with_reducible refine Ext.drew ?_ | with_reducible refine Ext.drewN ?_ _ | with_reducible refine Ext.later ?_ _ | (with_reducible refine Ext.setCell ?_ _ ?hp; case hp => first | (simp; done) | (simp; omega) | omega)))⟩

set_option maxHeartbeats 1000000 in
theorem signed_down (h l x h' l' : Int) (w : World) (hx : IntKind.i64.wrap h = x)
    (hc : ∀ W, Calls Try.prog 54 #[.agg #[.int .i64 x, .int .u64 l]] W fun e w' => e = .returned (.agg #[.int .i64 h', .int .u64 l']) ∧ Ext W w') (e1 : decide (h' < 0) = true) :
    Calls Try.prog 59 #[.int .u64 h, .int .u64 l, .bool true] w fun e w' => e = .returned (.tuple #[.agg #[.int .i64 h', .int .u64 l'], .bool true]) ∧ Ext w w' := by
  go_enter Try.func59, Try.ntmps59
  go_wp2_with (go_at_call 54; refine (hc _).mono ?_; rintro e w1 ⟨rfl, hE⟩; obtain ⟨x1, rfl⟩ := Later.mk' hE; clear hE)
  go_region
  all_goals (try go_wp2)
  all_goals go_returns
  all_goals exact ⟨rfl, by (repeat (first | with_reducible exact Ext.refl _ | with_reducible assumption | with_reducible refine Ext.alloc ?_ _ | with_reducible refine Ext.drew ?_ | with_reducible refine Ext.drewN ?_ _ | with_reducible refine Ext.later ?_ _ | (with_reducible refine Ext.setCell ?_ _ ?hp; case hp => first | (simp; done) | (simp; omega) | omega)))⟩

set_option maxHeartbeats 1000000 in
theorem signed_zero (w : World)
    (hc : ∀ W, Calls Try.prog 54 #[.agg #[.int .i64 0, .int .u64 0]] W fun e w' => e = .returned (.agg #[.int .i64 0, .int .u64 0]) ∧ Ext W w') :
    Calls Try.prog 59 #[.int .u64 0, .int .u64 0, .bool true] w fun e w' => e = .returned (.tuple #[.agg #[.int .i64 0, .int .u64 0], .bool true]) ∧ Ext w w' := by
  go_enter Try.func59, Try.ntmps59
  go_wp2_with (go_at_call 54; refine (hc _).mono ?_; rintro e w1 ⟨rfl, hE⟩; obtain ⟨x1, rfl⟩ := Later.mk' hE; clear hE)
  go_region
  all_goals (try go_wp2)
  all_goals go_returns
  all_goals exact ⟨rfl, by (repeat (first | with_reducible exact Ext.refl _ | with_reducible assumption | with_reducible refine Ext.alloc ?_ _ | with_reducible refine Ext.drew ?_ | with_reducible refine Ext.drewN ?_ _ | with_reducible refine Ext.later ?_ _ | (with_reducible refine Ext.setCell ?_ _ ?hp; case hp => first | (simp; done) | (simp; omega) | omega)))⟩
end Go.Proofs.Ytibhfclkdbmmoaa
