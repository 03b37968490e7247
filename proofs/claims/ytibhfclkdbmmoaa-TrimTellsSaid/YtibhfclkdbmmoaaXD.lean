/- Proof text: numbers of 128 bits (package xint), on: Small, Cmp. By an AI agent. No condition beyond what each theorem states. -/
import Derived.Test.YtibhfclkdbmmoaaXC
set_option linter.unusedVariables false
set_option linter.unusedSimpArgs false
namespace Go.Proofs.Ytibhfclkdbmmoaa
open Go.RowKit
theorem small_hi {z : Int} (h1 : -9223372036854775808 ≤ z) (h2 : z < 9223372036854775808) : IntKind.i64.wrap (lo z) = z ∧ z / 9223372036854775808 = hi z := by
  rw [IntKind.wrap_i64]; unfold lo hi; omega

set_option maxHeartbeats 400000 in
theorem small_cells (h l z : Int) (w : World) (e0 : IntKind.i64.wrap l = z) (e1 : z / 9223372036854775808 = h) :
    Calls Try.prog 41 #[.agg #[.int .i64 h, .int .u64 l]] w fun e w' => e = .returned (.tuple #[.int .i64 z, .bool true]) ∧ Ext w w' := by
  have en : (h != h) = false := by simp
  go_enter Try.func41, Try.ntmps41
  go_wp2
  go_ret2
  exact ⟨rfl, by (repeat (first | with_reducible exact Ext.refl _ | with_reducible assumption | with_reducible refine Ext.alloc ?_ _ | with_reducible refine Ext.drew ?_ | with_reducible refine Ext.drewN ?_ _ | with_reducible refine Ext.later ?_ _ | (with_reducible refine Ext.setCell ?_ _ ?hp; case hp => first | (simp; done) | (simp; omega) | omega)))⟩

theorem small_any (z : Int) (w : World) (h1 : -9223372036854775808 ≤ z) (h2 : z < 9223372036854775808) :
    Calls Try.prog 41 #[I z] w fun e w' => e = .returned (.tuple #[.int .i64 z, .bool true]) ∧ Ext w w' :=
  small_cells _ _ z w (small_hi h1 h2).1 (small_hi h1 h2).2

set_option maxHeartbeats 400000 in
theorem cmp_low (h l h2 l2 : Int) (w : World) (e1 : decide (h < h2) = true) :
    Calls Try.prog 51 #[.agg #[.int .i64 h, .int .u64 l], .agg #[.int .i64 h2, .int .u64 l2]] w fun e w' => e = .returned (.int .i64 (-1)) ∧ Ext w w' := by
  go_enter Try.func51, Try.ntmps51
  go_wp2
  go_ret
  exact ⟨rfl, by (repeat (first | with_reducible exact Ext.refl _ | with_reducible assumption | with_reducible refine Ext.alloc ?_ _ | with_reducible refine Ext.drew ?_ | with_reducible refine Ext.drewN ?_ _ | with_reducible refine Ext.later ?_ _ | (with_reducible refine Ext.setCell ?_ _ ?hp; case hp => first | (simp; done) | (simp; omega) | omega)))⟩

set_option maxHeartbeats 400000 in
theorem cmp_low2 (h l l2 : Int) (w : World) (e1 : decide (l < l2) = true) :
    Calls Try.prog 51 #[.agg #[.int .i64 h, .int .u64 l], .agg #[.int .i64 h, .int .u64 l2]] w fun e w' => e = .returned (.int .i64 (-1)) ∧ Ext w w' := by
  have e2 : decide (h < h) = false := by simp
  have e3 : (h == h) = true := by simp
  go_enter Try.func51, Try.ntmps51
  go_wp2
  go_ret
  exact ⟨rfl, by (repeat (first | with_reducible exact Ext.refl _ | with_reducible assumption | with_reducible refine Ext.alloc ?_ _ | with_reducible refine Ext.drew ?_ | with_reducible refine Ext.drewN ?_ _ | with_reducible refine Ext.later ?_ _ | (with_reducible refine Ext.setCell ?_ _ ?hp; case hp => first | (simp; done) | (simp; omega) | omega)))⟩

set_option maxHeartbeats 400000 in
theorem cmp_same (h l : Int) (w : World) :
    Calls Try.prog 51 #[.agg #[.int .i64 h, .int .u64 l], .agg #[.int .i64 h, .int .u64 l]] w fun e w' => e = .returned (.int .i64 0) ∧ Ext w w' := by
  have e1 : decide (l < l) = false := by simp
  have e2 : decide (h < h) = false := by simp
  have e3 : (h == h) = true := by simp
  have e4 : (l == l) = true := by simp
  go_enter Try.func51, Try.ntmps51
  go_wp2
  go_ret
  exact ⟨rfl, by (repeat (first | with_reducible exact Ext.refl _ | with_reducible assumption | with_reducible refine Ext.alloc ?_ _ | with_reducible refine Ext.drew ?_ | with_reducible refine Ext.drewN ?_ _ | with_reducible refine Ext.later ?_ _ | (with_reducible refine Ext.setCell ?_ _ ?hp; case hp => first | (simp; done) | (simp; omega) | omega)))⟩

set_option maxHeartbeats 400000 in
theorem cmp_high (h l h2 l2 : Int) (w : World) (e1 : decide (h < h2) = false) (e2 : (h == h2) = false) :
    Calls Try.prog 51 #[.agg #[.int .i64 h, .int .u64 l], .agg #[.int .i64 h2, .int .u64 l2]] w fun e w' => e = .returned (.int .i64 1) ∧ Ext w w' := by
  go_enter Try.func51, Try.ntmps51
  go_wp2
  go_ret
  exact ⟨rfl, by (repeat (first | with_reducible exact Ext.refl _ | with_reducible assumption | with_reducible refine Ext.alloc ?_ _ | with_reducible refine Ext.drew ?_ | with_reducible refine Ext.drewN ?_ _ | with_reducible refine Ext.later ?_ _ | (with_reducible refine Ext.setCell ?_ _ ?hp; case hp => first | (simp; done) | (simp; omega) | omega)))⟩

set_option maxHeartbeats 400000 in
theorem cmp_high2 (h l l2 : Int) (w : World) (e1 : decide (l < l2) = false) (e4 : (l == l2) = false) :
    Calls Try.prog 51 #[.agg #[.int .i64 h, .int .u64 l], .agg #[.int .i64 h, .int .u64 l2]] w fun e w' => e = .returned (.int .i64 1) ∧ Ext w w' := by
  have e2 : decide (h < h) = false := by simp
  have e3 : (h == h) = true := by simp
  go_enter Try.func51, Try.ntmps51
  go_wp2
  go_ret
  exact ⟨rfl, by (repeat (first | with_reducible exact Ext.refl _ | with_reducible assumption | with_reducible refine Ext.alloc ?_ _ | with_reducible refine Ext.drew ?_ | with_reducible refine Ext.drewN ?_ _ | with_reducible refine Ext.later ?_ _ | (with_reducible refine Ext.setCell ?_ _ ?hp; case hp => first | (simp; done) | (simp; omega) | omega)))⟩

/-- Less, the same, greater. -/
def sgn (y z : Int) : Int := if y < z then -1 else if y = z then 0 else 1
theorem cmp_any (y z : Int) (w : World) :
    Calls Try.prog 51 #[I y, I z] w fun e w' => e = .returned (.int .i64 (sgn y z)) ∧ Ext w w' := by
  have ey := hi_lo y
  have ez := hi_lo z
  have l1 := lo_pos y; have l2 := lo_lt y; have l3 := lo_pos z; have l4 := lo_lt z
  by_cases h1 : hi y < hi z
  · rw [show sgn y z = -1 from by unfold sgn; rw [if_pos (by omega)]]
    exact cmp_low _ _ _ _ w (by simpa using h1)
  by_cases h2 : hi y = hi z
  · by_cases h3 : lo y < lo z
    · rw [show sgn y z = -1 from by unfold sgn; rw [if_pos (by omega)]]
      have := cmp_low2 (hi y) (lo y) (lo z) w (by simpa using h3)
      show Calls Try.prog 51 #[I y, .agg #[.int .i64 (hi z), .int .u64 (lo z)]] w _
      rw [← h2]; exact this
    by_cases h4 : lo y = lo z
    · have : y = z := by omega
      subst this
      rw [show sgn y y = 0 from by unfold sgn; rw [if_neg (by omega), if_pos rfl]]
      exact cmp_same _ _ w
    · rw [show sgn y z = 1 from by unfold sgn; rw [if_neg (by omega), if_neg (by omega)]]
      have := cmp_high2 (hi y) (lo y) (lo z) w (by simpa using h3) (by simpa using h4)
      show Calls Try.prog 51 #[I y, .agg #[.int .i64 (hi z), .int .u64 (lo z)]] w _
      rw [← h2]; exact this
  · rw [show sgn y z = 1 from by unfold sgn; rw [if_neg (by omega), if_neg (by omega)]]
    exact cmp_high _ _ _ _ w (by simpa using h1) (by simpa using h2)
end Go.Proofs.Ytibhfclkdbmmoaa
