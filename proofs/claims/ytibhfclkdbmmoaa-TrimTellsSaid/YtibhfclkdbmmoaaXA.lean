/- Proof text: numbers of 128 bits (package xint). By an AI agent. No condition beyond what each theorem states. -/
import Derived.Test.YtibhfclkdbmmoaaProg
import Derived.Test.YtibhfclkdbmmoaaL
import Derived.Handy
set_option linter.unusedVariables false
set_option linter.unusedSimpArgs false
namespace Go.Proofs.Ytibhfclkdbmmoaa
open Go.RowKit
/-- The two halves of a whole number. -/
def hi (z : Int) : Int := z / 18446744073709551616
def lo (z : Int) : Int := z % 18446744073709551616
theorem hi_lo (z : Int) : z = 18446744073709551616 * hi z + lo z := by unfold hi lo; omega
theorem lo_pos (z : Int) : 0 ≤ lo z := by unfold lo; omega
theorem lo_lt (z : Int) : lo z < 18446744073709551616 := by unfold lo; omega
theorem halves {h l : Int} {z : Int} (e : z = 18446744073709551616 * h + l) (h1 : 0 ≤ l) (h2 : l < 18446744073709551616) : hi z = h ∧ lo z = l := by
  unfold hi lo; omega
theorem hi_ge {z : Int} (h : -170141183460469231731687303715884105728 ≤ z) : -9223372036854775808 ≤ hi z := by unfold hi; omega
theorem hi_lt {z : Int} (h : z < 170141183460469231731687303715884105728) : hi z < 9223372036854775808 := by unfold hi; omega
/-- A whole number as the program has it. -/
@[reducible] def I (z : Int) : Value := .agg #[.int .i64 (hi z), .int .u64 (lo z)]

/-- math/bits.Sub64: the model's own answer. -/
theorem sub64_run (x y b : Int) (w : World) (hx : 0 ≤ x) (hy : 0 ≤ y) (hy' : y < 18446744073709551616) (hb : 0 ≤ b) (hb' : b ≤ 1) :
    (callFunc 69 #[.int .u64 x, .int .u64 y, .int .u64 b]).run Try.prog w = .ok (.value (.tuple #[.int .u64 ((x - y - b) % 18446744073709551616), .int .u64 (if x < y + b then 1 else 0)])) w := by
  obtain ⟨x, rfl⟩ := Int.eq_ofNat_of_zero_le hx
  obtain ⟨y, rfl⟩ := Int.eq_ofNat_of_zero_le hy
  obtain ⟨b, rfl⟩ := Int.eq_ofNat_of_zero_le hb
  have hb2 : b ≤ 1 := by omega
  have h := @run_callFunc_extern Try.prog 69 _ (fun args => do
    let (x, y, b) ← Extern.MathBitsCarry.three "Sub64" args
    pure (Extern.MathBitsCarry.pair ((x + Extern.MathBitsCarry.m64 - y - b) % Extern.MathBitsCarry.m64) (if x < y + b then 1 else 0))) Try.func69 (by kernel_rfl) (by kernel_rfl) (by kernel_rfl) (by kernel_rfl) #[.int .u64 (x : Int), .int .u64 (y : Int), .int .u64 (b : Int)] w
  have hr : ((fun args => do
    let (x, y, b) ← Extern.MathBitsCarry.three "Sub64" args
    pure (Extern.MathBitsCarry.pair ((x + Extern.MathBitsCarry.m64 - y - b) % Extern.MathBitsCarry.m64) (if x < y + b then 1 else 0)) : Array Value → Sem Value) #[.int .u64 (x : Int), .int .u64 (y : Int), .int .u64 (b : Int)]).run Try.prog w = .ok (.tuple #[.int .u64 (((x + 18446744073709551616 - y - b) % 18446744073709551616 : Nat) : Int), .int .u64 ((if x < y + b then 1 else 0 : Nat) : Int)]) w := by
    have : b = 0 ∨ b = 1 := by omega
    rcases this with rfl | rfl <;> rfl
  rw [h, hr]
  show Result.ok _ _ = _
  have e1 : (((x + 18446744073709551616 - y - b) % 18446744073709551616 : Nat) : Int) = ((x : Int) - y - b) % 18446744073709551616 := by omega
  have e2 : ((if x < y + b then 1 else 0 : Nat) : Int) = if (x : Int) < y + b then 1 else 0 := by
    by_cases hc : x < y + b
    · rw [if_pos hc, if_pos (by omega)]; rfl
    · rw [if_neg hc, if_neg (by omega)]; rfl
  rw [e1, e2]

theorem bare_any (n : Int) (w : World) (h1 : -9223372036854775808 ≤ n) (h2 : n < 9223372036854775808) : Calls Try.prog 58 #[.int .i64 n] w fun e w' => e = .returned (.int .u64 n.natAbs) ∧ w' = w := by
  by_cases h : n < 0
  · have hd : decide (n < 0) = true := by simpa using h
    have e1 : IntKind.u64.wrap (-IntKind.u64.wrap n) = (n.natAbs : Int) := by simp only [IntKind.wrap_u64]; omega
    go_enter Try.func58, Try.ntmps58
    go_wp2
    go_ret
    exact ⟨by first | rfl | (rw [e1]; rfl), rfl⟩
  · have hd : decide (n < 0) = false := by simpa using h
    have e1 : IntKind.u64.wrap n = (n.natAbs : Int) := by simp only [IntKind.wrap_u64]; omega
    go_enter Try.func58, Try.ntmps58
    go_wp2
    go_ret
    exact ⟨by first | rfl | (rw [e1]; rfl), rfl⟩

theorem turned_hi {z : Int} (h1 : -170141183460469231731687303715884105728 < z) (h2 : z < 170141183460469231731687303715884105728) :
    IntKind.i64.wrap ((0 - IntKind.u64.wrap (hi z) - if (0 : Int) < lo z + 0 then 1 else 0) % 18446744073709551616) = hi (-z) ∧ (0 - lo z - 0) % 18446744073709551616 = lo (-z) := by
  simp only [IntKind.wrap_u64, IntKind.wrap_i64]
  unfold hi lo
  split <;> omega

set_option maxHeartbeats 400000 in
theorem turned_cells (h l c l' u x c2 h' : Int) (w : World) (hu : IntKind.u64.wrap h = u)
    (s1 : ∀ W, (callFunc 69 #[.int .u64 0, .int .u64 l, .int .u64 0]).run Try.prog W = .ok (.value (.tuple #[.int .u64 l', .int .u64 c])) W)
    (s2 : ∀ W, (callFunc 69 #[.int .u64 0, .int .u64 u, .int .u64 c]).run Try.prog W = .ok (.value (.tuple #[.int .u64 x, .int .u64 c2])) W)
    (hx : IntKind.i64.wrap x = h') :
    Calls Try.prog 54 #[.agg #[.int .i64 h, .int .u64 l]] w fun e w' => e = .returned (.agg #[.int .i64 h', .int .u64 l']) ∧ Ext w w' := by
  go_enter Try.func54, Try.ntmps54
  go_wp2
  go_returns
  exact ⟨rfl, by (repeat (first | with_reducible exact Ext.refl _ | with_reducible assumption | with_reducible refine Ext.alloc ?_ _ | with_reducible refine Ext.drew ?_ | with_reducible refine Ext.drewN ?_ _ | with_reducible refine Ext.later ?_ _ | (with_reducible refine Ext.setCell ?_ _ ?hp; case hp => first | (simp; done) | (simp; omega) | omega)))⟩

theorem turned_any (z : Int) (w : World) (h1 : -170141183460469231731687303715884105728 < z) (h2 : z < 170141183460469231731687303715884105728) :
    Calls Try.prog 54 #[I z] w fun e w' => e = .returned (I (-z)) ∧ Ext w w' := by
  obtain ⟨e1, e2⟩ := turned_hi h1 h2
  have l1 := lo_pos z
  have l2 := lo_lt z
  have hc : 0 ≤ (if (0 : Int) < lo z + 0 then 1 else 0 : Int) ∧ (if (0 : Int) < lo z + 0 then 1 else 0 : Int) ≤ 1 := by split <;> omega
  have s1 := fun W => sub64_run 0 (lo z) 0 W (by omega) l1 l2 (by omega) (by omega)
  have s2 := fun W => sub64_run 0 (IntKind.u64.wrap (hi z)) (if (0 : Int) < lo z + 0 then 1 else 0) W (by omega) (by simp only [IntKind.wrap_u64]; omega) (by simp only [IntKind.wrap_u64]; omega) hc.1 hc.2
  rw [e2] at s1
  exact turned_cells _ _ _ _ _ _ _ _ w rfl s1 s2 e1

set_option maxHeartbeats 400000 in
theorem sub_one_up (h l c l' u x c2 h' : Int) (w : World) (hu : IntKind.u64.wrap h = u)
    (s1 : ∀ W, (callFunc 69 #[.int .u64 l, .int .u64 1, .int .u64 0]).run Try.prog W = .ok (.value (.tuple #[.int .u64 l', .int .u64 c])) W)
    (s2 : ∀ W, (callFunc 69 #[.int .u64 u, .int .u64 0, .int .u64 c]).run Try.prog W = .ok (.value (.tuple #[.int .u64 x, .int .u64 c2])) W)
    (hx : IntKind.i64.wrap x = h') (e1 : decide (h < 0) = false) :
    Calls Try.prog 56 #[.agg #[.int .i64 h, .int .u64 l], .agg #[.int .i64 0, .int .u64 1]] w fun e w' => e = .returned (.tuple #[.agg #[.int .i64 h', .int .u64 l'], .bool true]) ∧ Ext w w' := by
  go_enter Try.func56, Try.ntmps56
  go_wp2
  go_returns
  exact ⟨rfl, by (repeat (first | with_reducible exact Ext.refl _ | with_reducible assumption | with_reducible refine Ext.alloc ?_ _ | with_reducible refine Ext.drew ?_ | with_reducible refine Ext.drewN ?_ _ | with_reducible refine Ext.later ?_ _ | (with_reducible refine Ext.setCell ?_ _ ?hp; case hp => first | (simp; done) | (simp; omega) | omega)))⟩

set_option maxHeartbeats 400000 in
theorem sub_one_down (h l c l' u x c2 h' : Int) (w : World) (hu : IntKind.u64.wrap h = u)
    (s1 : ∀ W, (callFunc 69 #[.int .u64 l, .int .u64 1, .int .u64 0]).run Try.prog W = .ok (.value (.tuple #[.int .u64 l', .int .u64 c])) W)
    (s2 : ∀ W, (callFunc 69 #[.int .u64 u, .int .u64 0, .int .u64 c]).run Try.prog W = .ok (.value (.tuple #[.int .u64 x, .int .u64 c2])) W)
    (hx : IntKind.i64.wrap x = h') (e1 : decide (h < 0) = true) (e3 : decide (h' < 0) = true) :
    Calls Try.prog 56 #[.agg #[.int .i64 h, .int .u64 l], .agg #[.int .i64 0, .int .u64 1]] w fun e w' => e = .returned (.tuple #[.agg #[.int .i64 h', .int .u64 l'], .bool true]) ∧ Ext w w' := by
  go_enter Try.func56, Try.ntmps56
  go_wp2
  go_returns
  exact ⟨rfl, by (repeat (first | with_reducible exact Ext.refl _ | with_reducible assumption | with_reducible refine Ext.alloc ?_ _ | with_reducible refine Ext.drew ?_ | with_reducible refine Ext.drewN ?_ _ | with_reducible refine Ext.later ?_ _ | (with_reducible refine Ext.setCell ?_ _ ?hp; case hp => first | (simp; done) | (simp; omega) | omega)))⟩

theorem sub_hi {z : Int} (h1 : -170141183460469231731687303715884105727 < z) (h2 : z < 170141183460469231731687303715884105728) :
    IntKind.i64.wrap ((IntKind.u64.wrap (hi z) - 0 - if lo z < 1 + 0 then 1 else 0) % 18446744073709551616) = hi (z - 1) ∧ (lo z - 1 - 0) % 18446744073709551616 = lo (z - 1) := by
  simp only [IntKind.wrap_u64, IntKind.wrap_i64]
  unfold hi lo
  split <;> omega

/-- One less. -/
theorem sub_one (z : Int) (w : World) (h1 : -170141183460469231731687303715884105727 < z) (h2 : z < 170141183460469231731687303715884105728) :
    Calls Try.prog 56 #[I z, .agg #[.int .i64 0, .int .u64 1]] w fun e w' => e = .returned (.tuple #[I (z - 1), .bool true]) ∧ Ext w w' := by
  obtain ⟨e1, e2⟩ := sub_hi h1 h2
  have l1 := lo_pos z
  have l2 := lo_lt z
  have hc : 0 ≤ (if lo z < 1 + 0 then 1 else 0 : Int) ∧ (if lo z < 1 + 0 then 1 else 0 : Int) ≤ 1 := by split <;> omega
  have s1 := fun W => sub64_run (lo z) 1 0 W l1 (by omega) (by omega) (by omega) (by omega)
  have s2 := fun W => sub64_run (IntKind.u64.wrap (hi z)) 0 (if lo z < 1 + 0 then 1 else 0) W (by simp only [IntKind.wrap_u64]; omega) (by omega) (by omega) hc.1 hc.2
  rw [e2] at s1
  by_cases hz : hi z < 0
  · have hz' : hi (z - 1) < 0 := by unfold hi at *; omega
    exact sub_one_down _ _ _ _ _ _ _ _ w rfl s1 s2 e1 (by simpa using hz) (by simpa using hz')
  · exact sub_one_up _ _ _ _ _ _ _ _ w rfl s1 s2 e1 (by simpa using hz)

end Go.Proofs.Ytibhfclkdbmmoaa
