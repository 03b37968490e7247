/- Proof text: numbers of 128 bits (package xint). By an AI agent. No condition beyond what each theorem states. -/
import Derived.Test.YtibhfclkdbmmoaaProg
import Derived.Test.YtibhfclkdbmmoaaL
import Derived.Handy
import Derived.Shelf.Bits.Mul64
import Derived.Shelf.Small.Bits
import Derived.Deep.CutBlock
import Derived.Deep.CutRange
import Derived.Lib.ItoaNum
set_option linter.unusedVariables false
set_option linter.unusedSimpArgs false
namespace Go.Proofs.Ytibhfclkdbmmoaa
open Go.RowKit
/-- The two halves of a whole number. -/
def hi (z : Int) : Int := z / 18446744073709551616
def lo (z : Int) : Int := z % 18446744073709551616
theorem hi_lo (z : Int) : z = 18446744073709551616 * hi z + lo z := by unfold hi lo; omega
theorem lo_pos (z : Int) : 0 ≤ lo z := by unfold lo; omega
theorem lo_lt (z : Int) : lo z < 18446744073709551616 := by unfold lo; omega
theorem halves {h l : Int} {z : Int} (e : z = 18446744073709551616 * h + l) (h1 : 0 ≤ l) (h2 : l < 18446744073709551616) : hi z = h ∧ lo z = l := by
  unfold hi lo; omega
theorem hi_ge {z : Int} (h : -170141183460469231731687303715884105728 ≤ z) : -9223372036854775808 ≤ hi z := by unfold hi; omega
theorem hi_lt {z : Int} (h : z < 170141183460469231731687303715884105728) : hi z < 9223372036854775808 := by unfold hi; omega
/-- A whole number as the program has it. -/
@[reducible] def I (z : Int) : Value := .agg #[.int .i64 (hi z), .int .u64 (lo z)]

/-- math/bits.Sub64: the model's own answer. -/
theorem sub64_run (x y b : Int) (w : World) (hx : 0 ≤ x) (hy : 0 ≤ y) (hy' : y < 18446744073709551616) (hb : 0 ≤ b) (hb' : b ≤ 1) :
    (callFunc 69 #[.int .u64 x, .int .u64 y, .int .u64 b]).run Try.prog w = .ok (.value (.tuple #[.int .u64 ((x - y - b) % 18446744073709551616), .int .u64 (if x < y + b then 1 else 0)])) w := by
  obtain ⟨x, rfl⟩ := Int.eq_ofNat_of_zero_le hx
  obtain ⟨y, rfl⟩ := Int.eq_ofNat_of_zero_le hy
  obtain ⟨b, rfl⟩ := Int.eq_ofNat_of_zero_le hb
  have hb2 : b ≤ 1 := by omega
  have h := @run_callFunc_extern Try.prog 69 _ (fun args => do
    let (x, y, b) ← Extern.MathBitsCarry.three "Sub64" args
    pure (Extern.MathBitsCarry.pair ((x + Extern.MathBitsCarry.m64 - y - b) % Extern.MathBitsCarry.m64) (if x < y + b then 1 else 0))) Try.func69 (by kernel_rfl) (by kernel_rfl) (by kernel_rfl) (by kernel_rfl) #[.int .u64 (x : Int), .int .u64 (y : Int), .int .u64 (b : Int)] w
  have hr : ((fun args => do
    let (x, y, b) ← Extern.MathBitsCarry.three "Sub64" args
    pure (Extern.MathBitsCarry.pair ((x + Extern.MathBitsCarry.m64 - y - b) % Extern.MathBitsCarry.m64) (if x < y + b then 1 else 0)) : Array Value → Sem Value) #[.int .u64 (x : Int), .int .u64 (y : Int), .int .u64 (b : Int)]).run Try.prog w = .ok (.tuple #[.int .u64 (((x + 18446744073709551616 - y - b) % 18446744073709551616 : Nat) : Int), .int .u64 ((if x < y + b then 1 else 0 : Nat) : Int)]) w := by
    have : b = 0 ∨ b = 1 := by omega
    rcases this with rfl | rfl <;> rfl
  rw [h, hr]
  show Result.ok _ _ = _
  have e1 : (((x + 18446744073709551616 - y - b) % 18446744073709551616 : Nat) : Int) = ((x : Int) - y - b) % 18446744073709551616 := by omega
  have e2 : ((if x < y + b then 1 else 0 : Nat) : Int) = if (x : Int) < y + b then 1 else 0 := by
    by_cases hc : x < y + b
    · rw [if_pos hc, if_pos (by omega)]; rfl
    · rw [if_neg hc, if_neg (by omega)]; rfl
  rw [e1, e2]

theorem bare_any (n : Int) (w : World) (h1 : -9223372036854775808 ≤ n) (h2 : n < 9223372036854775808) : Calls Try.prog 58 #[.int .i64 n] w fun e w' => e = .returned (.int .u64 n.natAbs) ∧ w' = w := by
  by_cases h : n < 0
  · have hd : decide (n < 0) = true := by simpa using h
    have e1 : IntKind.u64.wrap (-IntKind.u64.wrap n) = (n.natAbs : Int) := by simp only [IntKind.wrap_u64]; omega
    go_enter Try.func58, Try.ntmps58
    go_wp2
    go_ret
    exact ⟨by first | rfl | (rw [e1]; rfl), rfl⟩
  · have hd : decide (n < 0) = false := by simpa using h
    have e1 : IntKind.u64.wrap n = (n.natAbs : Int) := by simp only [IntKind.wrap_u64]; omega
    go_enter Try.func58, Try.ntmps58
    go_wp2
    go_ret
    exact ⟨by first | rfl | (rw [e1]; rfl), rfl⟩

theorem turned_hi {z : Int} (h1 : -170141183460469231731687303715884105728 < z) (h2 : z < 170141183460469231731687303715884105728) :
    IntKind.i64.wrap ((0 - IntKind.u64.wrap (hi z) - if (0 : Int) < lo z + 0 then 1 else 0) % 18446744073709551616) = hi (-z) ∧ (0 - lo z - 0) % 18446744073709551616 = lo (-z) := by
  simp only [IntKind.wrap_u64, IntKind.wrap_i64]
  unfold hi lo
  split <;> omega

set_option maxHeartbeats 400000 in
theorem turned_cells (h l c l' u x c2 h' : Int) (w : World) (hu : IntKind.u64.wrap h = u)
    (s1 : ∀ W, (callFunc 69 #[.int .u64 0, .int .u64 l, .int .u64 0]).run Try.prog W = .ok (.value (.tuple #[.int .u64 l', .int .u64 c])) W)
    (s2 : ∀ W, (callFunc 69 #[.int .u64 0, .int .u64 u, .int .u64 c]).run Try.prog W = .ok (.value (.tuple #[.int .u64 x, .int .u64 c2])) W)
    (hx : IntKind.i64.wrap x = h') :
    Calls Try.prog 54 #[.agg #[.int .i64 h, .int .u64 l]] w fun e w' => e = .returned (.agg #[.int .i64 h', .int .u64 l']) ∧ Ext w w' := by
  go_enter Try.func54, Try.ntmps54
  go_wp2
  go_returns
  exact ⟨rfl, by (repeat (first | with_reducible exact Ext.refl _ | with_reducible assumption | with_reducible refine Ext.alloc ?_ _ | with_reducible refine Ext.drew ?_ | with_reducible refine Ext.drewN ?_ _ | with_reducible refine Ext.later ?_ _ | (with_reducible refine Ext.setCell ?_ _ ?hp; case hp => first | (simp; done) | (simp; omega) | omega)))⟩

theorem turned_any (z : Int) (w : World) (h1 : -170141183460469231731687303715884105728 < z) (h2 : z < 170141183460469231731687303715884105728) :
    Calls Try.prog 54 #[I z] w fun e w' => e = .returned (I (-z)) ∧ Ext w w' := by
  obtain ⟨e1, e2⟩ := turned_hi h1 h2
  have l1 := lo_pos z
  have l2 := lo_lt z
  have hc : 0 ≤ (if (0 : Int) < lo z + 0 then 1 else 0 : Int) ∧ (if (0 : Int) < lo z + 0 then 1 else 0 : Int) ≤ 1 := by split <;> omega
  have s1 := fun W => sub64_run 0 (lo z) 0 W (by omega) l1 l2 (by omega) (by omega)
  have s2 := fun W => sub64_run 0 (IntKind.u64.wrap (hi z)) (if (0 : Int) < lo z + 0 then 1 else 0) W (by omega) (by simp only [IntKind.wrap_u64]; omega) (by simp only [IntKind.wrap_u64]; omega) hc.1 hc.2
  rw [e2] at s1
  exact turned_cells _ _ _ _ _ _ _ _ w rfl s1 s2 e1

set_option maxHeartbeats 400000 in
theorem sub_one_up (h l c l' u x c2 h' : Int) (w : World) (hu : IntKind.u64.wrap h = u)
    (s1 : ∀ W, (callFunc 69 #[.int .u64 l, .int .u64 1, .int .u64 0]).run Try.prog W = .ok (.value (.tuple #[.int .u64 l', .int .u64 c])) W)
    (s2 : ∀ W, (callFunc 69 #[.int .u64 u, .int .u64 0, .int .u64 c]).run Try.prog W = .ok (.value (.tuple #[.int .u64 x, .int .u64 c2])) W)
    (hx : IntKind.i64.wrap x = h') (e1 : decide (h < 0) = false) :
    Calls Try.prog 56 #[.agg #[.int .i64 h, .int .u64 l], .agg #[.int .i64 0, .int .u64 1]] w fun e w' => e = .returned (.tuple #[.agg #[.int .i64 h', .int .u64 l'], .bool true]) ∧ Ext w w' := by
  go_enter Try.func56, Try.ntmps56
  go_wp2
  go_returns
  exact ⟨rfl, by (repeat (first | with_reducible exact Ext.refl _ | with_reducible assumption | with_reducible refine Ext.alloc ?_ _ | with_reducible refine Ext.drew ?_ | with_reducible refine Ext.drewN ?_ _ | with_reducible refine Ext.later ?_ _ | (with_reducible refine Ext.setCell ?_ _ ?hp; case hp => first | (simp; done) | (simp; omega) | omega)))⟩

set_option maxHeartbeats 400000 in
theorem sub_one_down (h l c l' u x c2 h' : Int) (w : World) (hu : IntKind.u64.wrap h = u)
    (s1 : ∀ W, (callFunc 69 #[.int .u64 l, .int .u64 1, .int .u64 0]).run Try.prog W = .ok (.value (.tuple #[.int .u64 l', .int .u64 c])) W)
    (s2 : ∀ W, (callFunc 69 #[.int .u64 u, .int .u64 0, .int .u64 c]).run Try.prog W = .ok (.value (.tuple #[.int .u64 x, .int .u64 c2])) W)
    (hx : IntKind.i64.wrap x = h') (e1 : decide (h < 0) = true) (e3 : decide (h' < 0) = true) :
    Calls Try.prog 56 #[.agg #[.int .i64 h, .int .u64 l], .agg #[.int .i64 0, .int .u64 1]] w fun e w' => e = .returned (.tuple #[.agg #[.int .i64 h', .int .u64 l'], .bool true]) ∧ Ext w w' := by
  go_enter Try.func56, Try.ntmps56
  go_wp2
  go_returns
  exact ⟨rfl, by (repeat (first | with_reducible exact Ext.refl _ | with_reducible assumption | with_reducible refine Ext.alloc ?_ _ | with_reducible refine Ext.drew ?_ | with_reducible refine Ext.drewN ?_ _ | with_reducible refine Ext.later ?_ _ | (with_reducible refine Ext.setCell ?_ _ ?hp; case hp => first | (simp; done) | (simp; omega) | omega)))⟩

theorem sub_hi {z : Int} (h1 : -170141183460469231731687303715884105727 < z) (h2 : z < 170141183460469231731687303715884105728) :
    IntKind.i64.wrap ((IntKind.u64.wrap (hi z) - 0 - if lo z < 1 + 0 then 1 else 0) % 18446744073709551616) = hi (z - 1) ∧ (lo z - 1 - 0) % 18446744073709551616 = lo (z - 1) := by
  simp only [IntKind.wrap_u64, IntKind.wrap_i64]
  unfold hi lo
  split <;> omega

/-- One less. -/
theorem sub_one (z : Int) (w : World) (h1 : -170141183460469231731687303715884105727 < z) (h2 : z < 170141183460469231731687303715884105728) :
    Calls Try.prog 56 #[I z, .agg #[.int .i64 0, .int .u64 1]] w fun e w' => e = .returned (.tuple #[I (z - 1), .bool true]) ∧ Ext w w' := by
  obtain ⟨e1, e2⟩ := sub_hi h1 h2
  have l1 := lo_pos z
  have l2 := lo_lt z
  have hc : 0 ≤ (if lo z < 1 + 0 then 1 else 0 : Int) ∧ (if lo z < 1 + 0 then 1 else 0 : Int) ≤ 1 := by split <;> omega
  have s1 := fun W => sub64_run (lo z) 1 0 W l1 (by omega) (by omega) (by omega) (by omega)
  have s2 := fun W => sub64_run (IntKind.u64.wrap (hi z)) 0 (if lo z < 1 + 0 then 1 else 0) W (by simp only [IntKind.wrap_u64]; omega) (by omega) (by omega) hc.1 hc.2
  rw [e2] at s1
  by_cases hz : hi z < 0
  · have hz' : hi (z - 1) < 0 := by unfold hi at *; omega
    exact sub_one_down _ _ _ _ _ _ _ _ w rfl s1 s2 e1 (by simpa using hz) (by simpa using hz')
  · exact sub_one_up _ _ _ _ _ _ _ _ w rfl s1 s2 e1 (by simpa using hz)

end Go.Proofs.Ytibhfclkdbmmoaa

/- Proof text: numbers of 128 bits (package xint), on. By an AI agent. No condition beyond what each theorem states. -/
set_option linter.unusedVariables false
set_option linter.unusedSimpArgs false
namespace Go.Proofs.Ytibhfclkdbmmoaa
open Go.RowKit
set_option maxHeartbeats 400000 in
theorem signed_up (h l h' : Int) (w : World) (hx : IntKind.i64.wrap h = h') (e1 : decide (h' ≥ 0) = true) :
    Calls Try.prog 59 #[.int .u64 h, .int .u64 l, .bool false] w fun e w' => e = .returned (.tuple #[.agg #[.int .i64 h', .int .u64 l], .bool true]) ∧ Ext w w' := by
  go_enter Try.func59, Try.ntmps59
  go_wp2
  go_region
  all_goals (try go_wp2)
  all_goals go_returns
  all_goals exact ⟨rfl, by (repeat (first | with_reducible exact Ext.refl _ | with_reducible assumption | with_reducible refine Ext.alloc ?_ _ | with_reducible refine Ext.drew ?_ | with_reducible refine Ext.drewN ?_ _ | with_reducible refine Ext.later ?_ _ | (with_reducible refine Ext.setCell ?_ _ ?hp; case hp => first | (simp; done) | (simp; omega) | omega)))⟩

set_option maxHeartbeats 1000000 in
theorem signed_down (h l x h' l' : Int) (w : World) (hx : IntKind.i64.wrap h = x)
    (hc : ∀ W, Calls Try.prog 54 #[.agg #[.int .i64 x, .int .u64 l]] W fun e w' => e = .returned (.agg #[.int .i64 h', .int .u64 l']) ∧ Ext W w') (e1 : decide (h' < 0) = true) :
    Calls Try.prog 59 #[.int .u64 h, .int .u64 l, .bool true] w fun e w' => e = .returned (.tuple #[.agg #[.int .i64 h', .int .u64 l'], .bool true]) ∧ Ext w w' := by
  go_enter Try.func59, Try.ntmps59
  go_wp2_with (go_at_call 54; refine (hc _).mono ?_; rintro e w1 ⟨rfl, hE⟩; obtain ⟨x1, rfl⟩ := Later.mk' hE; clear hE)
  go_region
  all_goals (try go_wp2)
  all_goals go_returns
  all_goals exact ⟨rfl, by (repeat (first | with_reducible exact Ext.refl _ | with_reducible assumption | with_reducible refine Ext.alloc ?_ _ | with_reducible refine Ext.drew ?_ | with_reducible refine Ext.drewN ?_ _ | with_reducible refine Ext.later ?_ _ | (with_reducible refine Ext.setCell ?_ _ ?hp; case hp => first | (simp; done) | (simp; omega) | omega)))⟩

set_option maxHeartbeats 1000000 in
theorem signed_zero (w : World)
    (hc : ∀ W, Calls Try.prog 54 #[.agg #[.int .i64 0, .int .u64 0]] W fun e w' => e = .returned (.agg #[.int .i64 0, .int .u64 0]) ∧ Ext W w') :
    Calls Try.prog 59 #[.int .u64 0, .int .u64 0, .bool true] w fun e w' => e = .returned (.tuple #[.agg #[.int .i64 0, .int .u64 0], .bool true]) ∧ Ext w w' := by
  go_enter Try.func59, Try.ntmps59
  go_wp2_with (go_at_call 54; refine (hc _).mono ?_; rintro e w1 ⟨rfl, hE⟩; obtain ⟨x1, rfl⟩ := Later.mk' hE; clear hE)
  go_region
  all_goals (try go_wp2)
  all_goals go_returns
  all_goals exact ⟨rfl, by (repeat (first | with_reducible exact Ext.refl _ | with_reducible assumption | with_reducible refine Ext.alloc ?_ _ | with_reducible refine Ext.drew ?_ | with_reducible refine Ext.drewN ?_ _ | with_reducible refine Ext.later ?_ _ | (with_reducible refine Ext.setCell ?_ _ ?hp; case hp => first | (simp; done) | (simp; omega) | omega)))⟩
end Go.Proofs.Ytibhfclkdbmmoaa

/- Proof text: numbers of 128 bits (package xint), on: the product. By an AI agent. No condition beyond what each theorem states. -/
set_option linter.unusedVariables false
set_option linter.unusedSimpArgs false
namespace Go.Proofs.Ytibhfclkdbmmoaa
open Go.RowKit
def lays264_ren : Go.Shelf.Ren := ⟨fun x => match x with | 264 => 57 | n => n, fun x => match x with | 46 => 97 | 53 => 67 | n => n, fun n => n⟩
theorem lays264 : Lays.n264 Try.prog lays264_ren := {
  mixed := by kernel_rfl
  f264 := by kernel_rfl
  t46 := by kernel_rfl
  a46 := fun w => by kernel_rfl
  z46 := fun w => by kernel_rfl
  v46 := fun w => by kernel_rfl
  t53 := by kernel_rfl
  a53 := fun w => by kernel_rfl
  z53 := fun w => by kernel_rfl
  v53 := fun w => by kernel_rfl }
def lays134_ren : Go.Shelf.Ren := ⟨fun x => match x with | 129 => 71 | 134 => 70 | n => n, fun x => match x with | 3 => 3 | 4 => 4 | 5 => 5 | 9 => 9 | 46 => 97 | 53 => 67 | n => n, fun n => n⟩
theorem lays134 : Lays.n134 Try.prog lays134_ren := {
  mixed := by kernel_rfl
  f129 := by kernel_rfl
  f134 := by kernel_rfl
  t3 := by kernel_rfl
  a3 := fun w => by kernel_rfl
  z3 := fun w => by kernel_rfl
  v3 := fun w => by kernel_rfl
  t4 := by kernel_rfl
  a4 := fun w => by kernel_rfl
  z4 := fun w => by kernel_rfl
  v4 := fun w => by kernel_rfl
  t5 := by kernel_rfl
  a5 := fun w => by kernel_rfl
  z5 := fun w => by kernel_rfl
  v5 := fun w => by kernel_rfl
  t9 := by kernel_rfl
  a9 := fun w => by kernel_rfl
  z9 := fun w => by kernel_rfl
  v9 := fun w => by kernel_rfl
  t46 := by kernel_rfl
  a46 := fun w => by kernel_rfl
  z46 := fun w => by kernel_rfl
  v46 := fun w => by kernel_rfl
  t53 := by kernel_rfl
  a53 := fun w => by kernel_rfl
  z53 := fun w => by kernel_rfl
  v53 := fun w => by kernel_rfl }
theorem mul64_any (x y : Nat) (hx : x < 18446744073709551616) (hy : y < 18446744073709551616) (w : World) :
    Calls Try.prog 57 #[.int .u64 x, .int .u64 y] w fun e w' => e = .returned (.tuple #[.int .u64 (hi ((x : Int) * y)), .int .u64 (lo ((x : Int) * y))]) ∧ w' = w := by
  have h := Any.bits_Mul64 lays264 x y hx hy w
  have e1 : hi ((x : Int) * y) = ((x * y / 18446744073709551616 : Nat) : Int) := by unfold hi; rw [← Int.natCast_mul]; omega
  have e2 : lo ((x : Int) * y) = ((x * y % 18446744073709551616 : Nat) : Int) := by unfold lo; rw [← Int.natCast_mul]; omega
  rw [e1, e2]
  exact h

theorem two_cells {W : World} {b : Nat} {u0 u1 : Value} (k0 : W.cell? ⟨b, 0, none⟩ = some u0) (k1 : W.cell? ⟨b, 1, none⟩ = some u1) (v0 v1 : Value) :
    ((W.setCell ⟨b, 0, none⟩ v0).setCell ⟨b, 1, none⟩ v1).cell? ⟨b, 0, none⟩ = some v0 ∧ ((W.setCell ⟨b, 0, none⟩ v0).setCell ⟨b, 1, none⟩ v1).cell? ⟨b, 1, none⟩ = some v1 := by
  constructor
  · rw [World.cell?_setCell_other, World.cell?_setCell_same (h := k0)]
    simp
  · rw [World.cell?_setCell_same (u := u1)]
    rw [World.cell?_setCell_other, k1]
    simp
theorem signed_any (n : Int) (m : Bool) (w : World) (h0 : 0 ≤ n) (h1 : n < 170141183460469231731687303715884105728) :
    Calls Try.prog 59 #[.int .u64 (hi n), .int .u64 (lo n), .bool m] w fun e w' => e = .returned (.tuple #[I (if m then -n else n), .bool true]) ∧ Ext w w' := by
  have g1 := hi_lt h1
  have g0 : 0 ≤ hi n := by unfold hi; omega
  have hw : IntKind.i64.wrap (hi n) = hi n := by rw [IntKind.wrap_i64]; omega
  cases m
  · exact signed_up (hi n) (lo n) (hi n) w hw (by simpa using g0)
  · by_cases hn : n = 0
    · subst hn
      exact signed_zero w (fun W => turned_any 0 W (by omega) (by omega))
    · have hneg : hi (-n) < 0 := by unfold hi; omega
      exact signed_down (hi n) (lo n) (hi n) (hi (-n)) (lo (-n)) w hw (fun W => turned_any n W (by omega) h1) (by simpa using hneg)

set_option maxHeartbeats 400000 in
theorem mul_cells_tt (a b h l : Int) (w : World) (a1 : -9223372036854775808 ≤ a) (a2 : a < 9223372036854775808) (d1 : -9223372036854775808 ≤ b) (d2 : b < 9223372036854775808) (e1 : decide (a < 0) = true) (e2 : decide (b < 0) = true)
    (c3 : ∀ W, Calls Try.prog 57 #[.int .u64 a.natAbs, .int .u64 b.natAbs] W fun e w' => e = .returned (.tuple #[.int .u64 h, .int .u64 l]) ∧ w' = W)
    (h' l' : Int) (c4 : ∀ W, Calls Try.prog 59 #[.int .u64 h, .int .u64 l, .bool false] W fun e w' => e = .returned (.tuple #[.agg #[.int .i64 h', .int .u64 l'], .bool true]) ∧ Ext W w') :
    Calls Try.prog 40 #[.int .i64 a, .int .i64 b] w fun e w' => e = .returned (.agg #[.int .i64 h', .int .u64 l']) ∧ Ext w w' := by
  have C1 := Lib.hid (fun W => bare_any a W a1 a2)
  have C2 := Lib.hid (fun W => bare_any b W d1 d2)
  have C3 := Lib.hid c3; clear c3
  have C4 := Lib.hid c4; clear c4
  clear a1 a2 d1 d2
  go_enter Try.func40, Try.ntmps40
  go_wp2_with (go_at_call 58; refine (C1.out _).mono ?_; rintro e w1 ⟨rfl, rfl⟩; clear C1)
  refine (C2.out _).mono ?_
  rintro e w1 ⟨rfl, rfl⟩
  go_wp2_with (first | (go_at_call 57; refine (C3.out _).mono ?_; rintro e w1 ⟨rfl, rfl⟩) | (go_at_call 59; refine (C4.out _).mono ?_; rintro e w1 ⟨rfl, hE⟩; obtain ⟨x1, rfl⟩ := Later.mk' hE; clear hE))
  have k0 : (x1.w.alloc (Obj.cells #[.int .i64 h', .int .u64 l'] 69)).cell? ⟨w.heap.size, 0, none⟩ = some (.int .i64 0) := by rw [alloc_cell _ _ _ (by rw [x1.cell _ _ (by simp)]; simp), x1.cell _ _ (by simp)]; simp
  have k1 : (x1.w.alloc (Obj.cells #[.int .i64 h', .int .u64 l'] 69)).cell? ⟨w.heap.size, 1, none⟩ = some (.int .u64 0) := by rw [alloc_cell _ _ _ (by rw [x1.cell _ _ (by simp)]; simp), x1.cell _ _ (by simp)]; simp
  obtain ⟨q0, q1⟩ := two_cells k0 k1 (.int .i64 h') (.int .u64 l')
  (try simp only [Exit.inBlock, Exit.then])
  refine bodyPost_ret (v := .agg #[.int .i64 h', .int .u64 l']) (by simp [results, Try.results40, q0, q1, go_sem]) rfl ?_
  exact ⟨rfl, by (repeat (first | with_reducible exact Ext.refl _ | with_reducible assumption | with_reducible refine Ext.alloc ?_ _ | with_reducible refine Ext.drew ?_ | with_reducible refine Ext.drewN ?_ _ | with_reducible refine Ext.later ?_ _ | (with_reducible refine Ext.setCell ?_ _ ?hp; case hp => first | (simp; done) | (simp; omega) | omega)))⟩
set_option maxHeartbeats 400000 in
theorem mul_cells_tf (a b h l : Int) (w : World) (a1 : -9223372036854775808 ≤ a) (a2 : a < 9223372036854775808) (d1 : -9223372036854775808 ≤ b) (d2 : b < 9223372036854775808) (e1 : decide (a < 0) = true) (e2 : decide (b < 0) = false)
    (c3 : ∀ W, Calls Try.prog 57 #[.int .u64 a.natAbs, .int .u64 b.natAbs] W fun e w' => e = .returned (.tuple #[.int .u64 h, .int .u64 l]) ∧ w' = W)
    (h' l' : Int) (c4 : ∀ W, Calls Try.prog 59 #[.int .u64 h, .int .u64 l, .bool true] W fun e w' => e = .returned (.tuple #[.agg #[.int .i64 h', .int .u64 l'], .bool true]) ∧ Ext W w') :
    Calls Try.prog 40 #[.int .i64 a, .int .i64 b] w fun e w' => e = .returned (.agg #[.int .i64 h', .int .u64 l']) ∧ Ext w w' := by
  have C1 := Lib.hid (fun W => bare_any a W a1 a2)
  have C2 := Lib.hid (fun W => bare_any b W d1 d2)
  have C3 := Lib.hid c3; clear c3
  have C4 := Lib.hid c4; clear c4
  clear a1 a2 d1 d2
  go_enter Try.func40, Try.ntmps40
  go_wp2_with (go_at_call 58; refine (C1.out _).mono ?_; rintro e w1 ⟨rfl, rfl⟩; clear C1)
  refine (C2.out _).mono ?_
  rintro e w1 ⟨rfl, rfl⟩
  go_wp2_with (first | (go_at_call 57; refine (C3.out _).mono ?_; rintro e w1 ⟨rfl, rfl⟩) | (go_at_call 59; refine (C4.out _).mono ?_; rintro e w1 ⟨rfl, hE⟩; obtain ⟨x1, rfl⟩ := Later.mk' hE; clear hE))
  have k0 : (x1.w.alloc (Obj.cells #[.int .i64 h', .int .u64 l'] 69)).cell? ⟨w.heap.size, 0, none⟩ = some (.int .i64 0) := by rw [alloc_cell _ _ _ (by rw [x1.cell _ _ (by simp)]; simp), x1.cell _ _ (by simp)]; simp
  have k1 : (x1.w.alloc (Obj.cells #[.int .i64 h', .int .u64 l'] 69)).cell? ⟨w.heap.size, 1, none⟩ = some (.int .u64 0) := by rw [alloc_cell _ _ _ (by rw [x1.cell _ _ (by simp)]; simp), x1.cell _ _ (by simp)]; simp
  obtain ⟨q0, q1⟩ := two_cells k0 k1 (.int .i64 h') (.int .u64 l')
  (try simp only [Exit.inBlock, Exit.then])
  refine bodyPost_ret (v := .agg #[.int .i64 h', .int .u64 l']) (by simp [results, Try.results40, q0, q1, go_sem]) rfl ?_
  exact ⟨rfl, by (repeat (first | with_reducible exact Ext.refl _ | with_reducible assumption | with_reducible refine Ext.alloc ?_ _ | with_reducible refine Ext.drew ?_ | with_reducible refine Ext.drewN ?_ _ | with_reducible refine Ext.later ?_ _ | (with_reducible refine Ext.setCell ?_ _ ?hp; case hp => first | (simp; done) | (simp; omega) | omega)))⟩
set_option maxHeartbeats 400000 in
theorem mul_cells_ft (a b h l : Int) (w : World) (a1 : -9223372036854775808 ≤ a) (a2 : a < 9223372036854775808) (d1 : -9223372036854775808 ≤ b) (d2 : b < 9223372036854775808) (e1 : decide (a < 0) = false) (e2 : decide (b < 0) = true)
    (c3 : ∀ W, Calls Try.prog 57 #[.int .u64 a.natAbs, .int .u64 b.natAbs] W fun e w' => e = .returned (.tuple #[.int .u64 h, .int .u64 l]) ∧ w' = W)
    (h' l' : Int) (c4 : ∀ W, Calls Try.prog 59 #[.int .u64 h, .int .u64 l, .bool true] W fun e w' => e = .returned (.tuple #[.agg #[.int .i64 h', .int .u64 l'], .bool true]) ∧ Ext W w') :
    Calls Try.prog 40 #[.int .i64 a, .int .i64 b] w fun e w' => e = .returned (.agg #[.int .i64 h', .int .u64 l']) ∧ Ext w w' := by
  have C1 := Lib.hid (fun W => bare_any a W a1 a2)
  have C2 := Lib.hid (fun W => bare_any b W d1 d2)
  have C3 := Lib.hid c3; clear c3
  have C4 := Lib.hid c4; clear c4
  clear a1 a2 d1 d2
  go_enter Try.func40, Try.ntmps40
  go_wp2_with (go_at_call 58; refine (C1.out _).mono ?_; rintro e w1 ⟨rfl, rfl⟩; clear C1)
  refine (C2.out _).mono ?_
  rintro e w1 ⟨rfl, rfl⟩
  go_wp2_with (first | (go_at_call 57; refine (C3.out _).mono ?_; rintro e w1 ⟨rfl, rfl⟩) | (go_at_call 59; refine (C4.out _).mono ?_; rintro e w1 ⟨rfl, hE⟩; obtain ⟨x1, rfl⟩ := Later.mk' hE; clear hE))
  have k0 : (x1.w.alloc (Obj.cells #[.int .i64 h', .int .u64 l'] 69)).cell? ⟨w.heap.size, 0, none⟩ = some (.int .i64 0) := by rw [alloc_cell _ _ _ (by rw [x1.cell _ _ (by simp)]; simp), x1.cell _ _ (by simp)]; simp
  have k1 : (x1.w.alloc (Obj.cells #[.int .i64 h', .int .u64 l'] 69)).cell? ⟨w.heap.size, 1, none⟩ = some (.int .u64 0) := by rw [alloc_cell _ _ _ (by rw [x1.cell _ _ (by simp)]; simp), x1.cell _ _ (by simp)]; simp
  obtain ⟨q0, q1⟩ := two_cells k0 k1 (.int .i64 h') (.int .u64 l')
  (try simp only [Exit.inBlock, Exit.then])
  refine bodyPost_ret (v := .agg #[.int .i64 h', .int .u64 l']) (by simp [results, Try.results40, q0, q1, go_sem]) rfl ?_
  exact ⟨rfl, by (repeat (first | with_reducible exact Ext.refl _ | with_reducible assumption | with_reducible refine Ext.alloc ?_ _ | with_reducible refine Ext.drew ?_ | with_reducible refine Ext.drewN ?_ _ | with_reducible refine Ext.later ?_ _ | (with_reducible refine Ext.setCell ?_ _ ?hp; case hp => first | (simp; done) | (simp; omega) | omega)))⟩
set_option maxHeartbeats 400000 in
theorem mul_cells_ff (a b h l : Int) (w : World) (a1 : -9223372036854775808 ≤ a) (a2 : a < 9223372036854775808) (d1 : -9223372036854775808 ≤ b) (d2 : b < 9223372036854775808) (e1 : decide (a < 0) = false) (e2 : decide (b < 0) = false)
    (c3 : ∀ W, Calls Try.prog 57 #[.int .u64 a.natAbs, .int .u64 b.natAbs] W fun e w' => e = .returned (.tuple #[.int .u64 h, .int .u64 l]) ∧ w' = W)
    (h' l' : Int) (c4 : ∀ W, Calls Try.prog 59 #[.int .u64 h, .int .u64 l, .bool false] W fun e w' => e = .returned (.tuple #[.agg #[.int .i64 h', .int .u64 l'], .bool true]) ∧ Ext W w') :
    Calls Try.prog 40 #[.int .i64 a, .int .i64 b] w fun e w' => e = .returned (.agg #[.int .i64 h', .int .u64 l']) ∧ Ext w w' := by
  have C1 := Lib.hid (fun W => bare_any a W a1 a2)
  have C2 := Lib.hid (fun W => bare_any b W d1 d2)
  have C3 := Lib.hid c3; clear c3
  have C4 := Lib.hid c4; clear c4
  clear a1 a2 d1 d2
  go_enter Try.func40, Try.ntmps40
  go_wp2_with (go_at_call 58; refine (C1.out _).mono ?_; rintro e w1 ⟨rfl, rfl⟩; clear C1)
  refine (C2.out _).mono ?_
  rintro e w1 ⟨rfl, rfl⟩
  go_wp2_with (first | (go_at_call 57; refine (C3.out _).mono ?_; rintro e w1 ⟨rfl, rfl⟩) | (go_at_call 59; refine (C4.out _).mono ?_; rintro e w1 ⟨rfl, hE⟩; obtain ⟨x1, rfl⟩ := Later.mk' hE; clear hE))
  have k0 : (x1.w.alloc (Obj.cells #[.int .i64 h', .int .u64 l'] 69)).cell? ⟨w.heap.size, 0, none⟩ = some (.int .i64 0) := by rw [alloc_cell _ _ _ (by rw [x1.cell _ _ (by simp)]; simp), x1.cell _ _ (by simp)]; simp
  have k1 : (x1.w.alloc (Obj.cells #[.int .i64 h', .int .u64 l'] 69)).cell? ⟨w.heap.size, 1, none⟩ = some (.int .u64 0) := by rw [alloc_cell _ _ _ (by rw [x1.cell _ _ (by simp)]; simp), x1.cell _ _ (by simp)]; simp
  obtain ⟨q0, q1⟩ := two_cells k0 k1 (.int .i64 h') (.int .u64 l')
  (try simp only [Exit.inBlock, Exit.then])
  refine bodyPost_ret (v := .agg #[.int .i64 h', .int .u64 l']) (by simp [results, Try.results40, q0, q1, go_sem]) rfl ?_
  exact ⟨rfl, by (repeat (first | with_reducible exact Ext.refl _ | with_reducible assumption | with_reducible refine Ext.alloc ?_ _ | with_reducible refine Ext.drew ?_ | with_reducible refine Ext.drewN ?_ _ | with_reducible refine Ext.later ?_ _ | (with_reducible refine Ext.setCell ?_ _ ?hp; case hp => first | (simp; done) | (simp; omega) | omega)))⟩

theorem mul_any (a b : Int) (w : World) (a1 : -9223372036854775808 ≤ a) (a2 : a < 9223372036854775808) (d1 : -9223372036854775808 ≤ b) (d2 : b < 9223372036854775808) :
    Calls Try.prog 40 #[.int .i64 a, .int .i64 b] w fun e w' => e = .returned (I (a * b)) ∧ Ext w w' := by
  have c3 := fun W => mul64_any a.natAbs b.natAbs (by omega) (by omega) W
  have hN : (a.natAbs : Int) * b.natAbs ≤ 9223372036854775808 * 9223372036854775808 := by
    have := Nat.mul_le_mul (show a.natAbs ≤ 9223372036854775808 by omega) (show b.natAbs ≤ 9223372036854775808 by omega)
    rw [← Int.natCast_mul]
    generalize a.natAbs * b.natAbs = N at this ⊢
    omega
  have hN0 : (0 : Int) ≤ (a.natAbs : Int) * b.natAbs := Int.mul_nonneg (by omega) (by omega)
  have c4 := fun m W => signed_any ((a.natAbs : Int) * b.natAbs) m W hN0 (by omega)
  by_cases ha : a < 0 <;> by_cases hb : b < 0
  · have e : (a.natAbs : Int) * b.natAbs = a * b := by
      rw [show (a.natAbs : Int) = -a by omega, show (b.natAbs : Int) = -b by omega, Int.neg_mul_neg]
    have k := c4 false
    rw [show (if (false : Bool) = true then -((a.natAbs : Int) * b.natAbs) else (a.natAbs : Int) * b.natAbs) = a * b from e] at k
    exact mul_cells_tt a b _ _ w a1 a2 d1 d2 (by simpa using ha) (by simpa using hb) c3 _ _ k
  · have e : -((a.natAbs : Int) * b.natAbs) = a * b := by
      rw [show (a.natAbs : Int) = -a by omega, show (b.natAbs : Int) = b by omega, Int.neg_mul, Int.neg_neg]
    have k := c4 true
    rw [show (if (true : Bool) = true then -((a.natAbs : Int) * b.natAbs) else (a.natAbs : Int) * b.natAbs) = a * b from e] at k
    exact mul_cells_tf a b _ _ w a1 a2 d1 d2 (by simpa using ha) (by simpa using hb) c3 _ _ k
  · have e : -((a.natAbs : Int) * b.natAbs) = a * b := by
      rw [show (a.natAbs : Int) = a by omega, show (b.natAbs : Int) = -b by omega, Int.mul_neg, Int.neg_neg]
    have k := c4 true
    rw [show (if (true : Bool) = true then -((a.natAbs : Int) * b.natAbs) else (a.natAbs : Int) * b.natAbs) = a * b from e] at k
    exact mul_cells_ft a b _ _ w a1 a2 d1 d2 (by simpa using ha) (by simpa using hb) c3 _ _ k
  · have e : (a.natAbs : Int) * b.natAbs = a * b := by
      rw [show (a.natAbs : Int) = a by omega, show (b.natAbs : Int) = b by omega]
    have k := c4 false
    rw [show (if (false : Bool) = true then -((a.natAbs : Int) * b.natAbs) else (a.natAbs : Int) * b.natAbs) = a * b from e] at k
    exact mul_cells_ff a b _ _ w a1 a2 d1 d2 (by simpa using ha) (by simpa using hb) c3 _ _ k
end Go.Proofs.Ytibhfclkdbmmoaa

/- Proof text: numbers of 128 bits (package xint), on: Small, Cmp. By an AI agent. No condition beyond what each theorem states. -/
set_option linter.unusedVariables false
set_option linter.unusedSimpArgs false
namespace Go.Proofs.Ytibhfclkdbmmoaa
open Go.RowKit
theorem small_hi {z : Int} (h1 : -9223372036854775808 ≤ z) (h2 : z < 9223372036854775808) : IntKind.i64.wrap (lo z) = z ∧ z / 9223372036854775808 = hi z := by
  rw [IntKind.wrap_i64]; unfold lo hi; omega

set_option maxHeartbeats 400000 in
theorem small_cells (h l z : Int) (w : World) (e0 : IntKind.i64.wrap l = z) (e1 : z / 9223372036854775808 = h) :
    Calls Try.prog 41 #[.agg #[.int .i64 h, .int .u64 l]] w fun e w' => e = .returned (.tuple #[.int .i64 z, .bool true]) ∧ Ext w w' := by
  have en : (h != h) = false := by simp
  go_enter Try.func41, Try.ntmps41
  go_wp2
  go_ret2
  exact ⟨rfl, by (repeat (first | with_reducible exact Ext.refl _ | with_reducible assumption | with_reducible refine Ext.alloc ?_ _ | with_reducible refine Ext.drew ?_ | with_reducible refine Ext.drewN ?_ _ | with_reducible refine Ext.later ?_ _ | (with_reducible refine Ext.setCell ?_ _ ?hp; case hp => first | (simp; done) | (simp; omega) | omega)))⟩

theorem small_any (z : Int) (w : World) (h1 : -9223372036854775808 ≤ z) (h2 : z < 9223372036854775808) :
    Calls Try.prog 41 #[I z] w fun e w' => e = .returned (.tuple #[.int .i64 z, .bool true]) ∧ Ext w w' :=
  small_cells _ _ z w (small_hi h1 h2).1 (small_hi h1 h2).2

set_option maxHeartbeats 400000 in
theorem cmp_low (h l h2 l2 : Int) (w : World) (e1 : decide (h < h2) = true) :
    Calls Try.prog 51 #[.agg #[.int .i64 h, .int .u64 l], .agg #[.int .i64 h2, .int .u64 l2]] w fun e w' => e = .returned (.int .i64 (-1)) ∧ Ext w w' := by
  go_enter Try.func51, Try.ntmps51
  go_wp2
  go_ret
  exact ⟨rfl, by (repeat (first | with_reducible exact Ext.refl _ | with_reducible assumption | with_reducible refine Ext.alloc ?_ _ | with_reducible refine Ext.drew ?_ | with_reducible refine Ext.drewN ?_ _ | with_reducible refine Ext.later ?_ _ | (with_reducible refine Ext.setCell ?_ _ ?hp; case hp => first | (simp; done) | (simp; omega) | omega)))⟩

set_option maxHeartbeats 400000 in
theorem cmp_low2 (h l l2 : Int) (w : World) (e1 : decide (l < l2) = true) :
    Calls Try.prog 51 #[.agg #[.int .i64 h, .int .u64 l], .agg #[.int .i64 h, .int .u64 l2]] w fun e w' => e = .returned (.int .i64 (-1)) ∧ Ext w w' := by
  have e2 : decide (h < h) = false := by simp
  have e3 : (h == h) = true := by simp
  go_enter Try.func51, Try.ntmps51
  go_wp2
  go_ret
  exact ⟨rfl, by (repeat (first | with_reducible exact Ext.refl _ | with_reducible assumption | with_reducible refine Ext.alloc ?_ _ | with_reducible refine Ext.drew ?_ | with_reducible refine Ext.drewN ?_ _ | with_reducible refine Ext.later ?_ _ | (with_reducible refine Ext.setCell ?_ _ ?hp; case hp => first | (simp; done) | (simp; omega) | omega)))⟩

set_option maxHeartbeats 400000 in
theorem cmp_same (h l : Int) (w : World) :
    Calls Try.prog 51 #[.agg #[.int .i64 h, .int .u64 l], .agg #[.int .i64 h, .int .u64 l]] w fun e w' => e = .returned (.int .i64 0) ∧ Ext w w' := by
  have e1 : decide (l < l) = false := by simp
  have e2 : decide (h < h) = false := by simp
  have e3 : (h == h) = true := by simp
  have e4 : (l == l) = true := by simp
  go_enter Try.func51, Try.ntmps51
  go_wp2
  go_ret
  exact ⟨rfl, by (repeat (first | with_reducible exact Ext.refl _ | with_reducible assumption | with_reducible refine Ext.alloc ?_ _ | with_reducible refine Ext.drew ?_ | with_reducible refine Ext.drewN ?_ _ | with_reducible refine Ext.later ?_ _ | (with_reducible refine Ext.setCell ?_ _ ?hp; case hp => first | (simp; done) | (simp; omega) | omega)))⟩

set_option maxHeartbeats 400000 in
theorem cmp_high (h l h2 l2 : Int) (w : World) (e1 : decide (h < h2) = false) (e2 : (h == h2) = false) :
    Calls Try.prog 51 #[.agg #[.int .i64 h, .int .u64 l], .agg #[.int .i64 h2, .int .u64 l2]] w fun e w' => e = .returned (.int .i64 1) ∧ Ext w w' := by
  go_enter Try.func51, Try.ntmps51
  go_wp2
  go_ret
  exact ⟨rfl, by (repeat (first | with_reducible exact Ext.refl _ | with_reducible assumption | with_reducible refine Ext.alloc ?_ _ | with_reducible refine Ext.drew ?_ | with_reducible refine Ext.drewN ?_ _ | with_reducible refine Ext.later ?_ _ | (with_reducible refine Ext.setCell ?_ _ ?hp; case hp => first | (simp; done) | (simp; omega) | omega)))⟩

set_option maxHeartbeats 400000 in
theorem cmp_high2 (h l l2 : Int) (w : World) (e1 : decide (l < l2) = false) (e4 : (l == l2) = false) :
    Calls Try.prog 51 #[.agg #[.int .i64 h, .int .u64 l], .agg #[.int .i64 h, .int .u64 l2]] w fun e w' => e = .returned (.int .i64 1) ∧ Ext w w' := by
  have e2 : decide (h < h) = false := by simp
  have e3 : (h == h) = true := by simp
  go_enter Try.func51, Try.ntmps51
  go_wp2
  go_ret
  exact ⟨rfl, by (repeat (first | with_reducible exact Ext.refl _ | with_reducible assumption | with_reducible refine Ext.alloc ?_ _ | with_reducible refine Ext.drew ?_ | with_reducible refine Ext.drewN ?_ _ | with_reducible refine Ext.later ?_ _ | (with_reducible refine Ext.setCell ?_ _ ?hp; case hp => first | (simp; done) | (simp; omega) | omega)))⟩

/-- Less, the same, greater. -/
def sgn (y z : Int) : Int := if y < z then -1 else if y = z then 0 else 1
theorem cmp_any (y z : Int) (w : World) :
    Calls Try.prog 51 #[I y, I z] w fun e w' => e = .returned (.int .i64 (sgn y z)) ∧ Ext w w' := by
  have ey := hi_lo y
  have ez := hi_lo z
  have l1 := lo_pos y; have l2 := lo_lt y; have l3 := lo_pos z; have l4 := lo_lt z
  by_cases h1 : hi y < hi z
  · rw [show sgn y z = -1 from by unfold sgn; rw [if_pos (by omega)]]
    exact cmp_low _ _ _ _ w (by simpa using h1)
  by_cases h2 : hi y = hi z
  · by_cases h3 : lo y < lo z
    · rw [show sgn y z = -1 from by unfold sgn; rw [if_pos (by omega)]]
      have := cmp_low2 (hi y) (lo y) (lo z) w (by simpa using h3)
      show Calls Try.prog 51 #[I y, .agg #[.int .i64 (hi z), .int .u64 (lo z)]] w _
      rw [← h2]; exact this
    by_cases h4 : lo y = lo z
    · have : y = z := by omega
      subst this
      rw [show sgn y y = 0 from by unfold sgn; rw [if_neg (by omega), if_pos rfl]]
      exact cmp_same _ _ w
    · rw [show sgn y z = 1 from by unfold sgn; rw [if_neg (by omega), if_neg (by omega)]]
      have := cmp_high2 (hi y) (lo y) (lo z) w (by simpa using h3) (by simpa using h4)
      show Calls Try.prog 51 #[I y, .agg #[.int .i64 (hi z), .int .u64 (lo z)]] w _
      rw [← h2]; exact this
  · rw [show sgn y z = 1 from by unfold sgn; rw [if_neg (by omega), if_neg (by omega)]]
    exact cmp_high _ _ _ _ w (by simpa using h1) (by simpa using h2)
end Go.Proofs.Ytibhfclkdbmmoaa

/- The plain side of Go's bits.Div64 (two digits of 32 bits, each guessed and put right): no program in sight. -/
set_option linter.unusedVariables false
set_option linter.unusedSimpArgs false
namespace Go.Proofs.Ytibhfclkdbmmoaa
/-- The test of a digit: the guess q with its rest r is too great. -/
theorem digit_test {u q r y1 y0 n B : Nat} (h : u = q * y1 + r) : q * y0 > B * r + n ↔ q * (y1 * B + y0) > u * B + n := by
  subst h
  have e1 : q * (y1 * B + y0) = q * y1 * B + q * y0 := by rw [Nat.mul_add, Nat.mul_assoc]
  have e2 : (q * y1 + r) * B = q * y1 * B + B * r := by rw [Nat.add_mul, Nat.mul_comm r B]
  rw [e1, e2]
  omega
theorem digit_lt {u y n B : Nat} (hy : 0 < y) (hu : u < y) (hn : n < B) : (u * B + n) / y < B := by
  rw [Nat.div_lt_iff_lt_mul hy]
  have : (u + 1) * B ≤ y * B := Nat.mul_le_mul_right _ hu
  rw [Nat.add_mul, Nat.one_mul] at this
  rw [Nat.mul_comm B y]
  omega
/-- The first guess is no less than the digit. -/
theorem digit_guess {u y1 y0 n B : Nat} (hy1 : 0 < y1) (hn : n < B) : (u * B + n) / (y1 * B + y0) ≤ u / y1 := by
  have hB : 0 < B := by omega
  have h1 : (u * B + n) / (y1 * B + y0) ≤ (u * B + n) / (y1 * B) := Nat.div_le_div_left (by omega) (Nat.mul_pos hy1 hB)
  have h2 : (u * B + n) / (y1 * B) = u / y1 := by
    rw [Nat.mul_comm y1 B, ← Nat.div_div_eq_div_mul, Nat.mul_comm u B, Nat.mul_add_div hB, Nat.div_eq_of_lt hn, Nat.add_zero]
  omega
/-- If it is too great, one less is no less than the digit. -/
theorem digit_down {N y q : Nat} (hy : 0 < y) (h : q * y > N) : N / y ≤ q - 1 := by
  have : N / y < q := by rw [Nat.div_lt_iff_lt_mul hy]; rw [Nat.mul_comm]; rw [Nat.mul_comm] at h; exact h
  omega
/-- Not too great, and no less: it is the digit. -/
theorem digit_done {N y q : Nat} (hy : 0 < y) (h1 : N / y ≤ q) (h2 : ¬ q * y > N) : q = N / y := by
  have : q ≤ N / y := by rw [Nat.le_div_iff_mul_le hy]; omega
  omega
theorem digit_rest {u q r y1 y0 n B : Nat} (h : u = q * y1 + r) (hq : q < B) (hr : B ≤ r) : ¬ q * y0 > B * r + n ∨ B ≤ y0 := by
  by_cases hy : B ≤ y0
  · exact .inr hy
  · left
    have h1 : q * y0 ≤ B * y0 := Nat.mul_le_mul_right _ (by omega)
    have h2 : B * y0 ≤ B * r := Nat.mul_le_mul_left _ (by omega)
    omega
/-- Both digits together. -/
theorem two_digits {un32 un1 un0 y B : Nat} (hy : 0 < y) (h0 : un0 < B) :
    ((un32 * B + un1) * B + un0) / y = (un32 * B + un1) / y * B + ((un32 * B + un1) % y * B + un0) / y ∧
    ((un32 * B + un1) * B + un0) % y = ((un32 * B + un1) % y * B + un0) % y := by
  have e := Nat.div_add_mod (un32 * B + un1) y
  generalize (un32 * B + un1) / y = q at *
  generalize (un32 * B + un1) % y = r at *
  have : (un32 * B + un1) * B + un0 = y * (q * B) + (r * B + un0) := by
    rw [← e, Nat.add_mul, Nat.mul_assoc]; omega
  rw [this, Nat.mul_add_div hy, Nat.mul_add_mod]
  exact ⟨rfl, rfl⟩
/-- Both sides moved up alike. -/
theorem moved {N d s : Nat} (hs : 0 < s) : N * s / (d * s) = N / d ∧ N * s % (d * s) = N % d * s := by
  constructor
  · exact Nat.mul_div_mul_right _ _ hs
  · exact Nat.mul_mod_mul_right _ _ _
/-- What holds at the head of a digit's loop (B = 2^32). -/
def Dg (u y1 y0 n q r : Nat) : Prop := u = q * y1 + r ∧ (u * 4294967296 + n) / (y1 * 4294967296 + y0) ≤ q ∧ q ≤ 4294967297
theorem dg_start {u y1 y0 n : Nat} (hy1 : 2147483648 ≤ y1) (hy0 : y0 < 4294967296) (hn : n < 4294967296) (hu : u < y1 * 4294967296 + y0) :
    Dg u y1 y0 n (u / y1) (u % y1) := by
  refine ⟨?_, digit_guess (by omega) hn, ?_⟩
  · rw [Nat.mul_comm]; exact (Nat.div_add_mod u y1).symm
  · have : u / y1 < 4294967298 := by
      rw [Nat.div_lt_iff_lt_mul (by omega)]
      omega
    omega
theorem dg_down {u y1 y0 n q r : Nat} (h : Dg u y1 y0 n q r) (hy1 : 2147483648 ≤ y1) (hy0 : y0 < 4294967296) (hn : n < 4294967296) (hu : u < y1 * 4294967296 + y0)
    (hc : 4294967296 ≤ q ∨ q * y0 > 4294967296 * r + n) : 1 ≤ q ∧ Dg u y1 y0 n (q - 1) (r + y1) := by
  obtain ⟨h1, h2, h3⟩ := h
  have hq : 1 ≤ q := by
    rcases hc with hc | hc
    · omega
    · rcases Nat.eq_zero_or_pos q with h0 | h0
      · subst h0; simp at hc
      · omega
  refine ⟨hq, ?_, ?_, by omega⟩
  · obtain ⟨k, rfl⟩ : ∃ k, q = k + 1 := ⟨q - 1, by omega⟩
    rw [h1, Nat.add_sub_cancel, Nat.add_mul, Nat.one_mul]; omega
  · rcases hc with hc | hc
    · have := digit_lt (y := y1 * 4294967296 + y0) (by omega) hu hn
      omega
    · exact digit_down (by omega) ((digit_test h1).1 hc)
theorem dg_done {u y1 y0 n q r : Nat} (h : Dg u y1 y0 n q r) (hy1 : 2147483648 ≤ y1) (hc : ¬ q * y0 > 4294967296 * r + n) :
    q = (u * 4294967296 + n) / (y1 * 4294967296 + y0) :=
  digit_done (by omega) h.2.1 (fun k => hc ((digit_test h.1).2 k))
/-- Left by the break: the rest is a whole digit, so no more is too great. -/
theorem dg_break {u y1 y0 n q r : Nat} (h : Dg u y1 y0 n q r) (hy1 : 2147483648 ≤ y1) (hy0 : y0 < 4294967296) (hq : q ≤ 4294967296) (hr : 4294967296 ≤ r) :
    q = (u * 4294967296 + n) / (y1 * 4294967296 + y0) := by
  refine dg_done h hy1 ?_
  have h1 : q * y0 ≤ 4294967296 * y0 := Nat.mul_le_mul_right _ hq
  omega
end Go.Proofs.Ytibhfclkdbmmoaa

/- Proof text: math/bits.Div64, its short way. By an AI agent. No condition beyond what each theorem states. -/
set_option linter.unusedVariables false
set_option linter.unusedSimpArgs false
namespace Go.Proofs.Ytibhfclkdbmmoaa
open Go.RowKit

set_option maxHeartbeats 400000 in
theorem div64_low (l y : Int) (w : World) (e0 : (y == 0) = false) (e1 : decide (y ≤ 0) = false) (hl : 0 ≤ l) (hl2 : l < 18446744073709551616) (hy : 0 < y) :
    Calls Try.prog 55 #[.int .u64 0, .int .u64 l, .int .u64 y] w fun e w' => e = .returned (.tuple #[.int .u64 (l / y), .int .u64 (l % y)]) ∧ ∃ n, w' = w.drewN n := by
  have hq : l.tdiv y = l / y := Int.tdiv_eq_ediv_of_nonneg hl
  have hr : l.tmod y = l % y := Int.tmod_eq_emod_of_nonneg hl
  have hy0 : y ≠ 0 := by omega
  have hw : IntKind.u64.wrap (l / y) = l / y := by
    have h1 : 0 ≤ l / y := Int.ediv_nonneg hl (by omega)
    have h2 : l / y ≤ l := Int.ediv_le_self _ hl
    rw [IntKind.wrap_u64]; omega
  go_enter Try.func55, Try.ntmps55
  go_wp2
  go_quiet (fail)
  all_goals (try go_wp2)
  all_goals go_ret2
  all_goals exact ⟨by first | rfl | (simp only [hq, hr]; rfl) | (rw [hq, hr]; rfl), _, rfl⟩
end Go.Proofs.Ytibhfclkdbmmoaa

/- Proof text: math/bits.Div64, its long way. By an AI agent. No condition beyond what each theorem states. -/
set_option linter.unusedVariables false
set_option linter.unusedSimpArgs false
namespace Go.Proofs.Ytibhfclkdbmmoaa
open Go.RowKit

theorem u64_nat {n : Nat} (h : n < 18446744073709551616) : IntKind.u64.wrap (n : Int) = n := by rw [IntKind.wrap_u64]; omega
/-- The bounds of the digits. -/
def Bnd (u y1 y0 n : Nat) : Prop := 2147483648 ≤ y1 ∧ y1 < 4294967296 ∧ y0 < 4294967296 ∧ n < 4294967296 ∧ u < y1 * 4294967296 + y0
/-- At the loop's head. -/
def Hd (u y1 y0 n q r : Nat) : Prop := Dg u y1 y0 n q r ∧ r < 4294967296
/-- Behind the loop. -/
def Dn (u y1 y0 n q : Nat) : Prop := q = (u * 4294967296 + n) / (y1 * 4294967296 + y0)
theorem dig_mul {q y0 : Nat} (hq : q ≤ 4294967296) (h0 : y0 < 4294967296) : q * y0 < 18446744073709551616 := by
  have h1 : q * y0 ≤ 4294967296 * y0 := Nat.mul_le_mul_right _ hq
  omega
theorem hd_start {u y1 y0 n : Nat} (b : Bnd u y1 y0 n) : Hd u y1 y0 n (u / y1) (u % y1) := by
  obtain ⟨b1, b2, b3, b4, b5⟩ := b
  refine ⟨dg_start b1 b3 b4 b5, ?_⟩
  have := Nat.mod_lt u (show 0 < y1 by omega)
  omega
theorem bnd_u {u y1 y0 n : Nat} (b : Bnd u y1 y0 n) : (u : Int) < 18446744073709551616 := by
  obtain ⟨b1, b2, b3, b4, b5⟩ := b; omega
theorem start_q {u y1 y0 n : Nat} : Value.int .u64 ((u : Int) / y1) = .int .u64 ((u / y1 : Nat) : Int) := rfl
theorem start_r {u y1 y0 n : Nat} (b : Bnd u y1 y0 n) : IntKind.u64.wrap ((u : Int) - IntKind.u64.wrap ((u : Int) / y1 * y1)) = ((u % y1 : Nat) : Int) := by
  have hu := bnd_u b
  have e := Nat.div_add_mod u y1
  have e1 : (u : Int) / y1 * y1 = ((y1 * (u / y1) : Nat) : Int) := by rw [Nat.mul_comm, Int.natCast_mul]; rfl
  rw [e1, u64_nat (by omega), show (u : Int) - ((y1 * (u / y1) : Nat) : Int) = ((u % y1 : Nat) : Int) by omega, u64_nat (by omega)]
theorem quot_u {u y1 y0 n : Nat} (b : Bnd u y1 y0 n) : IntKind.u64.wrap ((u : Int) / y1) = (u : Int) / y1 := by
  have hu := bnd_u b
  have : u / y1 ≤ u := Nat.div_le_self _ _
  have e : (u : Int) / y1 = ((u / y1 : Nat) : Int) := rfl
  rw [e, u64_nat (by omega)]
theorem hd_high {u y1 y0 n k r : Nat} (b : Bnd u y1 y0 n) (h : Hd u y1 y0 n (k + 1) r) (hc : 4294967296 ≤ k + 1) :
    (k : Int) ≤ 4294967296 ∧ (r : Int) < 4294967296 ∧ (y1 : Int) < 4294967296 ∧ (2147483648 : Int) ≤ (y1 : Int) ∧ (4294967296 : Int) ≤ (k : Int) + 1 := by
  obtain ⟨⟨h1, h2, h3⟩, h4⟩ := h
  obtain ⟨b1, b2, b3, b4, b5⟩ := b
  omega
theorem hd_out {u y1 y0 n k r : Nat} (b : Bnd u y1 y0 n) (h : Hd u y1 y0 n (k + 1) r) (hc : 4294967296 ≤ k + 1 ∨ (k + 1) * y0 > 4294967296 * r + n) (hr : 4294967296 ≤ r + y1) : Dn u y1 y0 n k := by
  obtain ⟨b1, b2, b3, b4, b5⟩ := b
  have := (dg_down h.1 b1 b3 b4 b5 hc).2
  exact dg_break this b1 b3 (by have := h.1.2.2; omega) hr
theorem hd_on {u y1 y0 n k r : Nat} (b : Bnd u y1 y0 n) (h : Hd u y1 y0 n (k + 1) r) (hc : 4294967296 ≤ k + 1 ∨ (k + 1) * y0 > 4294967296 * r + n) (hr : ¬ 4294967296 ≤ r + y1) : Hd u y1 y0 n k (r + y1) := by
  obtain ⟨b1, b2, b3, b4, b5⟩ := b
  have := (dg_down h.1 b1 b3 b4 b5 hc).2
  exact ⟨this, by omega⟩
/-- The test's two sides, where q isn't too great for them. -/
theorem hd_test {u y1 y0 n q r : Nat} (b : Bnd u y1 y0 n) (h : Hd u y1 y0 n q r) (hc : ¬ 4294967296 ≤ q) :
    (q : Int) < 4294967296 ∧ (r : Int) < 4294967296 ∧ (y1 : Int) < 4294967296 ∧ (2147483648 : Int) ≤ (y1 : Int) ∧ (n : Int) < 4294967296 ∧ IntKind.u64.wrap ((q : Int) * y0) = (q : Int) * y0 ∧ 0 ≤ (q : Int) * y0 := by
  obtain ⟨⟨h1, h2, h3⟩, h4⟩ := h
  obtain ⟨b1, b2, b3, b4, b5⟩ := b
  refine ⟨by omega, by omega, by omega, by omega, by omega, ?_, ?_⟩
  · rw [← Int.natCast_mul]; exact u64_nat (dig_mul (by omega) b3)
  · rw [← Int.natCast_mul]; omega
theorem test_of {q r y0 n : Nat} (h : q * y0 > 4294967296 * r + n) : decide ((q : Int) * y0 > 4294967296 * (r : Int) + n) = true := by
  rw [← Int.natCast_mul]; simp only [decide_eq_true_eq]; omega
theorem hd_test1 {u y1 y0 n k r : Nat} (b : Bnd u y1 y0 n) (h : Hd u y1 y0 n (k + 1) r) (hc : ¬ 4294967296 ≤ k + 1) :
    (k : Int) + 1 < 4294967296 ∧ (r : Int) < 4294967296 ∧ (y1 : Int) < 4294967296 ∧ (2147483648 : Int) ≤ (y1 : Int) ∧ (n : Int) < 4294967296 ∧ IntKind.u64.wrap (((k : Int) + 1) * y0) = ((k : Int) + 1) * y0 ∧ 0 ≤ ((k : Int) + 1) * y0 := by
  have := hd_test b h hc
  rw [Int.natCast_add, Int.natCast_one] at this
  exact this
theorem test_of1 {k r y0 n : Nat} (h : (k + 1) * y0 > 4294967296 * r + n) : decide (((k : Int) + 1) * y0 > 4294967296 * (r : Int) + n) = true := by
  have := test_of h
  rw [Int.natCast_add, Int.natCast_one] at this
  exact this
theorem test_not {q r y0 n : Nat} (h : ¬ q * y0 > 4294967296 * r + n) : decide ((q : Int) * y0 > 4294967296 * (r : Int) + n) = false := by
  rw [← Int.natCast_mul]; simp only [decide_eq_false_iff_not]; omega

set_option maxRecDepth 100000 in
set_option maxHeartbeats 4000000 in
theorem div64_cells (h l y s : Int) (Y a b t : Int) (y1 y0 u n1 n0 v : Nat) (Q R : Nat) (w : World) (e0 : (y == 0) = false) (e1 : decide (y ≤ h) = false) (e2 : (h == 0) = false)
    (hs0 : 0 ≤ s) (hs1 : s ≤ 63) (hl : 0 ≤ l) (hy : 0 < y)
    (c0 : ∀ W, Calls Try.prog 70 #[.int .u64 y] W fun e w' => e = .returned (.int .i64 s) ∧ w' = W)
    (k0 : IntKind.u64.wrap s = s) (k00 : IntKind.u64.wrap (64 - s) = 64 - s)
    (k1 : IntKind.u64.wrap (y * 2 ^ s.toNat) = Y) (k2 : Y / 4294967296 = y1) (k3 : bits .and .u64 Y 4294967295 = y0)
    (k4 : IntKind.u64.wrap (h * 2 ^ s.toNat) = a) (k5 : l / 2 ^ (64 - s).toNat = b) (k6 : bits .or .u64 a b = u)
    (k7 : IntKind.u64.wrap (l * 2 ^ s.toNat) = t) (k8 : t / 4294967296 = n1) (k9 : bits .and .u64 t 4294967295 = n0) (hy1 : (y1 : Int) ≠ 0)
    (B1 : Hid (Bnd u y1 y0 n1)) (B2 : Hid (Bnd v y1 y0 n0))
    (F1 : Hid (∀ q1, Dn u y1 y0 n1 q1 → IntKind.u64.wrap (IntKind.u64.wrap (IntKind.u64.wrap ((u : Int) * 4294967296) + n1) - IntKind.u64.wrap ((q1 : Int) * Y)) = v))
    (F2 : Hid (∀ q1 q0, Dn u y1 y0 n1 q1 → Dn v y1 y0 n0 q0 → IntKind.u64.wrap (IntKind.u64.wrap ((q1 : Int) * 4294967296) + (q0 : Int)) = Q ∧
      IntKind.u64.wrap (IntKind.u64.wrap (IntKind.u64.wrap ((v : Int) * 4294967296) + n0) - IntKind.u64.wrap ((q0 : Int) * Y)) / 2 ^ s.toNat = R)) :
    Calls Try.prog 55 #[.int .u64 h, .int .u64 l, .int .u64 y] w fun e w' => e = .returned (.tuple #[.int .u64 Q, .int .u64 R]) ∧ ∃ n, w' = w.drewN n := by
  have C0 := Lib.hid c0; clear c0
  have k10 := quot_u B1.out
  go_enter Try.func55, Try.ntmps55
  go_upto_block 0 with (go_at_call 70; refine (C0.out _).mono ?_; rintro e w1 ⟨rfl, rfl⟩)
  clear k10 C0 k0 k00 k1 k2 k3 k4 k5 k6 k7 k8 k9 e0 e1 e2
  go_cut [15, 16] from 67 to 85 (fun q r wx => wx = w1 ∧ ∃ qn rn : Nat, q = .int .u64 qn ∧ r = .int .u64 rn ∧ Dn u y1 y0 n1 qn)
  case first =>
    go_wp2_with fail
    go_loop [15, 16] (fun q r => ∃ qn rn : Nat, q = .int .u64 qn ∧ r = .int .u64 rn ∧ Hd u y1 y0 n1 qn rn) (fun q _ => (intOf q).toNat)
    case atStart => exact ⟨u / y1, u % y1, by first | rfl | exact start_q, by first | (rw [start_r B1.out]) | skip, hd_start B1.out⟩
    case round =>
      obtain ⟨qn, rn, rfl, rfl, hD⟩ := hrel
      have HD := Lib.hid hD; clear hD
      by_cases hA : 4294967296 ≤ qn
      · obtain ⟨k, rfl⟩ : ∃ k, qn = k + 1 := ⟨qn - 1, by omega⟩
        obtain ⟨i1, i2, i3, i4, i5⟩ := hd_high B1.out HD.out hA
        have HA := Lib.hid hA; clear hA
        by_cases hB : 4294967296 ≤ rn + y1
        · have iB : (4294967296 : Int) ≤ (rn : Int) + y1 := by omega
          have HB := Lib.hid hB; clear hB
          go_wp2_with fail
          go_meet
          exact ⟨rfl, k, rn + y1, by go_num, by go_num, hd_out B1.out HD.out (.inl HA.out) HB.out⟩
        · have iB : ¬ (4294967296 : Int) ≤ (rn : Int) + y1 := by omega
          have HB := Lib.hid hB; clear hB
          go_wp2_with fail
          go_round
          case rel => exact ⟨k, rn + y1, by go_num, by go_num, hd_on B1.out HD.out (.inl HA.out) HB.out⟩
          case measure => simp [intOf]
      · have HA := Lib.hid hA; clear hA
        by_cases hC : qn * y0 > 4294967296 * rn + n1
        · obtain ⟨k, rfl⟩ : ∃ k, qn = k + 1 := by
            rcases qn with _ | k
            · simp at hC
            · exact ⟨k, rfl⟩
          obtain ⟨i1, i2, i3, i4, i5, i6, i7⟩ := hd_test1 B1.out HD.out HA.out
          have iA : ¬ (4294967296 : Int) ≤ (k : Int) + 1 := by omega
          have dC := test_of1 hC
          have HC := Lib.hid hC; clear hC
          by_cases hB : 4294967296 ≤ rn + y1
          · have iB : (4294967296 : Int) ≤ (rn : Int) + y1 := by omega
            have HB := Lib.hid hB; clear hB
            go_wp2_with fail
            go_meet
            exact ⟨rfl, k, rn + y1, by go_num, by go_num, hd_out B1.out HD.out (.inr HC.out) HB.out⟩
          · have iB : ¬ (4294967296 : Int) ≤ (rn : Int) + y1 := by omega
            have HB := Lib.hid hB; clear hB
            go_wp2_with fail
            go_round
            case rel => exact ⟨k, rn + y1, by go_num, by go_num, hd_on B1.out HD.out (.inr HC.out) HB.out⟩
            case measure => simp [intOf]
        · obtain ⟨i1, i2, i3, i4, i5, i6, i7⟩ := hd_test B1.out HD.out HA.out
          have iA : ¬ (4294967296 : Int) ≤ (qn : Int) := by omega
          have dC := test_not hC
          have HC := Lib.hid hC; clear hC
          go_wp2_with fail
          go_meet
          exact ⟨rfl, qn, rn, rfl, rfl, dg_done HD.out.1 B1.out.1 HC.out⟩
  case rest =>
    obtain ⟨rfl, q1, r1, rfl, rfl, hdn⟩ := hcut
    have HF := Lib.hid (F2.out q1); clear F2
    have h17 := F1.out q1 hdn
    have HN := Lib.hid hdn; clear hdn
    obtain ⟨A1, m1⟩ : ∃ A, IntKind.u64.wrap ((u : Int) * 4294967296) = A := ⟨_, rfl⟩
    rw [m1] at h17
    obtain ⟨A2, m2⟩ : ∃ A, IntKind.u64.wrap (A1 + (n1 : Int)) = A := ⟨_, rfl⟩
    rw [m2] at h17
    obtain ⟨A3, m3⟩ : ∃ A, IntKind.u64.wrap ((q1 : Int) * Y) = A := ⟨_, rfl⟩
    rw [m3] at h17
    have k11 := quot_u B2.out
    go_upto_block 2 with fail
    clear m1 m2 m3 h17 k11
    go_cut [18, 16] from 102 to 120 (fun q r wx => wx = wc ∧ ∃ qn rn : Nat, q = .int .u64 qn ∧ r = .int .u64 rn ∧ Dn v y1 y0 n0 qn)
    case first =>
      go_wp2_with fail
      go_loop [18, 16] (fun q r => ∃ qn rn : Nat, q = .int .u64 qn ∧ r = .int .u64 rn ∧ Hd v y1 y0 n0 qn rn) (fun q _ => (intOf q).toNat)
      case atStart => exact ⟨v / y1, v % y1, by first | rfl | exact start_q, by first | (rw [start_r B2.out]) | skip, hd_start B2.out⟩
      case round =>
        obtain ⟨qn, rn, rfl, rfl, hD⟩ := hrel
        have HD := Lib.hid hD; clear hD
        by_cases hA : 4294967296 ≤ qn
        · obtain ⟨k, rfl⟩ : ∃ k, qn = k + 1 := ⟨qn - 1, by omega⟩
          obtain ⟨i1, i2, i3, i4, i5⟩ := hd_high B2.out HD.out hA
          have HA := Lib.hid hA; clear hA
          by_cases hB : 4294967296 ≤ rn + y1
          · have iB : (4294967296 : Int) ≤ (rn : Int) + y1 := by omega
            have HB := Lib.hid hB; clear hB
            go_wp2_with fail
            go_meet
            exact ⟨rfl, k, rn + y1, by go_num, by go_num, hd_out B2.out HD.out (.inl HA.out) HB.out⟩
          · have iB : ¬ (4294967296 : Int) ≤ (rn : Int) + y1 := by omega
            have HB := Lib.hid hB; clear hB
            go_wp2_with fail
            go_round
            case rel => exact ⟨k, rn + y1, by go_num, by go_num, hd_on B2.out HD.out (.inl HA.out) HB.out⟩
            case measure => simp [intOf]
        · have HA := Lib.hid hA; clear hA
          by_cases hC : qn * y0 > 4294967296 * rn + n0
          · obtain ⟨k, rfl⟩ : ∃ k, qn = k + 1 := by
              rcases qn with _ | k
              · simp at hC
              · exact ⟨k, rfl⟩
            obtain ⟨i1, i2, i3, i4, i5, i6, i7⟩ := hd_test1 B2.out HD.out HA.out
            have iA : ¬ (4294967296 : Int) ≤ (k : Int) + 1 := by omega
            have dC := test_of1 hC
            have HC := Lib.hid hC; clear hC
            by_cases hB : 4294967296 ≤ rn + y1
            · have iB : (4294967296 : Int) ≤ (rn : Int) + y1 := by omega
              have HB := Lib.hid hB; clear hB
              go_wp2_with fail
              go_meet
              exact ⟨rfl, k, rn + y1, by go_num, by go_num, hd_out B2.out HD.out (.inr HC.out) HB.out⟩
            · have iB : ¬ (4294967296 : Int) ≤ (rn : Int) + y1 := by omega
              have HB := Lib.hid hB; clear hB
              go_wp2_with fail
              go_round
              case rel => exact ⟨k, rn + y1, by go_num, by go_num, hd_on B2.out HD.out (.inr HC.out) HB.out⟩
              case measure => simp [intOf]
          · obtain ⟨i1, i2, i3, i4, i5, i6, i7⟩ := hd_test B2.out HD.out HA.out
            have iA : ¬ (4294967296 : Int) ≤ (qn : Int) := by omega
            have dC := test_not hC
            have HC := Lib.hid hC; clear hC
            go_wp2_with fail
            go_meet
            exact ⟨rfl, qn, rn, rfl, rfl, dg_done HD.out.1 B2.out.1 HC.out⟩
    case rest =>
      obtain ⟨rfl, q0, r0, rfl, rfl, hdn⟩ := hcut
      obtain ⟨hQ, hR⟩ := HF.out q0 HN.out hdn
      clear hdn
      obtain ⟨D1, m1⟩ : ∃ A, IntKind.u64.wrap ((q1 : Int) * 4294967296) = A := ⟨_, rfl⟩
      obtain ⟨D2, m2⟩ : ∃ A, IntKind.u64.wrap ((v : Int) * 4294967296) = A := ⟨_, rfl⟩
      obtain ⟨D4, m4⟩ : ∃ A, IntKind.u64.wrap ((q0 : Int) * Y) = A := ⟨_, rfl⟩
      rw [m1] at hQ
      rw [m2, m4] at hR
      obtain ⟨D3, m3⟩ : ∃ A, IntKind.u64.wrap (D2 + (n0 : Int)) = A := ⟨_, rfl⟩
      rw [m3] at hR
      obtain ⟨D5, m5⟩ : ∃ A, IntKind.u64.wrap (D3 - D4) = A := ⟨_, rfl⟩
      rw [m5] at hR
      go_wp2_with fail
      go_ret2
      exact ⟨rfl, 0, rfl⟩
end Go.Proofs.Ytibhfclkdbmmoaa

/- Proof text: math/bits.Div64, all of it. By an AI agent. No condition beyond what each theorem states. -/
set_option linter.unusedVariables false
set_option linter.unusedSimpArgs false
namespace Go.Proofs.Ytibhfclkdbmmoaa
open Go.RowKit

/-- A dividend of two digits, moved up: its upper and its lower 64 bits. -/
theorem moved_up {h l S : Nat} (hS : S ≤ 63) (hl : l < 18446744073709551616) :
    (h * 18446744073709551616 + l) * 2 ^ S = (h * 2 ^ S + l / 2 ^ (64 - S)) * 18446744073709551616 + l * 2 ^ S % 18446744073709551616 ∧ l / 2 ^ (64 - S) < 2 ^ S := by
  have e64 : (18446744073709551616 : Nat) = 2 ^ (64 - S) * 2 ^ S := by
    rw [← Nat.pow_add, show 64 - S + S = 64 by omega]
  have hp : 0 < 2 ^ S := Nat.two_pow_pos S
  have hd : l * 2 ^ S / 18446744073709551616 = l / 2 ^ (64 - S) := by
    rw [e64]; exact Nat.mul_div_mul_right _ _ hp
  have e := Nat.div_add_mod (l * 2 ^ S) 18446744073709551616
  rw [hd] at e
  constructor
  · have e1 : (h * 18446744073709551616 + l) * 2 ^ S = h * 2 ^ S * 18446744073709551616 + l * 2 ^ S := by
      rw [Nat.add_mul, Nat.mul_assoc, Nat.mul_comm 18446744073709551616, ← Nat.mul_assoc]
    rw [e1]
    generalize h * 2 ^ S = a at *
    generalize l * 2 ^ S % 18446744073709551616 = b at *
    generalize l / 2 ^ (64 - S) = c at *
    omega
  · rw [Nat.div_lt_iff_lt_mul (Nat.two_pow_pos _), Nat.mul_comm, ← e64]
    exact hl
theorem norm_lt {h y l S : Nat} (hh : h < y) (hS : S ≤ 63) (hl : l < 18446744073709551616) : h * 2 ^ S + l / 2 ^ (64 - S) < y * 2 ^ S := by
  have h1 := (moved_up (h := h) hS hl).2
  have h2 : (h + 1) * 2 ^ S ≤ y * 2 ^ S := Nat.mul_le_mul_right _ hh
  rw [Nat.add_mul, Nat.one_mul] at h2
  omega
theorem sub_digit {u n P v : Nat} (e : P + v = u * 4294967296 + n) (hv : v < 18446744073709551616) :
    IntKind.u64.wrap (IntKind.u64.wrap (IntKind.u64.wrap ((u : Int) * 4294967296) + n) - IntKind.u64.wrap (P : Int)) = v := by
  simp only [IntKind.wrap_u64]
  omega
theorem pow_int (S : Nat) : ((2 : Int) ^ S) = ((2 ^ S : Nat) : Int) := by simp

set_option maxRecDepth 100000 in
theorem div64_high (h l y S : Nat) (w : World) (h0 : 0 < h) (hh : h < y) (hl : l < 18446744073709551616) (hS : S ≤ 63) (hn1 : 9223372036854775808 ≤ y * 2 ^ S) (hn2 : y * 2 ^ S < 18446744073709551616)
    (c0 : ∀ W, Calls Try.prog 70 #[.int .u64 y] W fun e w' => e = .returned (.int .i64 (S : Int)) ∧ w' = W) :
    Calls Try.prog 55 #[.int .u64 h, .int .u64 l, .int .u64 y] w fun e w' => e = .returned (.tuple #[.int .u64 (((h * 18446744073709551616 + l) / y : Nat) : Int), .int .u64 (((h * 18446744073709551616 + l) % y : Nat) : Int)]) ∧ ∃ n, w' = w.drewN n := by
  obtain ⟨m1, m2⟩ := moved_up (h := h) hS hl
  have m3 := norm_lt hh hS hl
  have hp : 0 < 2 ^ S := Nat.two_pow_pos S
  have hp2 : 2 ^ S ≤ 9223372036854775808 := by
    have := Nat.pow_le_pow_right (show 0 < 2 by omega) hS
    simpa using this
  have g1 := (moved (N := h * 18446744073709551616 + l) (d := y) hp).1
  have g2 := (moved (N := h * 18446744073709551616 + l) (d := y) hp).2
  have hq64 : (h * 18446744073709551616 + l) / y < 18446744073709551616 := digit_lt (by omega) hh hl
  have hr64 : (h * 18446744073709551616 + l) % y < y := Nat.mod_lt _ (by omega)
  have ha : h * 2 ^ S < 18446744073709551616 := by
    have : h * 2 ^ S ≤ y * 2 ^ S := Nat.mul_le_mul_right _ (by omega)
    omega
  -- the parts of the numbers
  obtain ⟨Y, hY⟩ : ∃ Y, y * 2 ^ S = Y := ⟨_, rfl⟩
  obtain ⟨a, hA⟩ : ∃ a, h * 2 ^ S = a := ⟨_, rfl⟩
  obtain ⟨b, hB⟩ : ∃ b, l / 2 ^ (64 - S) = b := ⟨_, rfl⟩
  obtain ⟨t, hT⟩ : ∃ t, l * 2 ^ S % 18446744073709551616 = t := ⟨_, rfl⟩
  have hor : a ||| b = a + b := by
    have := Nat.two_pow_add_eq_or_of_lt (b := b) (i := S) (by omega) h
    rw [Nat.mul_comm, hA] at this
    exact this.symm
  have t64 : t < 18446744073709551616 := by rw [← hT]; exact Nat.mod_lt _ (by omega)
  rw [hA, hB, hT, show (a + b) * 18446744073709551616 + t = ((a + b) * 4294967296 + t / 4294967296) * 4294967296 + t % 4294967296 by omega] at m1
  rw [hA, hB, hY] at m3
  rw [hY] at hn1 hn2 g1 g2
  obtain ⟨d1, d2⟩ := two_digits (un32 := a + b) (un1 := t / 4294967296) (un0 := t % 4294967296) (y := Y) (B := 4294967296) (by omega) (by omega)
  rw [← m1, g1] at d1
  rw [← m1, g2] at d2
  have ey : Y / 4294967296 * 4294967296 + Y % 4294967296 = Y := by omega
  have v1 : ((a + b) * 4294967296 + t / 4294967296) % Y < Y := Nat.mod_lt _ (by omega)
  refine div64_cells (h : Int) l y S Y a b t (Y / 4294967296) (Y % 4294967296) (a + b) (t / 4294967296) (t % 4294967296) (((a + b) * 4294967296 + t / 4294967296) % Y) ((h * 18446744073709551616 + l) / y) ((h * 18446744073709551616 + l) % y) w ?_ ?_ ?_ (by omega) (by omega) (by omega) (by omega) c0 ?_ ?_ ?_ ?_ ?_ ?_ ?_ ?_ ?_ ?_ ?_ ?_ ?_ ?_ ?_ ?_
  · simp; omega
  · simp; omega
  · simp; omega
  · rw [IntKind.wrap_u64]; omega
  · rw [IntKind.wrap_u64]; omega
  · rw [Int.toNat_natCast, pow_int, ← Int.natCast_mul, hY]; exact u64_nat hn2
  · rfl
  · exact Mul64.maskN Y hn2
  · rw [Int.toNat_natCast, pow_int, ← Int.natCast_mul, hA]; exact u64_nat (by omega)
  · rw [show (64 - (S : Int)).toNat = 64 - S by omega, pow_int, ← Int.natCast_ediv, hB]
  · rw [u64_or_nat _ _ (by omega) (by omega), hor]
  · rw [Int.toNat_natCast, pow_int, ← Int.natCast_mul, IntKind.wrap_u64, ← hT]; rfl
  · rfl
  · exact Mul64.maskN t t64
  · omega
  · exact ⟨by omega, by omega, by omega, by omega, by omega⟩
  · exact ⟨by omega, by omega, by omega, by omega, by rw [ey]; exact v1⟩
  · intro q1 hq
    unfold Dn at hq
    rw [ey] at hq
    have e := Nat.div_add_mod ((a + b) * 4294967296 + t / 4294967296) Y
    rw [← hq] at e
    have := sub_digit (P := q1 * Y) (by rw [Nat.mul_comm]; exact e) (Nat.lt_trans v1 hn2)
    rw [Int.natCast_mul] at this
    exact this
  · intro q1 q0 hq hq0
    unfold Dn at hq hq0
    rw [ey] at hq hq0
    rw [← hq, ← hq0] at d1
    have e := Nat.div_add_mod (((a + b) * 4294967296 + t / 4294967296) % Y * 4294967296 + t % 4294967296) Y
    rw [← hq0] at e
    refine ⟨?_, ?_⟩
    · rw [d1] at hq64 ⊢
      simp only [IntKind.wrap_u64]
      omega
    · have r64 := Nat.mod_lt (((a + b) * 4294967296 + t / 4294967296) % Y * 4294967296 + t % 4294967296) (show 0 < Y by omega)
      have := sub_digit (P := q0 * Y) (by rw [Nat.mul_comm]; exact e) (Nat.lt_trans r64 hn2)
      rw [Int.natCast_mul] at this
      rw [this, ← d2, Int.toNat_natCast, pow_int, ← Int.natCast_ediv, Nat.mul_div_cancel _ hp]
theorem div64_any (h l y : Nat) (w : World) (hh : h < y) (hl : l < 18446744073709551616) (hy : y < 18446744073709551616) :
    Calls Try.prog 55 #[.int .u64 h, .int .u64 l, .int .u64 y] w fun e w' => e = .returned (.tuple #[.int .u64 (((h * 18446744073709551616 + l) / y : Nat) : Int), .int .u64 (((h * 18446744073709551616 + l) % y : Nat) : Int)]) ∧ ∃ n, w' = w.drewN n := by
  rcases Nat.eq_zero_or_pos h with h0 | h0
  · subst h0
    rw [Nat.zero_mul, Nat.zero_add]
    exact div64_low l y w (by simp; omega) (by simp; omega) (by omega) (by omega) (by omega)
  · have c := fun W => Any.bits_LeadingZeros64 lays134 (y : Int) W (by omega) (by omega)
    rw [Int.toNat_natCast] at c
    obtain ⟨b1, b2, b3⟩ := Lib.bitLenAux_bounds 64 y hy (by omega)
    have b4 : Lib.bitLen y ≤ 64 := Lib.bitLen_le y 64 (by omega) hy
    have b5 : 1 ≤ Lib.bitLen y := b1
    have e : (64 - (Lib.bitLen y : Int)) = ((64 - Lib.bitLen y : Nat) : Int) := by omega
    rw [e] at c
    refine div64_high h l y (64 - Lib.bitLen y) w h0 hh hl (by omega) ?_ ?_ c
    · have := Nat.mul_le_mul_right (2 ^ (64 - Lib.bitLen y)) (show 2 ^ (Lib.bitLen y - 1) ≤ y from b2)
      rw [← Nat.pow_add, show Lib.bitLen y - 1 + (64 - Lib.bitLen y) = 63 by omega] at this
      exact this
    · have := Nat.mul_lt_mul_of_pos_right (show y < 2 ^ Lib.bitLen y from b3) (Nat.two_pow_pos (64 - Lib.bitLen y))
      rw [← Nat.pow_add, show Lib.bitLen y + (64 - Lib.bitLen y) = 64 by omega] at this
      exact this
end Go.Proofs.Ytibhfclkdbmmoaa

/- Proof text: numbers of 128 bits (package xint), on: Div. By an AI agent. No condition beyond what each theorem states. -/
set_option linter.unusedVariables false
set_option linter.unusedSimpArgs false
namespace Go.Proofs.Ytibhfclkdbmmoaa
open Go.RowKit

set_option maxRecDepth 100000 in
set_option maxHeartbeats 1000000 in
theorem div_up (h l d m hq hr lq r h' r' : Int) (w : World) (e1 : decide (d < 1) = false) (e2 : decide (h < 0) = false) (e3 : decide (h ≥ 0) = true) (e4 : IntKind.u64.wrap d = m) (e5 : IntKind.u64.wrap h = h) (em : m ≠ 0)
    (q1 : IntKind.u64.wrap (h.tdiv m) = hq) (q2 : h % m = hr) (k0 : 0 ≤ h) (k1 : 1 ≤ m)
    (c0 : ∀ W, Calls Try.prog 55 #[.int .u64 hr, .int .u64 l, .int .u64 m] W fun e w' => e = .returned (.tuple #[.int .u64 lq, .int .u64 r]) ∧ ∃ n, w' = W.drewN n)
    (e6 : wrap64 hq = h') (e7 : IntKind.i64.wrap r = r') :
    Calls Try.prog 39 #[.agg #[.int .i64 h, .int .u64 l], .int .i64 d] w fun e w' => e = .returned (.tuple #[.agg #[.int .i64 h', .int .u64 lq], .int .i64 r', .bool true]) ∧ Ext w w' := by
  have C0 := Lib.hid c0; clear c0
  go_enter Try.func39, Try.ntmps39
  go_wp2_with fail
  go_quiet ((go_at_call 55; exact Calls.quiet_of (C0.out _)))
  go_wp2_with fail
  go_returns
  exact ⟨rfl, by (repeat (first | with_reducible exact Ext.refl _ | with_reducible assumption | with_reducible refine Ext.alloc ?_ _ | with_reducible refine Ext.drew ?_ | with_reducible refine Ext.drewN ?_ _ | with_reducible refine Ext.later ?_ _ | (with_reducible refine Ext.setCell ?_ _ ?hp; case hp => first | (simp; done) | (simp; omega) | omega)))⟩

set_option maxRecDepth 100000 in
set_option maxHeartbeats 1000000 in
theorem div_down0 (h l d m xh xl hq hr lq h' h2 l2 : Int) (w : World) (e1 : decide (d < 1) = false) (e2 : decide (h < 0) = true) (e3 : decide (h ≥ 0) = false) (e4 : IntKind.u64.wrap d = m) (e5 : IntKind.u64.wrap xh = xh) (em : m ≠ 0)
    (q1 : IntKind.u64.wrap (xh.tdiv m) = hq) (q2 : xh % m = hr) (k0 : 0 ≤ xh) (k1 : 1 ≤ m)
    (c1 : ∀ W, Calls Try.prog 54 #[.agg #[.int .i64 h, .int .u64 l]] W fun e w' => e = .returned (.agg #[.int .i64 xh, .int .u64 xl]) ∧ Ext W w')
    (c0 : ∀ W, Calls Try.prog 55 #[.int .u64 hr, .int .u64 xl, .int .u64 m] W fun e w' => e = .returned (.tuple #[.int .u64 lq, .int .u64 0]) ∧ ∃ n, w' = W.drewN n)
    (e6 : wrap64 hq = h')
    (c2 : ∀ W, Calls Try.prog 54 #[.agg #[.int .i64 h', .int .u64 lq]] W fun e w' => e = .returned (.agg #[.int .i64 h2, .int .u64 l2]) ∧ Ext W w') :
    Calls Try.prog 39 #[.agg #[.int .i64 h, .int .u64 l], .int .i64 d] w fun e w' => e = .returned (.tuple #[.agg #[.int .i64 h2, .int .u64 l2], .int .i64 0, .bool true]) ∧ Ext w w' := by
  have C0 := Lib.hid c0; clear c0
  have C1 := Lib.hid c1; clear c1
  have C2 := Lib.hid c2; clear c2
  go_enter Try.func39, Try.ntmps39
  go_wp2_with fail
  refine (C1.out _).mono ?_
  rintro e w1 ⟨rfl, hE⟩
  obtain ⟨x1, rfl⟩ := Later.mk' hE
  clear hE
  obtain ⟨k0, f0⟩ := later_cel x1 (w.heap.size + 1 + 1) 0 (v := .int .i64 h) ⟨by simp [go_sem], by simp [go_sem]⟩
  obtain ⟨k1, f1⟩ := later_cel x1 (w.heap.size + 1 + 1) 1 (v := .int .u64 l) ⟨by simp [go_sem], by simp [go_sem]⟩
  have z0 := x1.le
  simp at z0
  have z1 : w.heap.size < x1.w.heap.size := by omega
  have z2 : w.heap.size + 1 < x1.w.heap.size := by omega
  have z3 : w.heap.size + 1 + 1 < x1.w.heap.size := by omega
  clear z0
  go_wp2_with fail
  go_quiet ((go_at_call 55; exact Calls.quiet_of (C0.out _)))
  go_wp2_with fail
  refine (C2.out _).mono ?_
  rintro e w1 ⟨rfl, hE⟩
  obtain ⟨x2, rfl⟩ := Later.mk' hE
  clear hE
  obtain ⟨k2, f2⟩ := later_cel x2 x1.w.heap.size 0 (v := .int .i64 h') ⟨by simp [go_sem], by simp [go_sem]⟩
  obtain ⟨k3, f3⟩ := later_cel x2 x1.w.heap.size 1 (v := .int .u64 lq) ⟨by simp [go_sem], by simp [go_sem]⟩
  obtain ⟨k4, f4⟩ := later_cel x2 (w.heap.size + 1) 0 (v := .int .i64 0) ⟨by simp [go_sem, z2], by simp [go_sem, z2]⟩
  obtain ⟨k5, f5⟩ := later_cel x2 (w.heap.size + 1) 1 (v := .int .u64 0) ⟨by simp [go_sem, z2], by simp [go_sem, z2]⟩
  have z4 : x1.w.heap.size ≠ w.heap.size + 1 := by omega
  go_wp2_with fail
  obtain ⟨p0, p1⟩ := two_cells (W := (x2.w.setCell ⟨x1.w.heap.size, 0, none⟩ (.int .i64 h2)).setCell ⟨x1.w.heap.size, 1, none⟩ (.int .u64 l2)) (b := w.heap.size + 1) (u0 := .int .i64 0) (u1 := .int .u64 0) (by simp [go_sem, k4, z4]) (by simp [go_sem, k5, z4]) (.int .i64 h2) (.int .u64 l2)
  refine bodyPost_ret (v := .tuple #[.agg #[.int .i64 h2, .int .u64 l2], .int .i64 0, .bool true]) (by simp [results, Try.results39, p0, p1, go_sem]) rfl ⟨rfl, by (repeat (first | with_reducible exact Ext.refl _ | with_reducible assumption | with_reducible refine Ext.alloc ?_ _ | with_reducible refine Ext.drew ?_ | with_reducible refine Ext.drewN ?_ _ | with_reducible refine Ext.later ?_ _ | (with_reducible refine Ext.setCell ?_ _ ?hp; case hp => first | (simp; done) | (simp; omega) | omega)))⟩
set_option maxRecDepth 100000 in
set_option maxHeartbeats 1000000 in
theorem div_down1 (h l d m xh xl hq hr lq h' h2 l2 r h3 l3 r' : Int) (w : World) (e1 : decide (d < 1) = false) (e2 : decide (h < 0) = true) (e3 : decide (h ≥ 0) = false) (e4 : IntKind.u64.wrap d = m) (e5 : IntKind.u64.wrap xh = xh) (em : m ≠ 0)
    (q1 : IntKind.u64.wrap (xh.tdiv m) = hq) (q2 : xh % m = hr) (k0 : 0 ≤ xh) (k1 : 1 ≤ m)
    (c1 : ∀ W, Calls Try.prog 54 #[.agg #[.int .i64 h, .int .u64 l]] W fun e w' => e = .returned (.agg #[.int .i64 xh, .int .u64 xl]) ∧ Ext W w')
    (c0 : ∀ W, Calls Try.prog 55 #[.int .u64 hr, .int .u64 xl, .int .u64 m] W fun e w' => e = .returned (.tuple #[.int .u64 lq, .int .u64 r]) ∧ ∃ n, w' = W.drewN n)
    (e6 : wrap64 hq = h')
    (c2 : ∀ W, Calls Try.prog 54 #[.agg #[.int .i64 h', .int .u64 lq]] W fun e w' => e = .returned (.agg #[.int .i64 h2, .int .u64 l2]) ∧ Ext W w')
    (e7 : (r == 0) = false) (e8 : IntKind.u64.wrap (m - r) = m - r) (e9 : IntKind.i64.wrap (m - r) = r')
    (c3 : ∀ W, Calls Try.prog 56 #[.agg #[.int .i64 h2, .int .u64 l2], .agg #[.int .i64 0, .int .u64 1]] W fun e w' => e = .returned (.tuple #[.agg #[.int .i64 h3, .int .u64 l3], .bool true]) ∧ Ext W w') :
    Calls Try.prog 39 #[.agg #[.int .i64 h, .int .u64 l], .int .i64 d] w fun e w' => e = .returned (.tuple #[.agg #[.int .i64 h3, .int .u64 l3], .int .i64 r', .bool true]) ∧ Ext w w' := by
  have C0 := Lib.hid c0; clear c0
  have C1 := Lib.hid c1; clear c1
  have C2 := Lib.hid c2; clear c2
  have C3 := Lib.hid c3; clear c3
  go_enter Try.func39, Try.ntmps39
  go_wp2_with fail
  refine (C1.out _).mono ?_
  rintro e w1 ⟨rfl, hE⟩
  obtain ⟨x1, rfl⟩ := Later.mk' hE
  clear hE
  obtain ⟨k0, f0⟩ := later_cel x1 (w.heap.size + 1 + 1) 0 (v := .int .i64 h) ⟨by simp [go_sem], by simp [go_sem]⟩
  obtain ⟨k1, f1⟩ := later_cel x1 (w.heap.size + 1 + 1) 1 (v := .int .u64 l) ⟨by simp [go_sem], by simp [go_sem]⟩
  have z0 := x1.le
  simp at z0
  have z1 : w.heap.size < x1.w.heap.size := by omega
  have z2 : w.heap.size + 1 < x1.w.heap.size := by omega
  have z3 : w.heap.size + 1 + 1 < x1.w.heap.size := by omega
  clear z0
  go_wp2_with fail
  go_quiet ((go_at_call 55; exact Calls.quiet_of (C0.out _)))
  go_wp2_with fail
  refine (C2.out _).mono ?_
  rintro e w1 ⟨rfl, hE⟩
  obtain ⟨x2, rfl⟩ := Later.mk' hE
  clear hE
  obtain ⟨k2, f2⟩ := later_cel x2 x1.w.heap.size 0 (v := .int .i64 h') ⟨by simp [go_sem], by simp [go_sem]⟩
  obtain ⟨k3, f3⟩ := later_cel x2 x1.w.heap.size 1 (v := .int .u64 lq) ⟨by simp [go_sem], by simp [go_sem]⟩
  obtain ⟨k4, f4⟩ := later_cel x2 (w.heap.size + 1) 0 (v := .int .i64 0) ⟨by simp [go_sem, z2], by simp [go_sem, z2]⟩
  obtain ⟨k5, f5⟩ := later_cel x2 (w.heap.size + 1) 1 (v := .int .u64 0) ⟨by simp [go_sem, z2], by simp [go_sem, z2]⟩
  have z4 : x1.w.heap.size ≠ w.heap.size + 1 := by omega
  have z5 := x2.le
  simp at z5
  have z6 : x1.w.heap.size < x2.w.heap.size := by omega
  clear z5
  have z7 : w.heap.size + 1 ≠ x1.w.heap.size := by omega
  go_wp2_with fail
  refine (C3.out _).mono ?_
  rintro e w1 ⟨rfl, hE⟩
  obtain ⟨x3, rfl⟩ := Later.mk' hE
  clear hE
  obtain ⟨k6, f6⟩ := later_cel x3 x1.w.heap.size 0 (v := .int .i64 h2) ⟨by simp [go_sem, k2, k3], by simp [go_sem, f2]⟩
  obtain ⟨k7, f7⟩ := later_cel x3 x1.w.heap.size 1 (v := .int .u64 l2) ⟨by simp [go_sem, k2, k3], by simp [go_sem, f3]⟩
  obtain ⟨k8, f8⟩ := later_cel x3 (w.heap.size + 1) 0 (v := .int .i64 0) ⟨by simp [go_sem, k4, z4], by simp [go_sem, f4]⟩
  obtain ⟨k9, f9⟩ := later_cel x3 (w.heap.size + 1) 1 (v := .int .u64 0) ⟨by simp [go_sem, k5, z4], by simp [go_sem, f5]⟩
  go_wp2_with fail
  obtain ⟨p0, p1⟩ := two_cells (W := (x3.w.setCell ⟨x1.w.heap.size, 0, none⟩ (.int .i64 h3)).setCell ⟨x1.w.heap.size, 1, none⟩ (.int .u64 l3)) (b := w.heap.size + 1) (u0 := .int .i64 0) (u1 := .int .u64 0) (by simp [go_sem, k8, z4]) (by simp [go_sem, k9, z4]) (.int .i64 h3) (.int .u64 l3)
  refine bodyPost_ret (v := .tuple #[.agg #[.int .i64 h3, .int .u64 l3], .int .i64 r', .bool true]) (by simp [results, Try.results39, p0, p1, go_sem]) rfl ⟨rfl, by (repeat (first | with_reducible exact Ext.refl _ | with_reducible assumption | with_reducible refine Ext.alloc ?_ _ | with_reducible refine Ext.drew ?_ | with_reducible refine Ext.drewN ?_ _ | with_reducible refine Ext.later ?_ _ | (with_reducible refine Ext.setCell ?_ _ ?hp; case hp => first | (simp; done) | (simp; omega) | omega)))⟩
end Go.Proofs.Ytibhfclkdbmmoaa

/- Proof text: numbers of 128 bits (package xint), on: Div, all of it; Mul and Div together. By an AI agent. No condition beyond what each theorem states. -/
set_option linter.unusedVariables false
set_option linter.unusedSimpArgs false
namespace Go.Proofs.Ytibhfclkdbmmoaa
open Go.RowKit

theorem nat_parts (X d : Nat) (hd : 0 < d) :
    X / d = X / 18446744073709551616 / d * 18446744073709551616 + (X / 18446744073709551616 % d * 18446744073709551616 + X % 18446744073709551616) / d ∧
    X % d = (X / 18446744073709551616 % d * 18446744073709551616 + X % 18446744073709551616) % d ∧
    (X / 18446744073709551616 % d * 18446744073709551616 + X % 18446744073709551616) / d < 18446744073709551616 := by
  have h := two_digits (un32 := 0) (un1 := X / 18446744073709551616) (un0 := X % 18446744073709551616) (y := d) (B := 18446744073709551616) hd (by omega)
  simp only [Nat.zero_mul, Nat.zero_add] at h
  have e : X / 18446744073709551616 * 18446744073709551616 + X % 18446744073709551616 = X := by omega
  rw [e] at h
  exact ⟨h.1, h.2, digit_lt hd (Nat.mod_lt _ hd) (by omega)⟩
theorem hi_nat (X : Nat) : hi (X : Int) = ((X / 18446744073709551616 : Nat) : Int) := by unfold hi; omega
theorem lo_nat (X : Nat) : lo (X : Int) = ((X % 18446744073709551616 : Nat) : Int) := by unfold lo; omega
theorem hi_div (X d : Nat) (hd : 0 < d) : hi ((X / d : Nat) : Int) = ((X / 18446744073709551616 / d : Nat) : Int) ∧ lo ((X / d : Nat) : Int) = (((X / 18446744073709551616 % d * 18446744073709551616 + X % 18446744073709551616) / d : Nat) : Int) := by
  obtain ⟨h1, _, h3⟩ := nat_parts X d hd
  rw [h1]
  generalize (X / 18446744073709551616 % d * 18446744073709551616 + X % 18446744073709551616) / d = a at *
  generalize X / 18446744073709551616 / d = b at *
  exact halves (by omega) (by omega) (by omega)
theorem neg_div (X d : Nat) (hd : 0 < d) (h : X % d = 0) : (-(X : Int)) / d = -((X / d : Nat) : Int) ∧ (-(X : Int)) % d = 0 := by
  have e := Nat.div_add_mod X d
  have e2 : (X : Int) = (d : Int) * ((X / d : Nat) : Int) := by rw [← Int.natCast_mul]; omega
  constructor
  · have : -(X : Int) = -((X / d : Nat) : Int) * d := by rw [Int.neg_mul, Int.mul_comm]; omega
    rw [this, Int.mul_ediv_cancel _ (by omega)]
  · rw [Int.emod_eq_zero_of_dvd]
    exact Int.dvd_neg.2 ⟨_, e2⟩
theorem neg_div1 (X d : Nat) (hd : 0 < d) (h : 0 < X % d) : (-(X : Int)) / d = -((X / d : Nat) : Int) - 1 ∧ (-(X : Int)) % d = d - ((X % d : Nat) : Int) := by
  have e := Nat.div_add_mod X d
  have hl := Nat.mod_lt X hd
  have e2 : (X : Int) = (d : Int) * ((X / d : Nat) : Int) + ((X % d : Nat) : Int) := by rw [← Int.natCast_mul]; omega
  have e3 : -(X : Int) = (d - ((X % d : Nat) : Int)) + (-((X / d : Nat) : Int) - 1) * d := by
    rw [Int.sub_mul, Int.neg_mul, Int.mul_comm ((X / d : Nat) : Int)]; omega
  constructor
  · rw [e3, Int.add_mul_ediv_right _ _ (by omega), Int.ediv_eq_zero_of_lt (by omega) (by omega)]; omega
  · rw [e3, Int.add_mul_emod_self_right, Int.emod_eq_of_lt (by omega) (by omega)]

theorem wrap64_of {n : Int} (h1 : -9223372036854775808 ≤ n) (h2 : n < 9223372036854775808) : wrap64 n = n := by unfold wrap64; omega
theorem div_any (z : Int) (d : Nat) (w : World) (h1 : -170141183460469231731687303715884105728 < z) (h2 : z < 170141183460469231731687303715884105728) (d1 : 1 ≤ d) (d2 : d < 9223372036854775808) :
    Calls Try.prog 39 #[I z, .int .i64 (d : Int)] w fun e w' => e = .returned (.tuple #[I (z / d), .int .i64 (z % d), .bool true]) ∧ Ext w w' := by
  have ed : IntKind.u64.wrap (d : Int) = d := u64_nat (by omega)
  have core : ∀ X : Nat, X < 170141183460469231731687303715884105728 → ∀ W, Calls Try.prog 55 #[.int .u64 ((X / 18446744073709551616 : Nat) % (d : Int)), .int .u64 ((X % 18446744073709551616 : Nat) : Int), .int .u64 d] W fun e w' => e = .returned (.tuple #[.int .u64 (lo ((X / d : Nat) : Int)), .int .u64 ((X % d : Nat) : Int)]) ∧ ∃ n, w' = W.drewN n := by
    intro X hX W
    have := div64_any (X / 18446744073709551616 % d) (X % 18446744073709551616) d W (Nat.mod_lt _ (by omega)) (by omega) (by omega)
    rw [← (nat_parts X d (by omega)).2.1, ← (hi_div X d (by omega)).2] at this
    exact this
  have quot : ∀ X : Nat, X < 170141183460469231731687303715884105728 → IntKind.u64.wrap (((X / 18446744073709551616 : Nat) : Int).tdiv d) = hi ((X / d : Nat) : Int) ∧ wrap64 (hi ((X / d : Nat) : Int)) = hi ((X / d : Nat) : Int) := by
    intro X hX
    have e := (hi_div X d (by omega)).1
    have hle : X / 18446744073709551616 / d ≤ X / 18446744073709551616 := Nat.div_le_self _ _
    rw [e, Int.tdiv_eq_ediv_of_nonneg (by omega), ← Int.natCast_ediv]
    generalize X / 18446744073709551616 / d = k at hle
    exact ⟨u64_nat (by omega), wrap64_of (by omega) (by omega)⟩
  by_cases hz : 0 ≤ z
  · obtain ⟨X, rfl⟩ := Int.eq_ofNat_of_zero_le hz
    have hX : X < 170141183460469231731687303715884105728 := by omega
    obtain ⟨q1, q2⟩ := quot X hX
    have hr := Nat.mod_lt X (show 0 < d by omega)
    have key := div_up (hi (X : Int)) (lo (X : Int)) d d _ _ _ ((X % d : Nat) : Int) _ ((X % d : Nat) : Int) w (by simp; omega) (by rw [hi_nat]; simp; omega) (by rw [hi_nat]; simp only [ge_iff_le, decide_eq_true_eq]; exact Int.natCast_nonneg _) ed (by rw [hi_nat]; exact u64_nat (by omega)) (by omega)
      (by rw [hi_nat]; exact q1) rfl (by rw [hi_nat]; omega) (by omega) (by rw [hi_nat, lo_nat]; exact core X hX) q2 (by rw [IntKind.wrap_i64]; omega)
    exact key
  · obtain ⟨X, hX⟩ : ∃ X : Nat, z = -(X : Int) := ⟨z.natAbs, by omega⟩
    subst hX
    have hX : X < 170141183460469231731687303715884105728 := by omega
    have hX0 : 0 < X := by omega
    obtain ⟨q1, q2⟩ := quot X hX
    have hneg : hi (-(X : Int)) < 0 := by unfold hi; omega
    have hle : X / d ≤ X := Nat.div_le_self _ _
    have t1 := fun W => turned_any (-(X : Int)) W h1 h2
    rw [Int.neg_neg] at t1
    have t2 := fun W => turned_any ((X / d : Nat) : Int) W (by generalize X / d = k at hle; omega) (by generalize X / d = k at hle; omega)
    rcases Nat.eq_zero_or_pos (X % d) with h0 | h0
    · obtain ⟨g1, g2⟩ := neg_div X d (by omega) h0
      rw [g1, g2]
      have c := core X hX
      rw [h0] at c
      exact div_down0 (hi (-(X : Int))) (lo (-(X : Int))) d d (hi (X : Int)) (lo (X : Int)) _ _ _ _ _ _ w (by simp; omega) (by simpa using hneg) (by simp; omega) ed (by rw [hi_nat]; exact u64_nat (by omega)) (by omega)
        (by rw [hi_nat]; exact q1) rfl (by rw [hi_nat]; omega) (by omega) t1 (by rw [hi_nat, lo_nat]; exact c) q2 t2
    · obtain ⟨g1, g2⟩ := neg_div1 X d (by omega) h0
      rw [g1, g2]
      have hr := Nat.mod_lt X (show 0 < d by omega)
      have d3 : 2 ≤ d := by
        rcases Nat.lt_or_ge d 2 with h | h
        · obtain rfl : d = 1 := by omega
          rw [Nat.mod_one] at h0; omega
        · exact h
      have hle2 : X / d ≤ X / 2 := Nat.div_le_div_left d3 (by omega)
      exact div_down1 (hi (-(X : Int))) (lo (-(X : Int))) d d (hi (X : Int)) (lo (X : Int)) _ _ _ _ _ _ ((X % d : Nat) : Int) _ _ _ w (by simp; omega) (by simpa using hneg) (by simp; omega) ed (by rw [hi_nat]; exact u64_nat (by omega)) (by omega)
        (by rw [hi_nat]; exact q1) rfl (by rw [hi_nat]; omega) (by omega) t1 (by rw [hi_nat, lo_nat]; exact core X hX) q2 t2 (by simp; omega) (by rw [IntKind.wrap_u64]; omega) (by rw [IntKind.wrap_i64]; omega)
        (fun W => sub_one _ W (by generalize X / d = k at hle hle2; omega) (by generalize X / d = k at hle hle2; omega))
end Go.Proofs.Ytibhfclkdbmmoaa

/- The plain side of the way from one vertex to another: whole numbers, rounded down. No program in sight. -/
set_option linter.unusedVariables false
set_option linter.unusedSimpArgs false
namespace Go.Proofs.Ytibhfclkdbmmoaa
/-- What stands n d-ths on the way from p to q, rounded down. -/
def mid (p q n d : Int) : Int := p + (q - p) * n / d
theorem mid_zero (p q d : Int) : mid p q 0 d = p := by simp [mid]
theorem mid_full (p q d : Int) (hd : 1 ≤ d) : mid p q d d = q := by
  unfold mid
  rw [Int.mul_ediv_cancel _ (by omega)]
  omega
theorem part_low {x n d : Int} (hx : 0 ≤ x) (hn : 0 ≤ n) (hd : 1 ≤ d) : 0 ≤ x * n / d := Int.ediv_nonneg (Int.mul_nonneg hx hn) (by omega)
theorem part_high {x n d : Int} (hx : 0 ≤ x) (hn : n ≤ d) (hd : 1 ≤ d) : x * n / d ≤ x := by
  have h1 : x * n ≤ x * d := Int.mul_le_mul_of_nonneg_left hn hx
  have h2 := Int.ediv_le_ediv (by omega : 0 < d) h1
  rwa [Int.mul_ediv_cancel _ (by omega)] at h2
theorem neg_low {x n d : Int} (hx : x ≤ 0) (hn : n ≤ d) (hd : 1 ≤ d) : x ≤ x * n / d := by
  have h1 : x * d ≤ x * n := Int.mul_le_mul_of_nonpos_left hx hn
  have h2 := Int.ediv_le_ediv (by omega : 0 < d) h1
  rwa [Int.mul_ediv_cancel _ (by omega)] at h2
theorem neg_high {x n d : Int} (hx : x ≤ 0) (hn : 0 ≤ n) (hd : 1 ≤ d) : x * n / d ≤ 0 := by
  have h1 : x * n ≤ 0 := Int.mul_nonpos_of_nonpos_of_nonneg hx hn
  have h2 := Int.ediv_le_ediv (by omega : 0 < d) h1
  simpa using h2
theorem mid_between {p q n d : Int} (hn : 0 ≤ n) (hnd : n ≤ d) (hd : 1 ≤ d) : min p q ≤ mid p q n d ∧ mid p q n d ≤ max p q := by
  unfold mid
  rcases Int.le_total p q with h | h
  · have h1 := part_low (x := q - p) (by omega) hn hd
    have h2 := part_high (x := q - p) (by omega) hnd hd
    omega
  · have h1 := neg_low (x := q - p) (by omega) hnd hd
    have h2 := neg_high (x := q - p) (by omega) hn hd
    omega
theorem mid_turn (p q n d : Int) (hd : 1 ≤ d) : mid q p (d - n) d = mid p q n d := by
  unfold mid
  have e : (p - q) * (d - n) = (q - p) * n + (p - q) * d := by
    rw [Int.mul_sub, Int.sub_mul p q n, Int.sub_mul q p n]; omega
  rw [e, Int.add_mul_ediv_right _ _ (by omega)]
  omega
theorem mid_ratio {p q n d n' d' : Int} (hd : 1 ≤ d) (hd' : 1 ≤ d') (h : n * d' = n' * d) : mid p q n d = mid p q n' d' := by
  unfold mid
  have e1 : (q - p) * n / d = (q - p) * n * d' / (d * d') := (Int.mul_ediv_mul_of_pos_left _ _ (by omega)).symm
  have e2 : (q - p) * n' / d' = (q - p) * n' * d / (d' * d) := (Int.mul_ediv_mul_of_pos_left _ _ (by omega)).symm
  rw [e1, e2, Int.mul_assoc, Int.mul_assoc, h, Int.mul_comm d d']
end Go.Proofs.Ytibhfclkdbmmoaa

/- Proof text: side.mid. By an AI agent. No condition beyond what each theorem states. -/
set_option linter.unusedVariables false
set_option linter.unusedSimpArgs false
namespace Go.Proofs.Ytibhfclkdbmmoaa
open Go.RowKit

set_option maxRecDepth 100000 in
set_option maxHeartbeats 1000000 in
theorem mid_cells (p q n d x a b c f g y r r' : Int) (w : World) (e0 : IntKind.i64.wrap (q - p) = x) (e1 : IntKind.i64.wrap (p + y) = r)
    (c1 : ∀ W, Calls Try.prog 40 #[.int .i64 x, .int .i64 n] W fun e w' => e = .returned (.agg #[.int .i64 a, .int .u64 b]) ∧ Ext W w')
    (c2 : ∀ W, Calls Try.prog 39 #[.agg #[.int .i64 a, .int .u64 b], .int .i64 d] W fun e w' => e = .returned (.tuple #[.agg #[.int .i64 f, .int .u64 g], .int .i64 r', .bool true]) ∧ Ext W w')
    (c3 : ∀ W, Calls Try.prog 41 #[.agg #[.int .i64 f, .int .u64 g]] W fun e w' => e = .returned (.tuple #[.int .i64 y, .bool true]) ∧ Ext W w') :
    Calls Try.prog 23 #[.int .i64 p, .int .i64 q, .int .i64 n, .int .i64 d] w fun e w' => e = .returned (.int .i64 r) ∧ Ext w w' := by
  have C1 := Lib.hid c1; clear c1
  have C2 := Lib.hid c2; clear c2
  have C3 := Lib.hid c3; clear c3
  go_enter Try.func23, Try.ntmps23
  go_wp2_with fail
  refine (C1.out _).mono ?_
  rintro e w1 ⟨rfl, hE⟩
  obtain ⟨x1, rfl⟩ := Later.mk' hE
  clear hE
  go_wp2_with fail
  refine (C2.out _).mono ?_
  rintro e w1 ⟨rfl, hE⟩
  obtain ⟨x2, rfl⟩ := Later.mk' hE
  clear hE
  go_wp2_with fail
  refine (C3.out _).mono ?_
  rintro e w1 ⟨rfl, hE⟩
  obtain ⟨x3, rfl⟩ := Later.mk' hE
  clear hE
  go_wp2_with fail
  go_ret
  exact ⟨rfl, by (repeat (first | with_reducible exact Ext.refl _ | with_reducible assumption | with_reducible refine Ext.alloc ?_ _ | with_reducible refine Ext.drew ?_ | with_reducible refine Ext.drewN ?_ _ | with_reducible refine Ext.later ?_ _ | (with_reducible refine Ext.setCell ?_ _ ?hp; case hp => first | (simp; done) | (simp; omega) | omega)))⟩

/-- A difference's part, in the bounds of an int. -/
theorem mid_any (p q n : Int) (d : Nat) (w : World) (p1 : -68719476736 ≤ p) (p2 : p ≤ 68719476736) (q1 : -68719476736 ≤ q) (q2 : q ≤ 68719476736) (n0 : 0 ≤ n) (nd : n ≤ d) (d1 : 1 ≤ d) (d2 : d < 9223372036854775808) :
    Calls Try.prog 23 #[.int .i64 p, .int .i64 q, .int .i64 n, .int .i64 (d : Int)] w fun e w' => e = .returned (.int .i64 (mid p q n d)) ∧ Ext w w' := by
  have hm := mid_between (p := p) (q := q) n0 nd (by omega : (1 : Int) ≤ d)
  unfold mid at hm ⊢
  have b1 : (q - p) * n ≤ 137438953472 * 9223372036854775808 := by
    rcases Int.le_total 0 (q - p) with h | h
    · exact Int.mul_le_mul (by omega) (by omega) n0 (by omega)
    · have := Int.mul_nonpos_of_nonpos_of_nonneg h n0; omega
  have b2 : -(137438953472 * 9223372036854775808) ≤ (q - p) * n := by
    rcases Int.le_total 0 (q - p) with h | h
    · have := Int.mul_nonneg h n0; omega
    · have := Int.mul_le_mul (a := p - q) (b := n) (c := 137438953472) (d := 9223372036854775808) (by omega) (by omega) n0 (by omega)
      have e : (q - p) * n = -((p - q) * n) := by rw [← Int.neg_mul]; congr 1; omega
      omega
  generalize hN : (q - p) * n = N at *
  exact mid_cells p q n d (q - p) _ _ 0 _ _ (N / d) _ _ w (by rw [IntKind.wrap_i64]; omega) (by rw [IntKind.wrap_i64]; generalize N / (d : Int) = k at hm ⊢; omega)
    (fun W => by have := mul_any (q - p) n W (by omega) (by omega) (by omega) (by omega); rw [hN] at this; exact this)
    (fun W => div_any N d W (by omega) (by omega) d1 d2)
    (fun W => small_any (N / d) W (by generalize N / (d : Int) = k at hm ⊢; omega) (by generalize N / (d : Int) = k at hm ⊢; omega))
end Go.Proofs.Ytibhfclkdbmmoaa
