/- Proof text: numbers of 128 bits (package xint), on: the product. By an AI agent. No condition beyond what each theorem states. -/
import Derived.Test.YtibhfclkdbmmoaaXB
import Derived.Shelf.Bits.Mul64
import Derived.Shelf.Small.Bits
set_option linter.unusedVariables false
set_option linter.unusedSimpArgs false
namespace Go.Proofs.Ytibhfclkdbmmoaa
open Go.RowKit
def lays264_ren : Go.Shelf.Ren := ⟨fun x => match x with | 264 => 57 | n => n, fun x => match x with | 46 => 97 | 53 => 67 | n => n, fun n => n⟩
theorem lays264 : Lays.n264 Try.prog lays264_ren := {
  mixed := by kernel_rfl
  f264 := by kernel_rfl
  t46 := by kernel_rfl
  a46 := fun w => by kernel_rfl
  z46 := fun w => by kernel_rfl
  v46 := fun w => by kernel_rfl
  t53 := by kernel_rfl
  a53 := fun w => by kernel_rfl
  z53 := fun w => by kernel_rfl
  v53 := fun w => by kernel_rfl }
def lays134_ren : Go.Shelf.Ren := ⟨fun x => match x with | 129 => 71 | 134 => 70 | n => n, fun x => match x with | 3 => 3 | 4 => 4 | 5 => 5 | 9 => 9 | 46 => 97 | 53 => 67 | n => n, fun n => n⟩
theorem lays134 : Lays.n134 Try.prog lays134_ren := {
  mixed := by kernel_rfl
  f129 := by kernel_rfl
  f134 := by kernel_rfl
  t3 := by kernel_rfl
  a3 := fun w => by kernel_rfl
  z3 := fun w => by kernel_rfl
  v3 := fun w => by kernel_rfl
  t4 := by kernel_rfl
  a4 := fun w => by kernel_rfl
  z4 := fun w => by kernel_rfl
  v4 := fun w => by kernel_rfl
  t5 := by kernel_rfl
  a5 := fun w => by kernel_rfl
  z5 := fun w => by kernel_rfl
  v5 := fun w => by kernel_rfl
  t9 := by kernel_rfl
  a9 := fun w => by kernel_rfl
  z9 := fun w => by kernel_rfl
  v9 := fun w => by kernel_rfl
  t46 := by kernel_rfl
  a46 := fun w => by kernel_rfl
  z46 := fun w => by kernel_rfl
  v46 := fun w => by kernel_rfl
  t53 := by kernel_rfl
  a53 := fun w => by kernel_rfl
  z53 := fun w => by kernel_rfl
  v53 := fun w => by kernel_rfl }
theorem mul64_any (x y : Nat) (hx : x < 18446744073709551616) (hy : y < 18446744073709551616) (w : World) :
    Calls Try.prog 57 #[.int .u64 x, .int .u64 y] w fun e w' => e = .returned (.tuple #[.int .u64 (hi ((x : Int) * y)), .int .u64 (lo ((x : Int) * y))]) ∧ w' = w := by
  have h := Any.bits_Mul64 lays264 x y hx hy w
  have e1 : hi ((x : Int) * y) = ((x * y / 18446744073709551616 : Nat) : Int) := by unfold hi; rw [← Int.natCast_mul]; omega
  have e2 : lo ((x : Int) * y) = ((x * y % 18446744073709551616 : Nat) : Int) := by unfold lo; rw [← Int.natCast_mul]; omega
  rw [e1, e2]
  exact h

theorem two_cells {W : World} {b : Nat} {u0 u1 : Value} (k0 : W.cell? ⟨b, 0, none⟩ = some u0) (k1 : W.cell? ⟨b, 1, none⟩ = some u1) (v0 v1 : Value) :
    ((W.setCell ⟨b, 0, none⟩ v0).setCell ⟨b, 1, none⟩ v1).cell? ⟨b, 0, none⟩ = some v0 ∧ ((W.setCell ⟨b, 0, none⟩ v0).setCell ⟨b, 1, none⟩ v1).cell? ⟨b, 1, none⟩ = some v1 := by
  constructor
  · rw [World.cell?_setCell_other, World.cell?_setCell_same (h := k0)]
    simp
  · rw [World.cell?_setCell_same (u := u1)]
    rw [World.cell?_setCell_other, k1]
    simp
theorem signed_any (n : Int) (m : Bool) (w : World) (h0 : 0 ≤ n) (h1 : n < 170141183460469231731687303715884105728) :
    Calls Try.prog 59 #[.int .u64 (hi n), .int .u64 (lo n), .bool m] w fun e w' => e = .returned (.tuple #[I (if m then -n else n), .bool true]) ∧ Ext w w' := by
  have g1 := hi_lt h1
  have g0 : 0 ≤ hi n := by unfold hi; omega
  have hw : IntKind.i64.wrap (hi n) = hi n := by rw [IntKind.wrap_i64]; omega
  cases m
  · exact signed_up (hi n) (lo n) (hi n) w hw (by simpa using g0)
  · by_cases hn : n = 0
    · subst hn
      exact signed_zero w (fun W => turned_any 0 W (by omega) (by omega))
    · have hneg : hi (-n) < 0 := by unfold hi; omega
      exact signed_down (hi n) (lo n) (hi n) (hi (-n)) (lo (-n)) w hw (fun W => turned_any n W (by omega) h1) (by simpa using hneg)

set_option maxHeartbeats 400000 in
theorem mul_cells_tt (a b h l : Int) (w : World) (a1 : -9223372036854775808 ≤ a) (a2 : a < 9223372036854775808) (d1 : -9223372036854775808 ≤ b) (d2 : b < 9223372036854775808) (e1 : decide (a < 0) = true) (e2 : decide (b < 0) = true)
    (c3 : ∀ W, Calls Try.prog 57 #[.int .u64 a.natAbs, .int .u64 b.natAbs] W fun e w' => e = .returned (.tuple #[.int .u64 h, .int .u64 l]) ∧ w' = W)
    (h' l' : Int) (c4 : ∀ W, Calls Try.prog 59 #[.int .u64 h, .int .u64 l, .bool false] W fun e w' => e = .returned (.tuple #[.agg #[.int .i64 h', .int .u64 l'], .bool true]) ∧ Ext W w') :
    Calls Try.prog 40 #[.int .i64 a, .int .i64 b] w fun e w' => e = .returned (.agg #[.int .i64 h', .int .u64 l']) ∧ Ext w w' := by
  have C1 := Lib.hid (fun W => bare_any a W a1 a2)
  have C2 := Lib.hid (fun W => bare_any b W d1 d2)
  have C3 := Lib.hid c3; clear c3
  have C4 := Lib.hid c4; clear c4
  clear a1 a2 d1 d2
  go_enter Try.func40, Try.ntmps40
  go_wp2_with (go_at_call 58; refine (C1.out _).mono ?_; rintro e w1 ⟨rfl, rfl⟩; clear C1)
  refine (C2.out _).mono ?_
  rintro e w1 ⟨rfl, rfl⟩
  go_wp2_with (first | (go_at_call 57; refine (C3.out _).mono ?_; rintro e w1 ⟨rfl, rfl⟩) | (go_at_call 59; refine (C4.out _).mono ?_; rintro e w1 ⟨rfl, hE⟩; obtain ⟨x1, rfl⟩ := Later.mk' hE; clear hE))
  have k0 : (x1.w.alloc (Obj.cells #[.int .i64 h', .int .u64 l'] 69)).cell? ⟨w.heap.size, 0, none⟩ = some (.int .i64 0) := by rw [alloc_cell _ _ _ (by rw [x1.cell _ _ (by simp)]; simp), x1.cell _ _ (by simp)]; simp
  have k1 : (x1.w.alloc (Obj.cells #[.int .i64 h', .int .u64 l'] 69)).cell? ⟨w.heap.size, 1, none⟩ = some (.int .u64 0) := by rw [alloc_cell _ _ _ (by rw [x1.cell _ _ (by simp)]; simp), x1.cell _ _ (by simp)]; simp
  obtain ⟨q0, q1⟩ := two_cells k0 k1 (.int .i64 h') (.int .u64 l')
  (try simp only [Exit.inBlock, Exit.then])
  refine bodyPost_ret (v := .agg #[.int .i64 h', .int .u64 l']) (by simp [results, Try.results40, q0, q1, go_sem]) rfl ?_
  exact ⟨rfl, by (repeat (first | with_reducible exact Ext.refl _ | with_reducible assumption | with_reducible refine Ext.alloc ?_ _ | with_reducible refine Ext.drew ?_ | with_reducible refine Ext.drewN ?_ _ | with_reducible refine Ext.later ?_ _ | (with_reducible refine Ext.setCell ?_ _ ?hp; case hp => first | (simp; done) | (simp; omega) | omega)))⟩
set_option maxHeartbeats 400000 in
theorem mul_cells_tf (a b h l : Int) (w : World) (a1 : -9223372036854775808 ≤ a) (a2 : a < 9223372036854775808) (d1 : -9223372036854775808 ≤ b) (d2 : b < 9223372036854775808) (e1 : decide (a < 0) = true) (e2 : decide (b < 0) = false)
    (c3 : ∀ W, Calls Try.prog 57 #[.int .u64 a.natAbs, .int .u64 b.natAbs] W fun e w' => e = .returned (.tuple #[.int .u64 h, .int .u64 l]) ∧ w' = W)
    (h' l' : Int) (c4 : ∀ W, Calls Try.prog 59 #[.int .u64 h, .int .u64 l, .bool true] W fun e w' => e = .returned (.tuple #[.agg #[.int .i64 h', .int .u64 l'], .bool true]) ∧ Ext W w') :
    Calls Try.prog 40 #[.int .i64 a, .int .i64 b] w fun e w' => e = .returned (.agg #[.int .i64 h', .int .u64 l']) ∧ Ext w w' := by
  have C1 := Lib.hid (fun W => bare_any a W a1 a2)
  have C2 := Lib.hid (fun W => bare_any b W d1 d2)
  have C3 := Lib.hid c3; clear c3
  have C4 := Lib.hid c4; clear c4
  clear a1 a2 d1 d2
  go_enter Try.func40, Try.ntmps40
  go_wp2_with (go_at_call 58; refine (C1.out _).mono ?_; rintro e w1 ⟨rfl, rfl⟩; clear C1)
  refine (C2.out _).mono ?_
  rintro e w1 ⟨rfl, rfl⟩
  go_wp2_with (first | (go_at_call 57; refine (C3.out _).mono ?_; rintro e w1 ⟨rfl, rfl⟩) | (go_at_call 59; refine (C4.out _).mono ?_; rintro e w1 ⟨rfl, hE⟩; obtain ⟨x1, rfl⟩ := Later.mk' hE; clear hE))
  have k0 : (x1.w.alloc (Obj.cells #[.int .i64 h', .int .u64 l'] 69)).cell? ⟨w.heap.size, 0, none⟩ = some (.int .i64 0) := by rw [alloc_cell _ _ _ (by rw [x1.cell _ _ (by simp)]; simp), x1.cell _ _ (by simp)]; simp
  have k1 : (x1.w.alloc (Obj.cells #[.int .i64 h', .int .u64 l'] 69)).cell? ⟨w.heap.size, 1, none⟩ = some (.int .u64 0) := by rw [alloc_cell _ _ _ (by rw [x1.cell _ _ (by simp)]; simp), x1.cell _ _ (by simp)]; simp
  obtain ⟨q0, q1⟩ := two_cells k0 k1 (.int .i64 h') (.int .u64 l')
  (try simp only [Exit.inBlock, Exit.then])
  refine bodyPost_ret (v := .agg #[.int .i64 h', .int .u64 l']) (by simp [results, Try.results40, q0, q1, go_sem]) rfl ?_
  exact ⟨rfl, by (repeat (first | with_reducible exact Ext.refl _ | with_reducible assumption | with_reducible refine Ext.alloc ?_ _ | with_reducible refine Ext.drew ?_ | with_reducible refine Ext.drewN ?_ _ | with_reducible refine Ext.later ?_ _ | (with_reducible refine Ext.setCell ?_ _ ?hp; case hp => first | (simp; done) | (simp; omega) | omega)))⟩
set_option maxHeartbeats 400000 in
theorem mul_cells_ft (a b h l : Int) (w : World) (a1 : -9223372036854775808 ≤ a) (a2 : a < 9223372036854775808) (d1 : -9223372036854775808 ≤ b) (d2 : b < 9223372036854775808) (e1 : decide (a < 0) = false) (e2 : decide (b < 0) = true)
    (c3 : ∀ W, Calls Try.prog 57 #[.int .u64 a.natAbs, .int .u64 b.natAbs] W fun e w' => e = .returned (.tuple #[.int .u64 h, .int .u64 l]) ∧ w' = W)
    (h' l' : Int) (c4 : ∀ W, Calls Try.prog 59 #[.int .u64 h, .int .u64 l, .bool true] W fun e w' => e = .returned (.tuple #[.agg #[.int .i64 h', .int .u64 l'], .bool true]) ∧ Ext W w') :
    Calls Try.prog 40 #[.int .i64 a, .int .i64 b] w fun e w' => e = .returned (.agg #[.int .i64 h', .int .u64 l']) ∧ Ext w w' := by
  have C1 := Lib.hid (fun W => bare_any a W a1 a2)
  have C2 := Lib.hid (fun W => bare_any b W d1 d2)
  have C3 := Lib.hid c3; clear c3
  have C4 := Lib.hid c4; clear c4
  clear a1 a2 d1 d2
  go_enter Try.func40, Try.ntmps40
  go_wp2_with (go_at_call 58; refine (C1.out _).mono ?_; rintro e w1 ⟨rfl, rfl⟩; clear C1)
  refine (C2.out _).mono ?_
  rintro e w1 ⟨rfl, rfl⟩
  go_wp2_with (first | (go_at_call 57; refine (C3.out _).mono ?_; rintro e w1 ⟨rfl, rfl⟩) | (go_at_call 59; refine (C4.out _).mono ?_; rintro e w1 ⟨rfl, hE⟩; obtain ⟨x1, rfl⟩ := Later.mk' hE; clear hE))
  have k0 : (x1.w.alloc (Obj.cells #[.int .i64 h', .int .u64 l'] 69)).cell? ⟨w.heap.size, 0, none⟩ = some (.int .i64 0) := by rw [alloc_cell _ _ _ (by rw [x1.cell _ _ (by simp)]; simp), x1.cell _ _ (by simp)]; simp
  have k1 : (x1.w.alloc (Obj.cells #[.int .i64 h', .int .u64 l'] 69)).cell? ⟨w.heap.size, 1, none⟩ = some (.int .u64 0) := by rw [alloc_cell _ _ _ (by rw [x1.cell _ _ (by simp)]; simp), x1.cell _ _ (by simp)]; simp
  obtain ⟨q0, q1⟩ := two_cells k0 k1 (.int .i64 h') (.int .u64 l')
  (try simp only [Exit.inBlock, Exit.then])
  refine bodyPost_ret (v := .agg #[.int .i64 h', .int .u64 l']) (by simp [results, Try.results40, q0, q1, go_sem]) rfl ?_
  exact ⟨rfl, by (repeat (first | with_reducible exact Ext.refl _ | with_reducible assumption | with_reducible refine Ext.alloc ?_ _ | with_reducible refine Ext.drew ?_ | with_reducible refine Ext.drewN ?_ _ | with_reducible refine Ext.later ?_ _ | (with_reducible refine Ext.setCell ?_ _ ?hp; case hp => first | (simp; done) | (simp; omega) | omega)))⟩
set_option maxHeartbeats 400000 in
theorem mul_cells_ff (a b h l : Int) (w : World) (a1 : -9223372036854775808 ≤ a) (a2 : a < 9223372036854775808) (d1 : -9223372036854775808 ≤ b) (d2 : b < 9223372036854775808) (e1 : decide (a < 0) = false) (e2 : decide (b < 0) = false)
    (c3 : ∀ W, Calls Try.prog 57 #[.int .u64 a.natAbs, .int .u64 b.natAbs] W fun e w' => e = .returned (.tuple #[.int .u64 h, .int .u64 l]) ∧ w' = W)
    (h' l' : Int) (c4 : ∀ W, Calls Try.prog 59 #[.int .u64 h, .int .u64 l, .bool false] W fun e w' => e = .returned (.tuple #[.agg #[.int .i64 h', .int .u64 l'], .bool true]) ∧ Ext W w') :
    Calls Try.prog 40 #[.int .i64 a, .int .i64 b] w fun e w' => e = .returned (.agg #[.int .i64 h', .int .u64 l']) ∧ Ext w w' := by
  have C1 := Lib.hid (fun W => bare_any a W a1 a2)
  have C2 := Lib.hid (fun W => bare_any b W d1 d2)
  have C3 := Lib.hid c3; clear c3
  have C4 := Lib.hid c4; clear c4
  clear a1 a2 d1 d2
  go_enter Try.func40, Try.ntmps40
  go_wp2_with (go_at_call 58; refine (C1.out _).mono ?_; rintro e w1 ⟨rfl, rfl⟩; clear C1)
  refine (C2.out _).mono ?_
  rintro e w1 ⟨rfl, rfl⟩
  go_wp2_with (first | (go_at_call 57; refine (C3.out _).mono ?_; rintro e w1 ⟨rfl, rfl⟩) | (go_at_call 59; refine (C4.out _).mono ?_; rintro e w1 ⟨rfl, hE⟩; obtain ⟨x1, rfl⟩ := Later.mk' hE; clear hE))
  have k0 : (x1.w.alloc (Obj.cells #[.int .i64 h', .int .u64 l'] 69)).cell? ⟨w.heap.size, 0, none⟩ = some (.int .i64 0) := by rw [alloc_cell _ _ _ (by rw [x1.cell _ _ (by simp)]; simp), x1.cell _ _ (by simp)]; simp
  have k1 : (x1.w.alloc (Obj.cells #[.int .i64 h', .int .u64 l'] 69)).cell? ⟨w.heap.size, 1, none⟩ = some (.int .u64 0) := by rw [alloc_cell _ _ _ (by rw [x1.cell _ _ (by simp)]; simp), x1.cell _ _ (by simp)]; simp
  obtain ⟨q0, q1⟩ := two_cells k0 k1 (.int .i64 h') (.int .u64 l')
  (try simp only [Exit.inBlock, Exit.then])
  refine bodyPost_ret (v := .agg #[.int .i64 h', .int .u64 l']) (by simp [results, Try.results40, q0, q1, go_sem]) rfl ?_
  exact ⟨rfl, by (repeat (first | with_reducible exact Ext.refl _ | with_reducible assumption | with_reducible refine Ext.alloc ?_ _ | with_reducible refine Ext.drew ?_ | with_reducible refine Ext.drewN ?_ _ | with_reducible refine Ext.later ?_ _ | (with_reducible refine Ext.setCell ?_ _ ?hp; case hp => first | (simp; done) | (simp; omega) | omega)))⟩

theorem mul_any (a b : Int) (w : World) (a1 : -9223372036854775808 ≤ a) (a2 : a < 9223372036854775808) (d1 : -9223372036854775808 ≤ b) (d2 : b < 9223372036854775808) :
    Calls Try.prog 40 #[.int .i64 a, .int .i64 b] w fun e w' => e = .returned (I (a * b)) ∧ Ext w w' := by
  have c3 := fun W => mul64_any a.natAbs b.natAbs (by omega) (by omega) W
  have hN : (a.natAbs : Int) * b.natAbs ≤ 9223372036854775808 * 9223372036854775808 := by
    have := Nat.mul_le_mul (show a.natAbs ≤ 9223372036854775808 by omega) (show b.natAbs ≤ 9223372036854775808 by omega)
    rw [← Int.natCast_mul]
    generalize a.natAbs * b.natAbs = N at this ⊢
    omega
  have hN0 : (0 : Int) ≤ (a.natAbs : Int) * b.natAbs := Int.mul_nonneg (by omega) (by omega)
  have c4 := fun m W => signed_any ((a.natAbs : Int) * b.natAbs) m W hN0 (by omega)
  by_cases ha : a < 0 <;> by_cases hb : b < 0
  · have e : (a.natAbs : Int) * b.natAbs = a * b := by
      rw [show (a.natAbs : Int) = -a by omega, show (b.natAbs : Int) = -b by omega, Int.neg_mul_neg]
    have k := c4 false
    rw [show (if (false : Bool) = true then -((a.natAbs : Int) * b.natAbs) else (a.natAbs : Int) * b.natAbs) = a * b from e] at k
    exact mul_cells_tt a b _ _ w a1 a2 d1 d2 (by simpa using ha) (by simpa using hb) c3 _ _ k
  · have e : -((a.natAbs : Int) * b.natAbs) = a * b := by
      rw [show (a.natAbs : Int) = -a by omega, show (b.natAbs : Int) = b by omega, Int.neg_mul, Int.neg_neg]
    have k := c4 true
    rw [show (if (true : Bool) = true then -((a.natAbs : Int) * b.natAbs) else (a.natAbs : Int) * b.natAbs) = a * b from e] at k
    exact mul_cells_tf a b _ _ w a1 a2 d1 d2 (by simpa using ha) (by simpa using hb) c3 _ _ k
  · have e : -((a.natAbs : Int) * b.natAbs) = a * b := by
      rw [show (a.natAbs : Int) = a by omega, show (b.natAbs : Int) = -b by omega, Int.mul_neg, Int.neg_neg]
    have k := c4 true
    rw [show (if (true : Bool) = true then -((a.natAbs : Int) * b.natAbs) else (a.natAbs : Int) * b.natAbs) = a * b from e] at k
    exact mul_cells_ft a b _ _ w a1 a2 d1 d2 (by simpa using ha) (by simpa using hb) c3 _ _ k
  · have e : (a.natAbs : Int) * b.natAbs = a * b := by
      rw [show (a.natAbs : Int) = a by omega, show (b.natAbs : Int) = b by omega]
    have k := c4 false
    rw [show (if (false : Bool) = true then -((a.natAbs : Int) * b.natAbs) else (a.natAbs : Int) * b.natAbs) = a * b from e] at k
    exact mul_cells_ff a b _ _ w a1 a2 d1 d2 (by simpa using ha) (by simpa using hb) c3 _ _ k
end Go.Proofs.Ytibhfclkdbmmoaa
