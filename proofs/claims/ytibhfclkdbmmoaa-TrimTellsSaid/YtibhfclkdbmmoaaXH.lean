/- Proof text: numbers of 128 bits (package xint), on: Div. By an AI agent. No condition beyond what each theorem states. -/
import Derived.Test.YtibhfclkdbmmoaaXG
set_option linter.unusedVariables false
set_option linter.unusedSimpArgs false
namespace Go.Proofs.Ytibhfclkdbmmoaa
open Go.RowKit

set_option maxRecDepth 100000 in
set_option maxHeartbeats 1000000 in
theorem div_up (h l d m hq hr lq r h' r' : Int) (w : World) (e1 : decide (d < 1) = false) (e2 : decide (h < 0) = false) (e3 : decide (h ≥ 0) = true) (e4 : IntKind.u64.wrap d = m) (e5 : IntKind.u64.wrap h = h) (em : m ≠ 0)
    (q1 : IntKind.u64.wrap (h.tdiv m) = hq) (q2 : h % m = hr) (k0 : 0 ≤ h) (k1 : 1 ≤ m)
    (c0 : ∀ W, Calls Try.prog 55 #[.int .u64 hr, .int .u64 l, .int .u64 m] W fun e w' => e = .returned (.tuple #[.int .u64 lq, .int .u64 r]) ∧ ∃ n, w' = W.drewN n)
    (e6 : wrap64 hq = h') (e7 : IntKind.i64.wrap r = r') :
    Calls Try.prog 39 #[.agg #[.int .i64 h, .int .u64 l], .int .i64 d] w fun e w' => e = .returned (.tuple #[.agg #[.int .i64 h', .int .u64 lq], .int .i64 r', .bool true]) ∧ Ext w w' := by
  have C0 := Lib.hid c0; clear c0
  go_enter Try.func39, Try.ntmps39
  go_wp2_with fail
  go_quiet ((go_at_call 55; exact Calls.quiet_of (C0.out _)))
  go_wp2_with fail
  go_returns
  exact ⟨rfl, by (repeat (first | with_reducible exact Ext.refl _ | with_reducible assumption | with_reducible refine Ext.alloc ?_ _ | with_reducible refine Ext.drew ?_ | with_reducible refine Ext.drewN ?_ _ | with_reducible refine Ext.later ?_ _ | (with_reducible refine Ext.setCell ?_ _ ?hp; case hp => first | (simp; done) | (simp; omega) | omega)))⟩

set_option maxRecDepth 100000 in
set_option maxHeartbeats 1000000 in
theorem div_down0 (h l d m xh xl hq hr lq h' h2 l2 : Int) (w : World) (e1 : decide (d < 1) = false) (e2 : decide (h < 0) = true) (e3 : decide (h ≥ 0) = false) (e4 : IntKind.u64.wrap d = m) (e5 : IntKind.u64.wrap xh = xh) (em : m ≠ 0)
    (q1 : IntKind.u64.wrap (xh.tdiv m) = hq) (q2 : xh % m = hr) (k0 : 0 ≤ xh) (k1 : 1 ≤ m)
    (c1 : ∀ W, Calls Try.prog 54 #[.agg #[.int .i64 h, .int .u64 l]] W fun e w' => e = .returned (.agg #[.int .i64 xh, .int .u64 xl]) ∧ Ext W w')
    (c0 : ∀ W, Calls Try.prog 55 #[.int .u64 hr, .int .u64 xl, .int .u64 m] W fun e w' => e = .returned (.tuple #[.int .u64 lq, .int .u64 0]) ∧ ∃ n, w' = W.drewN n)
    (e6 : wrap64 hq = h')
    (c2 : ∀ W, Calls Try.prog 54 #[.agg #[.int .i64 h', .int .u64 lq]] W fun e w' => e = .returned (.agg #[.int .i64 h2, .int .u64 l2]) ∧ Ext W w') :
    Calls Try.prog 39 #[.agg #[.int .i64 h, .int .u64 l], .int .i64 d] w fun e w' => e = .returned (.tuple #[.agg #[.int .i64 h2, .int .u64 l2], .int .i64 0, .bool true]) ∧ Ext w w' := by
  have C0 := Lib.hid c0; clear c0
  have C1 := Lib.hid c1; clear c1
  have C2 := Lib.hid c2; clear c2
  go_enter Try.func39, Try.ntmps39
  go_wp2_with fail
  refine (C1.out _).mono ?_
  rintro e w1 ⟨rfl, hE⟩
  obtain ⟨x1, rfl⟩ := Later.mk' hE
  clear hE
  obtain ⟨k0, f0⟩ := later_cel x1 (w.heap.size + 1 + 1) 0 (v := .int .i64 h) ⟨by simp [go_sem], by simp [go_sem]⟩
  obtain ⟨k1, f1⟩ := later_cel x1 (w.heap.size + 1 + 1) 1 (v := .int .u64 l) ⟨by simp [go_sem], by simp [go_sem]⟩
  have z0 := x1.le
  simp at z0
  have z1 : w.heap.size < x1.w.heap.size := by omega
  have z2 : w.heap.size + 1 < x1.w.heap.size := by omega
  have z3 : w.heap.size + 1 + 1 < x1.w.heap.size := by omega
  clear z0
  go_wp2_with fail
  go_quiet ((go_at_call 55; exact Calls.quiet_of (C0.out _)))
  go_wp2_with fail
  refine (C2.out _).mono ?_
  rintro e w1 ⟨rfl, hE⟩
  obtain ⟨x2, rfl⟩ := Later.mk' hE
  clear hE
  obtain ⟨k2, f2⟩ := later_cel x2 x1.w.heap.size 0 (v := .int .i64 h') ⟨by simp [go_sem], by simp [go_sem]⟩
  obtain ⟨k3, f3⟩ := later_cel x2 x1.w.heap.size 1 (v := .int .u64 lq) ⟨by simp [go_sem], by simp [go_sem]⟩
  obtain ⟨k4, f4⟩ := later_cel x2 (w.heap.size + 1) 0 (v := .int .i64 0) ⟨by simp [go_sem, z2], by simp [go_sem, z2]⟩
  obtain ⟨k5, f5⟩ := later_cel x2 (w.heap.size + 1) 1 (v := .int .u64 0) ⟨by simp [go_sem, z2], by simp [go_sem, z2]⟩
  have z4 : x1.w.heap.size ≠ w.heap.size + 1 := by omega
  go_wp2_with fail
  obtain ⟨p0, p1⟩ := two_cells (W := (x2.w.setCell ⟨x1.w.heap.size, 0, none⟩ (.int .i64 h2)).setCell ⟨x1.w.heap.size, 1, none⟩ (.int .u64 l2)) (b := w.heap.size + 1) (u0 := .int .i64 0) (u1 := .int .u64 0) (by simp [go_sem, k4, z4]) (by simp [go_sem, k5, z4]) (.int .i64 h2) (.int .u64 l2)
  refine bodyPost_ret (v := .tuple #[.agg #[.int .i64 h2, .int .u64 l2], .int .i64 0, .bool true]) (by simp [results, Try.results39, p0, p1, go_sem]) rfl ⟨rfl, by (repeat (first | with_reducible exact Ext.refl _ | with_reducible assumption | with_reducible refine Ext.alloc ?_ _ | with_reducible refine Ext.drew ?_ | with_reducible refine Ext.drewN ?_ _ | with_reducible refine Ext.later ?_ _ | (with_reducible refine Ext.setCell ?_ _ ?hp; case hp => first | (simp; done) | (simp; omega) | omega)))⟩
set_option maxRecDepth 100000 in
set_option maxHeartbeats 1000000 in
theorem div_down1 (h l d m xh xl hq hr lq h' h2 l2 r h3 l3 r' : Int) (w : World) (e1 : decide (d < 1) = false) (e2 : decide (h < 0) = true) (e3 : decide (h ≥ 0) = false) (e4 : IntKind.u64.wrap d = m) (e5 : IntKind.u64.wrap xh = xh) (em : m ≠ 0)
    (q1 : IntKind.u64.wrap (xh.tdiv m) = hq) (q2 : xh % m = hr) (k0 : 0 ≤ xh) (k1 : 1 ≤ m)
    (c1 : ∀ W, Calls Try.prog 54 #[.agg #[.int .i64 h, .int .u64 l]] W fun e w' => e = .returned (.agg #[.int .i64 xh, .int .u64 xl]) ∧ Ext W w')
    (c0 : ∀ W, Calls Try.prog 55 #[.int .u64 hr, .int .u64 xl, .int .u64 m] W fun e w' => e = .returned (.tuple #[.int .u64 lq, .int .u64 r]) ∧ ∃ n, w' = W.drewN n)
    (e6 : wrap64 hq = h')
    (c2 : ∀ W, Calls Try.prog 54 #[.agg #[.int .i64 h', .int .u64 lq]] W fun e w' => e = .returned (.agg #[.int .i64 h2, .int .u64 l2]) ∧ Ext W w')
    (e7 : (r == 0) = false) (e8 : IntKind.u64.wrap (m - r) = m - r) (e9 : IntKind.i64.wrap (m - r) = r')
    (c3 : ∀ W, Calls Try.prog 56 #[.agg #[.int .i64 h2, .int .u64 l2], .agg #[.int .i64 0, .int .u64 1]] W fun e w' => e = .returned (.tuple #[.agg #[.int .i64 h3, .int .u64 l3], .bool true]) ∧ Ext W w') :
    Calls Try.prog 39 #[.agg #[.int .i64 h, .int .u64 l], .int .i64 d] w fun e w' => e = .returned (.tuple #[.agg #[.int .i64 h3, .int .u64 l3], .int .i64 r', .bool true]) ∧ Ext w w' := by
  have C0 := Lib.hid c0; clear c0
  have C1 := Lib.hid c1; clear c1
  have C2 := Lib.hid c2; clear c2
  have C3 := Lib.hid c3; clear c3
  go_enter Try.func39, Try.ntmps39
  go_wp2_with fail
  refine (C1.out _).mono ?_
  rintro e w1 ⟨rfl, hE⟩
  obtain ⟨x1, rfl⟩ := Later.mk' hE
  clear hE
  obtain ⟨k0, f0⟩ := later_cel x1 (w.heap.size + 1 + 1) 0 (v := .int .i64 h) ⟨by simp [go_sem], by simp [go_sem]⟩
  obtain ⟨k1, f1⟩ := later_cel x1 (w.heap.size + 1 + 1) 1 (v := .int .u64 l) ⟨by simp [go_sem], by simp [go_sem]⟩
  have z0 := x1.le
  simp at z0
  have z1 : w.heap.size < x1.w.heap.size := by omega
  have z2 : w.heap.size + 1 < x1.w.heap.size := by omega
  have z3 : w.heap.size + 1 + 1 < x1.w.heap.size := by omega
  clear z0
  go_wp2_with fail
  go_quiet ((go_at_call 55; exact Calls.quiet_of (C0.out _)))
  go_wp2_with fail
  refine (C2.out _).mono ?_
  rintro e w1 ⟨rfl, hE⟩
  obtain ⟨x2, rfl⟩ := Later.mk' hE
  clear hE
  obtain ⟨k2, f2⟩ := later_cel x2 x1.w.heap.size 0 (v := .int .i64 h') ⟨by simp [go_sem], by simp [go_sem]⟩
  obtain ⟨k3, f3⟩ := later_cel x2 x1.w.heap.size 1 (v := .int .u64 lq) ⟨by simp [go_sem], by simp [go_sem]⟩
  obtain ⟨k4, f4⟩ := later_cel x2 (w.heap.size + 1) 0 (v := .int .i64 0) ⟨by simp [go_sem, z2], by simp [go_sem, z2]⟩
  obtain ⟨k5, f5⟩ := later_cel x2 (w.heap.size + 1) 1 (v := .int .u64 0) ⟨by simp [go_sem, z2], by simp [go_sem, z2]⟩
  have z4 : x1.w.heap.size ≠ w.heap.size + 1 := by omega
  have z5 := x2.le
  simp at z5
  have z6 : x1.w.heap.size < x2.w.heap.size := by omega
  clear z5
  have z7 : w.heap.size + 1 ≠ x1.w.heap.size := by omega
  go_wp2_with fail
  refine (C3.out _).mono ?_
  rintro e w1 ⟨rfl, hE⟩
  obtain ⟨x3, rfl⟩ := Later.mk' hE
  clear hE
  obtain ⟨k6, f6⟩ := later_cel x3 x1.w.heap.size 0 (v := .int .i64 h2) ⟨by simp [go_sem, k2, k3], by simp [go_sem, f2]⟩
  obtain ⟨k7, f7⟩ := later_cel x3 x1.w.heap.size 1 (v := .int .u64 l2) ⟨by simp [go_sem, k2, k3], by simp [go_sem, f3]⟩
  obtain ⟨k8, f8⟩ := later_cel x3 (w.heap.size + 1) 0 (v := .int .i64 0) ⟨by simp [go_sem, k4, z4], by simp [go_sem, f4]⟩
  obtain ⟨k9, f9⟩ := later_cel x3 (w.heap.size + 1) 1 (v := .int .u64 0) ⟨by simp [go_sem, k5, z4], by simp [go_sem, f5]⟩
  go_wp2_with fail
  obtain ⟨p0, p1⟩ := two_cells (W := (x3.w.setCell ⟨x1.w.heap.size, 0, none⟩ (.int .i64 h3)).setCell ⟨x1.w.heap.size, 1, none⟩ (.int .u64 l3)) (b := w.heap.size + 1) (u0 := .int .i64 0) (u1 := .int .u64 0) (by simp [go_sem, k8, z4]) (by simp [go_sem, k9, z4]) (.int .i64 h3) (.int .u64 l3)
  refine bodyPost_ret (v := .tuple #[.agg #[.int .i64 h3, .int .u64 l3], .int .i64 r', .bool true]) (by simp [results, Try.results39, p0, p1, go_sem]) rfl ⟨rfl, by (repeat (first | with_reducible exact Ext.refl _ | with_reducible assumption | with_reducible refine Ext.alloc ?_ _ | with_reducible refine Ext.drew ?_ | with_reducible refine Ext.drewN ?_ _ | with_reducible refine Ext.later ?_ _ | (with_reducible refine Ext.setCell ?_ _ ?hp; case hp => first | (simp; done) | (simp; omega) | omega)))⟩
end Go.Proofs.Ytibhfclkdbmmoaa
