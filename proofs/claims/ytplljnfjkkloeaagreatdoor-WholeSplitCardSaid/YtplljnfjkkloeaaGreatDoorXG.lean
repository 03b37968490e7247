/- Proof text: math/bits.Div64, all of it. By an AI agent. No condition beyond what each theorem states. -/
import Derived.Test.YtplljnfjkkloeaaGreatDoorXD
import Derived.Lib.ItoaNum
set_option linter.unusedVariables false
set_option linter.unusedSimpArgs false
namespace Go.Proofs.YtplljnfjkkloeaaGreatDoor
open Go.RowKit
theorem moved_up {h l S : Nat} (hS : S ≤ 63) (hl : l < 18446744073709551616) :
    (h * 18446744073709551616 + l) * 2 ^ S = (h * 2 ^ S + l / 2 ^ (64 - S)) * 18446744073709551616 + l * 2 ^ S % 18446744073709551616 ∧ l / 2 ^ (64 - S) < 2 ^ S := by
  have e64 : (18446744073709551616 : Nat) = 2 ^ (64 - S) * 2 ^ S := by
    rw [← Nat.pow_add, show 64 - S + S = 64 by omega]
  have hp : 0 < 2 ^ S := Nat.two_pow_pos S
  have hd : l * 2 ^ S / 18446744073709551616 = l / 2 ^ (64 - S) := by
    rw [e64]; exact Nat.mul_div_mul_right _ _ hp
  have e := Nat.div_add_mod (l * 2 ^ S) 18446744073709551616
  rw [hd] at e
  constructor
  · have e1 : (h * 18446744073709551616 + l) * 2 ^ S = h * 2 ^ S * 18446744073709551616 + l * 2 ^ S := by
      rw [Nat.add_mul, Nat.mul_assoc, Nat.mul_comm 18446744073709551616, ← Nat.mul_assoc]
    rw [e1]
    generalize h * 2 ^ S = a at *
    generalize l * 2 ^ S % 18446744073709551616 = b at *
    generalize l / 2 ^ (64 - S) = c at *
    omega
  · rw [Nat.div_lt_iff_lt_mul (Nat.two_pow_pos _), Nat.mul_comm, ← e64]
    exact hl
theorem norm_lt {h y l S : Nat} (hh : h < y) (hS : S ≤ 63) (hl : l < 18446744073709551616) : h * 2 ^ S + l / 2 ^ (64 - S) < y * 2 ^ S := by
  have h1 := (moved_up (h := h) hS hl).2
  have h2 : (h + 1) * 2 ^ S ≤ y * 2 ^ S := Nat.mul_le_mul_right _ hh
  rw [Nat.add_mul, Nat.one_mul] at h2
  omega
theorem sub_digit {u n P v : Nat} (e : P + v = u * 4294967296 + n) (hv : v < 18446744073709551616) :
    IntKind.u64.wrap (IntKind.u64.wrap (IntKind.u64.wrap ((u : Int) * 4294967296) + n) - IntKind.u64.wrap (P : Int)) = v := by
  simp only [IntKind.wrap_u64]
  omega
theorem pow_int (S : Nat) : ((2 : Int) ^ S) = ((2 ^ S : Nat) : Int) := by simp
set_option maxRecDepth 100000 in
theorem div64_high (h l y S : Nat) (w : World) (h0 : 0 < h) (hh : h < y) (hl : l < 18446744073709551616) (hS : S ≤ 63) (hn1 : 9223372036854775808 ≤ y * 2 ^ S) (hn2 : y * 2 ^ S < 18446744073709551616)
    (c0 : ∀ W, Calls Tryz.prog 285 #[.int .u64 y] W fun e w' => e = .returned (.int .i64 (S : Int)) ∧ w' = W) :
    Calls Tryz.prog 259 #[.int .u64 h, .int .u64 l, .int .u64 y] w fun e w' => e = .returned (.tuple #[.int .u64 (((h * 18446744073709551616 + l) / y : Nat) : Int), .int .u64 (((h * 18446744073709551616 + l) % y : Nat) : Int)]) ∧ ∃ n, w' = w.drewN n := by
  obtain ⟨m1, m2⟩ := moved_up (h := h) hS hl
  have m3 := norm_lt hh hS hl
  have hp : 0 < 2 ^ S := Nat.two_pow_pos S
  have hp2 : 2 ^ S ≤ 9223372036854775808 := by
    have := Nat.pow_le_pow_right (show 0 < 2 by omega) hS
    simpa using this
  have g1 := (moved (N := h * 18446744073709551616 + l) (d := y) hp).1
  have g2 := (moved (N := h * 18446744073709551616 + l) (d := y) hp).2
  have hq64 : (h * 18446744073709551616 + l) / y < 18446744073709551616 := digit_lt (by omega) hh hl
  have hr64 : (h * 18446744073709551616 + l) % y < y := Nat.mod_lt _ (by omega)
  have ha : h * 2 ^ S < 18446744073709551616 := by
    have : h * 2 ^ S ≤ y * 2 ^ S := Nat.mul_le_mul_right _ (by omega)
    omega
  obtain ⟨Y, hY⟩ : ∃ Y, y * 2 ^ S = Y := ⟨_, rfl⟩
  obtain ⟨a, hA⟩ : ∃ a, h * 2 ^ S = a := ⟨_, rfl⟩
  obtain ⟨b, hB⟩ : ∃ b, l / 2 ^ (64 - S) = b := ⟨_, rfl⟩
  obtain ⟨t, hT⟩ : ∃ t, l * 2 ^ S % 18446744073709551616 = t := ⟨_, rfl⟩
  have hor : a ||| b = a + b := by
    have := Nat.two_pow_add_eq_or_of_lt (b := b) (i := S) (by omega) h
    rw [Nat.mul_comm, hA] at this
    exact this.symm
  have t64 : t < 18446744073709551616 := by rw [← hT]; exact Nat.mod_lt _ (by omega)
  rw [hA, hB, hT, show (a + b) * 18446744073709551616 + t = ((a + b) * 4294967296 + t / 4294967296) * 4294967296 + t % 4294967296 by omega] at m1
  rw [hA, hB, hY] at m3
  rw [hY] at hn1 hn2 g1 g2
  obtain ⟨d1, d2⟩ := two_digits (un32 := a + b) (un1 := t / 4294967296) (un0 := t % 4294967296) (y := Y) (B := 4294967296) (by omega) (by omega)
  rw [← m1, g1] at d1
  rw [← m1, g2] at d2
  have ey : Y / 4294967296 * 4294967296 + Y % 4294967296 = Y := by omega
  have v1 : ((a + b) * 4294967296 + t / 4294967296) % Y < Y := Nat.mod_lt _ (by omega)
  refine div64_cells (h : Int) l y S Y a b t (Y / 4294967296) (Y % 4294967296) (a + b) (t / 4294967296) (t % 4294967296) (((a + b) * 4294967296 + t / 4294967296) % Y) ((h * 18446744073709551616 + l) / y) ((h * 18446744073709551616 + l) % y) w ?_ ?_ ?_ (by omega) (by omega) (by omega) (by omega) c0 ?_ ?_ ?_ ?_ ?_ ?_ ?_ ?_ ?_ ?_ ?_ ?_ ?_ ?_ ?_ ?_
  · simp; omega
  · simp; omega
  · simp; omega
  · rw [IntKind.wrap_u64]; omega
  · rw [IntKind.wrap_u64]; omega
  · rw [Int.toNat_natCast, pow_int, ← Int.natCast_mul, hY]; exact u64_nat hn2
  · rfl
  · exact Mul64.maskN Y hn2
  · rw [Int.toNat_natCast, pow_int, ← Int.natCast_mul, hA]; exact u64_nat (by omega)
  · rw [show (64 - (S : Int)).toNat = 64 - S by omega, pow_int, ← Int.natCast_ediv, hB]
  · rw [u64_or_nat _ _ (by omega) (by omega), hor]
  · rw [Int.toNat_natCast, pow_int, ← Int.natCast_mul, IntKind.wrap_u64, ← hT]; rfl
  · rfl
  · exact Mul64.maskN t t64
  · omega
  · exact ⟨by omega, by omega, by omega, by omega, by omega⟩
  · exact ⟨by omega, by omega, by omega, by omega, by rw [ey]; exact v1⟩
  · intro q1 hq
    unfold Dn at hq
    rw [ey] at hq
    have e := Nat.div_add_mod ((a + b) * 4294967296 + t / 4294967296) Y
    rw [← hq] at e
    have := sub_digit (P := q1 * Y) (by rw [Nat.mul_comm]; exact e) (Nat.lt_trans v1 hn2)
    rw [Int.natCast_mul] at this
    exact this
  · intro q1 q0 hq hq0
    unfold Dn at hq hq0
    rw [ey] at hq hq0
    rw [← hq, ← hq0] at d1
    have e := Nat.div_add_mod (((a + b) * 4294967296 + t / 4294967296) % Y * 4294967296 + t % 4294967296) Y
    rw [← hq0] at e
    refine ⟨?_, ?_⟩
    · rw [d1] at hq64 ⊢
      simp only [IntKind.wrap_u64]
      omega
    · have r64 := Nat.mod_lt (((a + b) * 4294967296 + t / 4294967296) % Y * 4294967296 + t % 4294967296) (show 0 < Y by omega)
      have := sub_digit (P := q0 * Y) (by rw [Nat.mul_comm]; exact e) (Nat.lt_trans r64 hn2)
      rw [Int.natCast_mul] at this
      rw [this, ← d2, Int.toNat_natCast, pow_int, ← Int.natCast_ediv, Nat.mul_div_cancel _ hp]
theorem div64_any (h l y : Nat) (w : World) (hh : h < y) (hl : l < 18446744073709551616) (hy : y < 18446744073709551616) :
    Calls Tryz.prog 259 #[.int .u64 h, .int .u64 l, .int .u64 y] w fun e w' => e = .returned (.tuple #[.int .u64 (((h * 18446744073709551616 + l) / y : Nat) : Int), .int .u64 (((h * 18446744073709551616 + l) % y : Nat) : Int)]) ∧ ∃ n, w' = w.drewN n := by
  rcases Nat.eq_zero_or_pos h with h0 | h0
  · subst h0
    rw [Nat.zero_mul, Nat.zero_add]
    exact div64_low l y w (by simp; omega) (by simp; omega) (by omega) (by omega) (by omega)
  · have c := fun W => Any.bits_LeadingZeros64 lays134 (y : Int) W (by omega) (by omega)
    rw [Int.toNat_natCast] at c
    obtain ⟨b1, b2, b3⟩ := Lib.bitLenAux_bounds 64 y hy (by omega)
    have b4 : Lib.bitLen y ≤ 64 := Lib.bitLen_le y 64 (by omega) hy
    have b5 : 1 ≤ Lib.bitLen y := b1
    have e : (64 - (Lib.bitLen y : Int)) = ((64 - Lib.bitLen y : Nat) : Int) := by omega
    rw [e] at c
    refine div64_high h l y (64 - Lib.bitLen y) w h0 hh hl (by omega) ?_ ?_ c
    · have := Nat.mul_le_mul_right (2 ^ (64 - Lib.bitLen y)) (show 2 ^ (Lib.bitLen y - 1) ≤ y from b2)
      rw [← Nat.pow_add, show Lib.bitLen y - 1 + (64 - Lib.bitLen y) = 63 by omega] at this
      exact this
    · have := Nat.mul_lt_mul_of_pos_right (show y < 2 ^ Lib.bitLen y from b3) (Nat.two_pow_pos (64 - Lib.bitLen y))
      rw [← Nat.pow_add, show Lib.bitLen y + (64 - Lib.bitLen y) = 64 by omega] at this
      exact this
end Go.Proofs.YtplljnfjkkloeaaGreatDoor
set_option linter.unusedVariables false
set_option linter.unusedSimpArgs false
namespace Go.Proofs.YtplljnfjkkloeaaGreatDoor
open Go.RowKit
set_option maxRecDepth 100000 in
set_option maxHeartbeats 1000000 in
theorem div_up (h l d m hq hr lq r h' r' : Int) (w : World) (e1 : decide (d < 1) = false) (e2 : decide (h < 0) = false) (e3 : decide (h ≥ 0) = true) (e4 : IntKind.u64.wrap d = m) (e5 : IntKind.u64.wrap h = h) (em : m ≠ 0)
    (q1 : IntKind.u64.wrap (h.tdiv m) = hq) (q2 : h % m = hr) (k0 : 0 ≤ h) (k1 : 1 ≤ m)
    (c0 : ∀ W, Calls Tryz.prog 259 #[.int .u64 hr, .int .u64 l, .int .u64 m] W fun e w' => e = .returned (.tuple #[.int .u64 lq, .int .u64 r]) ∧ ∃ n, w' = W.drewN n)
    (e6 : wrap64 hq = h') (e7 : IntKind.i64.wrap r = r') :
    Calls Tryz.prog 216 #[.agg #[.int .i64 h, .int .u64 l], .int .i64 d] w fun e w' => e = .returned (.tuple #[.agg #[.int .i64 h', .int .u64 lq], .int .i64 r', .bool true]) ∧ Ext w w' := by
  have C0 := Lib.hid c0; clear c0
  go_enter Tryz.func216, Tryz.ntmps216
  go_wp2_with fail
  go_quiet ((go_at_call 259; exact Calls.quiet_of (C0.out _)))
  go_wp2_with fail
  go_returns
  exact ⟨rfl, by (repeat (first | with_reducible exact Ext.refl _ | with_reducible assumption | with_reducible refine Ext.alloc ?_ _ | with_reducible refine Ext.drew ?_ | with_reducible refine Ext.drewN ?_ _ | with_reducible refine Ext.later ?_ _ | (with_reducible refine Ext.setCell ?_ _ ?hp; case hp => first | (simp; done) | (simp; omega) | omega)))⟩
set_option maxRecDepth 100000 in
set_option maxHeartbeats 1000000 in
theorem div_down0 (h l d m xh xl hq hr lq h' h2 l2 : Int) (w : World) (e1 : decide (d < 1) = false) (e2 : decide (h < 0) = true) (e3 : decide (h ≥ 0) = false) (e4 : IntKind.u64.wrap d = m) (e5 : IntKind.u64.wrap xh = xh) (em : m ≠ 0)
    (q1 : IntKind.u64.wrap (xh.tdiv m) = hq) (q2 : xh % m = hr) (k0 : 0 ≤ xh) (k1 : 1 ≤ m)
    (c1 : ∀ W, Calls Tryz.prog 258 #[.agg #[.int .i64 h, .int .u64 l]] W fun e w' => e = .returned (.agg #[.int .i64 xh, .int .u64 xl]) ∧ Ext W w')
    (c0 : ∀ W, Calls Tryz.prog 259 #[.int .u64 hr, .int .u64 xl, .int .u64 m] W fun e w' => e = .returned (.tuple #[.int .u64 lq, .int .u64 0]) ∧ ∃ n, w' = W.drewN n)
    (e6 : wrap64 hq = h')
    (c2 : ∀ W, Calls Tryz.prog 258 #[.agg #[.int .i64 h', .int .u64 lq]] W fun e w' => e = .returned (.agg #[.int .i64 h2, .int .u64 l2]) ∧ Ext W w') :
    Calls Tryz.prog 216 #[.agg #[.int .i64 h, .int .u64 l], .int .i64 d] w fun e w' => e = .returned (.tuple #[.agg #[.int .i64 h2, .int .u64 l2], .int .i64 0, .bool true]) ∧ Ext w w' := by
  have C0 := Lib.hid c0; clear c0
  have C1 := Lib.hid c1; clear c1
  have C2 := Lib.hid c2; clear c2
  go_enter Tryz.func216, Tryz.ntmps216
  go_wp2_with fail
  refine (C1.out _).mono ?_
  rintro e w1 ⟨rfl, hE⟩
  obtain ⟨x1, rfl⟩ := Later.mk' hE
  clear hE
  obtain ⟨k0, f0⟩ := later_cel x1 (w.heap.size + 1 + 1) 0 (v := .int .i64 h) ⟨by simp [go_sem], by simp [go_sem]⟩
  obtain ⟨k1, f1⟩ := later_cel x1 (w.heap.size + 1 + 1) 1 (v := .int .u64 l) ⟨by simp [go_sem], by simp [go_sem]⟩
  have z0 := x1.le
  simp at z0
  have z1 : w.heap.size < x1.w.heap.size := by omega
  have z2 : w.heap.size + 1 < x1.w.heap.size := by omega
  have z3 : w.heap.size + 1 + 1 < x1.w.heap.size := by omega
  clear z0
  go_wp2_with fail
  go_quiet ((go_at_call 259; exact Calls.quiet_of (C0.out _)))
  go_wp2_with fail
  refine (C2.out _).mono ?_
  rintro e w1 ⟨rfl, hE⟩
  obtain ⟨x2, rfl⟩ := Later.mk' hE
  clear hE
  obtain ⟨k2, f2⟩ := later_cel x2 x1.w.heap.size 0 (v := .int .i64 h') ⟨by simp [go_sem], by simp [go_sem]⟩
  obtain ⟨k3, f3⟩ := later_cel x2 x1.w.heap.size 1 (v := .int .u64 lq) ⟨by simp [go_sem], by simp [go_sem]⟩
  obtain ⟨k4, f4⟩ := later_cel x2 (w.heap.size + 1) 0 (v := .int .i64 0) ⟨by simp [go_sem, z2], by simp [go_sem, z2]⟩
  obtain ⟨k5, f5⟩ := later_cel x2 (w.heap.size + 1) 1 (v := .int .u64 0) ⟨by simp [go_sem, z2], by simp [go_sem, z2]⟩
  have z4 : x1.w.heap.size ≠ w.heap.size + 1 := by omega
  go_wp2_with fail
  obtain ⟨p0, p1⟩ := two_cells (W := (x2.w.setCell ⟨x1.w.heap.size, 0, none⟩ (.int .i64 h2)).setCell ⟨x1.w.heap.size, 1, none⟩ (.int .u64 l2)) (b := w.heap.size + 1) (u0 := .int .i64 0) (u1 := .int .u64 0) (by simp [go_sem, k4, z4]) (by simp [go_sem, k5, z4]) (.int .i64 h2) (.int .u64 l2)
  refine bodyPost_ret (v := .tuple #[.agg #[.int .i64 h2, .int .u64 l2], .int .i64 0, .bool true]) (by simp [results, Tryz.results216, p0, p1, go_sem]) rfl ⟨rfl, by (repeat (first | with_reducible exact Ext.refl _ | with_reducible assumption | with_reducible refine Ext.alloc ?_ _ | with_reducible refine Ext.drew ?_ | with_reducible refine Ext.drewN ?_ _ | with_reducible refine Ext.later ?_ _ | (with_reducible refine Ext.setCell ?_ _ ?hp; case hp => first | (simp; done) | (simp; omega) | omega)))⟩
set_option maxRecDepth 100000 in
set_option maxHeartbeats 1000000 in
theorem div_down1 (h l d m xh xl hq hr lq h' h2 l2 r h3 l3 r' : Int) (w : World) (e1 : decide (d < 1) = false) (e2 : decide (h < 0) = true) (e3 : decide (h ≥ 0) = false) (e4 : IntKind.u64.wrap d = m) (e5 : IntKind.u64.wrap xh = xh) (em : m ≠ 0)
    (q1 : IntKind.u64.wrap (xh.tdiv m) = hq) (q2 : xh % m = hr) (k0 : 0 ≤ xh) (k1 : 1 ≤ m)
    (c1 : ∀ W, Calls Tryz.prog 258 #[.agg #[.int .i64 h, .int .u64 l]] W fun e w' => e = .returned (.agg #[.int .i64 xh, .int .u64 xl]) ∧ Ext W w')
    (c0 : ∀ W, Calls Tryz.prog 259 #[.int .u64 hr, .int .u64 xl, .int .u64 m] W fun e w' => e = .returned (.tuple #[.int .u64 lq, .int .u64 r]) ∧ ∃ n, w' = W.drewN n)
    (e6 : wrap64 hq = h')
    (c2 : ∀ W, Calls Tryz.prog 258 #[.agg #[.int .i64 h', .int .u64 lq]] W fun e w' => e = .returned (.agg #[.int .i64 h2, .int .u64 l2]) ∧ Ext W w')
    (e7 : (r == 0) = false) (e8 : IntKind.u64.wrap (m - r) = m - r) (e9 : IntKind.i64.wrap (m - r) = r')
    (c3 : ∀ W, Calls Tryz.prog 260 #[.agg #[.int .i64 h2, .int .u64 l2], .agg #[.int .i64 0, .int .u64 1]] W fun e w' => e = .returned (.tuple #[.agg #[.int .i64 h3, .int .u64 l3], .bool true]) ∧ Ext W w') :
    Calls Tryz.prog 216 #[.agg #[.int .i64 h, .int .u64 l], .int .i64 d] w fun e w' => e = .returned (.tuple #[.agg #[.int .i64 h3, .int .u64 l3], .int .i64 r', .bool true]) ∧ Ext w w' := by
  have C0 := Lib.hid c0; clear c0
  have C1 := Lib.hid c1; clear c1
  have C2 := Lib.hid c2; clear c2
  have C3 := Lib.hid c3; clear c3
  go_enter Tryz.func216, Tryz.ntmps216
  go_wp2_with fail
  refine (C1.out _).mono ?_
  rintro e w1 ⟨rfl, hE⟩
  obtain ⟨x1, rfl⟩ := Later.mk' hE
  clear hE
  obtain ⟨k0, f0⟩ := later_cel x1 (w.heap.size + 1 + 1) 0 (v := .int .i64 h) ⟨by simp [go_sem], by simp [go_sem]⟩
  obtain ⟨k1, f1⟩ := later_cel x1 (w.heap.size + 1 + 1) 1 (v := .int .u64 l) ⟨by simp [go_sem], by simp [go_sem]⟩
  have z0 := x1.le
  simp at z0
  have z1 : w.heap.size < x1.w.heap.size := by omega
  have z2 : w.heap.size + 1 < x1.w.heap.size := by omega
  have z3 : w.heap.size + 1 + 1 < x1.w.heap.size := by omega
  clear z0
  go_wp2_with fail
  go_quiet ((go_at_call 259; exact Calls.quiet_of (C0.out _)))
  go_wp2_with fail
  refine (C2.out _).mono ?_
  rintro e w1 ⟨rfl, hE⟩
  obtain ⟨x2, rfl⟩ := Later.mk' hE
  clear hE
  obtain ⟨k2, f2⟩ := later_cel x2 x1.w.heap.size 0 (v := .int .i64 h') ⟨by simp [go_sem], by simp [go_sem]⟩
  obtain ⟨k3, f3⟩ := later_cel x2 x1.w.heap.size 1 (v := .int .u64 lq) ⟨by simp [go_sem], by simp [go_sem]⟩
  obtain ⟨k4, f4⟩ := later_cel x2 (w.heap.size + 1) 0 (v := .int .i64 0) ⟨by simp [go_sem, z2], by simp [go_sem, z2]⟩
  obtain ⟨k5, f5⟩ := later_cel x2 (w.heap.size + 1) 1 (v := .int .u64 0) ⟨by simp [go_sem, z2], by simp [go_sem, z2]⟩
  have z4 : x1.w.heap.size ≠ w.heap.size + 1 := by omega
  have z5 := x2.le
  simp at z5
  have z6 : x1.w.heap.size < x2.w.heap.size := by omega
  clear z5
  have z7 : w.heap.size + 1 ≠ x1.w.heap.size := by omega
  go_wp2_with fail
  refine (C3.out _).mono ?_
  rintro e w1 ⟨rfl, hE⟩
  obtain ⟨x3, rfl⟩ := Later.mk' hE
  clear hE
  obtain ⟨k6, f6⟩ := later_cel x3 x1.w.heap.size 0 (v := .int .i64 h2) ⟨by simp [go_sem, k2, k3], by simp [go_sem, f2]⟩
  obtain ⟨k7, f7⟩ := later_cel x3 x1.w.heap.size 1 (v := .int .u64 l2) ⟨by simp [go_sem, k2, k3], by simp [go_sem, f3]⟩
  obtain ⟨k8, f8⟩ := later_cel x3 (w.heap.size + 1) 0 (v := .int .i64 0) ⟨by simp [go_sem, k4, z4], by simp [go_sem, f4]⟩
  obtain ⟨k9, f9⟩ := later_cel x3 (w.heap.size + 1) 1 (v := .int .u64 0) ⟨by simp [go_sem, k5, z4], by simp [go_sem, f5]⟩
  go_wp2_with fail
  obtain ⟨p0, p1⟩ := two_cells (W := (x3.w.setCell ⟨x1.w.heap.size, 0, none⟩ (.int .i64 h3)).setCell ⟨x1.w.heap.size, 1, none⟩ (.int .u64 l3)) (b := w.heap.size + 1) (u0 := .int .i64 0) (u1 := .int .u64 0) (by simp [go_sem, k8, z4]) (by simp [go_sem, k9, z4]) (.int .i64 h3) (.int .u64 l3)
  refine bodyPost_ret (v := .tuple #[.agg #[.int .i64 h3, .int .u64 l3], .int .i64 r', .bool true]) (by simp [results, Tryz.results216, p0, p1, go_sem]) rfl ⟨rfl, by (repeat (first | with_reducible exact Ext.refl _ | with_reducible assumption | with_reducible refine Ext.alloc ?_ _ | with_reducible refine Ext.drew ?_ | with_reducible refine Ext.drewN ?_ _ | with_reducible refine Ext.later ?_ _ | (with_reducible refine Ext.setCell ?_ _ ?hp; case hp => first | (simp; done) | (simp; omega) | omega)))⟩
end Go.Proofs.YtplljnfjkkloeaaGreatDoor
set_option linter.unusedVariables false
set_option linter.unusedSimpArgs false
namespace Go.Proofs.YtplljnfjkkloeaaGreatDoor
open Go.RowKit
theorem nat_parts (X d : Nat) (hd : 0 < d) :
    X / d = X / 18446744073709551616 / d * 18446744073709551616 + (X / 18446744073709551616 % d * 18446744073709551616 + X % 18446744073709551616) / d ∧
    X % d = (X / 18446744073709551616 % d * 18446744073709551616 + X % 18446744073709551616) % d ∧
    (X / 18446744073709551616 % d * 18446744073709551616 + X % 18446744073709551616) / d < 18446744073709551616 := by
  have h := two_digits (un32 := 0) (un1 := X / 18446744073709551616) (un0 := X % 18446744073709551616) (y := d) (B := 18446744073709551616) hd (by omega)
  simp only [Nat.zero_mul, Nat.zero_add] at h
  have e : X / 18446744073709551616 * 18446744073709551616 + X % 18446744073709551616 = X := by omega
  rw [e] at h
  exact ⟨h.1, h.2, digit_lt hd (Nat.mod_lt _ hd) (by omega)⟩
theorem hi_nat (X : Nat) : hi (X : Int) = ((X / 18446744073709551616 : Nat) : Int) := by unfold hi; omega
theorem lo_nat (X : Nat) : lo (X : Int) = ((X % 18446744073709551616 : Nat) : Int) := by unfold lo; omega
theorem hi_div (X d : Nat) (hd : 0 < d) : hi ((X / d : Nat) : Int) = ((X / 18446744073709551616 / d : Nat) : Int) ∧ lo ((X / d : Nat) : Int) = (((X / 18446744073709551616 % d * 18446744073709551616 + X % 18446744073709551616) / d : Nat) : Int) := by
  obtain ⟨h1, _, h3⟩ := nat_parts X d hd
  rw [h1]
  generalize (X / 18446744073709551616 % d * 18446744073709551616 + X % 18446744073709551616) / d = a at *
  generalize X / 18446744073709551616 / d = b at *
  exact halves (by omega) (by omega) (by omega)
theorem neg_div (X d : Nat) (hd : 0 < d) (h : X % d = 0) : (-(X : Int)) / d = -((X / d : Nat) : Int) ∧ (-(X : Int)) % d = 0 := by
  have e := Nat.div_add_mod X d
  have e2 : (X : Int) = (d : Int) * ((X / d : Nat) : Int) := by rw [← Int.natCast_mul]; omega
  constructor
  · have : -(X : Int) = -((X / d : Nat) : Int) * d := by rw [Int.neg_mul, Int.mul_comm]; omega
    rw [this, Int.mul_ediv_cancel _ (by omega)]
  · rw [Int.emod_eq_zero_of_dvd]
    exact Int.dvd_neg.2 ⟨_, e2⟩
theorem neg_div1 (X d : Nat) (hd : 0 < d) (h : 0 < X % d) : (-(X : Int)) / d = -((X / d : Nat) : Int) - 1 ∧ (-(X : Int)) % d = d - ((X % d : Nat) : Int) := by
  have e := Nat.div_add_mod X d
  have hl := Nat.mod_lt X hd
  have e2 : (X : Int) = (d : Int) * ((X / d : Nat) : Int) + ((X % d : Nat) : Int) := by rw [← Int.natCast_mul]; omega
  have e3 : -(X : Int) = (d - ((X % d : Nat) : Int)) + (-((X / d : Nat) : Int) - 1) * d := by
    rw [Int.sub_mul, Int.neg_mul, Int.mul_comm ((X / d : Nat) : Int)]; omega
  constructor
  · rw [e3, Int.add_mul_ediv_right _ _ (by omega), Int.ediv_eq_zero_of_lt (by omega) (by omega)]; omega
  · rw [e3, Int.add_mul_emod_self_right, Int.emod_eq_of_lt (by omega) (by omega)]
theorem wrap64_of {n : Int} (h1 : -9223372036854775808 ≤ n) (h2 : n < 9223372036854775808) : wrap64 n = n := by unfold wrap64; omega
theorem div_any (z : Int) (d : Nat) (w : World) (h1 : -170141183460469231731687303715884105728 < z) (h2 : z < 170141183460469231731687303715884105728) (d1 : 1 ≤ d) (d2 : d < 9223372036854775808) :
    Calls Tryz.prog 216 #[I z, .int .i64 (d : Int)] w fun e w' => e = .returned (.tuple #[I (z / d), .int .i64 (z % d), .bool true]) ∧ Ext w w' := by
  have ed : IntKind.u64.wrap (d : Int) = d := u64_nat (by omega)
  have core : ∀ X : Nat, X < 170141183460469231731687303715884105728 → ∀ W, Calls Tryz.prog 259 #[.int .u64 ((X / 18446744073709551616 : Nat) % (d : Int)), .int .u64 ((X % 18446744073709551616 : Nat) : Int), .int .u64 d] W fun e w' => e = .returned (.tuple #[.int .u64 (lo ((X / d : Nat) : Int)), .int .u64 ((X % d : Nat) : Int)]) ∧ ∃ n, w' = W.drewN n := by
    intro X hX W
    have := div64_any (X / 18446744073709551616 % d) (X % 18446744073709551616) d W (Nat.mod_lt _ (by omega)) (by omega) (by omega)
    rw [← (nat_parts X d (by omega)).2.1, ← (hi_div X d (by omega)).2] at this
    exact this
  have quot : ∀ X : Nat, X < 170141183460469231731687303715884105728 → IntKind.u64.wrap (((X / 18446744073709551616 : Nat) : Int).tdiv d) = hi ((X / d : Nat) : Int) ∧ wrap64 (hi ((X / d : Nat) : Int)) = hi ((X / d : Nat) : Int) := by
    intro X hX
    have e := (hi_div X d (by omega)).1
    have hle : X / 18446744073709551616 / d ≤ X / 18446744073709551616 := Nat.div_le_self _ _
    rw [e, Int.tdiv_eq_ediv_of_nonneg (by omega), ← Int.natCast_ediv]
    generalize X / 18446744073709551616 / d = k at hle
    exact ⟨u64_nat (by omega), wrap64_of (by omega) (by omega)⟩
  by_cases hz : 0 ≤ z
  · obtain ⟨X, rfl⟩ := Int.eq_ofNat_of_zero_le hz
    have hX : X < 170141183460469231731687303715884105728 := by omega
    obtain ⟨q1, q2⟩ := quot X hX
    have hr := Nat.mod_lt X (show 0 < d by omega)
    have key := div_up (hi (X : Int)) (lo (X : Int)) d d _ _ _ ((X % d : Nat) : Int) _ ((X % d : Nat) : Int) w (by simp; omega) (by rw [hi_nat]; simp; omega) (by rw [hi_nat]; simp only [ge_iff_le, decide_eq_true_eq]; exact Int.natCast_nonneg _) ed (by rw [hi_nat]; exact u64_nat (by omega)) (by omega)
      (by rw [hi_nat]; exact q1) rfl (by rw [hi_nat]; omega) (by omega) (by rw [hi_nat, lo_nat]; exact core X hX) q2 (by rw [IntKind.wrap_i64]; omega)
    exact key
  · obtain ⟨X, hX⟩ : ∃ X : Nat, z = -(X : Int) := ⟨z.natAbs, by omega⟩
    subst hX
    have hX : X < 170141183460469231731687303715884105728 := by omega
    have hX0 : 0 < X := by omega
    obtain ⟨q1, q2⟩ := quot X hX
    have hneg : hi (-(X : Int)) < 0 := by unfold hi; omega
    have hle : X / d ≤ X := Nat.div_le_self _ _
    have t1 := fun W => turned_any (-(X : Int)) W h1 h2
    rw [Int.neg_neg] at t1
    have t2 := fun W => turned_any ((X / d : Nat) : Int) W (by generalize X / d = k at hle; omega) (by generalize X / d = k at hle; omega)
    rcases Nat.eq_zero_or_pos (X % d) with h0 | h0
    · obtain ⟨g1, g2⟩ := neg_div X d (by omega) h0
      rw [g1, g2]
      have c := core X hX
      rw [h0] at c
      exact div_down0 (hi (-(X : Int))) (lo (-(X : Int))) d d (hi (X : Int)) (lo (X : Int)) _ _ _ _ _ _ w (by simp; omega) (by simpa using hneg) (by simp; omega) ed (by rw [hi_nat]; exact u64_nat (by omega)) (by omega)
        (by rw [hi_nat]; exact q1) rfl (by rw [hi_nat]; omega) (by omega) t1 (by rw [hi_nat, lo_nat]; exact c) q2 t2
    · obtain ⟨g1, g2⟩ := neg_div1 X d (by omega) h0
      rw [g1, g2]
      have hr := Nat.mod_lt X (show 0 < d by omega)
      have d3 : 2 ≤ d := by
        rcases Nat.lt_or_ge d 2 with h | h
        · obtain rfl : d = 1 := by omega
          rw [Nat.mod_one] at h0; omega
        · exact h
      have hle2 : X / d ≤ X / 2 := Nat.div_le_div_left d3 (by omega)
      exact div_down1 (hi (-(X : Int))) (lo (-(X : Int))) d d (hi (X : Int)) (lo (X : Int)) _ _ _ _ _ _ ((X % d : Nat) : Int) _ _ _ w (by simp; omega) (by simpa using hneg) (by simp; omega) ed (by rw [hi_nat]; exact u64_nat (by omega)) (by omega)
        (by rw [hi_nat]; exact q1) rfl (by rw [hi_nat]; omega) (by omega) t1 (by rw [hi_nat, lo_nat]; exact core X hX) q2 t2 (by simp; omega) (by rw [IntKind.wrap_u64]; omega) (by rw [IntKind.wrap_i64]; omega)
        (fun W => sub_one _ W (by generalize X / d = k at hle hle2; omega) (by generalize X / d = k at hle hle2; omega))
end Go.Proofs.YtplljnfjkkloeaaGreatDoor
set_option linter.unusedVariables false
set_option linter.unusedSimpArgs false
namespace Go.Proofs.YtplljnfjkkloeaaGreatDoor
def mid (p q n d : Int) : Int := p + (q - p) * n / d
theorem part_low {x n d : Int} (hx : 0 ≤ x) (hn : 0 ≤ n) (hd : 1 ≤ d) : 0 ≤ x * n / d := Int.ediv_nonneg (Int.mul_nonneg hx hn) (by omega)
theorem part_high {x n d : Int} (hx : 0 ≤ x) (hn : n ≤ d) (hd : 1 ≤ d) : x * n / d ≤ x := by
  have h1 : x * n ≤ x * d := Int.mul_le_mul_of_nonneg_left hn hx
  have h2 := Int.ediv_le_ediv (by omega : 0 < d) h1
  rwa [Int.mul_ediv_cancel _ (by omega)] at h2
theorem neg_low {x n d : Int} (hx : x ≤ 0) (hn : n ≤ d) (hd : 1 ≤ d) : x ≤ x * n / d := by
  have h1 : x * d ≤ x * n := Int.mul_le_mul_of_nonpos_left hx hn
  have h2 := Int.ediv_le_ediv (by omega : 0 < d) h1
  rwa [Int.mul_ediv_cancel _ (by omega)] at h2
theorem neg_high {x n d : Int} (hx : x ≤ 0) (hn : 0 ≤ n) (hd : 1 ≤ d) : x * n / d ≤ 0 := by
  have h1 : x * n ≤ 0 := Int.mul_nonpos_of_nonpos_of_nonneg hx hn
  have h2 := Int.ediv_le_ediv (by omega : 0 < d) h1
  simpa using h2
theorem mid_between {p q n d : Int} (hn : 0 ≤ n) (hnd : n ≤ d) (hd : 1 ≤ d) : min p q ≤ mid p q n d ∧ mid p q n d ≤ max p q := by
  unfold mid
  rcases Int.le_total p q with h | h
  · have h1 := part_low (x := q - p) (by omega) hn hd
    have h2 := part_high (x := q - p) (by omega) hnd hd
    omega
  · have h1 := neg_low (x := q - p) (by omega) hnd hd
    have h2 := neg_high (x := q - p) (by omega) hn hd
    omega
end Go.Proofs.YtplljnfjkkloeaaGreatDoor
set_option linter.unusedVariables false
set_option linter.unusedSimpArgs false
namespace Go.Proofs.YtplljnfjkkloeaaGreatDoor
open Go.RowKit
set_option maxRecDepth 100000 in
set_option maxHeartbeats 1000000 in
theorem mid_cells (p q n d x a b c f g y r r' : Int) (w : World) (e0 : IntKind.i64.wrap (q - p) = x) (e1 : IntKind.i64.wrap (p + y) = r)
    (c1 : ∀ W, Calls Tryz.prog 174 #[.int .i64 x, .int .i64 n] W fun e w' => e = .returned (.agg #[.int .i64 a, .int .u64 b]) ∧ Ext W w')
    (c2 : ∀ W, Calls Tryz.prog 216 #[.agg #[.int .i64 a, .int .u64 b], .int .i64 d] W fun e w' => e = .returned (.tuple #[.agg #[.int .i64 f, .int .u64 g], .int .i64 r', .bool true]) ∧ Ext W w')
    (c3 : ∀ W, Calls Tryz.prog 217 #[.agg #[.int .i64 f, .int .u64 g]] W fun e w' => e = .returned (.tuple #[.int .i64 y, .bool true]) ∧ Ext W w') :
    Calls Tryz.prog 176 #[.int .i64 p, .int .i64 q, .int .i64 n, .int .i64 d] w fun e w' => e = .returned (.int .i64 r) ∧ Ext w w' := by
  have C1 := Lib.hid c1; clear c1
  have C2 := Lib.hid c2; clear c2
  have C3 := Lib.hid c3; clear c3
  go_enter Tryz.func176, Tryz.ntmps176
  go_wp2_with fail
  refine (C1.out _).mono ?_
  rintro e w1 ⟨rfl, hE⟩
  obtain ⟨x1, rfl⟩ := Later.mk' hE
  clear hE
  go_wp2_with fail
  refine (C2.out _).mono ?_
  rintro e w1 ⟨rfl, hE⟩
  obtain ⟨x2, rfl⟩ := Later.mk' hE
  clear hE
  go_wp2_with fail
  refine (C3.out _).mono ?_
  rintro e w1 ⟨rfl, hE⟩
  obtain ⟨x3, rfl⟩ := Later.mk' hE
  clear hE
  go_wp2_with fail
  go_ret
  exact ⟨rfl, by (repeat (first | with_reducible exact Ext.refl _ | with_reducible assumption | with_reducible refine Ext.alloc ?_ _ | with_reducible refine Ext.drew ?_ | with_reducible refine Ext.drewN ?_ _ | with_reducible refine Ext.later ?_ _ | (with_reducible refine Ext.setCell ?_ _ ?hp; case hp => first | (simp; done) | (simp; omega) | omega)))⟩
theorem mid_any (p q n : Int) (d : Nat) (w : World) (p1 : -68719476736 ≤ p) (p2 : p ≤ 68719476736) (q1 : -68719476736 ≤ q) (q2 : q ≤ 68719476736) (n0 : 0 ≤ n) (nd : n ≤ d) (d1 : 1 ≤ d) (d2 : d < 9223372036854775808) :
    Calls Tryz.prog 176 #[.int .i64 p, .int .i64 q, .int .i64 n, .int .i64 (d : Int)] w fun e w' => e = .returned (.int .i64 (mid p q n d)) ∧ Ext w w' := by
  have hm := mid_between (p := p) (q := q) n0 nd (by omega : (1 : Int) ≤ d)
  unfold mid at hm ⊢
  have b1 : (q - p) * n ≤ 137438953472 * 9223372036854775808 := by
    rcases Int.le_total 0 (q - p) with h | h
    · exact Int.mul_le_mul (by omega) (by omega) n0 (by omega)
    · have := Int.mul_nonpos_of_nonpos_of_nonneg h n0; omega
  have b2 : -(137438953472 * 9223372036854775808) ≤ (q - p) * n := by
    rcases Int.le_total 0 (q - p) with h | h
    · have := Int.mul_nonneg h n0; omega
    · have := Int.mul_le_mul (a := p - q) (b := n) (c := 137438953472) (d := 9223372036854775808) (by omega) (by omega) n0 (by omega)
      have e : (q - p) * n = -((p - q) * n) := by rw [← Int.neg_mul]; congr 1; omega
      omega
  generalize hN : (q - p) * n = N at *
  exact mid_cells p q n d (q - p) _ _ 0 _ _ (N / d) _ _ w (by rw [IntKind.wrap_i64]; omega) (by rw [IntKind.wrap_i64]; generalize N / (d : Int) = k at hm ⊢; omega)
    (fun W => by have := mul_any (q - p) n W (by omega) (by omega) (by omega) (by omega); rw [hN] at this; exact this)
    (fun W => div_any N d W (by omega) (by omega) d1 d2)
    (fun W => small_any (N / d) W (by generalize N / (d : Int) = k at hm ⊢; omega) (by generalize N / (d : Int) = k at hm ⊢; omega))
end Go.Proofs.YtplljnfjkkloeaaGreatDoor
