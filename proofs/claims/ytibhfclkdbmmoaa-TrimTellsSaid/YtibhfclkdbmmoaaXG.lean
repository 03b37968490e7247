/- Proof text: math/bits.Div64, all of it. By an AI agent. No condition beyond what each theorem states. -/
import Derived.Test.YtibhfclkdbmmoaaXF
import Derived.Lib.ItoaNum
set_option linter.unusedVariables false
set_option linter.unusedSimpArgs false
namespace Go.Proofs.Ytibhfclkdbmmoaa
open Go.RowKit

/-- A dividend of two digits, moved up: its upper and its lower 64 bits. -/
theorem moved_up {h l S : Nat} (hS : S ≤ 63) (hl : l < 18446744073709551616) :
    (h * 18446744073709551616 + l) * 2 ^ S = (h * 2 ^ S + l / 2 ^ (64 - S)) * 18446744073709551616 + l * 2 ^ S % 18446744073709551616 ∧ l / 2 ^ (64 - S) < 2 ^ S := by
  have e64 : (18446744073709551616 : Nat) = 2 ^ (64 - S) * 2 ^ S := by
    rw [← Nat.pow_add, show 64 - S + S = 64 by omega]
  have hp : 0 < 2 ^ S := Nat.two_pow_pos S
  have hd : l * 2 ^ S / 18446744073709551616 = l / 2 ^ (64 - S) := by
    rw [e64]; exact Nat.mul_div_mul_right _ _ hp
  have e := Nat.div_add_mod (l * 2 ^ S) 18446744073709551616
  rw [hd] at e
  constructor
  · have e1 : (h * 18446744073709551616 + l) * 2 ^ S = h * 2 ^ S * 18446744073709551616 + l * 2 ^ S := by
      rw [Nat.add_mul, Nat.mul_assoc, Nat.mul_comm 18446744073709551616, ← Nat.mul_assoc]
    rw [e1]
    generalize h * 2 ^ S = a at *
    generalize l * 2 ^ S % 18446744073709551616 = b at *
    generalize l / 2 ^ (64 - S) = c at *
    omega
  · rw [Nat.div_lt_iff_lt_mul (Nat.two_pow_pos _), Nat.mul_comm, ← e64]
    exact hl
theorem norm_lt {h y l S : Nat} (hh : h < y) (hS : S ≤ 63) (hl : l < 18446744073709551616) : h * 2 ^ S + l / 2 ^ (64 - S) < y * 2 ^ S := by
  have h1 := (moved_up (h := h) hS hl).2
  have h2 : (h + 1) * 2 ^ S ≤ y * 2 ^ S := Nat.mul_le_mul_right _ hh
  rw [Nat.add_mul, Nat.one_mul] at h2
  omega
theorem sub_digit {u n P v : Nat} (e : P + v = u * 4294967296 + n) (hv : v < 18446744073709551616) :
    IntKind.u64.wrap (IntKind.u64.wrap (IntKind.u64.wrap ((u : Int) * 4294967296) + n) - IntKind.u64.wrap (P : Int)) = v := by
  simp only [IntKind.wrap_u64]
  omega
theorem pow_int (S : Nat) : ((2 : Int) ^ S) = ((2 ^ S : Nat) : Int) := by simp

set_option maxRecDepth 100000 in
theorem div64_high (h l y S : Nat) (w : World) (h0 : 0 < h) (hh : h < y) (hl : l < 18446744073709551616) (hS : S ≤ 63) (hn1 : 9223372036854775808 ≤ y * 2 ^ S) (hn2 : y * 2 ^ S < 18446744073709551616)
    (c0 : ∀ W, Calls Try.prog 70 #[.int .u64 y] W fun e w' => e = .returned (.int .i64 (S : Int)) ∧ w' = W) :
    Calls Try.prog 55 #[.int .u64 h, .int .u64 l, .int .u64 y] w fun e w' => e = .returned (.tuple #[.int .u64 (((h * 18446744073709551616 + l) / y : Nat) : Int), .int .u64 (((h * 18446744073709551616 + l) % y : Nat) : Int)]) ∧ ∃ n, w' = w.drewN n := by
  obtain ⟨m1, m2⟩ := moved_up (h := h) hS hl
  have m3 := norm_lt hh hS hl
  have hp : 0 < 2 ^ S := Nat.two_pow_pos S
  have hp2 : 2 ^ S ≤ 9223372036854775808 := by
    have := Nat.pow_le_pow_right (show 0 < 2 by omega) hS
    simpa using this
  have g1 := (moved (N := h * 18446744073709551616 + l) (d := y) hp).1
  have g2 := (moved (N := h * 18446744073709551616 + l) (d := y) hp).2
  have hq64 : (h * 18446744073709551616 + l) / y < 18446744073709551616 := digit_lt (by omega) hh hl
  have hr64 : (h * 18446744073709551616 + l) % y < y := Nat.mod_lt _ (by omega)
  have ha : h * 2 ^ S < 18446744073709551616 := by
    have : h * 2 ^ S ≤ y * 2 ^ S := Nat.mul_le_mul_right _ (by omega)
    omega
  -- the parts of the numbers
  obtain ⟨Y, hY⟩ : ∃ Y, y * 2 ^ S = Y := ⟨_, rfl⟩
  obtain ⟨a, hA⟩ : ∃ a, h * 2 ^ S = a := ⟨_, rfl⟩
  obtain ⟨b, hB⟩ : ∃ b, l / 2 ^ (64 - S) = b := ⟨_, rfl⟩
  obtain ⟨t, hT⟩ : ∃ t, l * 2 ^ S % 18446744073709551616 = t := ⟨_, rfl⟩
  have hor : a ||| b = a + b := by
    have := Nat.two_pow_add_eq_or_of_lt (b := b) (i := S) (by omega) h
    rw [Nat.mul_comm, hA] at this
    exact this.symm
  have t64 : t < 18446744073709551616 := by rw [← hT]; exact Nat.mod_lt _ (by omega)
  rw [hA, hB, hT, show (a + b) * 18446744073709551616 + t = ((a + b) * 4294967296 + t / 4294967296) * 4294967296 + t % 4294967296 by omega] at m1
  rw [hA, hB, hY] at m3
  rw [hY] at hn1 hn2 g1 g2
  obtain ⟨d1, d2⟩ := two_digits (un32 := a + b) (un1 := t / 4294967296) (un0 := t % 4294967296) (y := Y) (B := 4294967296) (by omega) (by omega)
  rw [← m1, g1] at d1
  rw [← m1, g2] at d2
  have ey : Y / 4294967296 * 4294967296 + Y % 4294967296 = Y := by omega
  have v1 : ((a + b) * 4294967296 + t / 4294967296) % Y < Y := Nat.mod_lt _ (by omega)
  refine div64_cells (h : Int) l y S Y a b t (Y / 4294967296) (Y % 4294967296) (a + b) (t / 4294967296) (t % 4294967296) (((a + b) * 4294967296 + t / 4294967296) % Y) ((h * 18446744073709551616 + l) / y) ((h * 18446744073709551616 + l) % y) w ?_ ?_ ?_ (by omega) (by omega) (by omega) (by omega) c0 ?_ ?_ ?_ ?_ ?_ ?_ ?_ ?_ ?_ ?_ ?_ ?_ ?_ ?_ ?_ ?_
  · simp; omega
  · simp; omega
  · simp; omega
  · rw [IntKind.wrap_u64]; omega
  · rw [IntKind.wrap_u64]; omega
  · rw [Int.toNat_natCast, pow_int, ← Int.natCast_mul, hY]; exact u64_nat hn2
  · rfl
  · exact Mul64.maskN Y hn2
  · rw [Int.toNat_natCast, pow_int, ← Int.natCast_mul, hA]; exact u64_nat (by omega)
  · rw [show (64 - (S : Int)).toNat = 64 - S by omega, pow_int, ← Int.natCast_ediv, hB]
  · rw [u64_or_nat _ _ (by omega) (by omega), hor]
  · rw [Int.toNat_natCast, pow_int, ← Int.natCast_mul, IntKind.wrap_u64, ← hT]; rfl
  · rfl
  · exact Mul64.maskN t t64
  · omega
  · exact ⟨by omega, by omega, by omega, by omega, by omega⟩
  · exact ⟨by omega, by omega, by omega, by omega, by rw [ey]; exact v1⟩
  · intro q1 hq
    unfold Dn at hq
    rw [ey] at hq
    have e := Nat.div_add_mod ((a + b) * 4294967296 + t / 4294967296) Y
    rw [← hq] at e
    have := sub_digit (P := q1 * Y) (by rw [Nat.mul_comm]; exact e) (Nat.lt_trans v1 hn2)
    rw [Int.natCast_mul] at this
    exact this
  · intro q1 q0 hq hq0
    unfold Dn at hq hq0
    rw [ey] at hq hq0
    rw [← hq, ← hq0] at d1
    have e := Nat.div_add_mod (((a + b) * 4294967296 + t / 4294967296) % Y * 4294967296 + t % 4294967296) Y
    rw [← hq0] at e
    refine ⟨?_, ?_⟩
    · rw [d1] at hq64 ⊢
      simp only [IntKind.wrap_u64]
      omega
    · have r64 := Nat.mod_lt (((a + b) * 4294967296 + t / 4294967296) % Y * 4294967296 + t % 4294967296) (show 0 < Y by omega)
      have := sub_digit (P := q0 * Y) (by rw [Nat.mul_comm]; exact e) (Nat.lt_trans r64 hn2)
      rw [Int.natCast_mul] at this
      rw [this, ← d2, Int.toNat_natCast, pow_int, ← Int.natCast_ediv, Nat.mul_div_cancel _ hp]
theorem div64_any (h l y : Nat) (w : World) (hh : h < y) (hl : l < 18446744073709551616) (hy : y < 18446744073709551616) :
    Calls Try.prog 55 #[.int .u64 h, .int .u64 l, .int .u64 y] w fun e w' => e = .returned (.tuple #[.int .u64 (((h * 18446744073709551616 + l) / y : Nat) : Int), .int .u64 (((h * 18446744073709551616 + l) % y : Nat) : Int)]) ∧ ∃ n, w' = w.drewN n := by
  rcases Nat.eq_zero_or_pos h with h0 | h0
  · subst h0
    rw [Nat.zero_mul, Nat.zero_add]
    exact div64_low l y w (by simp; omega) (by simp; omega) (by omega) (by omega) (by omega)
  · have c := fun W => Any.bits_LeadingZeros64 lays134 (y : Int) W (by omega) (by omega)
    rw [Int.toNat_natCast] at c
    obtain ⟨b1, b2, b3⟩ := Lib.bitLenAux_bounds 64 y hy (by omega)
    have b4 : Lib.bitLen y ≤ 64 := Lib.bitLen_le y 64 (by omega) hy
    have b5 : 1 ≤ Lib.bitLen y := b1
    have e : (64 - (Lib.bitLen y : Int)) = ((64 - Lib.bitLen y : Nat) : Int) := by omega
    rw [e] at c
    refine div64_high h l y (64 - Lib.bitLen y) w h0 hh hl (by omega) ?_ ?_ c
    · have := Nat.mul_le_mul_right (2 ^ (64 - Lib.bitLen y)) (show 2 ^ (Lib.bitLen y - 1) ≤ y from b2)
      rw [← Nat.pow_add, show Lib.bitLen y - 1 + (64 - Lib.bitLen y) = 63 by omega] at this
      exact this
    · have := Nat.mul_lt_mul_of_pos_right (show y < 2 ^ Lib.bitLen y from b3) (Nat.two_pow_pos (64 - Lib.bitLen y))
      rw [← Nat.pow_add, show Lib.bitLen y + (64 - Lib.bitLen y) = 64 by omega] at this
      exact this
end Go.Proofs.Ytibhfclkdbmmoaa
