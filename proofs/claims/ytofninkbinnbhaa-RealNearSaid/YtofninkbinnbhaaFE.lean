/- Plain laws: a number that a format has is written as its own word; products with powers of two. No condition beyond what each theorem states. By an AI agent. -/
import Derived.Test.YtofninkbinnbhaaFD
set_option linter.unusedVariables false
set_option linter.unusedSimpArgs false
namespace Go.Proofs.Ytofninkbinnbhaa
open Go.RowKit
theorem log2_scaled {m : Nat} (hm : 0 < m) (k : Nat) : (m * 2 ^ k).log2 = m.log2 + k := by
  have hne : m ≠ 0 := by omega
  have h2 : m * 2 ^ k ≠ 0 := Nat.mul_ne_zero hne (Nat.pos_iff_ne_zero.1 (Nat.two_pow_pos k))
  rw [Nat.log2_eq_iff h2]
  have h3 := (Nat.log2_eq_iff (n := m) (k := m.log2) hne).1 rfl
  constructor
  · rw [Nat.pow_add]; exact Nat.mul_le_mul_right _ h3.1
  · rw [show m.log2 + k + 1 = (m.log2 + 1) + k by omega, Nat.pow_add]; exact Nat.mul_lt_mul_of_pos_right h3.2 (Nat.two_pow_pos k)
theorem mant_pos {r : Nat} (h : 0 < r) : 0 < mant r := by unfold mant; split <;> omega
theorem mant_log {r : Nat} (h : 0 < r) : (r < 4503599627370496 ∧ (mant r).log2 < 52 ∧ plc r = -1074 ∧ mant r = r) ∨ (4503599627370496 ≤ r ∧ (mant r).log2 = 52 ∧ plc r = -1074 + (r / 4503599627370496 - 1 : Nat) ∧ mant r = 4503599627370496 + r % 4503599627370496) := by
  rcases Nat.lt_or_ge r 4503599627370496 with h1 | h1
  · left
    have e : mant r = r := by unfold mant; rw [if_pos h1]
    refine ⟨h1, ?_, by unfold plc; rw [if_pos h1], e⟩
    rw [e]
    exact (Nat.log2_lt (by omega)).2 (by omega)
  · right
    have e : mant r = 4503599627370496 + r % 4503599627370496 := by unfold mant; rw [if_neg (by omega)]
    refine ⟨h1, ?_, by unfold plc; rw [if_neg (by omega)], e⟩
    rw [e, Nat.log2_eq_iff (by omega)]
    omega
theorem rung_of {r : Nat} (h : 0 < r) : (plc r + 1074).toNat * 4503599627370496 + mant r = r := by
  rcases mant_log h with ⟨h1, _, h3, h4⟩ | ⟨h1, _, h3, h4⟩
  · rw [h3, h4]; simp
  · rw [h3, h4]; omega
theorem dbl_frac : Ieee.double.fractionBits = 52 := rfl
/-- A number that the format has is written as its word. -/
theorem nearest_exact {r : Nat} (h0 : 0 < r) (hr : r < 9218868437227405312) (s : Bool) (k : Nat) : Ieee.double.nearest s (mant r * 2 ^ k) (plc r - k) = Ieee.double.word s r := by
  have hm := mant_pos h0
  have hmk : 0 < mant r * 2 ^ k := Nat.mul_pos hm (Nat.two_pow_pos k)
  have hlog := log2_scaled hm k
  have hlast : max (plc r - k + ((mant r * 2 ^ k).log2 : Int) - 52) (-1074) = plc r := by
    rw [hlog]
    rcases mant_log h0 with ⟨_, h2, h3, _⟩ | ⟨_, h2, h3, _⟩
    · rw [h3]; omega
    · have := plc_ge r
      rw [h2]; omega
  unfold Ieee.Format.nearest
  rw [if_neg (by omega), dbl_frac, dbl_least, dbl_bin, dbl_inf]
  simp only
  rw [show ((52 : Nat) : Int) = 52 from rfl, hlast]
  have e1 : (plc r - k - plc r).toNat = 0 := by omega
  have e2 : (plc r - (plc r - k)).toNat = k := by omega
  rw [e1, e2, Nat.shiftLeft_zero, show plc r - (-1074) = plc r + 1074 by omega]
  have ecut : Ieee.Toward.even.cut s (mant r * 2 ^ k) k = mant r := by
    unfold Ieee.Toward.cut
    simp only
    rw [Nat.min_eq_left (by rw [hlog]; omega), Nat.shiftLeft_eq, Nat.one_mul, Nat.mul_div_cancel _ (Nat.two_pow_pos k), Nat.mul_mod_left]
    have := Nat.two_pow_pos k
    have d1 : decide (2 ^ k < 2 * 0) = false := by simp
    have d2 : (2 ^ k == 2 * 0) = false := by simp
    rw [d1, d2]
    simp
  rw [ecut, rung_of h0, Nat.min_eq_left (by omega)]
theorem word_of {b : Nat} (hb : b < 18446744073709551616) : Ieee.double.word (sg b) (rg b) = b := by
  unfold Ieee.Format.word
  rw [dbl_sign]
  have := word_eq hb
  cases h : sg b
  · rw [h] at this; simp at this ⊢; omega
  · rw [h] at this; simp at this ⊢; omega
/-- The word of a sign and a rung. -/
def wo (s : Bool) (r : Nat) : Nat := if s then 9223372036854775808 + r else r
theorem wo_word (s : Bool) (r : Nat) : Ieee.double.word s r = wo s r := by unfold Ieee.Format.word wo; rw [dbl_sign]
theorem wo_of {b : Nat} (hb : b < 18446744073709551616) : wo (sg b) (rg b) = b := by rw [← wo_word]; exact word_of hb
theorem wo_lt {s : Bool} {r : Nat} (h : r < 9223372036854775808) : wo s r < 18446744073709551616 := by unfold wo; split <;> omega
theorem rg_wo {s : Bool} {r : Nat} (h : r < 9223372036854775808) : rg (wo s r) = r := by unfold wo rg; split <;> omega
theorem sg_wo {s : Bool} {r : Nat} (h : r < 9223372036854775808) : sg (wo s r) = s := by unfold wo sg; cases s <;> simp <;> omega
/-- A product that the format has. -/
theorem mul_exact {a b r k : Nat} (ha : a < 18446744073709551616) (hb : b < 18446744073709551616) (h1 : rg a < 9218868437227405312) (h2 : rg b < 9218868437227405312) (h0 : 0 < r) (hr : r < 9218868437227405312)
    (hm : mant (rg a) * mant (rg b) = mant r * 2 ^ k) (hp : plc (rg a) + plc (rg b) = plc r - k) : floatBits .mul .f64 a b = some (wo (sg a ^^ sg b) r) := by
  show Ieee.double.mul a b = _
  unfold Ieee.Format.mul
  rw [read_num ha h1, read_num hb h2]
  simp only [Ieee.Datum.product, Option.map_some, Ieee.Format.write]
  rw [hm, hp, nearest_exact h0 hr, wo_word]
theorem mul_one {b : Nat} (hb : b < 18446744073709551616) (h1 : rg b < 9218868437227405312) (h2 : 4503599627370496 ≤ rg b) : floatBits .mul .f64 4607182418800017408 b = some b := by
  have e1 : rg 4607182418800017408 = 4607182418800017408 := by decide
  have m1 : mant 4607182418800017408 = 4503599627370496 := by decide
  have p1 : plc 4607182418800017408 = -52 := by decide
  have := mul_exact (a := 4607182418800017408) (b := b) (r := rg b) (k := 52) (by decide) hb (by decide) h1 (by omega) h1 (by rw [e1, m1, Nat.mul_comm]) (by rw [e1, p1]; omega)
  rw [this, show sg 4607182418800017408 = false by decide, Bool.false_xor, wo_of hb]
end Go.Proofs.Ytofninkbinnbhaa
