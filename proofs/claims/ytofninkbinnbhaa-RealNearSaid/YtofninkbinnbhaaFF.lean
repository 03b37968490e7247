/- Proof text: a float times a power of two (math.ldexp), the first. By an AI agent. No condition beyond what each theorem states. -/
import Derived.Test.YtofninkbinnbhaaFE
set_option linter.unusedVariables false
set_option linter.unusedSimpArgs false
namespace Go.Proofs.Ytofninkbinnbhaa
open Go.RowKit
theorem word_and (s e f : Nat) (hs : s ≤ 1) (he : e < 2 ^ 11) (hf : f < 2 ^ 52) : (2 ^ 52 * (2 ^ 11 * s + e) + f) &&& (2 ^ 52 * 2 ^ 11 + (2 ^ 52 - 1)) = 2 ^ 52 * (2 ^ 11 * s) + f := by
  apply Nat.eq_of_testBit_eq
  intro j
  rw [Nat.testBit_and, Nat.testBit_two_pow_mul_add (2 ^ 11 * s + e) hf j, Nat.testBit_two_pow_mul_add (2 ^ 11) (show 2 ^ 52 - 1 < 2 ^ 52 by decide) j, Nat.testBit_two_pow_mul_add (2 ^ 11 * s) hf j]
  by_cases h : j < 52
  · rw [if_pos h, if_pos h, if_pos h, Nat.testBit_two_pow_sub_one]
    simp [h]
  · rw [if_neg h, if_neg h, if_neg h]
    generalize j - 52 = k
    have h1 := Nat.testBit_two_pow_mul_add s he k
    have h2 := Nat.testBit_two_pow_mul_add s (show 0 < 2 ^ 11 by decide) k
    rw [Nat.add_zero] at h2
    rw [h1, h2]
    by_cases hk : k < 11
    · rw [if_pos hk, if_pos hk, Nat.testBit_two_pow]
      simp; omega
    · rw [if_neg hk, if_neg hk, Nat.testBit_two_pow]
      by_cases h11 : 11 = k
      · subst h11; simp
      · have hz : s.testBit (k - 11) = false := by
          apply Nat.testBit_lt_two_pow
          have : 2 ^ 1 ≤ 2 ^ (k - 11) := Nat.pow_le_pow_right (by omega) (by omega)
          omega
        rw [hz]; rfl
theorem word_or (s e f : Nat) (he : e < 2 ^ 11) (hf : f < 2 ^ 52) : (2 ^ 52 * (2 ^ 11 * s) + f) ||| (2 ^ 52 * e) = 2 ^ 52 * (2 ^ 11 * s + e) + f := by
  apply Nat.eq_of_testBit_eq
  intro j
  have g1 := Nat.testBit_two_pow_mul_add e (show 0 < 2 ^ 52 by decide) j
  rw [Nat.add_zero] at g1
  rw [Nat.testBit_or, Nat.testBit_two_pow_mul_add (2 ^ 11 * s) hf j, g1, Nat.testBit_two_pow_mul_add (2 ^ 11 * s + e) hf j]
  by_cases h : j < 52
  · rw [if_pos h, if_pos h, if_pos h]; simp
  · rw [if_neg h, if_neg h, if_neg h]
    generalize j - 52 = k
    have h1 := Nat.testBit_two_pow_mul_add s he k
    have h2 := Nat.testBit_two_pow_mul_add s (show 0 < 2 ^ 11 by decide) k
    rw [Nat.add_zero] at h2
    rw [h1, h2]
    by_cases hk : k < 11
    · rw [if_pos hk, if_pos hk]; simp
    · rw [if_neg hk, if_neg hk, Nat.testBit_lt_two_pow (Nat.lt_of_lt_of_le he (Nat.pow_le_pow_right (by omega) (by omega)))]; simp
theorem wo_parts (s : Bool) (e f : Nat) : wo s (e * 4503599627370496 + f) = 2 ^ 52 * (2 ^ 11 * s.toNat + e) + f := by
  unfold wo
  cases s <;> simp <;> omega
theorem andNot_exp (s : Bool) (e f : Nat) (he : e < 2048) (hf : f < 4503599627370496) : bits .andNot .u64 ((wo s (e * 4503599627370496 + f) : Nat) : Int) 9218868437227405312 = ((wo s f : Nat) : Int) := by
  have hb : wo s (e * 4503599627370496 + f) < 18446744073709551616 := wo_lt (by omega)
  have h1 := bits_and_u64_nat (wo s (e * 4503599627370496 + f)) 9227875636482146303 hb (by omega)
  have e1 : bits .andNot .u64 ((wo s (e * 4503599627370496 + f) : Nat) : Int) 9218868437227405312 = bits .and .u64 ((wo s (e * 4503599627370496 + f) : Nat) : Int) ((9227875636482146303 : Nat) : Int) := by
    unfold bits
    rfl
  rw [e1, h1, wo_parts, show (9227875636482146303 : Nat) = 2 ^ 52 * 2 ^ 11 + (2 ^ 52 - 1) by decide, word_and _ _ _ (by cases s <;> decide) he hf]
  have := wo_parts s 0 f
  rw [Nat.zero_mul, Nat.zero_add, Nat.add_zero] at this
  rw [this]
theorem or_exp (s : Bool) (e f : Nat) (he : e < 2048) (hf : f < 4503599627370496) : bits .or .u64 ((wo s f : Nat) : Int) ((e : Int) * 4503599627370496) = ((wo s (e * 4503599627370496 + f) : Nat) : Int) := by
  have h1 := bits_or_u64_nat (wo s f) (e * 4503599627370496) (wo_lt (by omega)) (by omega)
  rw [show ((e : Int) * 4503599627370496) = ((e * 4503599627370496 : Nat) : Int) by simp, h1, wo_parts]
  have h2 := wo_parts s 0 f
  rw [Nat.zero_mul, Nat.zero_add, Nat.add_zero] at h2
  rw [h2, show e * 4503599627370496 = 2 ^ 52 * e by omega, word_or _ _ _ he hf]
theorem and_2047 (x : Nat) (hx : x < 4096) : bits .and .i64 (x : Int) 2047 = ((x % 2048 : Nat) : Int) := by
  have h1 : (BitVec.ofInt 64 (x : Int)).toNat = x := by
    rw [BitVec.ofInt_natCast, BitVec.toNat_ofNat]; exact Nat.mod_eq_of_lt (by omega)
  have h2 : (BitVec.ofInt 64 2047).toNat = 2047 := by decide
  show IntKind.i64.wrap ((BitVec.ofInt 64 (x : Int) &&& BitVec.ofInt 64 2047).toNat : Int) = _
  have := Nat.and_two_pow_sub_one_eq_mod x 11
  rw [show 2 ^ 11 - 1 = 2047 from rfl, show 2 ^ 11 = 2048 from rfl] at this
  rw [BitVec.toNat_and, h1, h2, this]
  simp [IntKind.wrap, IntKind.bits, IntKind.signed]
  omega
theorem isnan_any (b : Nat) (hb : b < 18446744073709551616) (w : World) : Calls Try.prog 41 #[.float .f64 b] w fun x w' => x = .returned (.bool (nn b)) ∧ w' = w := by
  have hs := ord_selfn hb
  go_enter Try.func41, Try.ntmps41
  go_wp2_with fail
  go_ret
  exact ⟨by rw [← hs]; rfl, rfl⟩
theorem lt_least (b : Nat) (h : nn b = false) : (FloatKind.f64.format.order (rg b) 4503599627370496 == some .lt) = decide (rg b < 4503599627370496) := by
  have hl := rg_lt b
  rw [ord_lt (by omega) (by decide) (by rw [nn_rg]; exact h) (by decide), key_rg, show key 4503599627370496 = 4503599627370496 by decide]
  by_cases h2 : rg b < 4503599627370496
  · rw [decide_eq_true (by omega), decide_eq_true h2]
  · rw [decide_eq_false (by omega), decide_eq_false h2]
theorem normalize_normal (b : Nat) (hb : b < 18446744073709551616) (h : nn b = false) (h2 : 4503599627370496 ≤ rg b) (w : World) : Calls Try.prog 42 #[.float .f64 b] w fun x w' => x = .returned (.tuple #[.float .f64 b, .int .i64 0]) ∧ w' = w := by
  have t := lt_least b h
  rw [decide_eq_false (by omega)] at t
  have CA := Lib.hid (fun W => abs_any b hb W)
  clear hb h h2
  go_enter Try.func42, Try.ntmps42
  go_wp2_with fail
  refine (CA.out _).mono ?_
  rintro x w1 ⟨rfl, rfl⟩
  go_wp2_with fail
  go_ret2
  exact ⟨rfl, rfl⟩
end Go.Proofs.Ytofninkbinnbhaa
