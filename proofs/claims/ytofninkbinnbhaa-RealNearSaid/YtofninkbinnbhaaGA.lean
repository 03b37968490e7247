/- Plain laws: floats made whole, and whole numbers as floats. No condition beyond what each theorem states. By an AI agent. -/
import Derived.Test.YtofninkbinnbhaaFW
set_option linter.unusedVariables false
set_option linter.unusedSimpArgs false
namespace Go.Proofs.Ytofninkbinnbhaa
open Go.RowKit
/-- n divided by a power of two, rounded to the nearest whole number; between two, the even one. -/
def rnd (n k : Nat) : Nat := n / 2 ^ k + (if 2 ^ k < 2 * (n % 2 ^ k) ∨ (2 * (n % 2 ^ k) = 2 ^ k ∧ n / 2 ^ k % 2 = 1) then 1 else 0)
theorem rnd_zero (n : Nat) : rnd n 0 = n := by unfold rnd; simp [Nat.mod_one]
theorem cut_gap (s : Bool) (n g : Nat) : (n / g + (decide (g < 2 * (n % g)) || (g == 2 * (n % g) && n / g % 2 == 1)).toNat) = n / g + (if g < 2 * (n % g) ∨ (2 * (n % g) = g ∧ n / g % 2 = 1) then 1 else 0) := by
  congr 1
  by_cases h1 : g < 2 * (n % g)
  · simp [h1]
  · by_cases h2 : 2 * (n % g) = g
    · by_cases h3 : n / g % 2 = 1
      · simp [h1, h2, h3]
      · simp [h1, h2, h3]
    · have h4 : ¬ g = 2 * (n % g) := fun h => h2 h.symm
      simp [h1, h2, h4]
theorem cut_even (s : Bool) (n k : Nat) : Ieee.Toward.even.cut s n k = rnd n k := by
  unfold Ieee.Toward.cut rnd
  simp only [Nat.shiftLeft_eq, Nat.one_mul]
  rw [cut_gap s]
  by_cases hk : k ≤ n.log2 + 2
  · rw [Nat.min_eq_left hk]
  · rw [Nat.min_eq_right (by omega)]
    have hn : n < 2 ^ (n.log2 + 1) := Nat.lt_log2_self
    have e : 2 ^ (n.log2 + 2) = 2 * 2 ^ (n.log2 + 1) := by rw [Nat.pow_succ]; omega
    have hg : 2 ^ (n.log2 + 2) < 2 ^ k := Nat.pow_lt_pow_right (by omega) (by omega)
    rw [Nat.div_eq_of_lt (by omega : n < 2 ^ (n.log2 + 2)), Nat.mod_eq_of_lt (by omega : n < 2 ^ (n.log2 + 2)), Nat.div_eq_of_lt (by omega : n < 2 ^ k), Nat.mod_eq_of_lt (by omega : n < 2 ^ k)]
    rw [if_neg (by omega), if_neg (by omega)]
theorem cut_zero (s : Bool) (n k : Nat) : Ieee.Toward.zero.cut s n k = n / 2 ^ k := by
  unfold Ieee.Toward.cut
  simp only [Nat.shiftLeft_eq, Nat.one_mul, Bool.toNat_false, Nat.add_zero]
  by_cases hk : k ≤ n.log2 + 2
  · rw [Nat.min_eq_left hk]
  · rw [Nat.min_eq_right (by omega)]
    have hn : n < 2 ^ (n.log2 + 1) := Nat.lt_log2_self
    have e : 2 ^ (n.log2 + 2) = 2 * 2 ^ (n.log2 + 1) := by rw [Nat.pow_succ]; omega
    have hg : 2 ^ (n.log2 + 2) < 2 ^ k := Nat.pow_lt_pow_right (by omega) (by omega)
    rw [Nat.div_eq_of_lt (by omega : n < 2 ^ (n.log2 + 2)), Nat.div_eq_of_lt (by omega : n < 2 ^ k)]
theorem rnd_le (n k N : Nat) (h : n < 2 ^ N) : rnd n k ≤ 2 ^ N := by
  unfold rnd
  have h1 : n / 2 ^ k ≤ n := Nat.div_le_self _ _
  split <;> omega
theorem rnd_tiny {n k : Nat} (hn : n < 2 ^ 53) (hk : 55 ≤ k) : rnd n k = 0 := by
  unfold rnd
  have h1 : 2 ^ 55 ≤ 2 ^ k := Nat.pow_le_pow_right (by omega) hk
  rw [show (2 : Nat) ^ 55 = 36028797018963968 from rfl] at h1
  rw [show (2 : Nat) ^ 53 = 9007199254740992 from rfl] at hn
  rw [Nat.div_eq_of_lt (by omega), Nat.mod_eq_of_lt (by omega), if_neg (by omega)]
/-- Is a float's magnitude the whole number N? -/
def IsInt (R N : Nat) : Prop := mant R * 2 ^ (plc R).toNat = N * 2 ^ (-(plc R)).toNat
theorem mg_int {R N c : Nat} (hc : c = 1074) (h : IsInt R N) : mg R = N * 2 ^ c := by
  have hp := plc_ge R
  rw [mg_eq]
  unfold IsInt at h
  rcases Int.le_total 0 (plc R) with h0 | h0
  · have e1 : (-(plc R)).toNat = 0 := by omega
    rw [e1, Nat.pow_zero, Nat.mul_one] at h
    have e2 : (plc R + 1074).toNat = (plc R).toNat + c := by omega
    rw [e2, Nat.pow_add, ← Nat.mul_assoc, h]
  · have e1 : (plc R).toNat = 0 := by omega
    rw [e1, Nat.pow_zero, Nat.mul_one] at h
    have e2 : c = (-(plc R)).toNat + (plc R + 1074).toNat := by omega
    rw [h, e2, Nat.pow_add, Nat.mul_assoc]
theorem int_order {R N R' N' : Nat} (h : IsInt R N) (h' : IsInt R' N') : R < R' ↔ N < N' := by
  obtain ⟨c, hc⟩ : ∃ c : Nat, c = 1074 := ⟨_, rfl⟩
  rw [← mg_lt_iff, mg_int hc h, mg_int hc h']
  have := Nat.two_pow_pos c
  exact ⟨fun h => Nat.lt_of_mul_lt_mul_right h, fun h => Nat.mul_lt_mul_of_pos_right h this⟩
theorem int_zero : IsInt 0 0 := by
  unfold IsInt
  have e : mant 0 = 0 := by decide
  rw [e]; simp
theorem norm_parts {R M : Nat} {d : Nat} (hR : R = d * 4503599627370496 + M) (h1 : 4503599627370496 ≤ M) (h2 : M < 9007199254740992) : mant R = M ∧ plc R = -1074 + (d : Int) := by
  unfold mant plc
  rw [if_neg (by omega), if_neg (by omega)]
  omega
/-- A whole number up to 2 to the power of 53 as a float. -/
theorem near_int (s : Bool) (N : Nat) (hN : N ≤ 9007199254740992) : ∃ R, Ieee.double.nearest s N 0 = wo s R ∧ R < 9218868437227405312 ∧ IsInt R N := by
  rcases Nat.eq_zero_or_pos N with h0 | h0
  · subst h0
    refine ⟨0, ?_, by decide, int_zero⟩
    unfold Ieee.Format.nearest
    rw [if_pos rfl, wo_word]
  · have hlt : N < 2 ^ (N.log2 + 1) := Nat.lt_log2_self
    have hle : 2 ^ N.log2 ≤ N := Nat.log2_self_le (by omega)
    by_cases hk : N.log2 ≤ 52
    · obtain ⟨k, hkk⟩ : ∃ k, k = N.log2 := ⟨_, rfl⟩
      rw [← hkk] at hlt hle hk
      obtain ⟨M, hM⟩ : ∃ M, M = N * 2 ^ (52 - k) := ⟨_, rfl⟩
      have hM1 : 4503599627370496 ≤ M := by
        have : 2 ^ k * 2 ^ (52 - k) ≤ N * 2 ^ (52 - k) := Nat.mul_le_mul_right _ hle
        rw [← Nat.pow_add, show k + (52 - k) = 52 by omega, ← hM] at this
        simpa using this
      have hM2 : M < 9007199254740992 := by
        have : N * 2 ^ (52 - k) < 2 ^ (k + 1) * 2 ^ (52 - k) := Nat.mul_lt_mul_of_pos_right hlt (Nat.two_pow_pos _)
        rw [← Nat.pow_add, show k + 1 + (52 - k) = 53 by omega, ← hM] at this
        simpa using this
      obtain ⟨hm, hp⟩ := norm_parts (R := (k + 1022) * 4503599627370496 + M) (d := k + 1022) rfl hM1 hM2
      refine ⟨(k + 1022) * 4503599627370496 + M, ?_, by omega, ?_⟩
      · unfold Ieee.Format.nearest
        rw [if_neg (by omega), dbl_frac, dbl_least, dbl_bin, dbl_inf, ← hkk]
        simp only
        rw [show max (0 + (k : Int) - ((52 : Nat) : Int)) (-1074) = (k : Int) - 52 by omega, show (0 - ((k : Int) - 52)).toNat = 52 - k by omega, show ((k : Int) - 52 - 0).toNat = 0 by omega, cut_even, Nat.shiftLeft_eq, ← hM]
        have e : rnd M 0 = M := rnd_zero M
        rw [e, show ((k : Int) - 52 - -1074).toNat = k + 1022 by omega, Nat.min_eq_left (by omega), wo_word]
      · unfold IsInt
        rw [hm, hp, hM, show (-1074 + ((k + 1022 : Nat) : Int)).toNat = 0 by omega, show (-(-1074 + ((k + 1022 : Nat) : Int))).toNat = 52 - k by omega]
        simp
    · have h53 : 2 ^ 53 ≤ 2 ^ N.log2 := Nat.pow_le_pow_right (by omega) (by omega)
      rw [show (2 : Nat) ^ 53 = 9007199254740992 from rfl] at h53
      obtain rfl : N = 9007199254740992 := by omega
      refine ⟨4845873199050653696, ?_, by decide, ?_⟩
      · rw [wo_word s _ |>.symm]
        have := nearest_exact (r := 4845873199050653696) (by decide) (by decide) s 1
        rw [show mant 4845873199050653696 * 2 ^ 1 = 9007199254740992 by decide, show plc 4845873199050653696 - ((1 : Nat) : Int) = 0 by decide] at this
        exact this
      · unfold IsInt
        decide
theorem near_self (s : Bool) {r : Nat} (h0 : 0 < r) (hr : r < 9218868437227405312) (hp : 0 ≤ plc r) : Ieee.double.nearest s (mant r * 2 ^ (plc r).toNat) 0 = wo s r ∧ IsInt r (mant r * 2 ^ (plc r).toNat) := by
  constructor
  · have := nearest_exact h0 hr s (plc r).toNat
    rw [show plc r - ((plc r).toNat : Int) = 0 by omega, wo_word] at this
    exact this
  · unfold IsInt
    rw [show (-(plc r)).toNat = 0 by omega]; simp
/-- The whole number nearest to a magnitude. -/
def rn (r : Nat) : Nat := if 0 ≤ plc r then mant r * 2 ^ (plc r).toNat else rnd (mant r) (-(plc r)).toNat
theorem mant_lt (r : Nat) : mant r < 9007199254740992 := by unfold mant; split <;> omega
/-- A float made whole is a float, and stands for that number. -/
theorem whole_of {b : Nat} (hb : b < 18446744073709551616) (hr : rg b < 9218868437227405312) : ∃ R, whole b = wo (sg b) R ∧ R < 9218868437227405312 ∧ IsInt R (rn (rg b)) := by
  unfold whole
  have hd : FloatKind.f64.decode b = .number (sg b) (mant (rg b)) (plc (rg b)) := read_num hb hr
  rw [hd]
  show ∃ R, Ieee.double.write (Ieee.Datum.integral .even (.number (sg b) (mant (rg b)) (plc (rg b)))) = _ ∧ _
  simp only [Ieee.Datum.integral, Ieee.Format.write, cut_even, Nat.shiftLeft_eq]
  unfold rn
  by_cases hp : 0 ≤ plc (rg b)
  · rw [if_pos hp, show (-(plc (rg b))).toNat = 0 by omega]
    have e : rnd (mant (rg b) * 2 ^ (plc (rg b)).toNat) 0 = mant (rg b) * 2 ^ (plc (rg b)).toNat := rnd_zero _
    rw [e]
    rcases Nat.eq_zero_or_pos (rg b) with h0 | h0
    · rw [h0] at hp; exact absurd hp (by decide)
    · obtain ⟨h1, h2⟩ := near_self (sg b) h0 hr hp
      exact ⟨rg b, h1, hr, h2⟩
  · rw [if_neg hp, show (plc (rg b)).toNat = 0 by omega, Nat.pow_zero, Nat.mul_one]
    have := mant_lt (rg b)
    exact near_int (sg b) _ (by have := rnd_le (mant (rg b)) (-(plc (rg b))).toNat 53 (by simpa using this); simpa using this)
/-- The int of a float that is a whole number. -/
theorem to_int {s : Bool} {R N : Nat} (hR : R < 9218868437227405312) (h : IsInt R N) (hN : N < 9223372036854775808) : floatToIntVal .f64 (wo s R) .i64 = some (if s then -(N : Int) else N) := by
  unfold floatToIntVal
  have hd : FloatKind.f64.decode (wo s R) = .number s (mant R) (plc R) := by
    have := read_num (b := wo s R) (wo_lt (by omega)) (by rw [rg_wo (by omega)]; exact hR)
    rw [rg_wo (by omega), sg_wo (by omega)] at this
    exact this
  rw [hd]
  have hi : (Ieee.Datum.number s (mant R) (plc R)).toInt .zero = some (if s then -(N : Int) else N) := by
    simp only [Ieee.Datum.toInt, Ieee.Datum.integral, cut_zero, Nat.shiftLeft_eq, signed_eq, Nat.pow_zero, Nat.mul_one]
    have e : mant R * 2 ^ (plc R).toNat / 2 ^ (-(plc R)).toNat = N := by
      unfold IsInt at h
      rw [h, Nat.mul_div_cancel _ (Nat.two_pow_pos _)]
    rw [e]
  rw [hi]
  have m1 : IntKind.i64.min = -9223372036854775808 := by decide
  have m2 : IntKind.i64.max = 9223372036854775807 := by decide
  simp only
  rw [m1, m2, if_pos]
  cases s <;> simp <;> omega
/-- A float of an int. -/
theorem of_int (n : Int) (h1 : -4503599627370496 ≤ n) (h2 : n ≤ 4503599627370496) : ∃ R, floatOfInt .f64 n = wo (decide (n < 0)) R ∧ R < 9218868437227405312 ∧ IsInt R n.natAbs := by
  have := near_int (decide (n < 0)) n.natAbs (by omega)
  exact this
end Go.Proofs.Ytofninkbinnbhaa
