/- Plain laws: words of binary floats in order. No condition beyond what each theorem states. By an AI agent. -/
import Derived.Test.YtofninkbinnbhaaProg
import Derived.Test.YtofninkbinnbhaaL
import Derived.Laws.Bits64b
import Derived.Handy
set_option linter.unusedVariables false
set_option linter.unusedSimpArgs false
namespace Go.Proofs.Ytofninkbinnbhaa
open Go.RowKit
/-- The bits without the sign; the sign. -/
def rg (b : Nat) : Nat := b % 9223372036854775808
def sg (b : Nat) : Bool := decide (9223372036854775808 ≤ b)
/-- Is it no number? -/
def nn (b : Nat) : Bool := decide (9218868437227405312 < rg b)
/-- A whole number that goes by the order. -/
def key (b : Nat) : Int := if sg b then -(rg b : Int) else rg b
/-- What a magnitude is, in units of the least one. -/
def mg (r : Nat) : Nat := if r < 4503599627370496 then r else (4503599627370496 + r % 4503599627370496) * 2 ^ (r / 4503599627370496 - 1)
theorem mg_zero : mg 0 = 0 := by decide
theorem mg_succ (r : Nat) : mg r < mg (r + 1) := by
  unfold mg
  by_cases h1 : r + 1 < 4503599627370496
  · rw [if_pos h1, if_pos (by omega)]; omega
  · rw [if_neg h1]
    by_cases h2 : r < 4503599627370496
    · obtain rfl : r = 4503599627370495 := by omega
      decide
    · rw [if_neg h2]
      by_cases h3 : (r + 1) % 4503599627370496 = 0
      · have e1 : (r + 1) / 4503599627370496 = r / 4503599627370496 + 1 := by omega
        have e2 : r % 4503599627370496 = 4503599627370495 := by omega
        have e3 : r / 4503599627370496 + 1 - 1 = (r / 4503599627370496 - 1) + 1 := by omega
        rw [h3, e1, e2, e3, Nat.pow_succ]
        have := Nat.two_pow_pos (r / 4503599627370496 - 1)
        omega
      · have e1 : (r + 1) / 4503599627370496 = r / 4503599627370496 := by omega
        have e2 : (r + 1) % 4503599627370496 = r % 4503599627370496 + 1 := by omega
        rw [e1, e2]
        have := Nat.two_pow_pos (r / 4503599627370496 - 1)
        exact Nat.mul_lt_mul_of_pos_right (by omega) this
theorem mg_lt {r r' : Nat} (h : r < r') : mg r < mg r' := by
  obtain ⟨k, rfl⟩ : ∃ k, r' = r + 1 + k := ⟨r' - (r + 1), by omega⟩
  clear h
  induction k with
  | zero => exact mg_succ r
  | succ k ih => exact Nat.lt_trans ih (mg_succ _)
theorem mg_le {r r' : Nat} (h : r ≤ r') : mg r ≤ mg r' := by
  rcases Nat.lt_or_ge r r' with h1 | h1
  · exact Nat.le_of_lt (mg_lt h1)
  · obtain rfl : r = r' := by omega
    exact Nat.le_refl _
/-- A number read: its digits and its place. -/
def mant (r : Nat) : Nat := if r < 4503599627370496 then r else 4503599627370496 + r % 4503599627370496
def plc (r : Nat) : Int := if r < 4503599627370496 then -1074 else -1074 + (r / 4503599627370496 - 1 : Nat)
theorem mg_eq (r : Nat) : mg r = mant r * 2 ^ (plc r + 1074).toNat := by
  unfold mg mant plc
  split
  · simp
  · congr 2
    omega
theorem dbl_sign : Ieee.double.signWeight = 9223372036854775808 := by decide
theorem dbl_bin : Ieee.double.binade = 4503599627370496 := by decide
theorem dbl_inf : Ieee.double.infRung = 9218868437227405312 := by decide
theorem dbl_least : Ieee.double.leastPlace = -1074 := by decide
theorem read_num {b : Nat} (hb : b < 18446744073709551616) (h : rg b < 9218868437227405312) : Ieee.double.read b = .number (sg b) (mant (rg b)) (plc (rg b)) := by
  have hs : (b / 9223372036854775808 % 2 == 1) = sg b := by
    unfold sg
    by_cases h1 : 9223372036854775808 ≤ b
    · have : b / 9223372036854775808 = 1 := by omega
      simp [h1, this]
    · have : b / 9223372036854775808 = 0 := by omega
      simp [h1, this]
  unfold Ieee.Format.read
  rw [dbl_sign, dbl_bin, dbl_inf, dbl_least, hs]
  unfold rg at h
  unfold mant plc rg
  simp only
  split
  · rfl
  · first | rfl | rw [if_pos h]
theorem read_inf {b : Nat} (hb : b < 18446744073709551616) (h : rg b = 9218868437227405312) : Ieee.double.read b = .infinity (sg b) := by
  have hs : (b / 9223372036854775808 % 2 == 1) = sg b := by
    unfold sg
    by_cases h1 : 9223372036854775808 ≤ b
    · have : b / 9223372036854775808 = 1 := by omega
      simp [h1, this]
    · have : b / 9223372036854775808 = 0 := by omega
      simp [h1, this]
  unfold Ieee.Format.read
  rw [dbl_sign, dbl_bin, dbl_inf, hs]
  unfold rg at h
  simp only [h]
  simp
theorem read_nan {b : Nat} (h : nn b = true) : ∃ s t, Ieee.double.read b = .nan s t := by
  unfold nn rg at h
  simp only [decide_eq_true_eq] at h
  unfold Ieee.Format.read
  rw [dbl_sign, dbl_bin, dbl_inf]
  simp only
  rw [if_neg (by omega), if_neg (by omega), if_neg (by omega)]
  exact ⟨_, _, rfl⟩
theorem order_nan_l {a b : Nat} (h : nn a = true) : Ieee.double.order a b = none := by
  obtain ⟨s, t, e⟩ := read_nan h
  unfold Ieee.Format.order
  rw [e]
  rfl
theorem order_nan_r {a b : Nat} (h : nn b = true) : Ieee.double.order a b = none := by
  obtain ⟨s, t, e⟩ := read_nan h
  unfold Ieee.Format.order
  rw [e]
  cases Ieee.double.read a <;> rfl
theorem signed_eq (s : Bool) (m up : Nat) : Ieee.signed s m up = if s then -((m * 2 ^ up : Nat) : Int) else ((m * 2 ^ up : Nat) : Int) := by
  unfold Ieee.signed
  rw [Nat.shiftLeft_eq]
/-- Two signed magnitudes, each a multiple of the same unit, stand as their places in the row do. -/
theorem compare_scaled {x y : Int} {u v : Int} (h1 : x < y ↔ u < v) (h2 : x = y ↔ u = v) : compare x y = compare u v := by
  show compareOfLessAndEq x y = compareOfLessAndEq u v
  unfold compareOfLessAndEq
  by_cases h : x < y
  · rw [if_pos h, if_pos (h1.1 h)]
  · rw [if_neg h, if_neg (fun k => h (h1.2 k))]
    by_cases h' : x = y
    · rw [if_pos h', if_pos (h2.1 h')]
    · rw [if_neg h', if_neg (fun k => h' (h2.2 k))]
theorem mg_lt_iff (r r' : Nat) : mg r < mg r' ↔ r < r' := by
  constructor
  · intro h
    rcases Nat.lt_or_ge r r' with h1 | h1
    · exact h1
    · have := mg_le h1; omega
  · exact mg_lt
theorem mg_eq_iff (r r' : Nat) : mg r = mg r' ↔ r = r' := by
  constructor
  · intro h
    rcases Nat.lt_trichotomy r r' with h1 | h1 | h1
    · have := mg_lt h1; omega
    · exact h1
    · have := mg_lt h1; omega
  · rintro rfl; rfl
theorem mg_pos {r : Nat} (h : 0 < r) : 0 < mg r := by
  have := mg_lt h
  rw [mg_zero] at this
  exact this
theorem plc_ge (r : Nat) : -1074 ≤ plc r := by unfold plc; split <;> omega
/-- Digits moved to a common place. -/
theorem moved_up {r : Nat} {base : Int} (h1 : -1074 ≤ base) (h2 : base ≤ plc r) : mant r * 2 ^ (plc r - base).toNat * 2 ^ (base + 1074).toNat = mg r := by
  rw [mg_eq, Nat.mul_assoc, ← Nat.pow_add]
  congr 2
  omega
theorem order_num {a b : Nat} (ha : a < 18446744073709551616) (hb : b < 18446744073709551616) (h1 : rg a < 9218868437227405312) (h2 : rg b < 9218868437227405312) : Ieee.double.order a b = some (compare (key a) (key b)) := by
  unfold Ieee.Format.order
  rw [read_num ha h1, read_num hb h2]
  simp only [Ieee.Datum.order, signed_eq]
  congr 1
  have hp := plc_ge (rg a)
  have hq := plc_ge (rg b)
  obtain ⟨base, hbase⟩ : ∃ base, base = min (plc (rg a)) (plc (rg b)) := ⟨_, rfl⟩
  have e1 := moved_up (r := rg a) (base := base) (by omega) (by omega)
  have e2 := moved_up (r := rg b) (base := base) (by omega) (by omega)
  rw [← hbase]
  obtain ⟨X, hX⟩ : ∃ X, X = mant (rg a) * 2 ^ (plc (rg a) - base).toNat := ⟨_, rfl⟩
  obtain ⟨Y, hY⟩ : ∃ Y, Y = mant (rg b) * 2 ^ (plc (rg b) - base).toNat := ⟨_, rfl⟩
  obtain ⟨T, hT⟩ : ∃ T, T = 2 ^ (base + 1074).toNat := ⟨_, rfl⟩
  have hT0 : 0 < T := by rw [hT]; exact Nat.two_pow_pos _
  rw [← hX, ← hY]
  rw [← hX, ← hT] at e1
  rw [← hY, ← hT] at e2
  have l1 : X < Y ↔ rg a < rg b := by
    rw [← mg_lt_iff (rg a) (rg b), ← e1, ← e2]
    exact ⟨fun h => Nat.mul_lt_mul_of_pos_right h hT0, fun h => Nat.lt_of_mul_lt_mul_right h⟩
  have l2 : Y < X ↔ rg b < rg a := by
    rw [← mg_lt_iff (rg b) (rg a), ← e1, ← e2]
    exact ⟨fun h => Nat.mul_lt_mul_of_pos_right h hT0, fun h => Nat.lt_of_mul_lt_mul_right h⟩
  have z1 : X = 0 ↔ rg a = 0 := by
    rw [← mg_eq_iff (rg a) 0, mg_zero, ← e1]
    constructor
    · rintro rfl; simp
    · intro h; rcases Nat.mul_eq_zero.1 h with h | h <;> omega
  have z2 : Y = 0 ↔ rg b = 0 := by
    rw [← mg_eq_iff (rg b) 0, mg_zero, ← e2]
    constructor
    · rintro rfl; simp
    · intro h; rcases Nat.mul_eq_zero.1 h with h | h <;> omega
  clear hX hY hT e1 e2 hbase
  unfold key
  cases sg a <;> cases sg b <;> simp only [Bool.false_eq_true, if_false, if_true] <;> refine compare_scaled ?_ ?_ <;> omega
theorem compare_int (x y : Int) : compare x y = if x < y then .lt else if x = y then .eq else .gt := rfl
theorem key_lt {b : Nat} (h : rg b < 9218868437227405312) : -9218868437227405312 < key b ∧ key b < 9218868437227405312 := by
  unfold key; split <;> omega
theorem key_inf {b : Nat} (h : rg b = 9218868437227405312) : key b = if sg b then -9218868437227405312 else 9218868437227405312 := by
  unfold key; rw [h]; rfl
/-- THE ORDER OF FLOATS, by their words. -/
theorem order_key {a b : Nat} (ha : a < 18446744073709551616) (hb : b < 18446744073709551616) (h1 : nn a = false) (h2 : nn b = false) : Ieee.double.order a b = some (compare (key a) (key b)) := by
  unfold nn at h1 h2
  simp only [decide_eq_false_iff_not, Nat.not_lt] at h1 h2
  rcases Nat.lt_or_ge (rg a) 9218868437227405312 with h3 | h3
  · rcases Nat.lt_or_ge (rg b) 9218868437227405312 with h4 | h4
    · exact order_num ha hb h3 h4
    · have h4 : rg b = 9218868437227405312 := by omega
      unfold Ieee.Format.order
      rw [read_num ha h3, read_inf hb h4]
      have := key_lt h3
      rw [key_inf h4, compare_int]
      simp only [Ieee.Datum.order]
      cases sg b
      · simp only [Bool.false_eq_true, if_false]; rw [if_pos (by omega)]
      · simp only [if_true]; rw [if_neg (by omega), if_neg (by omega)]
  · have h3 : rg a = 9218868437227405312 := by omega
    rcases Nat.lt_or_ge (rg b) 9218868437227405312 with h4 | h4
    · unfold Ieee.Format.order
      rw [read_inf ha h3, read_num hb h4]
      have := key_lt h4
      rw [key_inf h3, compare_int]
      simp only [Ieee.Datum.order]
      cases sg a
      · simp only [Bool.false_eq_true, if_false]; rw [if_neg (by omega), if_neg (by omega)]
      · simp only [if_true]; rw [if_pos (by omega)]
    · have h4 : rg b = 9218868437227405312 := by omega
      unfold Ieee.Format.order
      rw [read_inf ha h3, read_inf hb h4, key_inf h3, key_inf h4]
      simp only [Ieee.Datum.order]
      cases sg a <;> cases sg b <;> decide
theorem word_eq {b : Nat} (hb : b < 18446744073709551616) : b = (if sg b then 9223372036854775808 else 0) + rg b := by
  unfold sg rg
  by_cases h : 9223372036854775808 ≤ b
  · simp [h]; omega
  · simp [h]; omega
theorem andNot_sign (b : Nat) (hb : b < 18446744073709551616) : bits .andNot .u64 (b : Int) 9223372036854775808 = (rg b : Int) := by
  have h1 := bits_and_u64_nat b 9223372036854775807 hb (by omega)
  rw [show ((9223372036854775807 : Nat) : Int) = 9223372036854775807 from rfl] at h1
  have e : bits .andNot .u64 (b : Int) 9223372036854775808 = bits .and .u64 (b : Int) 9223372036854775807 := by
    unfold bits
    rfl
  rw [e, h1]
  have := Nat.and_two_pow_sub_one_eq_mod b 63
  rw [show 2 ^ 63 - 1 = 9223372036854775807 from rfl, show 2 ^ 63 = 9223372036854775808 from rfl] at this
  rw [this]
  rfl
theorem wrap_word (b : Nat) (hb : b < 18446744073709551616) : IntKind.i64.wrap (b : Int) = if sg b then (b : Int) - 18446744073709551616 else b := by
  unfold sg
  by_cases h : 9223372036854775808 ≤ b
  · simp [IntKind.wrap, IntKind.bits, IntKind.signed, h]; omega
  · simp [IntKind.wrap, IntKind.bits, IntKind.signed, h]; omega
end Go.Proofs.Ytofninkbinnbhaa
