/- Proof text: a fixed number as a float (Back), here and in the document. By an AI agent. No condition beyond what each theorem states. -/
import Derived.Test.YtofninkbinnbhaaGE
set_option linter.unusedVariables false
set_option linter.unusedSimpArgs false
namespace Go.Proofs.Ytofninkbinnbhaa
open Go.RowKit
/-- Of a whole number that isn't 0: its float's parts. -/
theorem of_int_parts (n : Int) (h1 : -4503599627370496 ≤ n) (h2 : n ≤ 4503599627370496) (h0 : n ≠ 0) : ∃ e f, 1023 ≤ e ∧ e ≤ 1075 ∧ f < 4503599627370496 ∧ floatOfInt .f64 n = wo (decide (n < 0)) (e * 4503599627370496 + f) ∧ (4503599627370496 + f) = n.natAbs * 2 ^ (1075 - e) := by
  obtain ⟨N, hN⟩ : ∃ N, N = n.natAbs := ⟨_, rfl⟩
  have hN0 : 0 < N := by omega
  have hN2 : N ≤ 4503599627370496 := by omega
  have hlt : N < 2 ^ (N.log2 + 1) := Nat.lt_log2_self
  have hle : 2 ^ N.log2 ≤ N := Nat.log2_self_le (by omega)
  have hk : N.log2 ≤ 52 := by
    rcases Nat.lt_or_ge 52 N.log2 with h | h
    · have : 2 ^ 53 ≤ 2 ^ N.log2 := Nat.pow_le_pow_right (by omega) h
      rw [show (2 : Nat) ^ 53 = 9007199254740992 from rfl] at this
      omega
    · exact h
  obtain ⟨k, hkk⟩ : ∃ k, k = N.log2 := ⟨_, rfl⟩
  rw [← hkk] at hlt hle hk
  have hM1 : 2 ^ k * 2 ^ (52 - k) ≤ N * 2 ^ (52 - k) := Nat.mul_le_mul_right _ hle
  have hM2 : N * 2 ^ (52 - k) < 2 ^ (k + 1) * 2 ^ (52 - k) := Nat.mul_lt_mul_of_pos_right hlt (Nat.two_pow_pos _)
  rw [← Nat.pow_add, show k + (52 - k) = 52 by omega, show (2 : Nat) ^ 52 = 4503599627370496 from rfl] at hM1
  rw [← Nat.pow_add, show k + 1 + (52 - k) = 53 by omega, show (2 : Nat) ^ 53 = 9007199254740992 from rfl] at hM2
  obtain ⟨M, hM⟩ : ∃ M, M = N * 2 ^ (52 - k) := ⟨_, rfl⟩
  rw [← hM] at hM1 hM2
  have hmin : min ((k + 1022) * 4503599627370496 + M) 9218868437227405312 = (k + 1023) * 4503599627370496 + (M - 4503599627370496) := by omega
  have hsum : 4503599627370496 + (M - 4503599627370496) = M := by omega
  refine ⟨k + 1023, M - 4503599627370496, by omega, by omega, by omega, ?_, ?_⟩
  · show Ieee.double.nearest (decide (n < 0)) n.natAbs 0 = _
    rw [← hN]
    unfold Ieee.Format.nearest
    rw [if_neg (by omega), dbl_frac, dbl_least, dbl_bin, dbl_inf, ← hkk]
    simp only
    rw [show max (0 + (k : Int) - ((52 : Nat) : Int)) (-1074) = (k : Int) - 52 by omega, show (0 - ((k : Int) - 52)).toNat = 52 - k by omega, show ((k : Int) - 52 - 0).toNat = 0 by omega, cut_even, Nat.shiftLeft_eq, rnd_zero, show ((k : Int) - 52 - -1074).toNat = k + 1022 by omega, ← hM, hmin, wo_word]
  · rw [← hN, show 1075 - (k + 1023) = 52 - k by omega, ← hM, hsum]
theorem log_norm {M : Nat} (h1 : 4503599627370496 ≤ M) (h2 : M < 9007199254740992) : M.log2 = 52 := by
  rw [Nat.log2_eq_iff (by omega)]
  rw [show (2 : Nat) ^ 52 = 4503599627370496 from rfl, show (2 : Nat) ^ (52 + 1) = 9007199254740992 from rfl]
  omega
/-- A quotient by a power of two. -/
theorem div_pow (s : Bool) {e f b : Nat} (h1 : 1023 ≤ e) (h2 : e ≤ 1075) (hf : f < 4503599627370496) (hb : b ≤ 33) : floatBits .quo .f64 (wo s (e * 4503599627370496 + f)) ((1023 + b) * 4503599627370496) = some (wo s ((e - b) * 4503599627370496 + f)) := by
  show Ieee.double.div _ _ = _
  unfold Ieee.Format.div
  have a1 : rg (wo s (e * 4503599627370496 + f)) = e * 4503599627370496 + f := rg_wo (by omega)
  have a2 : sg (wo s (e * 4503599627370496 + f)) = s := sg_wo (by omega)
  have b1 : rg ((1023 + b) * 4503599627370496) = (1023 + b) * 4503599627370496 := by unfold rg; omega
  have b2 : sg ((1023 + b) * 4503599627370496) = false := by unfold sg; simp; omega
  obtain ⟨m1, p1⟩ := norm_parts (R := e * 4503599627370496 + f) (d := e - 1) (M := 4503599627370496 + f) (by omega) (by omega) (by omega)
  obtain ⟨m2, p2⟩ := norm_parts (R := (1023 + b) * 4503599627370496) (d := 1022 + b) (M := 4503599627370496) (by omega) (by omega) (by omega)
  obtain ⟨m3, p3⟩ := norm_parts (R := (e - b) * 4503599627370496 + f) (d := e - b - 1) (M := 4503599627370496 + f) (by omega) (by omega) (by omega)
  rw [read_num (wo_lt (by omega)) (by rw [a1]; omega), read_num (by omega) (by rw [b1]; omega), a1, a2, b1, b2, m1, p1, m2, p2]
  simp only [Ieee.Datum.quotient, dbl_frac]
  rw [if_neg (by decide), log_norm (M := 4503599627370496) (by decide) (by decide), log_norm (M := 4503599627370496 + f) (by omega) (by omega), Nat.shiftLeft_eq]
  have e0 : 52 + 2 + 52 - 52 = 54 := by decide
  rw [e0]
  have e1 : (4503599627370496 + f) * 2 ^ 54 / 4503599627370496 = (4503599627370496 + f) * 4 := by
    rw [show (2 : Nat) ^ 54 = 4 * 4503599627370496 from rfl, ← Nat.mul_assoc, Nat.mul_div_cancel _ (by decide)]
  have e2 : (4503599627370496 + f) * 2 ^ 54 % 4503599627370496 = 0 := by
    rw [show (2 : Nat) ^ 54 = 4 * 4503599627370496 from rfl, ← Nat.mul_assoc, Nat.mul_mod_left]
  rw [e1, e2]
  simp only [bne_self_eq_false, Bool.toNat_false, Nat.add_zero, Bool.xor_false, Option.map_some, Ieee.Format.write]
  have hx := nearest_exact (r := (e - b) * 4503599627370496 + f) (by omega) (by omega) s 3
  rw [m3, p3] at hx
  rw [show 2 * ((4503599627370496 + f) * 4) = (4503599627370496 + f) * 2 ^ 3 by omega, show -1074 + ((e - 1 : Nat) : Int) - (-1074 + ((1022 + b : Nat) : Int)) - ((54 : Nat) : Int) - 1 = -1074 + ((e - b - 1 : Nat) : Int) - ((3 : Nat) : Int) by omega, hx, wo_word]
/-- The float of a fixed number. -/
structure BackF (n : Int) (bs : Int) (lb : Nat) : Prop where
  lt : lb < 18446744073709551616
  nan : nn lb = false
  inf : rg lb < 9218868437227405312
  sign : sg lb = decide (n < 0)
  val : (n = 0 ∧ rg lb = 0) ∨ (n ≠ 0 ∧ ∃ e f, 1023 ≤ e ∧ e ≤ 1075 ∧ f < 4503599627370496 ∧ rg lb = (e - bs.toNat) * 4503599627370496 + f ∧ 4503599627370496 + f = n.natAbs * 2 ^ (1075 - e))
theorem back_any (n bs : Int) (n1 : -4503599627370496 ≤ n) (n2 : n ≤ 4503599627370496) (b1 : 0 ≤ bs) (b2 : bs ≤ 32) : ∃ lb, BackF n bs lb ∧ (∀ w, Calls Try.prog 19 #[.int .i64 n, .int .i64 bs] w fun x w' => x = .returned (.tuple #[.float .f64 lb, .int .i64 0]) ∧ w' = w) ∧
    (∃ db : Nat, floatOfInt .f64 (2 ^ bs.toNat) = db ∧ floatBits .quo .f64 (floatOfInt .f64 n) db = some lb) := by
  have hdb : floatOfInt .f64 (2 ^ bs.toNat) = (1023 + bs.toNat) * 4503599627370496 := by
    obtain ⟨k, hk⟩ : ∃ k, k = bs.toNat := ⟨_, rfl⟩
    have hk2 : k ≤ 32 := by omega
    rw [← hk]
    have hp : (2 : Int) ^ k = ((2 ^ k : Nat) : Int) := by rw [Int.natCast_pow]; rfl
    have hle : 2 ^ k ≤ 2 ^ 32 := Nat.pow_le_pow_right (by omega) hk2
    rw [show (2 : Nat) ^ 32 = 4294967296 from rfl] at hle
    have hpos := Nat.two_pow_pos k
    obtain ⟨e, f, e1, e2, hf, hw, hM⟩ := of_int_parts ((2 : Int) ^ k) (by omega) (by omega) (by omega)
    rw [hw, decide_eq_false (by omega)]
    rw [hp, Int.natAbs_natCast, ← Nat.pow_add] at hM
    have hx : k + (1075 - e) = 52 := by
      rcases Nat.lt_trichotomy (k + (1075 - e)) 52 with h | h | h
      · have : 2 ^ (k + (1075 - e)) ≤ 2 ^ 51 := Nat.pow_le_pow_right (by omega) (by omega)
        rw [show (2 : Nat) ^ 51 = 2251799813685248 from rfl] at this
        omega
      · exact h
      · have : 2 ^ 53 ≤ 2 ^ (k + (1075 - e)) := Nat.pow_le_pow_right (by omega) (by omega)
        rw [show (2 : Nat) ^ 53 = 9007199254740992 from rfl] at this
        omega
    rw [hx, show (2 : Nat) ^ 52 = 4503599627370496 from rfl] at hM
    show wo false (e * 4503599627370496 + f) = _
    unfold wo
    simp only [Bool.false_eq_true, if_false]
    omega
  by_cases h0 : n = 0
  · subst h0
    have hf0 : floatOfInt .f64 0 = 0 := by decide
    refine ⟨0, ⟨by decide, by decide, by decide, by decide, .inl ⟨rfl, by decide⟩⟩, fun w => back_gen 0 bs 0 0 w b1 b2 (by decide) (by decide) hf0 (fun W => ldexp_zero false (-bs) W), _, rfl, ?_⟩
    rw [hf0, hdb]
    obtain ⟨k, hk⟩ : ∃ k, k = bs.toNat := ⟨_, rfl⟩
    have hk2 : k ≤ 32 := by omega
    rw [← hk]
    show Ieee.double.div _ _ = _
    unfold Ieee.Format.div
    have b1' : rg ((1023 + k) * 4503599627370496) = (1023 + k) * 4503599627370496 := by unfold rg; omega
    have b2' : sg ((1023 + k) * 4503599627370496) = false := by unfold sg; simp; omega
    obtain ⟨m2, p2⟩ := norm_parts (R := (1023 + k) * 4503599627370496) (d := 1022 + k) (M := 4503599627370496) (by omega) (by omega) (by omega)
    rw [read_num (b := 0) (by decide) (by decide), read_num (by omega) (by rw [b1']; omega), b1', b2', m2, p2, show rg 0 = 0 by decide, show sg 0 = false by decide, show mant 0 = 0 by decide]
    simp [Ieee.Datum.quotient, Ieee.Format.write, Ieee.Format.nearest, Ieee.Format.word]
  · obtain ⟨e, f, e1, e2, hf, hw, hM⟩ := of_int_parts n n1 n2 h0
    have hwl : wo (decide (n < 0)) (e * 4503599627370496 + f) < 18446744073709551616 := wo_lt (by omega)
    have hwr : rg (wo (decide (n < 0)) (e * 4503599627370496 + f)) = e * 4503599627370496 + f := rg_wo (by omega)
    have hnn : nn (wo (decide (n < 0)) (e * 4503599627370496 + f)) = false := by unfold nn; rw [hwr]; simp; omega
    have c1 : rg (wo (decide (n < 0)) ((e - bs.toNat) * 4503599627370496 + f)) = (e - bs.toNat) * 4503599627370496 + f := rg_wo (by omega)
    refine ⟨wo (decide (n < 0)) ((e - bs.toNat) * 4503599627370496 + f), ⟨wo_lt (by omega), by unfold nn; rw [c1]; simp; omega, by rw [c1]; omega, sg_wo (by omega), .inr ⟨h0, e, f, e1, e2, hf, c1, hM⟩⟩, fun w => ?_, _, rfl, ?_⟩
    · refine back_gen n bs _ _ w b1 b2 n1 n2 hw (fun W => ?_)
      exact ldexp_norm _ _ e f (decide (n < 0)) (-bs) 0 (-bs + e - 1023) W hwl hnn (by rw [hwr]; omega) (by rw [hwr]; omega) (fun W => normalize_normal _ hwl hnn (by rw [hwr]; omega) W) rfl (by omega) (by omega) hf (by omega) (by omega) (by decide) (by decide) (by omega) (e - bs.toNat) (by omega) (by omega) (by omega)
    · rw [hw, hdb]
      exact div_pow (decide (n < 0)) e1 e2 hf (by omega)
end Go.Proofs.Ytofninkbinnbhaa
