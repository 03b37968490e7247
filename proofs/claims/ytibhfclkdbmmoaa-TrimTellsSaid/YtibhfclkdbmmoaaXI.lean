/- Proof text: numbers of 128 bits (package xint), on: Div, all of it; Mul and Div together. By an AI agent. No condition beyond what each theorem states. -/
import Derived.Test.YtibhfclkdbmmoaaXH
set_option linter.unusedVariables false
set_option linter.unusedSimpArgs false
namespace Go.Proofs.Ytibhfclkdbmmoaa
open Go.RowKit

theorem nat_parts (X d : Nat) (hd : 0 < d) :
    X / d = X / 18446744073709551616 / d * 18446744073709551616 + (X / 18446744073709551616 % d * 18446744073709551616 + X % 18446744073709551616) / d ∧
    X % d = (X / 18446744073709551616 % d * 18446744073709551616 + X % 18446744073709551616) % d ∧
    (X / 18446744073709551616 % d * 18446744073709551616 + X % 18446744073709551616) / d < 18446744073709551616 := by
  have h := two_digits (un32 := 0) (un1 := X / 18446744073709551616) (un0 := X % 18446744073709551616) (y := d) (B := 18446744073709551616) hd (by omega)
  simp only [Nat.zero_mul, Nat.zero_add] at h
  have e : X / 18446744073709551616 * 18446744073709551616 + X % 18446744073709551616 = X := by omega
  rw [e] at h
  exact ⟨h.1, h.2, digit_lt hd (Nat.mod_lt _ hd) (by omega)⟩
theorem hi_nat (X : Nat) : hi (X : Int) = ((X / 18446744073709551616 : Nat) : Int) := by unfold hi; omega
theorem lo_nat (X : Nat) : lo (X : Int) = ((X % 18446744073709551616 : Nat) : Int) := by unfold lo; omega
theorem hi_div (X d : Nat) (hd : 0 < d) : hi ((X / d : Nat) : Int) = ((X / 18446744073709551616 / d : Nat) : Int) ∧ lo ((X / d : Nat) : Int) = (((X / 18446744073709551616 % d * 18446744073709551616 + X % 18446744073709551616) / d : Nat) : Int) := by
  obtain ⟨h1, _, h3⟩ := nat_parts X d hd
  rw [h1]
  generalize (X / 18446744073709551616 % d * 18446744073709551616 + X % 18446744073709551616) / d = a at *
  generalize X / 18446744073709551616 / d = b at *
  exact halves (by omega) (by omega) (by omega)
theorem neg_div (X d : Nat) (hd : 0 < d) (h : X % d = 0) : (-(X : Int)) / d = -((X / d : Nat) : Int) ∧ (-(X : Int)) % d = 0 := by
  have e := Nat.div_add_mod X d
  have e2 : (X : Int) = (d : Int) * ((X / d : Nat) : Int) := by rw [← Int.natCast_mul]; omega
  constructor
  · have : -(X : Int) = -((X / d : Nat) : Int) * d := by rw [Int.neg_mul, Int.mul_comm]; omega
    rw [this, Int.mul_ediv_cancel _ (by omega)]
  · rw [Int.emod_eq_zero_of_dvd]
    exact Int.dvd_neg.2 ⟨_, e2⟩
theorem neg_div1 (X d : Nat) (hd : 0 < d) (h : 0 < X % d) : (-(X : Int)) / d = -((X / d : Nat) : Int) - 1 ∧ (-(X : Int)) % d = d - ((X % d : Nat) : Int) := by
  have e := Nat.div_add_mod X d
  have hl := Nat.mod_lt X hd
  have e2 : (X : Int) = (d : Int) * ((X / d : Nat) : Int) + ((X % d : Nat) : Int) := by rw [← Int.natCast_mul]; omega
  have e3 : -(X : Int) = (d - ((X % d : Nat) : Int)) + (-((X / d : Nat) : Int) - 1) * d := by
    rw [Int.sub_mul, Int.neg_mul, Int.mul_comm ((X / d : Nat) : Int)]; omega
  constructor
  · rw [e3, Int.add_mul_ediv_right _ _ (by omega), Int.ediv_eq_zero_of_lt (by omega) (by omega)]; omega
  · rw [e3, Int.add_mul_emod_self_right, Int.emod_eq_of_lt (by omega) (by omega)]

theorem wrap64_of {n : Int} (h1 : -9223372036854775808 ≤ n) (h2 : n < 9223372036854775808) : wrap64 n = n := by unfold wrap64; omega
theorem div_any (z : Int) (d : Nat) (w : World) (h1 : -170141183460469231731687303715884105728 < z) (h2 : z < 170141183460469231731687303715884105728) (d1 : 1 ≤ d) (d2 : d < 9223372036854775808) :
    Calls Try.prog 39 #[I z, .int .i64 (d : Int)] w fun e w' => e = .returned (.tuple #[I (z / d), .int .i64 (z % d), .bool true]) ∧ Ext w w' := by
  have ed : IntKind.u64.wrap (d : Int) = d := u64_nat (by omega)
  have core : ∀ X : Nat, X < 170141183460469231731687303715884105728 → ∀ W, Calls Try.prog 55 #[.int .u64 ((X / 18446744073709551616 : Nat) % (d : Int)), .int .u64 ((X % 18446744073709551616 : Nat) : Int), .int .u64 d] W fun e w' => e = .returned (.tuple #[.int .u64 (lo ((X / d : Nat) : Int)), .int .u64 ((X % d : Nat) : Int)]) ∧ ∃ n, w' = W.drewN n := by
    intro X hX W
    have := div64_any (X / 18446744073709551616 % d) (X % 18446744073709551616) d W (Nat.mod_lt _ (by omega)) (by omega) (by omega)
    rw [← (nat_parts X d (by omega)).2.1, ← (hi_div X d (by omega)).2] at this
    exact this
  have quot : ∀ X : Nat, X < 170141183460469231731687303715884105728 → IntKind.u64.wrap (((X / 18446744073709551616 : Nat) : Int).tdiv d) = hi ((X / d : Nat) : Int) ∧ wrap64 (hi ((X / d : Nat) : Int)) = hi ((X / d : Nat) : Int) := by
    intro X hX
    have e := (hi_div X d (by omega)).1
    have hle : X / 18446744073709551616 / d ≤ X / 18446744073709551616 := Nat.div_le_self _ _
    rw [e, Int.tdiv_eq_ediv_of_nonneg (by omega), ← Int.natCast_ediv]
    generalize X / 18446744073709551616 / d = k at hle
    exact ⟨u64_nat (by omega), wrap64_of (by omega) (by omega)⟩
  by_cases hz : 0 ≤ z
  · obtain ⟨X, rfl⟩ := Int.eq_ofNat_of_zero_le hz
    have hX : X < 170141183460469231731687303715884105728 := by omega
    obtain ⟨q1, q2⟩ := quot X hX
    have hr := Nat.mod_lt X (show 0 < d by omega)
    have key := div_up (hi (X : Int)) (lo (X : Int)) d d _ _ _ ((X % d : Nat) : Int) _ ((X % d : Nat) : Int) w (by simp; omega) (by rw [hi_nat]; simp; omega) (by rw [hi_nat]; simp only [ge_iff_le, decide_eq_true_eq]; exact Int.natCast_nonneg _) ed (by rw [hi_nat]; exact u64_nat (by omega)) (by omega)
      (by rw [hi_nat]; exact q1) rfl (by rw [hi_nat]; omega) (by omega) (by rw [hi_nat, lo_nat]; exact core X hX) q2 (by rw [IntKind.wrap_i64]; omega)
    exact key
  · obtain ⟨X, hX⟩ : ∃ X : Nat, z = -(X : Int) := ⟨z.natAbs, by omega⟩
    subst hX
    have hX : X < 170141183460469231731687303715884105728 := by omega
    have hX0 : 0 < X := by omega
    obtain ⟨q1, q2⟩ := quot X hX
    have hneg : hi (-(X : Int)) < 0 := by unfold hi; omega
    have hle : X / d ≤ X := Nat.div_le_self _ _
    have t1 := fun W => turned_any (-(X : Int)) W h1 h2
    rw [Int.neg_neg] at t1
    have t2 := fun W => turned_any ((X / d : Nat) : Int) W (by generalize X / d = k at hle; omega) (by generalize X / d = k at hle; omega)
    rcases Nat.eq_zero_or_pos (X % d) with h0 | h0
    · obtain ⟨g1, g2⟩ := neg_div X d (by omega) h0
      rw [g1, g2]
      have c := core X hX
      rw [h0] at c
      exact div_down0 (hi (-(X : Int))) (lo (-(X : Int))) d d (hi (X : Int)) (lo (X : Int)) _ _ _ _ _ _ w (by simp; omega) (by simpa using hneg) (by simp; omega) ed (by rw [hi_nat]; exact u64_nat (by omega)) (by omega)
        (by rw [hi_nat]; exact q1) rfl (by rw [hi_nat]; omega) (by omega) t1 (by rw [hi_nat, lo_nat]; exact c) q2 t2
    · obtain ⟨g1, g2⟩ := neg_div1 X d (by omega) h0
      rw [g1, g2]
      have hr := Nat.mod_lt X (show 0 < d by omega)
      have d3 : 2 ≤ d := by
        rcases Nat.lt_or_ge d 2 with h | h
        · obtain rfl : d = 1 := by omega
          rw [Nat.mod_one] at h0; omega
        · exact h
      have hle2 : X / d ≤ X / 2 := Nat.div_le_div_left d3 (by omega)
      exact div_down1 (hi (-(X : Int))) (lo (-(X : Int))) d d (hi (X : Int)) (lo (X : Int)) _ _ _ _ _ _ ((X % d : Nat) : Int) _ _ _ w (by simp; omega) (by simpa using hneg) (by simp; omega) ed (by rw [hi_nat]; exact u64_nat (by omega)) (by omega)
        (by rw [hi_nat]; exact q1) rfl (by rw [hi_nat]; omega) (by omega) t1 (by rw [hi_nat, lo_nat]; exact core X hX) q2 t2 (by simp; omega) (by rw [IntKind.wrap_u64]; omega) (by rw [IntKind.wrap_i64]; omega)
        (fun W => sub_one _ W (by generalize X / d = k at hle hle2; omega) (by generalize X / d = k at hle hle2; omega))
end Go.Proofs.Ytibhfclkdbmmoaa
