/- The plain side of Go's bits.Div64 (two digits of 32 bits, each guessed and put right): no program in sight. -/
set_option linter.unusedVariables false
set_option linter.unusedSimpArgs false
namespace Go.Proofs.Ytibhfclkdbmmoaa
/-- The test of a digit: the guess q with its rest r is too great. -/
theorem digit_test {u q r y1 y0 n B : Nat} (h : u = q * y1 + r) : q * y0 > B * r + n ↔ q * (y1 * B + y0) > u * B + n := by
  subst h
  have e1 : q * (y1 * B + y0) = q * y1 * B + q * y0 := by rw [Nat.mul_add, Nat.mul_assoc]
  have e2 : (q * y1 + r) * B = q * y1 * B + B * r := by rw [Nat.add_mul, Nat.mul_comm r B]
  rw [e1, e2]
  omega
theorem digit_lt {u y n B : Nat} (hy : 0 < y) (hu : u < y) (hn : n < B) : (u * B + n) / y < B := by
  rw [Nat.div_lt_iff_lt_mul hy]
  have : (u + 1) * B ≤ y * B := Nat.mul_le_mul_right _ hu
  rw [Nat.add_mul, Nat.one_mul] at this
  rw [Nat.mul_comm B y]
  omega
/-- The first guess is no less than the digit. -/
theorem digit_guess {u y1 y0 n B : Nat} (hy1 : 0 < y1) (hn : n < B) : (u * B + n) / (y1 * B + y0) ≤ u / y1 := by
  have hB : 0 < B := by omega
  have h1 : (u * B + n) / (y1 * B + y0) ≤ (u * B + n) / (y1 * B) := Nat.div_le_div_left (by omega) (Nat.mul_pos hy1 hB)
  have h2 : (u * B + n) / (y1 * B) = u / y1 := by
    rw [Nat.mul_comm y1 B, ← Nat.div_div_eq_div_mul, Nat.mul_comm u B, Nat.mul_add_div hB, Nat.div_eq_of_lt hn, Nat.add_zero]
  omega
/-- If it is too great, one less is no less than the digit. -/
theorem digit_down {N y q : Nat} (hy : 0 < y) (h : q * y > N) : N / y ≤ q - 1 := by
  have : N / y < q := by rw [Nat.div_lt_iff_lt_mul hy]; rw [Nat.mul_comm]; rw [Nat.mul_comm] at h; exact h
  omega
/-- Not too great, and no less: it is the digit. -/
theorem digit_done {N y q : Nat} (hy : 0 < y) (h1 : N / y ≤ q) (h2 : ¬ q * y > N) : q = N / y := by
  have : q ≤ N / y := by rw [Nat.le_div_iff_mul_le hy]; omega
  omega
theorem digit_rest {u q r y1 y0 n B : Nat} (h : u = q * y1 + r) (hq : q < B) (hr : B ≤ r) : ¬ q * y0 > B * r + n ∨ B ≤ y0 := by
  by_cases hy : B ≤ y0
  · exact .inr hy
  · left
    have h1 : q * y0 ≤ B * y0 := Nat.mul_le_mul_right _ (by omega)
    have h2 : B * y0 ≤ B * r := Nat.mul_le_mul_left _ (by omega)
    omega
/-- Both digits together. -/
theorem two_digits {un32 un1 un0 y B : Nat} (hy : 0 < y) (h0 : un0 < B) :
    ((un32 * B + un1) * B + un0) / y = (un32 * B + un1) / y * B + ((un32 * B + un1) % y * B + un0) / y ∧
    ((un32 * B + un1) * B + un0) % y = ((un32 * B + un1) % y * B + un0) % y := by
  have e := Nat.div_add_mod (un32 * B + un1) y
  generalize (un32 * B + un1) / y = q at *
  generalize (un32 * B + un1) % y = r at *
  have : (un32 * B + un1) * B + un0 = y * (q * B) + (r * B + un0) := by
    rw [← e, Nat.add_mul, Nat.mul_assoc]; omega
  rw [this, Nat.mul_add_div hy, Nat.mul_add_mod]
  exact ⟨rfl, rfl⟩
/-- Both sides moved up alike. -/
theorem moved {N d s : Nat} (hs : 0 < s) : N * s / (d * s) = N / d ∧ N * s % (d * s) = N % d * s := by
  constructor
  · exact Nat.mul_div_mul_right _ _ hs
  · exact Nat.mul_mod_mul_right _ _ _
/-- What holds at the head of a digit's loop (B = 2^32). -/
def Dg (u y1 y0 n q r : Nat) : Prop := u = q * y1 + r ∧ (u * 4294967296 + n) / (y1 * 4294967296 + y0) ≤ q ∧ q ≤ 4294967297
theorem dg_start {u y1 y0 n : Nat} (hy1 : 2147483648 ≤ y1) (hy0 : y0 < 4294967296) (hn : n < 4294967296) (hu : u < y1 * 4294967296 + y0) :
    Dg u y1 y0 n (u / y1) (u % y1) := by
  refine ⟨?_, digit_guess (by omega) hn, ?_⟩
  · rw [Nat.mul_comm]; exact (Nat.div_add_mod u y1).symm
  · have : u / y1 < 4294967298 := by
      rw [Nat.div_lt_iff_lt_mul (by omega)]
      omega
    omega
theorem dg_down {u y1 y0 n q r : Nat} (h : Dg u y1 y0 n q r) (hy1 : 2147483648 ≤ y1) (hy0 : y0 < 4294967296) (hn : n < 4294967296) (hu : u < y1 * 4294967296 + y0)
    (hc : 4294967296 ≤ q ∨ q * y0 > 4294967296 * r + n) : 1 ≤ q ∧ Dg u y1 y0 n (q - 1) (r + y1) := by
  obtain ⟨h1, h2, h3⟩ := h
  have hq : 1 ≤ q := by
    rcases hc with hc | hc
    · omega
    · rcases Nat.eq_zero_or_pos q with h0 | h0
      · subst h0; simp at hc
      · omega
  refine ⟨hq, ?_, ?_, by omega⟩
  · obtain ⟨k, rfl⟩ : ∃ k, q = k + 1 := ⟨q - 1, by omega⟩
    rw [h1, Nat.add_sub_cancel, Nat.add_mul, Nat.one_mul]; omega
  · rcases hc with hc | hc
    · have := digit_lt (y := y1 * 4294967296 + y0) (by omega) hu hn
      omega
    · exact digit_down (by omega) ((digit_test h1).1 hc)
theorem dg_done {u y1 y0 n q r : Nat} (h : Dg u y1 y0 n q r) (hy1 : 2147483648 ≤ y1) (hc : ¬ q * y0 > 4294967296 * r + n) :
    q = (u * 4294967296 + n) / (y1 * 4294967296 + y0) :=
  digit_done (by omega) h.2.1 (fun k => hc ((digit_test h.1).2 k))
/-- Left by the break: the rest is a whole digit, so no more is too great. -/
theorem dg_break {u y1 y0 n q r : Nat} (h : Dg u y1 y0 n q r) (hy1 : 2147483648 ≤ y1) (hy0 : y0 < 4294967296) (hq : q ≤ 4294967296) (hr : 4294967296 ≤ r) :
    q = (u * 4294967296 + n) / (y1 * 4294967296 + y0) := by
  refine dg_done h hy1 ?_
  have h1 : q * y0 ≤ 4294967296 * y0 := Nat.mul_le_mul_right _ hq
  omega
end Go.Proofs.Ytibhfclkdbmmoaa
