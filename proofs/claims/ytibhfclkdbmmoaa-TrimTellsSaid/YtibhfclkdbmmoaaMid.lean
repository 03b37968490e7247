/- The plain side of the way from one vertex to another: whole numbers, rounded down. No program in sight. -/
set_option linter.unusedVariables false
set_option linter.unusedSimpArgs false
namespace Go.Proofs.Ytibhfclkdbmmoaa
/-- What stands n d-ths on the way from p to q, rounded down. -/
def mid (p q n d : Int) : Int := p + (q - p) * n / d
theorem mid_zero (p q d : Int) : mid p q 0 d = p := by simp [mid]
theorem mid_full (p q d : Int) (hd : 1 ≤ d) : mid p q d d = q := by
  unfold mid
  rw [Int.mul_ediv_cancel _ (by omega)]
  omega
theorem part_low {x n d : Int} (hx : 0 ≤ x) (hn : 0 ≤ n) (hd : 1 ≤ d) : 0 ≤ x * n / d := Int.ediv_nonneg (Int.mul_nonneg hx hn) (by omega)
theorem part_high {x n d : Int} (hx : 0 ≤ x) (hn : n ≤ d) (hd : 1 ≤ d) : x * n / d ≤ x := by
  have h1 : x * n ≤ x * d := Int.mul_le_mul_of_nonneg_left hn hx
  have h2 := Int.ediv_le_ediv (by omega : 0 < d) h1
  rwa [Int.mul_ediv_cancel _ (by omega)] at h2
theorem neg_low {x n d : Int} (hx : x ≤ 0) (hn : n ≤ d) (hd : 1 ≤ d) : x ≤ x * n / d := by
  have h1 : x * d ≤ x * n := Int.mul_le_mul_of_nonpos_left hx hn
  have h2 := Int.ediv_le_ediv (by omega : 0 < d) h1
  rwa [Int.mul_ediv_cancel _ (by omega)] at h2
theorem neg_high {x n d : Int} (hx : x ≤ 0) (hn : 0 ≤ n) (hd : 1 ≤ d) : x * n / d ≤ 0 := by
  have h1 : x * n ≤ 0 := Int.mul_nonpos_of_nonpos_of_nonneg hx hn
  have h2 := Int.ediv_le_ediv (by omega : 0 < d) h1
  simpa using h2
theorem mid_between {p q n d : Int} (hn : 0 ≤ n) (hnd : n ≤ d) (hd : 1 ≤ d) : min p q ≤ mid p q n d ∧ mid p q n d ≤ max p q := by
  unfold mid
  rcases Int.le_total p q with h | h
  · have h1 := part_low (x := q - p) (by omega) hn hd
    have h2 := part_high (x := q - p) (by omega) hnd hd
    omega
  · have h1 := neg_low (x := q - p) (by omega) hnd hd
    have h2 := neg_high (x := q - p) (by omega) hn hd
    omega
theorem mid_turn (p q n d : Int) (hd : 1 ≤ d) : mid q p (d - n) d = mid p q n d := by
  unfold mid
  have e : (p - q) * (d - n) = (q - p) * n + (p - q) * d := by
    rw [Int.mul_sub, Int.sub_mul p q n, Int.sub_mul q p n]; omega
  rw [e, Int.add_mul_ediv_right _ _ (by omega)]
  omega
theorem mid_ratio {p q n d n' d' : Int} (hd : 1 ≤ d) (hd' : 1 ≤ d') (h : n * d' = n' * d) : mid p q n d = mid p q n' d' := by
  unfold mid
  have e1 : (q - p) * n / d = (q - p) * n * d' / (d * d') := (Int.mul_ediv_mul_of_pos_left _ _ (by omega)).symm
  have e2 : (q - p) * n' / d' = (q - p) * n' * d / (d' * d) := (Int.mul_ediv_mul_of_pos_left _ _ (by omega)).symm
  rw [e1, e2, Int.mul_assoc, Int.mul_assoc, h, Int.mul_comm d d']
end Go.Proofs.Ytibhfclkdbmmoaa
