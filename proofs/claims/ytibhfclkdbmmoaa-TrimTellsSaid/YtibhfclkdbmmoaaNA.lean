/- Plain laws: numbers as rows of bits, the lowest first. No condition beyond what each theorem states. By an AI agent. -/
set_option linter.unusedVariables false
set_option linter.unusedSimpArgs false
namespace Go.Proofs.Ytibhfclkdbmmoaa
def bval : List Bool → Nat
  | [] => 0
  | b :: l => b.toNat + 2 * bval l
theorem toNat_le (b : Bool) : b.toNat ≤ 1 := by cases b <;> simp
theorem bval_append (l m : List Bool) : bval (l ++ m) = bval l + 2 ^ l.length * bval m := by
  induction l with
  | nil => simp [bval]
  | cons b l ih =>
    rw [List.cons_append, bval, bval, ih, List.length_cons, Nat.pow_succ, Nat.mul_add, Nat.mul_comm (2 ^ l.length) 2, Nat.mul_assoc]
    omega
theorem bval_lt (l : List Bool) : bval l < 2 ^ l.length := by
  induction l with
  | nil => simp [bval]
  | cons b l ih =>
    have := toNat_le b
    rw [bval, List.length_cons, Nat.pow_succ]
    omega
theorem bval_one (b : Bool) : bval [b] = b.toNat := by simp [bval]
theorem bval_zeros (n : Nat) : bval (List.replicate n false) = 0 := by
  induction n with
  | zero => rfl
  | succ n ih => rw [List.replicate_succ, bval, ih]; rfl
/-- The i-th bit. -/
def bt (l : List Bool) (i : Nat) : Bool := l.getD i false
theorem bt_of {l : List Bool} {i : Nat} {b : Bool} (h : l[i]? = some b) : bt l i = b := by simp [bt, List.getD_eq_getElem?_getD, h]
theorem bt_past {l : List Bool} {i : Nat} (h : l.length ≤ i) : bt l i = false := by simp [bt, List.getD_eq_getElem?_getD, List.getElem?_eq_none h]
/-- What the i lowest bits are. -/
def low (l : List Bool) (i : Nat) : Nat := bval (l.take i)
theorem low_zero (l : List Bool) : low l 0 = 0 := by simp [low, bval]
theorem low_all {l : List Bool} {i : Nat} (h : l.length ≤ i) : low l i = bval l := by rw [low, List.take_of_length_le h]
theorem low_succ (l : List Bool) (i : Nat) : low l (i + 1) = low l i + 2 ^ i * (bt l i).toNat := by
  rcases Nat.lt_or_ge i l.length with h | h
  · rw [low, List.take_succ_eq_append_getElem h, bval_append, List.length_take, Nat.min_eq_left (Nat.le_of_lt h), bval_one, bt_of (List.getElem?_eq_getElem h)]
    rfl
  · rw [low_all (by omega), low_all h, bt_past h]; simp
theorem low_lt (l : List Bool) (i : Nat) : low l i < 2 ^ i := by
  have h1 := bval_lt (l.take i)
  have h2 : 2 ^ (l.take i).length ≤ 2 ^ i := Nat.pow_le_pow_right (by omega) (by rw [List.length_take]; omega)
  exact Nat.lt_of_lt_of_le h1 h2
theorem low_high (l : List Bool) (i : Nat) : bval l = low l i + 2 ^ i * bval (l.drop i) := by
  rcases Nat.lt_or_ge i l.length with h | h
  · have e : l = l.take i ++ l.drop i := (List.take_append_drop i l).symm
    have h2 := bval_append (l.take i) (l.drop i)
    rw [← e, List.length_take, Nat.min_eq_left (Nat.le_of_lt h)] at h2
    exact h2
  · rw [low_all h, List.drop_of_length_le h]; simp [bval]
theorem high_succ (l : List Bool) (i : Nat) : bval (l.drop i) = (bt l i).toNat + 2 * bval (l.drop (i + 1)) := by
  rcases Nat.lt_or_ge i l.length with h | h
  · rw [List.drop_eq_getElem_cons h, bval, bt_of (List.getElem?_eq_getElem h)]
  · rw [List.drop_of_length_le h, List.drop_of_length_le (by omega), bt_past h]; rfl
theorem low_le (l : List Bool) (i : Nat) : low l i ≤ bval l := by rw [low_high l i]; exact Nat.le_add_right _ _
theorem low_eq {l : List Bool} {i : Nat} (h : bval l < 2 ^ i) : low l i = bval l := by
  have h1 := low_high l i
  rcases Nat.eq_zero_or_pos (bval (l.drop i)) with h0 | h0
  · rw [h0] at h1; omega
  · have : 2 ^ i * 1 ≤ 2 ^ i * bval (l.drop i) := Nat.mul_le_mul_left _ h0
    omega
/-- One step of a sum. -/
theorem more_step {out a b : List Bool} {i : Nat} {c d c' : Bool} (hl : out.length = i) (h : bval out + 2 ^ i * c.toNat = low a i + low b i) (hx : (bt a i).toNat + (bt b i).toNat + c.toNat = d.toNat + 2 * c'.toNat) :
    bval (out ++ [d]) + 2 ^ (i + 1) * c'.toNat = low a (i + 1) + low b (i + 1) := by
  rw [bval_append, hl, bval_one, low_succ, low_succ, Nat.pow_succ]
  have h2 : 2 ^ i * ((bt a i).toNat + (bt b i).toNat + c.toNat) = 2 ^ i * (d.toNat + 2 * c'.toNat) := by rw [hx]
  rw [Nat.mul_add, Nat.mul_add, Nat.mul_add, ← Nat.mul_assoc] at h2
  omega
theorem more_done {out a b : List Bool} {i : Nat} (ha : a.length ≤ i) (hb : b.length ≤ i) (h : bval out + 2 ^ i * (false).toNat = low a i + low b i) : bval out = bval a + bval b := by
  rw [low_all ha, low_all hb] at h
  simpa using h
/-- One step of a difference. -/
theorem less_step {out a b : List Bool} {i : Nat} {c d c' : Bool} (hl : out.length = i) (h : low a i + 2 ^ i * c.toNat = bval out + low b i) (hx : (bt a i).toNat + 2 * c'.toNat = d.toNat + (bt b i).toNat + c.toNat) :
    low a (i + 1) + 2 ^ (i + 1) * c'.toNat = bval (out ++ [d]) + low b (i + 1) := by
  rw [bval_append, hl, bval_one, low_succ, low_succ, Nat.pow_succ]
  have h2 : 2 ^ i * ((bt a i).toNat + 2 * c'.toNat) = 2 ^ i * (d.toNat + (bt b i).toNat + c.toNat) := by rw [hx]
  rw [Nat.mul_add, Nat.mul_add, Nat.mul_add, ← Nat.mul_assoc] at h2
  omega
theorem less_done {out a b : List Bool} {i : Nat} {c : Bool} (ha : a.length = i) (hl : out.length = i) (hle : bval b ≤ bval a) (h : low a i + 2 ^ i * c.toNat = bval out + low b i) : bval out + bval b = bval a := by
  have h1 := bval_lt a
  have h2 := bval_lt out
  rw [ha] at h1
  rw [hl] at h2
  rw [low_all (by omega), low_eq (by omega : bval b < 2 ^ i)] at h
  cases c
  · simp at h; omega
  · simp at h; omega
/-- The first difference from above. -/
theorem above_gt {a b : List Bool} {i : Nat} (h : bval (a.drop (i + 1)) = bval (b.drop (i + 1))) (ha : bt a i = true) (hb : bt b i = false) : bval b < bval a := by
  rw [low_high a i, low_high b i, high_succ a i, high_succ b i, h, ha, hb]
  have h1 := low_lt b i
  simp only [Bool.toNat_true, Bool.toNat_false, Nat.mul_add]
  omega
theorem above_next {a b : List Bool} {i : Nat} (h : bval (a.drop (i + 1)) = bval (b.drop (i + 1))) (hab : bt a i = bt b i) : bval (a.drop i) = bval (b.drop i) := by
  rw [high_succ a i, high_succ b i, h, hab]
/-- Without noughts above. -/
def Canon (l : List Bool) : Prop := ∀ k, l.length = k + 1 → bt l k = true
theorem canon_nil : Canon [] := fun k h => by simp at h
theorem canon_pos {l : List Bool} (h : Canon l) (hne : l ≠ []) : 2 ^ (l.length - 1) ≤ bval l := by
  obtain ⟨k, hk⟩ : ∃ k, l.length = k + 1 := ⟨l.length - 1, by have := List.length_pos_iff.2 hne; omega⟩
  have h1 := low_high l k
  have h2 := high_succ l k
  rw [h k hk] at h2
  rw [hk, Nat.add_sub_cancel, h1, h2]
  simp only [Bool.toNat_true, Nat.mul_add, Nat.mul_one]
  omega
theorem canon_len {l : List Bool} {n : Nat} (h : Canon l) (hv : bval l < 2 ^ n) : l.length ≤ n := by
  by_cases hne : l = []
  · subst hne; simp
  · have h1 := canon_pos h hne
    rcases Nat.lt_or_ge n l.length with h2 | h2
    · have : 2 ^ n ≤ 2 ^ (l.length - 1) := Nat.pow_le_pow_right (by omega) (by omega)
      omega
    · exact h2
theorem canon_zero {l : List Bool} (h : Canon l) : bval l = 0 ↔ l = [] := by
  constructor
  · intro hz
    by_cases hne : l = []
    · exact hne
    · have h1 := canon_pos h hne
      have := Nat.two_pow_pos (l.length - 1)
      omega
  · rintro rfl; rfl
theorem trim_step {l : List Bool} {k : Nat} (h : bt l k = false) : low l (k + 1) = low l k := by rw [low_succ, h]; simp
/-- One step of a quotient. -/
theorem floor_step {a d q r : Nat} {i : Nat} {l : List Bool} {x : Bool} (h : bval (l.drop (i + 1)) = q * d + r) (hx : bt l i = x) : bval (l.drop i) = (2 * q) * d + (x.toNat + 2 * r) := by
  rw [high_succ l i, h, hx, Nat.mul_add, Nat.mul_assoc]
  omega
end Go.Proofs.Ytibhfclkdbmmoaa
