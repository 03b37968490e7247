/- Plain text: a number of one to four digits at the beginning of a text, and what stands behind it. No program in sight. By an AI agent. -/
import Derived.Lib.Strings
set_option linter.unusedVariables false
set_option linter.unusedSimpArgs false
namespace Go.Proofs.YtaklnijmcidpkaaDoor
theorem tw_stop {α : Type} {p : α → Bool} : ∀ {l : List α}, (h : (l.takeWhile p).length < l.length) → p (l[(l.takeWhile p).length]'h) = false
  | [], h => by simp at h
  | a :: l, h => by
    cases ha : p a with
    | false => simp [List.takeWhile_cons, ha]
    | true =>
      have h' : (l.takeWhile p).length < l.length := by simpa [List.takeWhile_cons, ha] using h
      have := tw_stop h'
      simp [List.takeWhile_cons, ha, this]
/-- A digit. -/
def isD (b : UInt8) : Bool := decide (48 ≤ b.toNat) && decide (b.toNat ≤ 57)
/-- The number that digits are. -/
def valD (l : List UInt8) : Nat := l.foldl (fun n b => n * 10 + (b.toNat - 48)) 0
/-- The digits at the beginning, four at most. -/
def digs (l : List UInt8) : List UInt8 := (l.take 4).takeWhile isD
theorem digs_le (l : List UInt8) : (digs l).length ≤ 4 ∧ (digs l).length ≤ l.length := by
  have h : (digs l).length ≤ (l.take 4).length := (List.takeWhile_prefix _).length_le
  rw [List.length_take] at h
  omega
theorem digs_take (l : List UInt8) : l.take (digs l).length = digs l := by
  have h := List.prefix_iff_eq_take.1 (List.takeWhile_prefix isD : (l.take 4).takeWhile isD <+: l.take 4)
  have h1 := digs_le l
  rw [List.take_take] at h
  unfold digs at h1 ⊢
  rw [show min ((l.take 4).takeWhile isD).length 4 = ((l.take 4).takeWhile isD).length by omega] at h
  exact h.symm
theorem digs_all (l : List UInt8) : ∀ b ∈ digs l, isD b = true := fun b hb => List.all_eq_true.1 (List.all_takeWhile (p := isD)) b hb
/-- Ahead of the end of the digits stands a digit. -/
theorem digs_go {l : List UInt8} {i : Nat} (h : i < (digs l).length) : ∃ b, l[i]? = some b ∧ i < 4 ∧ 48 ≤ b.toNat ∧ b.toNat ≤ 57 ∧ (digs l)[i]? = some b := by
  have h1 := digs_le l
  refine ⟨(digs l)[i], ?_, by omega, ?_⟩
  · have := digs_take l
    have h2 : (l.take (digs l).length)[i]? = l[i]? := by rw [List.getElem?_take, if_pos h]
    rw [← h2, this, List.getElem?_eq_getElem h]
  · have := digs_all l _ (List.getElem_mem h)
    unfold isD at this
    simp at this
    exact ⟨this.1, this.2, List.getElem?_eq_getElem h⟩
/-- Behind the digits: the end, or four are there, or no digit. -/
theorem digs_end (l : List UInt8) : (digs l).length = l.length ∨ ((digs l).length < l.length ∧ (digs l).length = 4) ∨
    (∃ b, l[(digs l).length]? = some b ∧ (digs l).length < 4 ∧ (b.toNat < 48 ∨ 57 < b.toNat)) := by
  have h1 := digs_le l
  by_cases h2 : (digs l).length = l.length
  · exact .inl h2
  by_cases h3 : (digs l).length = 4
  · exact .inr (.inl ⟨by omega, h3⟩)
  refine .inr (.inr ?_)
  have hlt : (digs l).length < (l.take 4).length := by rw [List.length_take]; omega
  have hlt2 : (digs l).length < l.length := by omega
  refine ⟨l[(digs l).length], List.getElem?_eq_getElem hlt2, by omega, ?_⟩
  have hno := tw_stop (p := isD) (l := l.take 4) hlt
  have he : (l.take 4)[(digs l).length]'hlt = l[(digs l).length] := List.getElem_take
  have hno : isD ((l.take 4)[(digs l).length]'hlt) = false := hno
  rw [he] at hno
  unfold isD at hno
  simp at hno
  omega
theorem valD_snoc (l : List UInt8) (b : UInt8) : valD (l ++ [b]) = valD l * 10 + (b.toNat - 48) := by
  unfold valD
  rw [List.foldl_append]
  rfl
theorem valF_lt (l : List UInt8) (h : ∀ b ∈ l, isD b = true) : ∀ n : Nat, l.foldl (fun n b => n * 10 + (b.toNat - 48)) n < (n + 1) * 10 ^ l.length := by
  induction l with
  | nil => intro n; simp
  | cons b l ih =>
    intro n
    have h1 := ih (fun c hc => h c (by simp [hc])) (n * 10 + (b.toNat - 48))
    have h2 := h b (by simp)
    unfold isD at h2
    simp at h2
    rw [List.foldl_cons, List.length_cons, Nat.pow_succ]
    refine Nat.lt_of_lt_of_le h1 ?_
    rw [show (n + 1) * (10 ^ l.length * 10) = (n + 1) * 10 * 10 ^ l.length by rw [Nat.mul_comm (10 ^ l.length) 10, Nat.mul_assoc]]
    exact Nat.mul_le_mul_right _ (by omega)
theorem valD_lt (l : List UInt8) (h : ∀ b ∈ l, isD b = true) : valD l < 10 ^ l.length := by
  have := valF_lt l h 0
  simpa [valD] using this
end Go.Proofs.YtaklnijmcidpkaaDoor
