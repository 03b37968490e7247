/- Plain text: words, numbers of words; no program's steps. By an AI agent. No condition beyond what each theorem states. -/
import Derived.Test.YtaklnijmcidpkaaDoorPA
import Derived.Lib.AtoiAll
import Derived.Lib.IndexMore
set_option linter.unusedVariables false
set_option linter.unusedSimpArgs false
namespace Go.Proofs.YtaklnijmcidpkaaDoor
/-- A text cut at its first byte c. -/
def cut1 (c : UInt8) : List UInt8 → List UInt8 × List UInt8 × Bool
  | [] => ([], [], false)
  | b :: l => if b = c then ([], l, true) else (b :: (cut1 c l).1, (cut1 c l).2.1, (cut1 c l).2.2)
theorem index_cons (b c : UInt8) (l : List UInt8) : Lib.index (b :: l) [c] = if b = c then 0 else if Lib.index l [c] == -1 then -1 else Lib.index l [c] + 1 := by
  show (if [c].isPrefixOf (b :: l) then (0 : Int) else _) = _
  have : [c].isPrefixOf (b :: l) = (c == b) := by simp [List.isPrefixOf]
  rw [this]
  by_cases h : b = c
  · subst h; simp
  · rw [if_neg h, if_neg (by simp; exact fun e => h e.symm)]
theorem cut_is (c : UInt8) (l : List UInt8) : Lib.cut l [c] = cut1 c l := by
  induction l with
  | nil => rfl
  | cons b l ih =>
    unfold Lib.cut at ih ⊢
    rw [index_cons]
    unfold cut1
    by_cases h : b = c
    · rw [if_pos h, if_pos h]; rfl
    · rw [if_neg h, if_neg h, ← ih]
      have hg := Lib.index_ge l [c]
      by_cases h1 : Lib.index l [c] = -1
      · rw [h1]; rfl
      · have h2 : ¬ ((Lib.index l [c] == -1) = true) := by simpa using h1
        rw [if_neg h2, if_pos (by omega), if_pos (by omega)]
        obtain ⟨n, hn⟩ : ∃ n : Nat, Lib.index l [c] = n := ⟨(Lib.index l [c]).toNat, by omega⟩
        rw [hn]
        have e1 : ((n : Int) + 1).toNat = n + 1 := by omega
        rw [e1, Int.toNat_natCast]
        simp [Nat.add_right_comm]
theorem cut1_no (c : UInt8) (l : List UInt8) : (cut1 c l).2.2 = false → (cut1 c l).1 = l ∧ (cut1 c l).2.1 = [] ∧ c ∉ l := by
  induction l with
  | nil => intro _; exact ⟨rfl, rfl, by simp⟩
  | cons b l ih =>
    unfold cut1
    by_cases h : b = c
    · rw [if_pos h]; intro h; cases h
    · rw [if_neg h]
      intro h2
      obtain ⟨a, b', c'⟩ := ih h2
      exact ⟨by simp [a], b', by simp; exact ⟨fun e => h e.symm, c'⟩⟩
theorem cut1_yes (c : UInt8) (l : List UInt8) : (cut1 c l).2.2 = true → l = (cut1 c l).1 ++ c :: (cut1 c l).2.1 ∧ c ∉ (cut1 c l).1 := by
  induction l with
  | nil => intro h; cases h
  | cons b l ih =>
    unfold cut1
    by_cases h : b = c
    · rw [if_pos h]; intro _; subst h; exact ⟨rfl, by simp⟩
    · rw [if_neg h]
      intro h2
      obtain ⟨a, b'⟩ := ih h2
      refine ⟨?_, by simp; exact ⟨fun e => h e.symm, b'⟩⟩
      simp only [List.cons_append]
      rw [← a]
theorem cut1_mk (c : UInt8) (x y : List UInt8) (h : c ∉ x) : cut1 c (x ++ c :: y) = (x, y, true) := by
  induction x with
  | nil => simp [cut1]
  | cons b x ih =>
    simp only [List.mem_cons, not_or] at h
    simp only [List.cons_append, cut1]
    rw [if_neg (fun e => h.1 e.symm), ih h.2]
theorem cut1_none (c : UInt8) (x : List UInt8) (h : c ∉ x) : cut1 c x = (x, [], false) := by
  induction x with
  | nil => rfl
  | cons b x ih =>
    simp only [List.mem_cons, not_or] at h
    simp only [cut1]
    rw [if_neg (fun e => h.1 e.symm), ih h.2]
/-- The words of a line. -/
def splitW : List UInt8 → List (List UInt8)
  | [] => [[]]
  | b :: l => if b = 32 then [] :: splitW l else match splitW l with | [] => [[b]] | x :: r => (b :: x) :: r
theorem splitW_ne (l : List UInt8) : splitW l ≠ [] := by
  cases l with
  | nil => simp [splitW]
  | cons b l =>
    unfold splitW
    by_cases h : b = 32
    · rw [if_pos h]; simp
    · rw [if_neg h]; cases splitW l <;> simp
theorem splitW_cut (l : List UInt8) : splitW l = (cut1 32 l).1 :: (if (cut1 32 l).2.2 then splitW (cut1 32 l).2.1 else []) := by
  induction l with
  | nil => rfl
  | cons b l ih =>
    by_cases h : b = 32
    · subst h
      have e : cut1 32 (32 :: l) = ([], l, true) := by simp [cut1]
      rw [e]
      simp [splitW]
    · have e : cut1 32 (b :: l) = (b :: (cut1 32 l).1, (cut1 32 l).2.1, (cut1 32 l).2.2) := by rw [cut1, if_neg h]
      have e2 : splitW (b :: l) = match splitW l with | [] => [[b]] | x :: r => (b :: x) :: r := by rw [splitW, if_neg h]
      rw [e, e2, ih]
/-- Digits alone, without a nought ahead of others? -/
def okD (d : List UInt8) : Bool := !(decide (d = [])) && d.all isD && !(decide (d.head? = some 48) && !(decide (d = [48])))
/-- A word's digits; is it below nought? -/
def strip (l : List UInt8) : Bool × List UInt8 := if l.head? = some 45 then (true, l.drop 1) else (false, l)
/-- The number of a word, or why it has none. -/
def numT (l : List UInt8) : Int × Int :=
  if okD (strip l).2 = false ∨ ((strip l).1 = true ∧ (strip l).2 = [48]) then (0, 11)
  else if (strip l).1 then (if valD (strip l).2 ≤ 9223372036854775808 then (-(valD (strip l).2 : Int), 0) else (0, 4))
  else (if valD (strip l).2 ≤ 9223372036854775807 then ((valD (strip l).2 : Int), 0) else (0, 4))
theorem valF_ge (l : List UInt8) : ∀ n : Nat, n ≤ l.foldl (fun n b => n * 10 + (b.toNat - 48)) n := by
  induction l with
  | nil => intro n; exact Nat.le_refl _
  | cons b l ih => intro n; rw [List.foldl_cons]; exact Nat.le_trans (by omega) (ih _)
theorem parse_val (l : List UInt8) (hd : l.all isD = true) : ∀ acc, acc < 18446744073709551616 → Lib.parseUint10 acc l = if l.foldl (fun n b => n * 10 + (b.toNat - 48)) acc < 18446744073709551616 then .ok (l.foldl (fun n b => n * 10 + (b.toNat - 48)) acc) else .range := by
  induction l with
  | nil => intro acc h; simp [Lib.parseUint10, h]
  | cons b l ih =>
    intro acc h
    simp only [List.all_cons, Bool.and_eq_true] at hd
    have hb := hd.1
    unfold isD at hb
    simp only [Bool.and_eq_true, decide_eq_true_eq] at hb
    unfold Lib.parseUint10
    rw [if_pos hb, List.foldl_cons]
    have hge := valF_ge l (acc * 10 + (b.toNat - 48))
    by_cases h1 : 1844674407370955162 ≤ acc
    · rw [if_pos h1, if_neg (by omega)]
    · rw [if_neg h1]
      by_cases h2 : 18446744073709551616 ≤ acc * 10 + (b.toNat - 48)
      · rw [if_pos h2, if_neg (by omega)]
      · rw [if_neg h2]
        exact ih hd.2 _ (by omega)
theorem okD_parts {d : List UInt8} (h : okD d = true) : d ≠ [] ∧ d.all isD = true ∧ ∀ b r, d = b :: r → isD b = true := by
  unfold okD at h
  simp only [Bool.and_eq_true, Bool.not_eq_true', decide_eq_false_iff_not] at h
  refine ⟨h.1.1, h.1.2, fun b r e => ?_⟩
  have := h.1.2
  rw [e, List.all_cons, Bool.and_eq_true] at this
  exact this.1
theorem mag_val {d : List UInt8} (h : okD d = true) : Lib.parseMag d = if valD d < 18446744073709551616 then .ok (valD d) else .range := by
  unfold Lib.parseMag
  rw [if_neg (okD_parts h).1, parse_val d (okD_parts h).2.1 0 (by decide)]
  rfl
theorem isD_45 : ¬ isD 45 = true := by decide
/-- What strconv.Atoi says of a word with digits. -/
theorem atoi_is {l : List UInt8} (h : okD (strip l).2 = true) : Lib.atoiAll l = if (strip l).1 then (if valD (strip l).2 ≤ 9223372036854775808 then .ok (-(valD (strip l).2 : Int)) else .range) else (if valD (strip l).2 ≤ 9223372036854775807 then .ok (valD (strip l).2 : Int) else .range) := by
  unfold strip at h ⊢
  cases l with
  | nil => exact absurd h (by decide)
  | cons c r =>
    by_cases hc : c = 45
    · subst hc
      simp only [List.head?_cons, if_true, List.drop_succ_cons, List.drop_zero] at h ⊢
      unfold Lib.atoiAll
      have e : (45 : UInt8).toNat = 45 := rfl
      simp only [e]
      rw [if_pos (by simp), mag_val h]
      by_cases h1 : valD r < 18446744073709551616
      · rw [if_pos h1]
        simp only [not_true_eq_false, false_and, if_false, true_and]
        by_cases h2 : valD r ≤ 9223372036854775808
        · rw [if_neg (by omega), if_pos h2]; rfl
        · rw [if_pos (by omega), if_neg h2]
      · rw [if_neg h1, if_neg (by omega)]
    · have h45 : ¬ (c :: r).head? = some 45 := by simpa using hc
      rw [if_neg h45] at h
      rw [if_neg h45]
      have hcd := (okD_parts h).2.2 c r rfl
      unfold isD at hcd
      simp only [Bool.and_eq_true, decide_eq_true_eq] at hcd
      unfold Lib.atoiAll
      simp only
      have n1 : ¬ (c.toNat = 43 ∨ c.toNat = 45) := by omega
      rw [if_neg n1, mag_val h]
      by_cases h1 : valD (c :: r) < 18446744073709551616
      · rw [if_pos h1]
        simp only
        have n2 : ¬ c.toNat = 45 := by omega
        by_cases h2 : valD (c :: r) ≤ 9223372036854775807
        · rw [if_neg (by omega), if_neg (by omega), if_neg n2]
          simp [h2]
        · rw [if_pos ⟨n2, by omega⟩]
          simp [h2]
      · rw [if_neg h1]
        simp only
        have h2 : ¬ valD (c :: r) ≤ 9223372036854775807 := by omega
        simp [h2]
end Go.Proofs.YtaklnijmcidpkaaDoor
