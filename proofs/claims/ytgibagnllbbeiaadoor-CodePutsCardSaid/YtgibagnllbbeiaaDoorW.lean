/- Plain laws of 'Get' and 'Put': what comes of two streams in a row, of a stream of one command many times, of what was put. No program in sight. -/
import Derived.Test.YtgibagnllbbeiaaDoorG
set_option linter.unusedVariables false
namespace Go.Proofs.YtgibagnllbbeiaaDoor
def shiftG (j : Nat) : G → G
  | .ok l => .ok l
  | .error (k, c) => .error (k + j, c)
theorem getF_shift : ∀ (f f' : Nat) (b : List Int) (k c c' j : Nat), b.length ≤ f → b.length ≤ f' → c + b.length ≤ 4096 → c' + b.length ≤ 4096 → getF f' b (k + j) c' = shiftG j (getF f b k c)
  | f, f', [], k, c, c', j, _, _, _, _ => by simp [getF_nil, shiftG]
  | 0, _, _ :: _, _, _, _, _, h, _, _, _ => by simp at h
  | _ + 1, 0, _ :: _, _, _, _, _, _, h, _, _ => by simp at h
  | f + 1, f' + 1, op :: r, k, c, c', j, h1, h2, h3, h4 => by
    simp only [List.length_cons] at h1 h2 h3 h4
    have hc : ¬ c = 4096 := by omega
    have hc' : ¬ c' = 4096 := by omega
    cases ha : askT op with
    | none => rw [getF_none hc ha, getF_none hc' ha]; rfl
    | some l =>
      by_cases hl : r.length < l.length
      · rw [getF_short hc ha hl, getF_short hc' ha hl]; rfl
      · rw [getF_step hc ha hl, getF_step hc' ha hl]
        have ih := getF_shift f f' (r.drop l.length) (k + 1 + l.length) (c + 1) (c' + 1) j (by simp; omega) (by simp; omega) (by simp; omega) (by simp; omega)
        rw [show k + j + 1 + l.length = k + 1 + l.length + j by omega, ih]
        cases getF f (r.drop l.length) (k + 1 + l.length) (c + 1) <;> rfl
theorem shiftG_zero (g : G) : shiftG 0 g = g := by
  cases g with
  | ok l => rfl
  | error p => rfl
theorem getF_append : ∀ (f : Nat) (a b : List Int) (k c fb f2 : Nat) (l : List R), a.length ≤ f → b.length ≤ fb → (a ++ b).length ≤ f2 → c + (a ++ b).length ≤ 4096 → getF f a k c = .ok l →
    getF f2 (a ++ b) k c = cont l (getF fb b (k + a.length) (c + l.length)) ∧ l.length ≤ a.length
  | f, [], b, k, c, fb, f2, l, _, h2, h3, h4, h => by
    rw [getF_nil] at h
    obtain rfl : l = [] := by simpa using h.symm
    refine ⟨?_, by simp⟩
    simp only [List.nil_append] at h3 h4 ⊢
    rw [cont_nil]
    have := getF_shift fb f2 b k c c 0 h2 h3 h4 h4
    rw [shiftG_zero] at this
    simpa using this
  | 0, _ :: _, _, _, _, _, _, _, h, _, _, _, _ => by simp at h
  | f + 1, op :: r, b, k, c, fb, 0, l, h1, h2, h3, h4, h => by simp at h3
  | f + 1, op :: r, b, k, c, fb, f2 + 1, l, h1, h2, h3, h4, h => by
    simp only [List.cons_append, List.length_cons, List.length_append] at h1 h3 h4
    have hc : ¬ c = 4096 := by omega
    cases ha : askT op with
    | none => rw [getF_none hc ha] at h; cases h
    | some l0 =>
      by_cases hl : r.length < l0.length
      · rw [getF_short hc ha hl] at h; cases h
      · rw [getF_step hc ha hl] at h
        cases hg : getF f (r.drop l0.length) (k + 1 + l0.length) (c + 1) with
        | error e => rw [hg] at h; cases h
        | ok m =>
          rw [hg] at h
          obtain rfl : (op, r.take l0.length) :: m = l := by simpa using h
          obtain ⟨ih, ihl⟩ := getF_append f (r.drop l0.length) b (k + 1 + l0.length) (c + 1) fb f2 m (by simp; omega) h2 (by simp; omega) (by simp; omega) hg
          have hl2 : ¬ (r ++ b).length < l0.length := by simp; omega
          have hd : (r ++ b).drop l0.length = r.drop l0.length ++ b := by rw [List.drop_append_of_le_length (by omega)]
          have ht : (r ++ b).take l0.length = r.take l0.length := by rw [List.take_append_of_le_length (by omega)]
          have hk : k + 1 + l0.length + (r.drop l0.length).length = k + (r.length + 1) := by simp; omega
          refine ⟨?_, ?_⟩
          · simp only [List.cons_append]
            rw [getF_step hc ha hl2, hd, ht, ih, hk]
            simp only [List.length_cons]
            rw [show c + 1 + m.length = c + (m.length + 1) by omega]
            cases getF fb b (k + (r.length + 1)) (c + (m.length + 1)) <;> rfl
          · simp at ihl ⊢; omega
theorem getT_parts {a b : List Int} {l : List R} (ha : a.length ≤ 200) (hb : b.length ≤ 200) (h : getT a = .ok l) :
    getT (a ++ b) = match getT b with | .ok m => .ok (l ++ m) | .error (k, c) => .error (a.length + k, c) := by
  have hlen : (a ++ b).length = a.length + b.length := by simp
  obtain ⟨h1, h2⟩ := getF_append a.length a b 0 0 b.length (a ++ b).length l (Nat.le_refl _) (Nat.le_refl _) (Nat.le_refl _) (by omega) h
  have h3 := getF_shift b.length b.length b 0 0 l.length a.length (Nat.le_refl _) (Nat.le_refl _) (by omega) (by omega)
  unfold getT
  rw [h1]
  simp only [Nat.zero_add] at h3 ⊢
  rw [h3]
  cases getF b.length b 0 0 with
  | ok m => rfl
  | error p => obtain ⟨k, c⟩ := p; simp [shiftG, cont, Nat.add_comm]
theorem getF_err : ∀ (f : Nat) (a : List Int) (k c j : Nat) (e : Int), getF f a k c = .error (j, e) → e = 12 ∨ e = 5 ∨ e = 1
  | f, [], k, c, j, e, h => by rw [getF_nil] at h; cases h
  | 0, _ :: _, _, _, _, _, h => by simp [getF] at h
  | f + 1, op :: r, k, c, j, e, h => by
    by_cases hc : c = 4096
    · rw [getF_full hc] at h; simp at h; exact .inl h.2.symm
    · cases ha : askT op with
      | none => rw [getF_none hc ha] at h; simp at h; exact .inr (.inl h.2.symm)
      | some l =>
        by_cases hl : r.length < l.length
        · rw [getF_short hc ha hl] at h; simp at h; exact .inr (.inr h.2.symm)
        · rw [getF_step hc ha hl] at h
          cases hg : getF f (r.drop l.length) (k + 1 + l.length) (c + 1) with
          | ok m => rw [hg] at h; cases h
          | error p => rw [hg] at h; obtain rfl : p = (j, e) := (by simpa using h); exact getF_err f _ _ _ j e hg
theorem ask18 : askT 18 = some [] := by rfl
theorem ask0 : askT 0 = none := by rfl
theorem getF_18 : ∀ (n f : Nat) (t : List Int) (k c : Nat), c + n ≤ 4096 → n ≤ f → getF f (List.replicate n 18 ++ t) k c = cont (List.replicate n (18, [])) (getF (f - n) t (k + n) (c + n))
  | 0, f, t, k, c, _, _ => by simp [cont_nil]
  | n + 1, 0, t, k, c, _, h => by omega
  | n + 1, f + 1, t, k, c, h1, h2 => by
    have hc : ¬ c = 4096 := by omega
    rw [List.replicate_succ, List.cons_append, getF_step hc ask18 (by simp)]
    simp only [List.length_nil, List.drop_zero, List.take_zero, Nat.add_zero]
    rw [getF_18 n f t (k + 1) (c + 1) (by omega) (by omega)]
    rw [show f + 1 - (n + 1) = f - n by omega, show k + 1 + n = k + (n + 1) by omega, show c + 1 + n = c + (n + 1) by omega, List.replicate_succ]
    cases getF (f - n) t (k + (n + 1)) (c + (n + 1)) <;> rfl
/-- What comes of k times 18, the last one 0 where 'wrong' says so. -/
def manyL (k : Nat) (wrong : Bool) : List Int := List.replicate (k - 1) 18 ++ [if wrong then 0 else 18]
theorem many_long {k : Nat} (wrong : Bool) (h : 4096 < k) : getT (manyL k wrong) = .error (4096, 12) := by
  have hk : k - 1 = 4096 + (k - 1 - 4096) := by omega
  have hl : (manyL k wrong).length = k := by simp [manyL]; omega
  unfold getT
  rw [hl]
  unfold manyL
  rw [hk, ← List.replicate_append_replicate, List.append_assoc, getF_18 4096 k _ 0 0 (by omega) (by omega)]
  have : ∃ x y, (List.replicate (k - 1 - 4096) (18 : Int) ++ [if wrong then 0 else 18]) = x :: y := by
    cases hr : List.replicate (k - 1 - 4096) (18 : Int) with
    | nil => exact ⟨_, _, rfl⟩
    | cons x y => exact ⟨x, _, rfl⟩
  obtain ⟨x, y, e⟩ := this
  rw [e, show k - 4096 = (k - 4096 - 1) + 1 by omega, getF_full rfl]
  rfl
theorem many_wrong {k : Nat} (h0 : 1 ≤ k) (h : k ≤ 4096) : getT (manyL k true) = .error (k - 1, 5) := by
  have hl : (manyL k true).length = k := by simp [manyL]; omega
  unfold getT
  rw [hl]
  unfold manyL
  rw [getF_18 (k - 1) k _ 0 0 (by omega) (by omega), show k - (k - 1) = 0 + 1 by omega]
  have hc : ¬ (0 + (k - 1)) = 4096 := by omega
  rw [if_pos rfl, getF_none hc ask0]
  simp [cont]
theorem many_right {k : Nat} (h0 : 1 ≤ k) (h : k ≤ 4096) : ∃ l, getT (manyL k false) = .ok l ∧ l.length = k := by
  have hl : (manyL k false).length = k := by simp [manyL]; omega
  refine ⟨List.replicate (k - 1) (18, []) ++ [(18, [])], ?_, by simp; omega⟩
  unfold getT
  rw [hl]
  unfold manyL
  rw [getF_18 (k - 1) k _ 0 0 (by omega) (by omega), show k - (k - 1) = 0 + 1 by omega]
  have hc : ¬ (0 + (k - 1)) = 4096 := by omega
  simp only [Bool.false_eq_true, if_false]
  rw [getF_step hc ask18 (by simp)]
  simp [getF_nil, cont]
/-- What was put is got. -/
theorem putF_get : ∀ (l : List R) (acc a : List Int), putF l acc = .ok a → ∃ s, a = acc ++ s ∧ l.length ≤ s.length ∧ ∀ (f k c : Nat), s.length ≤ f → c + l.length ≤ 4096 → getF f s k c = .ok l
  | [], acc, a, h => by
    obtain rfl : acc = a := by simpa [putF] using h
    exact ⟨[], by simp, by simp, fun f k c _ _ => getF_nil f k c⟩
  | (op, A) :: r, acc, a, h => by
    unfold putF at h
    cases ha : askT op with
    | none => rw [ha] at h; cases h
    | some l0 =>
      rw [ha] at h
      simp only at h
      by_cases hl : l0.length = A.length
      · rw [if_pos hl] at h
        obtain ⟨s, rfl, hs, hg⟩ := putF_get r _ a h
        refine ⟨op :: (A ++ s), by simp, by simp; omega, fun f k c hf hc => ?_⟩
        cases f with
        | zero => simp at hf
        | succ f =>
          simp only [List.length_cons, List.length_append] at hf hc
          have hc' : ¬ c = 4096 := by omega
          rw [getF_step hc' ha (by simp; omega), hl, List.drop_left, List.take_left, hg f _ _ (by omega) (by omega)]
      · rw [if_neg hl] at h; cases h
theorem put_get {l : List R} {a : List Int} (hl : l.length ≤ 4096) (h : putT l = .ok a) : getT a = .ok l := by
  unfold putT at h
  rw [if_neg (by omega)] at h
  obtain ⟨s, e, _, hg⟩ := putF_get l [] a h
  obtain rfl : a = s := by simpa using e
  exact hg _ _ _ (Nat.le_refl _) (by omega)
theorem putF_err : ∀ (l : List R) (acc : List Int) (e : Int), putF l acc = .error e → e = 5 ∨ e = 1
  | [], acc, e, h => by simp [putF] at h
  | (op, A) :: r, acc, e, h => by
    unfold putF at h
    cases ha : askT op with
    | none => rw [ha] at h; exact .inl (by simpa using h.symm)
    | some l0 =>
      rw [ha] at h
      simp only at h
      by_cases hl : l0.length = A.length
      · rw [if_pos hl] at h; exact putF_err r _ e h
      · rw [if_neg hl] at h; exact .inr (by simpa using h.symm)
theorem putT_err {l : List R} {e : Int} (h : putT l = .error e) : e = 12 ∨ e = 5 ∨ e = 1 := by
  unfold putT at h
  split at h
  · exact .inl (by simpa using h.symm)
  · exact .inr (putF_err l [] e h)
theorem getF_place : ∀ (f : Nat) (a : List Int) (k c j : Nat) (e : Int), getF f a k c = .error (j, e) → j ≤ k + a.length
  | f, [], k, c, j, e, h => by rw [getF_nil] at h; cases h
  | 0, _ :: _, _, _, _, _, h => by simp [getF] at h
  | f + 1, op :: r, k, c, j, e, h => by
    by_cases hc : c = 4096
    · rw [getF_full hc] at h; simp at h; omega
    · cases ha : askT op with
      | none => rw [getF_none hc ha] at h; simp at h; omega
      | some l =>
        by_cases hl : r.length < l.length
        · rw [getF_short hc ha hl] at h; simp at h; omega
        · rw [getF_step hc ha hl] at h
          cases hg : getF f (r.drop l.length) (k + 1 + l.length) (c + 1) with
          | ok m => rw [hg] at h; cases h
          | error p =>
            rw [hg] at h
            obtain rfl : p = (j, e) := (by simpa using h)
            have := getF_place f _ _ _ j e hg
            simp at this ⊢
            omega
theorem getF_count : ∀ (f : Nat) (a : List Int) (k c : Nat) (l : List R), getF f a k c = .ok l → l.length ≤ a.length
  | f, [], k, c, l, h => by rw [getF_nil] at h; obtain rfl : [] = l := (by simpa using h); simp
  | 0, _ :: _, _, _, l, h => by simp [getF] at h; subst h; simp
  | f + 1, op :: r, k, c, l, h => by
    by_cases hc : c = 4096
    · rw [getF_full hc] at h; cases h
    · cases ha : askT op with
      | none => rw [getF_none hc ha] at h; cases h
      | some l0 =>
        by_cases hl : r.length < l0.length
        · rw [getF_short hc ha hl] at h; cases h
        · rw [getF_step hc ha hl] at h
          cases hg : getF f (r.drop l0.length) (k + 1 + l0.length) (c + 1) with
          | error e => rw [hg] at h; cases h
          | ok m =>
            rw [hg] at h
            obtain rfl : (op, r.take l0.length) :: m = l := (by simpa using h)
            have := getF_count f _ _ _ m hg
            simp at this ⊢
            omega
end Go.Proofs.YtgibagnllbbeiaaDoor
