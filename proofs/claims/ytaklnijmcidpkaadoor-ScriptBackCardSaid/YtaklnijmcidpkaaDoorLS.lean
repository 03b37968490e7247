/- Plain text: a text behind another one; no program's steps. By an AI agent. No condition beyond what each theorem states. -/
import Derived.Test.YtaklnijmcidpkaaDoorLT
set_option linter.unusedVariables false
set_option linter.unusedSimpArgs false
namespace Go.Proofs.YtaklnijmcidpkaaDoor
def shiftG (j : Nat) : G → G
  | .ok l => .ok l
  | .error (k, e) => .error (k + j, e)
theorem shiftG_zero (g : G) : shiftG 0 g = g := by
  cases g with
  | ok l => rfl
  | error p => rfl
theorem cut1_app {c : UInt8} {S T : List UInt8} (h : (cut1 c S).2.2 = true) : cut1 c (S ++ T) = ((cut1 c S).1, (cut1 c S).2.1 ++ T, true) := by
  obtain ⟨h1, h2⟩ := cut1_yes c S h
  have e : S ++ T = (cut1 c S).1 ++ c :: ((cut1 c S).2.1 ++ T) := by
    conv => lhs; rw [h1]
    simp
  rw [e, cut1_mk _ _ _ h2]
theorem ne_len {l : List UInt8} (h : l ≠ []) : 1 ≤ l.length := by
  cases l with
  | nil => exact absurd rfl h
  | cons b l => simp
theorem parseF_shift : ∀ (f f' : Nat) (l : List UInt8) (c j : Nat), l.length ≤ f → l.length ≤ f' → c + j + l.length ≤ 4096 → parseF f l (c + j) = shiftG j (parseF f' l c) := by
  intro f
  induction f with
  | zero =>
    intro f' l c j h1 h2 h3
    obtain rfl := List.eq_nil_of_length_eq_zero (Nat.le_zero.1 h1)
    rw [parseF_nil, parseF_nil]; rfl
  | succ f ih =>
    intro f' l c j h1 h2 h3
    by_cases hl : l = []
    · subst hl; rw [parseF_nil, parseF_nil]; rfl
    · have hp := ne_len hl
      obtain ⟨f', rfl⟩ : ∃ g, f' = g + 1 := ⟨f' - 1, by omega⟩
      have n1 : ¬ c + j = 4096 := by omega
      have n2 : ¬ c = 4096 := by omega
      cases hc : (cut1 10 l).2.2 with
      | false =>
        rw [parseF_open hl n1 hc, parseF_open hl n2 hc]
        simp [shiftG]; omega
      | true =>
        cases he : lineT (cut1 10 l).1 with
        | error e =>
          rw [parseF_bad hl n1 hc he, parseF_bad hl n2 hc he]
          simp [shiftG]; omega
        | ok r =>
          have hlt := (cut1_len 10 l).2.2.1 hc
          have := ih f' (cut1 10 l).2.1 (c + 1) j (by omega) (by omega) (by omega)
          rw [parseF_step hl n1 hc he, parseF_step hl n2 hc he, show c + j + 1 = c + 1 + j by omega, this]
          cases parseF f' (cut1 10 l).2.1 (c + 1) with
          | ok m => rfl
          | error p => rfl
theorem parseF_app (T : List UInt8) : ∀ (f : Nat) (S : List UInt8) (c : Nat) (l : List R), S.length ≤ f → c + S.length + T.length ≤ 4096 → parseF f S c = .ok l → ∀ f2 f3, (S ++ T).length ≤ f2 → T.length ≤ f3 → parseF f2 (S ++ T) c = cont l (parseF f3 T (c + l.length)) ∧ l.length ≤ S.length := by
  intro f
  induction f with
  | zero =>
    intro S c l h1 h2 h3 f2 f3 h4 h5
    obtain rfl := List.eq_nil_of_length_eq_zero (Nat.le_zero.1 h1)
    rw [parseF_nil] at h3
    injection h3 with h3
    subst h3
    rw [cont_nil]
    refine ⟨?_, Nat.le_refl _⟩
    have := parseF_shift f2 f3 T c 0 (by simpa using h4) h5 (by simpa using h2)
    rw [shiftG_zero] at this
    exact this
  | succ f ih =>
    intro S c l h1 h2 h3 f2 f3 h4 h5
    by_cases hl : S = []
    · subst hl
      rw [parseF_nil] at h3
      injection h3 with h3
      subst h3
      rw [cont_nil]
      refine ⟨?_, Nat.le_refl _⟩
      have := parseF_shift f2 f3 T c 0 (by simpa using h4) h5 (by simpa using h2)
      rw [shiftG_zero] at this
      exact this
    · have hp := ne_len hl
      have n1 : ¬ c = 4096 := by omega
      cases hc : (cut1 10 S).2.2 with
      | false => rw [parseF_open hl n1 hc] at h3; cases h3
      | true =>
        cases he : lineT (cut1 10 S).1 with
        | error e => rw [parseF_bad hl n1 hc he] at h3; cases h3
        | ok r =>
          have hlt := (cut1_len 10 S).2.2.1 hc
          rw [parseF_step hl n1 hc he] at h3
          rw [List.length_append] at h4
          obtain ⟨f2, rfl⟩ : ∃ g, f2 = g + 1 := ⟨f2 - 1, by omega⟩
          cases hr : parseF f (cut1 10 S).2.1 (c + 1) with
          | error p => rw [hr] at h3; cases h3
          | ok m =>
            rw [hr] at h3
            injection h3 with h3
            subst h3
            obtain ⟨h6, h7⟩ := ih (cut1 10 S).2.1 (c + 1) m (by omega) (by omega) hr f2 f3 (by rw [List.length_append]; omega) h5
            have hca := cut1_app (T := T) hc
            have hla : S ++ T ≠ [] := by simp [hl]
            rw [parseF_step hla n1 (by rw [hca]) (by rw [hca]; exact he), hca]
            simp only
            rw [h6, List.length_cons, show c + (m.length + 1) = c + 1 + m.length by omega]
            refine ⟨?_, by omega⟩
            cases parseF f3 T (c + 1 + m.length) with
            | ok q => rfl
            | error p => rfl
/-- Of a text behind another one. -/
theorem parse_parts {S T : List UInt8} {l : List R} (hS : S.length ≤ 1000) (hT : T.length ≤ 1000) (h : parseT S = .ok l) : parseT (S ++ T) = cont l (shiftG l.length (parseT T)) ∧ l.length ≤ 1000 := by
  obtain ⟨h1, h2⟩ := parseF_app T S.length S 0 l (Nat.le_refl _) (by omega) h (S ++ T).length T.length (Nat.le_refl _) (Nat.le_refl _)
  unfold parseT
  rw [h1]
  have := parseF_shift T.length T.length T 0 l.length (Nat.le_refl _) (Nat.le_refl _) (by omega)
  rw [this]
  exact ⟨rfl, by omega⟩
end Go.Proofs.YtaklnijmcidpkaaDoor
