/- Plain text: what a line, a text says; no program's steps. By an AI agent. No condition beyond what each theorem states. -/
import Derived.Test.YtaklnijmcidpkaaDoorNU
import Derived.Test.YtaklnijmcidpkaaDoorOP
import Derived.Test.YtaklnijmcidpkaaDoorG
set_option linter.unusedVariables false
set_option linter.unusedSimpArgs false
namespace Go.Proofs.YtaklnijmcidpkaaDoor
theorem cut1_len (c : UInt8) (l : List UInt8) : (cut1 c l).1.length ≤ l.length ∧ (cut1 c l).2.1.length ≤ l.length ∧ ((cut1 c l).2.2 = true → (cut1 c l).2.1.length < l.length) ∧ ((cut1 c l).2.2 = false → (cut1 c l).2.1 = []) := by
  cases h : (cut1 c l).2.2 with
  | true =>
    have := congrArg List.length (cut1_yes c l h).1
    simp only [List.length_append, List.length_cons] at this
    exact ⟨by omega, by omega, fun _ => (by omega), fun h => (by cases h)⟩
  | false =>
    obtain ⟨a, b, _⟩ := cut1_no c l h
    rw [a, b]
    exact ⟨Nat.le_refl _, Nat.zero_le _, fun h => (by cases h), fun _ => rfl⟩
/-- The numbers of words, or why there are none. -/
def numsT : List (List UInt8) → Except Int (List Int)
  | [] => .ok []
  | x :: r => if (numT x).2 = 0 then (match numsT r with | .ok l => .ok ((numT x).1 :: l) | .error e => .error e) else .error (numT x).2
def contN (acc : List Int) : Except Int (List Int) → Except Int (List Int)
  | .ok l => .ok (acc ++ l)
  | .error e => .error e
theorem contN_nil (g : Except Int (List Int)) : contN [] g = g := by cases g <;> rfl
theorem nums_bad {acc : List Int} {x : List UInt8} {r : List (List UInt8)} (h : (numT x).2 ≠ 0) : contN acc (numsT (x :: r)) = .error (numT x).2 := by
  unfold numsT
  rw [if_neg h]
  rfl
theorem nums_step {acc : List Int} {x : List UInt8} {r : List (List UInt8)} (h : (numT x).2 = 0) : contN acc (numsT (x :: r)) = contN (acc ++ [(numT x).1]) (numsT r) := by
  conv => lhs; unfold numsT
  rw [if_pos h]
  cases numsT r with
  | ok l => simp [contN]
  | error e => rfl
theorem nums_end (acc : List Int) : contN acc (numsT []) = .ok acc := by simp [numsT, contN]
/-- The words behind the first one. -/
def restW (p : List UInt8 × List UInt8 × Bool) : List (List UInt8) := if p.2.2 then splitW p.2.1 else []
theorem splitW_is (l : List UInt8) : splitW l = (cut1 32 l).1 :: restW (cut1 32 l) := splitW_cut l
/-- How many numbers a command has. -/
def arT (op : Int) : Nat := ((askT op).getD []).length
/-- The end of a line, when its numbers are there. -/
def lineE (op : Int) : Except Int (List Int) → Except Int R
  | .error e => .error e
  | .ok A => if arT op = A.length then .ok (op, A) else .error 1
/-- The command of a line, or why it has none. -/
def lineT (l : List UInt8) : Except Int R :=
  if (opT ⟨(cut1 32 l).1.toArray⟩).2 = true then lineE (opT ⟨(cut1 32 l).1.toArray⟩).1 (numsT (restW (cut1 32 l))) else .error 5
/-- The commands of a text behind c others; f: as many lines at most. -/
def parseF : Nat → List UInt8 → Nat → G
  | _, [], _ => .ok []
  | 0, _ :: _, _ => .ok []
  | f + 1, b :: l, c =>
    if c = 4096 then .error (4097, 12)
    else if (cut1 10 (b :: l)).2.2 = true then
      match lineT (cut1 10 (b :: l)).1 with
      | .error e => .error (c + 1, e)
      | .ok r => match parseF f (cut1 10 (b :: l)).2.1 (c + 1) with
        | .ok m => .ok (r :: m)
        | .error e => .error e
    else .error (c + 1, 11)
def parseT (l : List UInt8) : G := parseF l.length l 0
theorem parseF_nil (f c : Nat) : parseF f [] c = .ok [] := by cases f <;> rfl
theorem parseF_full {f : Nat} {l : List UInt8} {c : Nat} (hl : l ≠ []) (hc : c = 4096) : parseF (f + 1) l c = .error (c + 1, 12) := by
  cases l with
  | nil => exact absurd rfl hl
  | cons b l => subst hc; simp [parseF]
theorem parseF_open {f : Nat} {l : List UInt8} {c : Nat} (hl : l ≠ []) (hc : ¬ c = 4096) (h : (cut1 10 l).2.2 = false) : parseF (f + 1) l c = .error (c + 1, 11) := by
  cases l with
  | nil => exact absurd rfl hl
  | cons b l => unfold parseF; rw [if_neg hc, if_neg (by rw [h]; decide)]
theorem parseF_bad {f : Nat} {l : List UInt8} {c : Nat} {e : Int} (hl : l ≠ []) (hc : ¬ c = 4096) (h : (cut1 10 l).2.2 = true) (he : lineT (cut1 10 l).1 = .error e) : parseF (f + 1) l c = .error (c + 1, e) := by
  cases l with
  | nil => exact absurd rfl hl
  | cons b l => unfold parseF; rw [if_neg hc, if_pos h, he]
theorem parseF_step {f : Nat} {l : List UInt8} {c : Nat} {r : R} (hl : l ≠ []) (hc : ¬ c = 4096) (h : (cut1 10 l).2.2 = true) (he : lineT (cut1 10 l).1 = .ok r) :
    parseF (f + 1) l c = match parseF f (cut1 10 l).2.1 (c + 1) with | .ok m => .ok (r :: m) | .error e => .error e := by
  cases l with
  | nil => exact absurd rfl hl
  | cons b l =>
    conv => lhs; unfold parseF
    rw [if_neg hc, if_pos h, he]
theorem parseF_cont {f : Nat} {l : List UInt8} {c : Nat} {r : R} {pre : List R} (hl : l ≠ []) (hc : ¬ c = 4096) (h : (cut1 10 l).2.2 = true) (he : lineT (cut1 10 l).1 = .ok r) :
    cont pre (parseF (f + 1) l c) = cont (pre ++ [r]) (parseF f (cut1 10 l).2.1 (c + 1)) := by
  rw [parseF_step hl hc h he]
  cases parseF f (cut1 10 l).2.1 (c + 1) <;> simp [cont]
theorem nums_err {l : List (List UInt8)} {e : Int} (h : numsT l = .error e) : e ≠ 0 := by
  induction l generalizing e with
  | nil => simp [numsT] at h
  | cons x r ih =>
    unfold numsT at h
    by_cases h0 : (numT x).2 = 0
    · rw [if_pos h0] at h
      cases h2 : numsT r with
      | ok l => rw [h2] at h; cases h
      | error e' => rw [h2] at h; injection h with h; subst h; exact ih h2
    · rw [if_neg h0] at h
      injection h with h
      subst h
      exact h0
theorem line_err {l : List UInt8} {e : Int} (h : lineT l = .error e) : e ≠ 0 := by
  unfold lineT at h
  split at h
  · unfold lineE at h
    split at h
    · injection h with h; subst h; exact nums_err (by assumption)
    · split at h
      · cases h
      · injection h with h; subst h; decide
  · injection h with h; subst h; decide
end Go.Proofs.YtaklnijmcidpkaaDoor
