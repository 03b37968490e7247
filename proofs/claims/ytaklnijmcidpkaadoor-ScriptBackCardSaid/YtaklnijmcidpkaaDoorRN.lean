/- Proof text: the number of a word (rastrumref29.number). By an AI agent. No condition beyond what each theorem states. -/
import Derived.Test.YtaklnijmcidpkaaDoorNB
set_option linter.unusedVariables false
set_option linter.unusedSimpArgs false
namespace Go.Proofs.YtaklnijmcidpkaaDoor
open Go.RowKit
/-- Where a word's digits begin. -/
def sg (s : ByteArray) : Nat := if (strip s.data.toList).1 then 1 else 0
/-- A word's digits. -/
def dgs (s : ByteArray) : List UInt8 := s.data.toList.drop (sg s)
theorem strip_dgs (s : ByteArray) : (strip s.data.toList).2 = dgs s := by
  unfold dgs sg strip
  split <;> simp
theorem sg_one {s : ByteArray} (h0 : 0 < s.size) (h : s[0].toNat = 45) : sg s = 1 ∧ (strip s.data.toList).1 = true := by
  have e : (strip s.data.toList).1 = true := by
    unfold strip
    rw [List.head?_eq_getElem?, bget h0, show s[0] = 45 from UInt8.toNat_inj.1 h]
    rfl
  exact ⟨by unfold sg; rw [e]; rfl, e⟩
theorem sg_zero {s : ByteArray} (h0 : 0 < s.size) (h : s[0].toNat ≠ 45) : sg s = 0 ∧ (strip s.data.toList).1 = false := by
  have e : (strip s.data.toList).1 = false := by
    unfold strip
    rw [List.head?_eq_getElem?, bget h0, if_neg]
    intro e
    exact h (by rw [Option.some.inj e]; rfl)
  exact ⟨by unfold sg; rw [e]; rfl, e⟩
theorem dgs_len (s : ByteArray) : (dgs s).length = s.size - sg s := by unfold dgs; rw [List.length_drop, Lib.size_eq]
theorem dgs_get {s : ByteArray} {k : Nat} (h : k < s.size) (hk : sg s ≤ k) : (dgs s)[k - sg s]? = some s[k] := by
  unfold dgs
  rw [List.getElem?_drop, show sg s + (k - sg s) = k by omega, bget h]
theorem okD_false {d : List UInt8} (h : d.all isD = false) : okD d = false := by unfold okD; rw [h]; simp
theorem num_bad {s : ByteArray} {k : Nat} (h : k < s.size) (hk : sg s ≤ k) (hb : isD s[k] = false) : numT s.data.toList = (0, 11) := by
  unfold numT
  rw [if_pos]
  refine .inl (okD_false ?_)
  rw [strip_dgs, List.all_eq_false]
  exact ⟨s[k], List.mem_iff_getElem?.2 ⟨_, dgs_get h hk⟩, by rw [hb]; decide⟩
theorem num_nil {s : ByteArray} (h : sg s = s.size) : numT s.data.toList = (0, 11) := by
  unfold numT
  rw [if_pos]
  refine .inl ?_
  rw [strip_dgs, List.eq_nil_of_length_eq_zero (l := dgs s) (by rw [dgs_len]; omega)]
  decide
theorem dgs_head {s : ByteArray} (h : sg s < s.size) : (dgs s).head? = some s[sg s] := by
  rw [List.head?_eq_getElem?]
  have := dgs_get h (Nat.le_refl _)
  rwa [Nat.sub_self] at this
theorem sg_cases (s : ByteArray) : (sg s = 1 ∧ (strip s.data.toList).1 = true) ∨ (sg s = 0 ∧ (strip s.data.toList).1 = false) := by
  unfold sg
  cases (strip s.data.toList).1 with
  | true => exact .inl ⟨rfl, rfl⟩
  | false => exact .inr ⟨rfl, rfl⟩
theorem num_zero {s : ByteArray} (h : sg s < s.size) (h0 : s[sg s].toNat = 48) (h1 : 1 < s.size) : numT s.data.toList = (0, 11) := by
  have hh := dgs_head h
  rw [show s[sg s] = 48 from UInt8.toNat_inj.1 h0] at hh
  unfold numT
  rw [if_pos]
  rw [strip_dgs]
  by_cases hd : dgs s = [48]
  · refine .inr ⟨?_, hd⟩
    have hl := dgs_len s
    rw [hd] at hl
    simp only [List.length_cons, List.length_nil] at hl
    rcases sg_cases s with ⟨h2, h3⟩ | ⟨h2, h3⟩
    · exact h3
    · omega
  · refine .inl ?_
    unfold okD
    simp [hh, hd]
/-- What a word of digits says. -/
def valR (s : ByteArray) : Int × Int :=
  if (strip s.data.toList).1 then (if valD (dgs s) ≤ 9223372036854775808 then (-(valD (dgs s) : Int), 0) else (0, 4)) else (if valD (dgs s) ≤ 9223372036854775807 then ((valD (dgs s) : Int), 0) else (0, 4))
theorem num_val {s : ByteArray} (h : sg s < s.size) (hz : s[sg s].toNat ≠ 48 ∨ s.size = 1) (hall : ∀ k (h : k < s.size), sg s ≤ k → isD s[k] = true) : numT s.data.toList = valR s := by
  have hl := dgs_len s
  have hh := dgs_head h
  have ha : (dgs s).all isD = true := by
    rw [List.all_eq_true]
    intro b hb
    obtain ⟨j, hj⟩ := List.mem_iff_getElem?.1 hb
    have hlt := (List.getElem?_eq_some_iff.1 hj).1
    have h2 := dgs_get (s := s) (k := j + sg s) (by omega) (by omega)
    rw [Nat.add_sub_cancel] at h2
    rw [h2] at hj
    rw [← Option.some.inj hj]
    exact hall _ (by omega) (by omega)
  have hne : dgs s ≠ [] := by intro e; rw [e, List.length_nil] at hl; omega
  have hsg := sg_cases s
  have hone : s.size = 1 → sg s = 0 := fun e => by omega
  have hok : okD (dgs s) = true := by
    unfold okD
    rw [ha]
    rcases hz with hz | hz
    · have : (dgs s).head? ≠ some 48 := by
        rw [hh]; intro e; exact hz (by rw [Option.some.inj e]; rfl)
      simp [hne, this]
    · have h0 := hone hz
      have hl1 : (dgs s).length = 1 := by omega
      obtain ⟨b, hb⟩ := List.length_eq_one_iff.1 hl1
      rw [hb]
      simp
  unfold numT valR
  rw [strip_dgs, if_neg]
  rintro (h1 | ⟨h1, h2⟩)
  · rw [hok] at h1; cases h1
  · rcases hsg with ⟨h3, h4⟩ | ⟨h3, h4⟩
    · rw [h2] at hl hh
      simp only [List.length_cons, List.length_nil, List.head?_cons] at hl hh
      rcases hz with hz | hz
      · exact hz (by rw [← Option.some.inj hh]; rfl)
      · omega
    · rw [h4] at h1; cases h1
/-- The value of the first digits. -/
def vk (s : ByteArray) (k : Nat) : Nat := valD ((dgs s).take (k - sg s))
theorem vk_next {s : ByteArray} {k : Nat} (h : k < s.size) (hk : sg s ≤ k) : vk s (k + 1) = vk s k * 10 + (s[k].toNat - 48) := by
  have hd := dgs_get h hk
  unfold vk
  have hj := (List.getElem?_eq_some_iff.1 hd).1
  rw [show k + 1 - sg s = (k - sg s) + 1 by omega, List.take_succ_eq_append_getElem hj, valD_snoc, (List.getElem?_eq_some_iff.1 hd).2]
theorem vk_zero (s : ByteArray) : vk s (sg s) = 0 := by unfold vk; rw [Nat.sub_self]; rfl
theorem vk_all (s : ByteArray) : vk s s.size = valD (dgs s) := by unfold vk; rw [List.take_of_length_le (by rw [dgs_len]; exact Nat.le_refl _)]
theorem vk_le (s : ByteArray) (k : Nat) : vk s k ≤ valD (dgs s) := by
  have : valD (dgs s) = ((dgs s).drop (k - sg s)).foldl (fun n b => n * 10 + (b.toNat - 48)) (vk s k) := by
    have e := List.take_append_drop (k - sg s) (dgs s)
    conv => lhs; rw [← e]
    unfold vk valD
    rw [List.foldl_append]
  rw [this]
  exact valF_ge _ _
theorem val_over {s : ByteArray} (h : 9223372036854775808 < valD (dgs s)) : valR s = (0, 4) := by
  unfold valR
  rw [if_neg (show ¬ valD (dgs s) ≤ 9223372036854775808 by omega), if_neg (show ¬ valD (dgs s) ≤ 9223372036854775807 by omega)]
  split <;> rfl
end Go.Proofs.YtaklnijmcidpkaaDoor
