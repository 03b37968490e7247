/- Plain text: numerals and their numbers, both ways; no program's steps. By an AI agent. No condition beyond what each theorem states. -/
import Derived.Test.YtaklnijmcidpkaaDoorNU
import Derived.Test.YtaklnijmcidpkaaDoorPT
import Derived.Lib.ItoaNum
import Derived.Lib.ItoaMem
set_option linter.unusedVariables false
set_option linter.unusedSimpArgs false
namespace Go.Proofs.YtaklnijmcidpkaaDoor
open Go.RowKit
theorem dig_nat {u : Nat} (h : u < 10) : (UInt8.ofNat (48 + u)).toNat = 48 + u := by rw [UInt8.toNat_ofNat']; omega
theorem dec_small {u : Nat} (h : u < 10) : Lib.decDigits u = [UInt8.ofNat (48 + u)] := Lib.decDigits_one h
theorem dec_big {u : Nat} (h : ¬ u < 10) : Lib.decDigits u = Lib.decDigits (u / 10) ++ [UInt8.ofNat (48 + u % 10)] := by rw [Lib.decDigits, dif_neg h]
theorem dec_val (u : Nat) : valD (Lib.decDigits u) = u := by
  induction u using Nat.strongRecOn with
  | ind u ih =>
    by_cases h : u < 10
    · rw [dec_small h]
      unfold valD
      simp only [List.foldl_cons, List.foldl_nil]
      rw [dig_nat h]
      omega
    · rw [dec_big h, valD_snoc, ih (u / 10) (by omega), dig_nat (by omega)]
      omega
theorem dec_isD (u : Nat) : ∀ b ∈ Lib.decDigits u, isD b = true := by
  induction u using Nat.strongRecOn with
  | ind u ih =>
    intro b hb
    by_cases h : u < 10
    · rw [dec_small h] at hb
      obtain rfl : b = UInt8.ofNat (48 + u) := by simpa using hb
      unfold isD
      rw [dig_nat h]
      simp
      omega
    · rw [dec_big h] at hb
      rcases List.mem_append.1 hb with hb | hb
      · exact ih (u / 10) (by omega) b hb
      · obtain rfl : b = UInt8.ofNat (48 + u % 10) := by simpa using hb
        unfold isD
        rw [dig_nat (by omega)]
        simp
        omega
theorem dec_pos (u : Nat) : 0 < (Lib.decDigits u).length := by rw [Lib.decDigits_length]; exact Lib.nDigits_pos u
theorem dec_head (u : Nat) (h1 : 1 ≤ u) : (Lib.decDigits u).head? ≠ some 48 := by
  induction u using Nat.strongRecOn with
  | ind u ih =>
    by_cases h : u < 10
    · rw [dec_small h]
      intro he
      have : UInt8.ofNat (48 + u) = 48 := by simpa using he
      have h2 := congrArg UInt8.toNat this
      rw [dig_nat h] at h2
      have : (48 : UInt8).toNat = 48 := rfl
      omega
    · rw [dec_big h]
      have h2 := ih (u / 10) (by omega) (by omega)
      have h3 := dec_pos (u / 10)
      cases hl : Lib.decDigits (u / 10) with
      | nil => rw [hl] at h3; simp at h3
      | cons a l => rw [hl] at h2; simpa using h2
theorem valF_pos (l : List UInt8) : ∀ n : Nat, 1 ≤ n → 1 ≤ l.foldl (fun n b => n * 10 + (b.toNat - 48)) n := by
  induction l with
  | nil => intro n h; exact h
  | cons b l ih => intro n h; rw [List.foldl_cons]; exact ih _ (by omega)
theorem val_pos {d : List UInt8} (hd : ∀ b ∈ d, isD b = true) (h0 : 0 < d.length) (hh : d.head? ≠ some 48) : 1 ≤ valD d := by
  cases d with
  | nil => simp at h0
  | cons a d =>
    unfold valD
    rw [List.foldl_cons]
    apply valF_pos
    have h1 := hd a (by simp)
    unfold isD at h1
    simp at h1
    have h2 : a ≠ 48 := fun e => hh (by rw [e]; rfl)
    have h3 : a.toNat ≠ 48 := fun e => h2 (UInt8.toNat_inj.1 (by rw [e]; rfl))
    omega
theorem dec_back : ∀ (n : Nat) (d : List UInt8), d.length = n → (∀ b ∈ d, isD b = true) → 0 < d.length → d.head? ≠ some 48 → Lib.decDigits (valD d) = d
  | 0, d, hl, _, h0, _ => by omega
  | n + 1, d, hl, hd, h0, hh => by
    obtain ⟨d', b, rfl⟩ : ∃ d' b, d = d' ++ [b] := ⟨d.dropLast, d.getLast (by intro e; rw [e] at h0; simp at h0), (List.dropLast_concat_getLast _).symm⟩
    have hb := hd b (by simp)
    unfold isD at hb
    simp at hb
    have hbn : UInt8.ofNat (48 + (b.toNat - 48)) = b := by
      apply UInt8.toNat_inj.1
      rw [dig_nat (by omega)]
      omega
    rw [valD_snoc]
    by_cases h1 : d' = []
    · subst h1
      rw [show valD [] = 0 from rfl, Nat.zero_mul, Nat.zero_add, dec_small (by omega), hbn]
      rfl
    · have hp : 0 < d'.length := List.length_pos_iff.2 h1
      have hd' : ∀ c ∈ d', isD c = true := fun c hc => hd c (by simp [hc])
      have hh' : d'.head? ≠ some 48 := by
        cases d' with
        | nil => simp at hp
        | cons a d'' => simpa using hh
      have hv := val_pos hd' hp hh'
      rw [dec_big (by omega), show (valD d' * 10 + (b.toNat - 48)) / 10 = valD d' by omega, show (valD d' * 10 + (b.toNat - 48)) % 10 = b.toNat - 48 by omega, hbn]
      rw [dec_back n d' (by simp at hl; exact hl) hd' hp hh']
theorem dec_okD (u : Nat) : okD (Lib.decDigits u) = true := by
  have h1 := dec_pos u
  have h2 : (Lib.decDigits u).all isD = true := List.all_eq_true.2 (dec_isD u)
  have h3 : Lib.decDigits u ≠ [] := fun e => by rw [e] at h1; simp at h1
  unfold okD
  rw [h2]
  by_cases h0 : u = 0
  · subst h0
    rw [dec_small (by decide)]
    decide
  · have := dec_head u (by omega)
    simp [h3, this]
theorem dec_no45 (u : Nat) : (Lib.decDigits u).head? ≠ some 45 := by
  intro e
  have hm : (45 : UInt8) ∈ Lib.decDigits u := by
    cases h : Lib.decDigits u with
    | nil => rw [h] at e; cases e
    | cons b l => rw [h] at e; simp at e; rw [e]; simp
  exact absurd (dec_isD u 45 hm) (by decide)
/-- The number of a number's numeral is that number. -/
theorem num_itoa {x : Int} (h : I64 x) : numT (Lib.itoa x) = (x, 0) := by
  obtain ⟨h1, h2⟩ := h
  by_cases h0 : x < 0
  · obtain ⟨u, rfl⟩ : ∃ u : Nat, x = -(u : Int) := ⟨x.natAbs, by omega⟩
    rw [Lib.itoa_neg u (by omega)]
    have hs : strip (45 :: Lib.decDigits u) = (true, Lib.decDigits u) := by unfold strip; simp
    unfold numT
    rw [hs]
    simp only
    rw [if_neg, if_pos trivial, dec_val, if_pos (by omega)]
    rintro (e | ⟨_, e⟩)
    · rw [dec_okD] at e; cases e
    · have := dec_head u (by omega)
      rw [e] at this
      exact this rfl
  · obtain ⟨u, rfl⟩ : ∃ u : Nat, x = (u : Int) := ⟨x.toNat, by omega⟩
    rw [Lib.itoa_nonneg]
    have hs : strip (Lib.decDigits u) = (false, Lib.decDigits u) := by unfold strip; rw [if_neg (dec_no45 u)]
    unfold numT
    rw [hs]
    simp only
    rw [if_neg, if_neg (by decide), dec_val, if_pos (by omega)]
    rintro (e | ⟨e, _⟩)
    · rw [dec_okD] at e; cases e
    · cases e
theorem okD_back {d : List UInt8} (h : okD d = true) : Lib.decDigits (valD d) = d ∧ (d ≠ [48] → 1 ≤ valD d) := by
  have hp := okD_parts h
  have hall : ∀ b ∈ d, isD b = true := List.all_eq_true.1 hp.2.1
  have hl : 0 < d.length := List.length_pos_iff.2 hp.1
  by_cases h0 : d = [48]
  · subst h0
    exact ⟨by rw [show valD [48] = 0 from rfl, dec_small (by decide)]; rfl, fun h => absurd rfl h⟩
  · have hh : d.head? ≠ some 48 := by
      intro e
      unfold okD at h
      simp [e, h0] at h
    exact ⟨dec_back _ d rfl hall hl hh, fun _ => val_pos hall hl hh⟩
/-- A word that has a number is that number's numeral. -/
theorem itoa_num {l : List UInt8} (h : (numT l).2 = 0) : Lib.itoa (numT l).1 = l ∧ I64 (numT l).1 := by
  unfold numT at h ⊢
  by_cases hc : okD (strip l).2 = false ∨ ((strip l).1 = true ∧ (strip l).2 = [48])
  · rw [if_pos hc] at h; exact absurd h (by decide)
  · rw [if_neg hc] at h ⊢
    have hok : okD (strip l).2 = true := by
      cases hk : okD (strip l).2 with
      | true => rfl
      | false => exact absurd (.inl hk) hc
    obtain ⟨hb, hb1⟩ := okD_back hok
    by_cases hn : (strip l).1 = true
    · rw [if_pos hn] at h ⊢
      have h48 : (strip l).2 ≠ [48] := fun e => hc (.inr ⟨hn, e⟩)
      have hv := hb1 h48
      by_cases hv2 : valD (strip l).2 ≤ 9223372036854775808
      · rw [if_pos hv2] at h ⊢
        simp only
        rw [Lib.itoa_neg _ hv, hb]
        refine ⟨?_, by unfold I64; omega⟩
        unfold strip at hn ⊢
        split at hn
        · rename_i h45
          rw [if_pos h45]
          cases l with
          | nil => cases h45
          | cons b l => simp at h45; rw [h45]; rfl
        · cases hn
      · rw [if_neg hv2] at h; exact absurd h (by decide)
    · rw [if_neg hn] at h ⊢
      by_cases hv2 : valD (strip l).2 ≤ 9223372036854775807
      · rw [if_pos hv2] at h ⊢
        simp only
        rw [Lib.itoa_nonneg, hb]
        refine ⟨?_, by unfold I64; omega⟩
        unfold strip at hn ⊢
        split at hn
        · exact absurd rfl hn
        · rename_i h45; rw [if_neg h45]
      · rw [if_neg hv2] at h; exact absurd h (by decide)
theorem itoa_no (x : Int) : (32 : UInt8) ∉ Lib.itoa x ∧ (10 : UInt8) ∉ Lib.itoa x := by
  have hd : ∀ u, (32 : UInt8) ∉ Lib.decDigits u ∧ (10 : UInt8) ∉ Lib.decDigits u := fun u => ⟨fun h => absurd (dec_isD u _ h) (by decide), fun h => absurd (dec_isD u _ h) (by decide)⟩
  unfold Lib.itoa
  split
  · exact ⟨by simp [(hd _).1], by simp [(hd _).2]⟩
  · exact hd _
end Go.Proofs.YtaklnijmcidpkaaDoor
