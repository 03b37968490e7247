/- Plain text: numerals and their numbers; pixels in a file's order; no program's steps. By an AI agent. -/
import Derived.Test.YtpjkhnkbijpmnaaDoorPW
set_option linter.unusedVariables false
set_option linter.unusedSimpArgs false
namespace Go.Proofs.YtpjkhnkbijpmnaaDoor
open Go.RowKit
theorem dig_nat {u : Nat} (h : u < 10) : (UInt8.ofNat (48 + u)).toNat = 48 + u := by rw [UInt8.toNat_ofNat']; omega
theorem dec_small {u : Nat} (h : u < 10) : Lib.decDigits u = [UInt8.ofNat (48 + u)] := Lib.decDigits_one h
theorem dec_big {u : Nat} (h : ¬ u < 10) : Lib.decDigits u = Lib.decDigits (u / 10) ++ [UInt8.ofNat (48 + u % 10)] := by rw [Lib.decDigits, dif_neg h]
theorem dec_val (u : Nat) : valD (Lib.decDigits u) = u := by
  induction u using Nat.strongRecOn with
  | ind u ih =>
    by_cases h : u < 10
    · rw [dec_small h]
      unfold valD
      simp only [List.foldl_cons, List.foldl_nil]
      rw [dig_nat h]
      omega
    · rw [dec_big h, valD_snoc, ih (u / 10) (by omega), dig_nat (by omega)]
      omega
theorem dec_isD (u : Nat) : ∀ b ∈ Lib.decDigits u, isD b = true := by
  induction u using Nat.strongRecOn with
  | ind u ih =>
    intro b hb
    by_cases h : u < 10
    · rw [dec_small h] at hb
      obtain rfl : b = UInt8.ofNat (48 + u) := by simpa using hb
      unfold isD
      rw [dig_nat h]
      simp
      omega
    · rw [dec_big h] at hb
      rcases List.mem_append.1 hb with hb | hb
      · exact ih (u / 10) (by omega) b hb
      · obtain rfl : b = UInt8.ofNat (48 + u % 10) := by simpa using hb
        unfold isD
        rw [dig_nat (by omega)]
        simp
        omega
theorem dec_pos (u : Nat) : 0 < (Lib.decDigits u).length := by rw [Lib.decDigits_length]; exact Lib.nDigits_pos u
theorem dec_head (u : Nat) (h1 : 1 ≤ u) : (Lib.decDigits u).head? ≠ some 48 := by
  induction u using Nat.strongRecOn with
  | ind u ih =>
    by_cases h : u < 10
    · rw [dec_small h]
      intro he
      have : UInt8.ofNat (48 + u) = 48 := by simpa using he
      have h2 := congrArg UInt8.toNat this
      rw [dig_nat h] at h2
      have : (48 : UInt8).toNat = 48 := rfl
      omega
    · rw [dec_big h]
      have h2 := ih (u / 10) (by omega) (by omega)
      have h3 := dec_pos (u / 10)
      cases hl : Lib.decDigits (u / 10) with
      | nil => rw [hl] at h3; simp at h3
      | cons a l => rw [hl] at h2; simpa using h2
theorem dec_len : ∀ (k u : Nat), u < 10 ^ (k + 1) → (Lib.decDigits u).length ≤ k + 1
  | 0, u, h => by
    rw [dec_small (by simpa using h)]
    simp
  | k + 1, u, h => by
    by_cases h1 : u < 10
    · rw [dec_small h1]; simp
    · rw [dec_big h1, List.length_append]
      have := dec_len k (u / 10) (by rw [Nat.pow_succ] at h; omega)
      simp
      omega
theorem dec_good {u : Nat} (h1 : 1 ≤ u) (h2 : u < 10000) : Good (Lib.decDigits u) := ⟨dec_isD u, dec_pos u, dec_len 3 u (by simpa using h2), dec_head u h1⟩
theorem valF_pos (l : List UInt8) : ∀ n : Nat, 1 ≤ n → 1 ≤ l.foldl (fun n b => n * 10 + (b.toNat - 48)) n := by
  induction l with
  | nil => intro n h; exact h
  | cons b l ih => intro n h; rw [List.foldl_cons]; exact ih _ (by omega)
theorem val_pos {d : List UInt8} (hd : ∀ b ∈ d, isD b = true) (h0 : 0 < d.length) (hh : d.head? ≠ some 48) : 1 ≤ valD d := by
  cases d with
  | nil => simp at h0
  | cons a d =>
    unfold valD
    rw [List.foldl_cons]
    apply valF_pos
    have h1 := hd a (by simp)
    unfold isD at h1
    simp at h1
    have h2 : a ≠ 48 := fun e => hh (by rw [e]; rfl)
    have h3 : a.toNat ≠ 48 := fun e => h2 (UInt8.toNat_inj.1 (by rw [e]; rfl))
    omega
theorem dec_back : ∀ (n : Nat) (d : List UInt8), d.length = n → (∀ b ∈ d, isD b = true) → 0 < d.length → d.head? ≠ some 48 → Lib.decDigits (valD d) = d
  | 0, d, hl, _, h0, _ => by omega
  | n + 1, d, hl, hd, h0, hh => by
    obtain ⟨d', b, rfl⟩ : ∃ d' b, d = d' ++ [b] := ⟨d.dropLast, d.getLast (by intro e; rw [e] at h0; simp at h0), (List.dropLast_concat_getLast _).symm⟩
    have hb := hd b (by simp)
    unfold isD at hb
    simp at hb
    have hbn : UInt8.ofNat (48 + (b.toNat - 48)) = b := by
      apply UInt8.toNat_inj.1
      rw [dig_nat (by omega)]
      omega
    rw [valD_snoc]
    by_cases h1 : d' = []
    · subst h1
      rw [show valD [] = 0 from rfl, Nat.zero_mul, Nat.zero_add, dec_small (by omega), hbn]
      rfl
    · have hp : 0 < d'.length := List.length_pos_iff.2 h1
      have hd' : ∀ c ∈ d', isD c = true := fun c hc => hd c (by simp [hc])
      have hh' : d'.head? ≠ some 48 := by
        cases d' with
        | nil => simp at hp
        | cons a d'' => simpa using hh
      have hv := val_pos hd' hp hh'
      rw [dec_big (by omega), show (valD d' * 10 + (b.toNat - 48)) / 10 = valD d' by omega, show (valD d' * 10 + (b.toNat - 48)) % 10 = b.toNat - 48 by omega, hbn]
      rw [dec_back n d' (by simp at hl; exact hl) hd' hp hh']
theorem good_val {d : List UInt8} (h : Good d) : Lib.decDigits (valD d) = d ∧ 1 ≤ valD d := ⟨dec_back _ d rfl h.1 h.2.1 h.2.2.2, val_pos h.1 h.2.1 h.2.2.2⟩
/-- Pixels, row by row, from above. -/
def rowsL (C : List Int) (W : Nat) : Nat → List Int
  | 0 => []
  | y + 1 => (C.drop (y * W)).take W ++ rowsL C W y
theorem rows_eq (C : List Int) (W : Nat) : ∀ y, rows C W y = (rowsL C W y).flatMap px
  | 0 => rfl
  | y + 1 => by rw [rows, rowsL, List.flatMap_append, rows_eq C W y]
theorem rowsL_len {C : List Int} {W : Nat} : ∀ {y : Nat}, y * W ≤ C.length → (rowsL C W y).length = y * W
  | 0, _ => by simp [rowsL]
  | y + 1, h => by
    have e2 : (y + 1) * W = y * W + W := Nat.succ_mul y W
    rw [rowsL, List.length_append, rowsL_len (by omega), List.length_take, List.length_drop]
    omega
theorem flip_low {W y i : Nat} (h : i < W) : flip W (y + 1) i = y * W + i := by
  unfold flip
  rw [Nat.div_eq_of_lt h, Nat.mod_eq_of_lt h]
  rfl
theorem flip_high {W y i : Nat} (hW : 0 < W) (h : ¬ i < W) : flip W (y + 1) i = flip W y (i - W) := by
  unfold flip
  obtain ⟨k, rfl⟩ : ∃ k, i = k + W := ⟨i - W, by omega⟩
  rw [Nat.add_div_right _ hW, Nat.add_mod_right, Nat.add_sub_cancel k W]
  rw [show y + 1 - 1 - (k / W).succ = y - 1 - k / W by rw [Nat.succ_eq_add_one]; omega]
theorem rowsL_get {C : List Int} {W : Nat} : ∀ {y i : Nat}, y * W ≤ C.length → i < y * W → (rowsL C W y)[i]? = C[flip W y i]?
  | 0, i, _, h => by simp at h
  | y + 1, i, hl, h => by
    have e2 : (y + 1) * W = y * W + W := Nat.succ_mul y W
    have hlen : ((C.drop (y * W)).take W).length = W := by rw [List.length_take, List.length_drop]; omega
    rw [rowsL]
    by_cases hi : i < W
    · rw [List.getElem?_append_left (by rw [hlen]; exact hi), List.getElem?_take, if_pos hi, List.getElem?_drop, flip_low hi]
    · have hW : 0 < W := by
        rcases Nat.eq_zero_or_pos W with h0 | h0
        · subst h0; simp at h
        · exact h0
      rw [List.getElem?_append_right (by rw [hlen]; omega), hlen, rowsL_get (by omega) (by omega), flip_high hW hi]
theorem flat3 : ∀ {l : List Int} {i : Nat} {x : Int}, l[i]? = some x → (l.flatMap px)[3 * i]? = (px x)[0]? ∧ (l.flatMap px)[3 * i + 1]? = (px x)[1]? ∧ (l.flatMap px)[3 * i + 2]? = (px x)[2]?
  | [], i, x, h => by simp at h
  | a :: l, 0, x, h => by
    obtain rfl : a = x := by simpa using h
    exact ⟨rfl, rfl, rfl⟩
  | a :: l, i + 1, x, h => by
    have ih := flat3 (l := l) (i := i) (x := x) (by simpa using h)
    rw [List.flatMap_cons]
    have e : ∀ t, (px a ++ l.flatMap px)[3 * (i + 1) + t]? = (l.flatMap px)[3 * i + t]? := fun t => by
      rw [List.getElem?_append_right (by rw [px_len]; omega), px_len]
      congr 1
      omega
    exact ⟨(e 0).trans ih.1, (e 1).trans ih.2.1, (e 2).trans ih.2.2⟩
end Go.Proofs.YtpjkhnkbijpmnaaDoor
