/- Plain text: an image comes back from its file, a file from its image, on; no program's steps. By an AI agent. -/
import Derived.Test.YtpjkhnkbijpmnaaDoorPX
set_option linter.unusedVariables false
set_option linter.unusedSimpArgs false
namespace Go.Proofs.YtpjkhnkbijpmnaaDoor
open Go.RowKit
theorem or_255 (r : Nat) (h : r < 256) : r ||| 255 = 255 := by
  apply Nat.eq_of_testBit_eq
  intro i
  rw [Nat.testBit_or, show (255 : Nat) = 2 ^ 8 - 1 from rfl, Nat.testBit_two_pow_sub_one]
  by_cases hi : i < 8
  · simp [hi]
  · rw [Nat.testBit_lt_two_pow (Nat.lt_of_lt_of_le (show r < 2 ^ 8 from h) (Nat.pow_le_pow_right (by decide) (by omega)))]
    simp
/-- Alpha set. -/
theorem or255 {x : Int} (h0 : 0 ≤ x) (h1 : x ≤ 4294967295) : bits .or .i64 x 255 = x / 256 * 256 + 255 := by
  obtain ⟨n, rfl⟩ : ∃ n : Nat, x = n := ⟨x.toNat, by omega⟩
  have e : n ||| 255 = n / 256 * 256 + 255 := by
    have h2 := Nat.two_pow_add_eq_or_of_lt (i := 8) (b := n % 256) (by omega) (n / 256)
    have h3 := Nat.two_pow_add_eq_or_of_lt (i := 8) (b := 255) (by omega) (n / 256)
    have h4 : 2 ^ 8 * (n / 256) + n % 256 = n := by omega
    rw [h4] at h2
    rw [h2, Nat.or_assoc, or_255 (n % 256) (by omega), ← h3]
    omega
  have h5 := or_i64_nat n 255 (by omega) (by decide)
  rw [show ((255 : Nat) : Int) = 255 from rfl] at h5
  rw [h5, e]
  omega
theorem getD_of {l : List UInt8} {i : Nat} {b : UInt8} (h : l[i]? = some b) : l.getD i 0 = b := by rw [List.getD_eq_getElem?_getD, h]; rfl
theorem colr_px {r : ByteArray} {l : List Int} {i : Nat} {x : Int} (hr : bl r = l.flatMap px) (hx : l[i]? = some x) (h0 : 0 ≤ x) (h1 : x ≤ 4294967295) : colr r i = x / 256 * 256 + 255 := by
  obtain ⟨a, b, c⟩ := flat3 hx
  rw [← hr] at a b c
  unfold colr
  rw [getD_of (l := r.data.toList) a, getD_of (l := r.data.toList) b, getD_of (l := r.data.toList) c]
  rw [UInt8.toNat_ofNat', UInt8.toNat_ofNat', UInt8.toNat_ofNat']
  unfold pk
  omega
theorem enc_form (W H : Nat) (C Z : List Int) : enc ⟨W, H, C, Z⟩ = form (Lib.decDigits W) (Lib.decDigits H) (rows C W H) := by
  unfold enc form
  simp only [Lib.itoa_nonneg, List.append_assoc, Int.toNat_natCast]
/-- An image comes back. -/
theorem back_plain {W H : Nat} {C Z : List Int} (h1 : 1 ≤ W) (h2 : W ≤ 1024) (h3 : 1 ≤ H) (h4 : H ≤ 1024) (hl : C.length = H * W) (hp : ∀ i, i < C.length → 0 ≤ C.getD i 0 ∧ C.getD i 0 ≤ 4294967295) {s : ByteArray} (hs : bl s = enc ⟨W, H, C, Z⟩) :
    decE s = 0 ∧ ∃ D : List Int, decIm s = ⟨W, H, D, List.replicate (W * H) 16777215⟩ ∧ D.length = C.length ∧ ∀ i, i < C.length → D.getD i 0 = C.getD i 0 / 256 * 256 + 255 := by
  rw [enc_form] at hs
  obtain ⟨a1, a2, a3, a4⟩ := parse_of hs (dec_good h1 (by omega)) (dec_good h3 (by omega))
  rw [dec_val] at a2 a3
  have hlen : (p5 s).size = 3 * W * H := by
    rw [bl_size, a4, rows_len (by rw [hl]; exact Nat.le_refl _), Nat.mul_comm H W, Nat.mul_assoc]
  have h0 : decE s = 0 := decE_yes a1 (by rw [a2, a3]; exact ⟨h1, h2, h3, h4⟩) (by rw [a2, a3]; exact hlen)
  refine ⟨h0, imC (p5 s) W H, by unfold decIm; rw [if_pos h0, a2, a3], by rw [imC_len, hl, Nat.mul_comm], fun i hi => ?_⟩
  have hi2 : i < W * H := by rw [Nat.mul_comm, ← hl]; exact hi
  obtain ⟨f1, f2⟩ := flip_lt hi2
  rw [List.getD_eq_getElem?_getD, imC_get hi2]
  have hq : (rowsL C W H)[flip W H i]? = C[i]? := by
    rw [rowsL_get (by rw [hl]; exact Nat.le_refl _) (by rw [Nat.mul_comm]; exact f1), f2]
  rw [rows_eq] at a4
  have hx := hp i hi
  have hc : C[i]? = some (C.getD i 0) := by rw [List.getElem?_eq_getElem hi]; simp [hi]
  rw [hc] at hq
  exact colr_px a4 hq hx.1 hx.2
theorem px_colr (r : ByteArray) (i : Nat) : px (colr r i) = [r.data.toList.getD (3 * i) 0, r.data.toList.getD (3 * i + 1) 0, r.data.toList.getD (3 * i + 2) 0] ∧ 0 ≤ colr r i ∧ colr r i ≤ 4294967295 := by
  unfold px colr
  generalize r.data.toList.getD (3 * i) 0 = a
  generalize r.data.toList.getD (3 * i + 1) 0 = b
  generalize r.data.toList.getD (3 * i + 2) 0 = c
  have ha := a.toNat_lt; have hb := b.toNat_lt; have hc := c.toNat_lt
  have e : (pk a.toNat b.toNat c.toNat 255).toNat = ((a.toNat * 256 + b.toNat) * 256 + c.toNat) * 256 + 255 := by unfold pk; omega
  refine ⟨?_, by unfold pk; omega, by unfold pk; omega⟩
  rw [e]
  have e1 : (((a.toNat * 256 + b.toNat) * 256 + c.toNat) * 256 + 255) / 16777216 % 256 = a.toNat := by omega
  have e2 : (((a.toNat * 256 + b.toNat) * 256 + c.toNat) * 256 + 255) / 65536 % 256 = b.toNat := by omega
  have e3 : (((a.toNat * 256 + b.toNat) * 256 + c.toNat) * 256 + 255) / 256 % 256 = c.toNat := by omega
  rw [e1, e2, e3, UInt8.ofNat_toNat, UInt8.ofNat_toNat, UInt8.ofNat_toNat]
/-- A file's pixels come back. -/
theorem rows_imC {r : ByteArray} {w h : Nat} (hl : (bl r).length = 3 * (w * h)) : rows (imC r w h) w h = bl r := by
  have hc : h * w ≤ (imC r w h).length := by rw [imC_len, Nat.mul_comm]; exact Nat.le_refl _
  refine list_same0 (n := 3 * (w * h)) (by rw [rows_len hc, Nat.mul_comm h w]) hl (fun k hk => ?_)
  have hq : k / 3 < w * h := by omega
  obtain ⟨f1, f2⟩ := flip_lt hq
  have hx : (rowsL (imC r w h) w h)[k / 3]? = some (colr r (k / 3)) := by
    rw [rowsL_get hc (by rw [Nat.mul_comm]; exact hq), imC_get f1, f2]
  obtain ⟨a, b, c⟩ := flat3 hx
  rw [← rows_eq, (px_colr r (k / 3)).1] at a b c
  have hin : ∀ t, t < 3 → k / 3 * 3 + t < (bl r).length → (bl r)[3 * (k / 3) + t]? = some (r.data.toList.getD (3 * (k / 3) + t) 0) := fun t _ h => by
    have h' : 3 * (k / 3) + t < r.data.toList.length := by rw [Nat.mul_comm]; exact h
    show r.data.toList[3 * (k / 3) + t]? = _
    rw [List.getD_eq_getElem?_getD, List.getElem?_eq_getElem h']
    rfl
  rcases (by omega : k = 3 * (k / 3) ∨ k = 3 * (k / 3) + 1 ∨ k = 3 * (k / 3) + 2) with e | e | e
  · rw [e, show 3 * (k / 3) / 3 = k / 3 by omega] at *
    rw [a]
    exact (hin 0 (by omega) (by omega)).symm
  · have := hin 1 (by omega) (by omega)
    rw [← e] at this b
    rw [this, b]
    rfl
  · have := hin 2 (by omega) (by omega)
    rw [← e] at this c
    rw [this, c]
    rfl
theorem decE_zero {s : ByteArray} (h : decE s = 0) : headOk s = true ∧ (1 ≤ wid s ∧ wid s ≤ 1024 ∧ 1 ≤ hei s ∧ hei s ≤ 1024) ∧ (p5 s).size = 3 * wid s * hei s := by
  unfold decE at h
  by_cases h1 : headOk s = false
  · rw [if_pos h1] at h; exact absurd h (by decide)
  · rw [if_neg h1] at h
    by_cases h2 : ¬ (1 ≤ wid s ∧ wid s ≤ 1024 ∧ 1 ≤ hei s ∧ hei s ≤ 1024)
    · rw [if_pos h2] at h; exact absurd h (by decide)
    · rw [if_neg h2] at h
      by_cases h3 : (p5 s).size ≠ 3 * wid s * hei s
      · rw [if_pos h3] at h; exact absurd h (by decide)
      · exact ⟨eq_true_of_ne_false h1, Decidable.not_not.1 h2, Decidable.not_not.1 h3⟩
/-- A file comes back; with a byte more, or less, it is none. -/
theorem files_plain {s : ByteArray} (h : decE s = 0) : enc (decIm s) = bl s ∧ (decIm s).Ok ∧ 3 * (decIm s).C.length ≤ s.size ∧
    (∀ t : ByteArray, bl t = bl s ++ [0] → decE t = 11) ∧ (∀ t : ByteArray, bl t = (bl s).dropLast → decE t = 11) := by
  obtain ⟨g1, g2, g3⟩ := decE_zero h
  obtain ⟨d1, d2, k1, k2, hf, hw, hh⟩ := parse_form g1
  have hl : (bl (p5 s)).length = 3 * (wid s * hei s) := by rw [← bl_size, g3, Nat.mul_assoc]
  have him : decIm s = ⟨wid s, hei s, imC (p5 s) (wid s) (hei s), List.replicate (wid s * hei s) 16777215⟩ := by unfold decIm; rw [if_pos h]
  have hpos : 1 ≤ wid s * hei s := Nat.mul_pos g2.1 g2.2.2.1
  refine ⟨?_, ?_, ?_, ?_, ?_⟩
  · rw [him, enc_form, rows_imC hl, hf, hw, hh, (good_val k1).1, (good_val k2).1]
  · rw [him]
    refine ⟨by have := g2.1; simp; omega, by have := g2.2.1; simp; omega, by have := g2.2.2.1; simp; omega, by have := g2.2.2.2; simp; omega, by simp [imC_len], by simp, ?_⟩
    intro i hi
    simp only [imC_len] at hi ⊢
    obtain ⟨f1, f2⟩ := flip_lt hi
    rw [List.getD_eq_getElem?_getD, imC_get hi]
    refine ⟨(px_colr (p5 s) _).2, ?_⟩
    rw [List.getD_eq_getElem?_getD, List.getElem?_replicate, if_pos hi]
    decide
  · rw [him]
    simp only [imC_len]
    have := p5_size s
    rw [g3, Nat.mul_assoc] at this
    exact this
  · intro t ht
    have hf2 : bl t = form d1 d2 (bl (p5 s) ++ [0]) := by rw [ht, hf]; unfold form; simp only [List.append_assoc]
    obtain ⟨a1, a2, a3, a4⟩ := parse_of hf2 k1 k2
    refine decE_len a1 (by rw [a2, a3, ← hw, ← hh]; exact g2) ?_
    rw [bl_size, a4, a2, a3, ← hw, ← hh, List.length_append, hl, Nat.mul_assoc]
    simp
  · intro t ht
    have hne : bl (p5 s) ≠ [] := fun e => by rw [e] at hl; simp at hl; omega
    have hf2 : bl t = form d1 d2 (bl (p5 s)).dropLast := by
      rw [ht, hf]
      unfold form
      rw [List.dropLast_append_of_ne_nil (by simp), List.dropLast_append_of_ne_nil (by simp), List.dropLast_append_of_ne_nil (by simp), List.dropLast_append_of_ne_nil (by simp), List.dropLast_append_of_ne_nil hne]
    obtain ⟨a1, a2, a3, a4⟩ := parse_of hf2 k1 k2
    refine decE_len a1 (by rw [a2, a3, ← hw, ← hh]; exact g2) ?_
    rw [bl_size, a4, a2, a3, ← hw, ← hh, List.length_dropLast, hl, Nat.mul_assoc]
    omega
end Go.Proofs.YtpjkhnkbijpmnaaDoor
