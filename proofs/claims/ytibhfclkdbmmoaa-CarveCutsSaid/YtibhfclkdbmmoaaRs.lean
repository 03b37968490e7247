/- Proof text: how a slice of sides that comes in reads. No condition. By an AI agent. -/
import Derived.Test.YtibhfclkdbmmoaaOp
set_option linter.unusedVariables false
set_option linter.unusedSimpArgs false
namespace Go.Proofs.Ytibhfclkdbmmoaa
open Go.ChangeShapes Go.WideShapes Go.ChangeAt Go.RowKit Go.Joins Go.Deep
theorem list_of {α : Type} {P : Nat → α → Prop} : ∀ n : Nat, (∀ i, i < n → ∃ s, P i s) → ∃ l : List α, l.length = n ∧ ∀ i s, l[i]? = some s → P i s
  | 0, _ => ⟨[], rfl, by simp⟩
  | n + 1, h => by
    obtain ⟨l, hl, hp⟩ := list_of n (fun i hi => h i (by omega))
    obtain ⟨s, hs⟩ := h n (by omega)
    refine ⟨l ++ [s], by simp [hl], fun i t ht => ?_⟩
    rcases Nat.lt_or_ge i n with h1 | h1
    · rw [List.getElem?_append_left (by omega)] at ht
      exact hp i t ht
    · have hi := (List.getElem?_eq_some_iff.1 ht).1
      simp only [List.length_append, List.length_singleton] at hi
      obtain rfl : i = n := by omega
      rw [List.getElem?_append_right (by omega), hl, Nat.sub_self] at ht
      have : s = t := by simpa using ht
      rw [← this]
      exact hs
theorem sides_rd {H : Type} {enc : TypeId × Value → H} {W : World} {held : Bool} {fuel : Nat} {v : Value} {y : DataW H × List MemPlace} (h : DataW.trod enc Try.prog W 0 (fun _ => true) held fuel 32 [v] = some y) :
    ∃ a n cap, ∃ l : List Sd, v = .slice a n cap ∧ Rd W 5 a n cap (srow l) ∧ l.length = n := by
  rcases open_slice Try.underlying32 h with ⟨hcs, _⟩ | ⟨x, len, cap, m, k, D, Pl, hcs, _, hl, hm, hmm, _, hi⟩
  · exact ⟨none, 0, 0, [], by simpa using hcs, Rd.empty W 5 none 0 (by unfold maxLen; omega), rfl⟩
  · rw [if_pos rfl] at hmm
    obtain rfl : m = cap := hmm
    rw [cs5] at hi
    have hs : ∀ i, i < len → ∃ s : Sd, ∀ j, j < 5 → W.cell? ((x.add (i * 5)).add j) = s.row[j]? := by
      intro i hlt
      obtain ⟨cs', hc, ht⟩ := hi i (by omega)
      obtain ⟨s, rfl⟩ := sd_of ht
      exact ⟨s, (World.cells?_some hc).2.2⟩
    obtain ⟨l, hll, hp⟩ := list_of len hs
    refine ⟨some x, len, m, l, by simpa using hcs, ⟨by rw [srow_len, hll], hl, hm, fun h0 => ?_⟩, hll⟩
    obtain ⟨b, off, spot⟩ := x
    obtain ⟨s0, hs0⟩ : ∃ s, l[0]? = some s := ⟨_, List.getElem?_eq_getElem (by omega)⟩
    have hc0 := hp 0 s0 hs0 0 (by omega)
    have hz : ((⟨b, off, spot⟩ : Addr).add (0 * 5)).add 0 = ⟨b, off, spot⟩ := by simp [Addr.add]
    rw [hz] at hc0
    have hspot : spot = none := World.cell?_spot (v := .int .i64 s0.k) hc0
    subst hspot
    refine ⟨b, off, rfl, World.block_lt_of_cell? W _ hc0, fun j hj => ?_⟩
    obtain ⟨s, hs1⟩ : ∃ s, l[j / 5]? = some s := ⟨_, List.getElem?_eq_getElem (by omega)⟩
    have h1 := hp (j / 5) s hs1 (j % 5) (by omega)
    have h2 := srow_get hs1 (j % 5) (by omega)
    rw [show j / 5 * 5 + j % 5 = j by omega] at h2
    rw [h2, ← h1]
    congr 1
    unfold Addr.add
    split <;> split <;> simp_all <;> omega
end Go.Proofs.Ytibhfclkdbmmoaa
