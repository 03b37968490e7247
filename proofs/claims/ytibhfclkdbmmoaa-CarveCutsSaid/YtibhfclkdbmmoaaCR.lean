/- Proof text: how slices of vertices and of flags that come in read. No condition. By an AI agent. -/
import Derived.Test.YtibhfclkdbmmoaaRs
import Derived.Test.YtibhfclkdbmmoaaCA
set_option linter.unusedVariables false
set_option linter.unusedSimpArgs false
namespace Go.Proofs.Ytibhfclkdbmmoaa
open Go.ChangeShapes Go.WideShapes Go.ChangeAt Go.RowKit Go.Joins Go.Deep
theorem cb1 : Try.prog.cellsOf 4 = 1 := by kernel_rfl
theorem verts_rd {H : Type} {enc : TypeId × Value → H} {W : World} {held : Bool} {fuel : Nat} {v : Value} {y : DataW H × List MemPlace} (h : DataW.trod enc Try.prog W 0 (fun _ => true) held fuel 36 [v] = some y) :
    ∃ a n cap, ∃ l : List Vx, v = .slice a n cap ∧ Rd W 8 a n cap (vrows l) ∧ l.length = n := by
  rcases open_slice Try.underlying36 h with ⟨hcs, _⟩ | ⟨x, len, cap, m, k, D, Pl, hcs, _, hl, hm, hmm, _, hi⟩
  · exact ⟨none, 0, 0, [], by simpa using hcs, Rd.empty W 8 none 0 (by unfold maxLen; omega), rfl⟩
  · rw [if_pos rfl] at hmm
    obtain rfl : m = cap := hmm
    rw [cv8] at hi
    have hs : ∀ i, i < len → ∃ s : Vx, ∀ j, j < 8 → W.cell? ((x.add (i * 8)).add j) = s.rl[j]? := by
      intro i hlt
      obtain ⟨cs', hc, ht⟩ := hi i (by omega)
      obtain ⟨s, rfl⟩ := vx_of ht
      exact ⟨s, (World.cells?_some hc).2.2⟩
    obtain ⟨l, hll, hp⟩ := list_of len hs
    refine ⟨some x, len, m, l, by simpa using hcs, ⟨by rw [vrows_len, hll], hl, hm, fun h0 => ?_⟩, hll⟩
    obtain ⟨b, off, spot⟩ := x
    obtain ⟨s0, hs0⟩ : ∃ s, l[0]? = some s := ⟨_, List.getElem?_eq_getElem (by omega)⟩
    have hc0 := hp 0 s0 hs0 0 (by omega)
    have hz : ((⟨b, off, spot⟩ : Addr).add (0 * 8)).add 0 = ⟨b, off, spot⟩ := by simp [Addr.add]
    rw [hz] at hc0
    have hspot : spot = none := World.cell?_spot (v := .int .i64 s0.x) hc0
    subst hspot
    refine ⟨b, off, rfl, World.block_lt_of_cell? W _ hc0, fun j hj => ?_⟩
    obtain ⟨s, hs1⟩ : ∃ s, l[j / 8]? = some s := ⟨_, List.getElem?_eq_getElem (by omega)⟩
    have h1 := hp (j / 8) s hs1 (j % 8) (by omega)
    have h2 := vrows_get hs1 (j % 8) (by omega)
    rw [show j / 8 * 8 + j % 8 = j by omega] at h2
    rw [h2, ← h1]
    congr 1
    unfold Addr.add
    split <;> split <;> simp_all <;> omega
theorem bools_rd {H : Type} {enc : TypeId × Value → H} {W : World} {held : Bool} {fuel : Nat} {v : Value} {y : DataW H × List MemPlace} (h : DataW.trod enc Try.prog W 0 (fun _ => true) held fuel 37 [v] = some y) :
    ∃ a n cap, ∃ l : List Bool, v = .slice a n cap ∧ Rd W 1 a n cap (brows l) ∧ l.length = n := by
  rcases open_slice Try.underlying37 h with ⟨hcs, _⟩ | ⟨x, len, cap, m, k, D, Pl, hcs, _, hl, hm, hmm, _, hi⟩
  · exact ⟨none, 0, 0, [], by simpa using hcs, Rd.empty W 1 none 0 (by unfold maxLen; omega), rfl⟩
  · rw [if_pos rfl] at hmm
    obtain rfl : m = cap := hmm
    rw [cb1] at hi
    have hs : ∀ i, i < len → ∃ s : Bool, W.cell? ((x.add (i * 1)).add 0) = some (.bool s) := by
      intro i hlt
      obtain ⟨cs', hc, ht⟩ := hi i (by omega)
      obtain ⟨z, hz, _⟩ := DataW.trod_bool Try.underlying4 ht
      subst hz
      exact ⟨z, (World.cells?_some hc).2.2 0 (by omega)⟩
    obtain ⟨l, hll, hp⟩ := list_of len hs
    refine ⟨some x, len, m, l, by simpa using hcs, ⟨by rw [brows_len, hll, Nat.mul_one], hl, hm, fun h0 => ?_⟩, hll⟩
    obtain ⟨b, off, spot⟩ := x
    obtain ⟨s0, hs0⟩ : ∃ s, l[0]? = some s := ⟨_, List.getElem?_eq_getElem (by omega)⟩
    have hc0 := hp 0 s0 hs0
    have hz : ((⟨b, off, spot⟩ : Addr).add (0 * 1)).add 0 = ⟨b, off, spot⟩ := by simp [Addr.add]
    rw [hz] at hc0
    have hspot : spot = none := World.cell?_spot (v := .bool s0) hc0
    subst hspot
    refine ⟨b, off, rfl, World.block_lt_of_cell? W _ hc0, fun j hj => ?_⟩
    obtain ⟨s, hs1⟩ : ∃ s, l[j]? = some s := ⟨_, List.getElem?_eq_getElem (by omega)⟩
    have h1 := hp j s hs1
    rw [brows_get hs1, ← h1]
    congr 1
    unfold Addr.add
    split <;> split <;> simp_all <;> omega
end Go.Proofs.Ytibhfclkdbmmoaa
