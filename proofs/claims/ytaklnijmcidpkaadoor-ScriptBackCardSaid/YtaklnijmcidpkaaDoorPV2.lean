/- From the row's premises to what the walks ask: a slice of commands that came in, its numbers. No condition. By an AI agent. -/
import Derived.Test.YtaklnijmcidpkaaDoorPV
import Derived.Test.YtaklnijmcidpkaaDoorPT
import Derived.Deep.Slices
set_option linter.unusedVariables false
set_option linter.unusedSimpArgs false
set_option maxRecDepth 100000
namespace Go.Proofs.YtaklnijmcidpkaaDoor
open Go.ChangeShapes Go.WideShapes Go.ChangeAt Go.RowKit Go.Joins
theorem cRec : Tryd.prog.cellsOf 41 = 2 := by kernel_rfl
theorem wf_i64 {x : Int} (h : (Lit.int .i64 x).wf = true) : I64 x := by
  unfold I64
  simp [Lit.wf] at h
  have h1 : IntKind.i64.min = -9223372036854775808 := by decide
  have h2 : IntKind.i64.max = 9223372036854775807 := by decide
  omega
/-- A slice of ints that came in. -/
theorem ints_rdN {H : Type} {enc : TypeId × Value → H} {W : World} {held : Bool} {fuel : Nat} {v : Value} {y : DataW H × List MemPlace} (h : DataW.trod enc Tryd.prog W 0 (fun _ => true) held fuel 39 [v] = some y) :
    ∃ a n cap A, v = .slice a n cap ∧ Rd W 1 a n cap (ivs A) ∧ ∀ x ∈ A, I64 x := by
  rcases open_ints Tryd.underlying39 Tryd.underlying3 c3 h with ⟨hcs, _⟩ | ⟨x, l, c, zs, hcs, _, hl, hm, hz, _, hcell, hwz⟩
  · exact ⟨none, 0, 0, [], by simpa using hcs, Rd.empty W 1 none 0 (by unfold maxLen; omega), fun x hx => by cases hx⟩
  · refine ⟨some x, l, c, zs.take l, by simpa using hcs, ?_, fun z hz => wf_i64 (hwz z (List.mem_of_mem_take hz))⟩
    have hzc : zs.length = c := by simpa using hz
    refine ⟨by simp; omega, hl, hm, fun h0 => ?_⟩
    obtain ⟨b, off, spot⟩ := x
    have hc0 := hcell 0 (by omega)
    have hspot : spot = none := by simpa [Addr.add] using World.cell?_spot hc0
    subst hspot
    refine ⟨b, off, rfl, World.block_lt_of_cell? W _ hc0, fun j hj => ?_⟩
    have hj' := hcell j (by omega)
    have hadd : (⟨b, off, none⟩ : Addr).add j = ⟨b, off + j, none⟩ := by unfold Addr.add; split <;> simp_all
    rw [hadd] at hj'
    rw [hj']
    have : j < l := by omega
    have hjz : j < zs.length := by omega
    simp [this, hjz]
theorem cells_two {W : World} {a : Addr} {cs : List Value} (h : W.cells? 0 a 2 = some cs) : ∃ c0 c1, cs = [c0, c1] ∧ W.cell? (a.add 0) = some c0 ∧ W.cell? (a.add 1) = some c1 := by
  unfold World.cells? at h
  rw [if_pos (Nat.zero_le _)] at h
  have e : List.range 2 = [0, 1] := rfl
  rw [e] at h
  simp only [List.mapM_cons, List.mapM_nil, Option.bind_eq_bind, Option.bind_eq_some_iff, Option.pure_def, Option.some.injEq] at h
  obtain ⟨c0, h0, _, ⟨c1, h1, _, rfl, rfl⟩, rfl⟩ := h
  exact ⟨c0, c1, rfl, h0, h1⟩
theorem rec_trod {H : Type} {enc : TypeId × Value → H} {W : World} {held : Bool} {fuel : Nat} {c0 c1 : Value} {y : DataW H × List MemPlace} (h : DataW.trod enc Tryd.prog W 0 (fun _ => true) held fuel 41 [c0, c1] = some y) :
    ∃ op a c A, c0 = .int .i64 op ∧ c1 = .slice a A.length c ∧ Rd W 1 a A.length c (ivs A) ∧ ∀ x ∈ A, I64 x := by
  obtain ⟨y0, y1, n, _, _, h0, h1⟩ := trod_struct2 Tryd.underlying41 h
  have h0' : DataW.trod enc Tryd.prog W 0 (fun _ => true) held n 3 [c0] = some y0 := by
    have e : Tryd.prog.cellsOf 3 = 1 := c3
    simpa [e] using h0
  have h1' : DataW.trod enc Tryd.prog W 0 (fun _ => true) held n 39 [c1] = some y1 := by
    have e : Tryd.prog.cellsOf 39 = 1 := by kernel_rfl
    simpa [e] using h1
  obtain ⟨op, e0, _, _⟩ := DataW.trod_int Tryd.underlying3 h0'
  obtain ⟨a, n', c, A, e1, hR, hN⟩ := ints_rdN h1'
  have hl : A.length = n' := by simpa using hR.len
  subst hl
  exact ⟨op, a, c, A, by simpa using e0, e1, hR, hN⟩
theorem add_add (b off i j : Nat) : ((⟨b, off, none⟩ : Addr).add i).add j = ⟨b, off + i + j, none⟩ := by
  unfold Addr.add
  split <;> split <;> simp_all
theorem recs_rd {H : Type} {enc : TypeId × Value → H} {W : World} {held : Bool} {fuel : Nat} {v : Value} {y : DataW H × List MemPlace} (h : DataW.trod enc Tryd.prog W 0 (fun _ => true) held fuel 23 [v] = some y) :
    ∃ a n cap l, v = .slice a n cap ∧ RdRecs W a n cap l ∧ Nums l := by
  rcases Deep.open_slice Tryd.underlying23 h with ⟨hcs, _⟩ | ⟨x, len, cap, m, n, D, Pl, hcs, _, hl, hm, hmm, _, hel⟩
  · exact ⟨none, 0, 0, [], by simpa using hcs, ⟨[], Rd.empty W 2 none 0 (by unfold maxLen; omega), trivial⟩, fun r hr => by cases hr⟩
  · have hm' : m = cap := by simpa using hmm
    have step : ∀ i, i < len → ∃ op a c A, W.cell? ((x.add (i * 2)).add 0) = some (.int .i64 op) ∧ W.cell? ((x.add (i * 2)).add 1) = some (.slice a A.length c) ∧ Rd W 1 a A.length c (ivs A) ∧ ∀ x ∈ A, I64 x := by
      intro i hi
      obtain ⟨cs', h1, h2⟩ := hel i (by omega)
      rw [cRec] at h1
      obtain ⟨c0, c1, rfl, k0, k1⟩ := cells_two h1
      obtain ⟨op, a, c, A, rfl, rfl, hR, hN⟩ := rec_trod h2
      exact ⟨op, a, c, A, k0, k1, hR, hN⟩
    by_cases h0 : len = 0
    · subst h0
      exact ⟨some x, 0, cap, [], by simpa using hcs, ⟨[], Rd.empty W 2 (some x) cap hm, trivial⟩, fun r hr => by cases hr⟩
    · obtain ⟨b, off, spot⟩ := x
      obtain ⟨_, _, _, _, hc0, _, _, _⟩ := step 0 (by omega)
      have hspot : spot = none := by simpa [Addr.add] using World.cell?_spot hc0
      subst hspot
      have hb : b < W.heap.size := by have := World.block_lt_of_cell? W _ hc0; simpa [Addr.add] using this
      have all : ∀ k, k ≤ len → ∃ vs l, RecCells (Rd W 1) vs l ∧ l.length = k ∧ Nums l ∧ ∀ j, j < k * 2 → W.cell? ⟨b, off + j, none⟩ = vs[j]? := by
        intro k
        induction k with
        | zero => intro _; exact ⟨[], [], trivial, rfl, fun r hr => (by cases hr), fun j hj => by omega⟩
        | succ k ih =>
          intro hk
          obtain ⟨vs, l, hr, hll, hnn, hc⟩ := ih (by omega)
          obtain ⟨op, a, c, A, k0, k1, hR, hN⟩ := step k (by omega)
          rw [add_add] at k0 k1
          have hvl := hr.length
          refine ⟨_, _, hr.snoc op A a c hR, by simp [hll], fun r hr => (by
            rcases List.mem_append.1 hr with hr | hr
            · exact hnn r hr
            · obtain rfl : r = (op, A) := by simpa using hr
              exact hN), fun j hj => ?_⟩
          rcases Nat.lt_or_ge j (k * 2) with hj1 | hj1
          · rw [List.getElem?_append_left (by omega)]; exact hc j hj1
          · rw [List.getElem?_append_right (by omega)]
            have : j = k * 2 ∨ j = k * 2 + 1 := by omega
            rcases this with rfl | rfl
            · rw [show k * 2 - vs.length = 0 by omega]; simpa using k0
            · rw [show k * 2 + 1 - vs.length = 1 by omega]; simpa [Nat.add_assoc] using k1
      obtain ⟨vs, l, hr, hll, hnn, hc⟩ := all len (Nat.le_refl _)
      exact ⟨some ⟨b, off, none⟩, len, cap, l, by simpa using hcs, ⟨vs, ⟨by rw [hr.length, hll], hl, hm, fun _ => ⟨b, off, rfl, hb, hc⟩⟩, hr⟩, hnn⟩
end Go.Proofs.YtaklnijmcidpkaaDoor
