/- General laws: rows that 'make' makes. No condition beyond what each theorem states. By an AI agent. -/
import Derived.Test.YtaklnijmcidpkaaDoorLB
import Derived.Laws.OwnMore
set_option linter.unusedVariables false
set_option linter.unusedSimpArgs false
namespace Go.Proofs.YtaklnijmcidpkaaDoor
open Go.RowKit
theorem frow_len {α : Type} {f : α → List Value} {K : Nat} (hK : ∀ s, (f s).length = K) (l : List α) : (l.flatMap f).length = l.length * K := by
  induction l with
  | nil => simp
  | cons s l ih => rw [List.flatMap_cons, List.length_append, ih, hK, List.length_cons, Nat.succ_mul, Nat.add_comm]
theorem frow_get {α : Type} {f : α → List Value} {K : Nat} (hK : ∀ s, (f s).length = K) {l : List α} {j : Nat} {s : α} (h : l[j]? = some s) (i : Nat) (hi : i < K) : (l.flatMap f)[j * K + i]? = (f s)[i]? := by
  induction l generalizing j with
  | nil => simp at h
  | cons t l ih =>
    rw [List.flatMap_cons]
    cases j with
    | zero =>
      obtain rfl : t = s := by simpa using h
      rw [Nat.zero_mul, Nat.zero_add, List.getElem?_append_left (by rw [hK]; exact hi)]
    | succ j =>
      rw [List.getElem?_append_right (by rw [hK, Nat.succ_mul]; omega), show (j + 1) * K + i - (f t).length = j * K + i by rw [hK, Nat.succ_mul]; omega]
      exact ih (by simpa using h)
theorem made_rows {α : Type} {f : α → List Value} {K : Nat} (hK : ∀ s, (f s).length = K) (h0 : 0 < K) (s : α) (z : Array Value) (hz : z.toList = f s) (n : Nat) : (madeCells z (n * K)).toList = (List.replicate n s).flatMap f := by
  have hzs : z.size = K := by rw [← Array.length_toList, hz, hK]
  apply List.ext_getElem?
  intro i
  by_cases hi : i < n * K
  · have h1 : (List.replicate n s)[i / K]? = some s := by
      rw [List.getElem?_replicate, if_pos (Nat.div_lt_of_lt_mul (by rw [Nat.mul_comm]; exact hi))]
    have h2 := frow_get hK h1 (i % K) (Nat.mod_lt _ h0)
    rw [Nat.div_add_mod' i K] at h2
    have h3 : i % K < z.size := by rw [hzs]; exact Nat.mod_lt _ h0
    rw [h2, ← hz]
    simp only [madeCells, hzs, Array.getElem?_toList, Array.getElem?_map, Array.getElem?_range, hi, if_true, Option.map_some]
    rw [Array.getElem?_eq_getElem h3, getElem!_pos z (i % K) h3]
  · rw [List.getElem?_eq_none (by rw [Array.length_toList, size_madeCells]; omega), List.getElem?_eq_none (by rw [frow_len hK]; simpa using hi)]
theorem make_own {P : Program} {α : Type} {f : α → List Value} {K bytes : Nat} (hK : ∀ s, (f s).length = K) (h0 : 0 < K) (s : α) (t e : TypeId) (z : Value) (ht : P.underlying t = some (.slice e)) (hinfo : (P.info? e).map (fun i => (i.zero, i.size, i.bytes)) = some (some z, K, bytes))
    (hz : z.cells.toList = f s) (n : Nat) (hb : (bytes : Int) * n ≤ 281474976710656) (hm : n ≤ maxLen) :
    ∃ cur : Array Value, ∀ w : World, (Instr.makeSlice t (.int .i64 (n : Int)) (.int .i64 (n : Int))).run P w = .ok (.slice (some ⟨w.heap.size, 0, none⟩) n n) (w.alloc (.cells cur e)) ∧
      ∀ base, base ≤ w.heap.size → (w.alloc (.cells cur e)).ownsRow base e K (.slice (some ⟨w.heap.size, 0, none⟩) n n) n ((List.replicate n s).flatMap f) := by
  obtain ⟨i0, hi, hz0, hz1, hz2⟩ := info_parts hinfo
  refine ⟨madeCells z.cells (n * K), fun w => ⟨?_, fun base hbase => ?_⟩⟩
  · have h := run_make (P := P) w t e i0 _ ht hi hz0 .i64 .i64 (n : Int) (n : Int) (by omega) (Int.le_refl _) (by rw [hz2]; exact hb) (by unfold maxLen at hm; omega)
    rw [hz1, show ((n : Int)).toNat = n by omega] at h
    exact h
  · rw [← made_rows hK h0 s z.cells hz n]
    exact World.ownsRow_lit w _ n hbase hm (size_madeCells _ _)
theorem flat_ivs (l : List Int) : (l.flatMap fun x => [Value.int .i64 x]) = ivs l := by
  induction l with
  | nil => rfl
  | cons x l ih => rw [List.flatMap_cons, ih]; rfl
end Go.Proofs.YtaklnijmcidpkaaDoor
