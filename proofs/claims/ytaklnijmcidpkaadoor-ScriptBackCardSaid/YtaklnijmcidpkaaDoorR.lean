/- Proof text of the claims about the statements of layer 4 (code). By an AI agent. No condition beyond what each theorem states. -/
import Derived.Test.YtaklnijmcidpkaaDoorC
set_option linter.unusedVariables false
set_option linter.unusedSimpArgs false
namespace Go.Proofs.YtaklnijmcidpkaaDoor
open Go.RowKit
def allocAll (w : World) : List (List Int) → World
  | [] => w
  | r :: t => allocAll (w.alloc (.cells (ivs r).toArray 3)) t
theorem allocAll_ext : ∀ (rows : List (List Int)) (w : World), Ext w (allocAll w rows)
  | [], w => Ext.refl w
  | _ :: t, w => ((Ext.refl w).alloc _).trans (allocAll_ext t _)
theorem allocAll_rd : ∀ (rows : List (List Int)) (w : World) (j : Nat), j < rows.length → (∀ r ∈ rows, r.length ≤ 100) →
    Rd (allocAll w rows) 1 (some ⟨w.heap.size + j, 0, none⟩) (rows.getD j []).length (rows.getD j []).length (ivs (rows.getD j []))
  | [], _, _, h, _ => by simp at h
  | r :: t, w, 0, _, hb => by
    have h0 := Rd_new w (ivs r) 3 1 r.length (by simp) (by have := hb r (by simp); simp [maxLen]; omega)
    simpa [allocAll] using h0.ext (allocAll_ext t _)
  | r :: t, w, j + 1, h, hb => by
    have ih := allocAll_rd t (w.alloc (.cells (ivs r).toArray 3)) j (by simpa using h) (fun r' hr => hb r' (by simp [hr]))
    have e : (w.alloc (.cells (ivs r).toArray 3)).heap.size + j = w.heap.size + (j + 1) := by simp; omega
    rw [e] at ih
    simpa [allocAll] using ih
def sliceVals (b : Nat) : Nat → List (List Int) → List Value
  | _, [] => []
  | k, r :: t => .slice (some ⟨b + k, 0, none⟩) r.length r.length :: sliceVals b (k + 1) t
theorem sliceVals_len (b : Nat) : ∀ (rows : List (List Int)) (k : Nat), (sliceVals b k rows).length = rows.length
  | [], _ => rfl
  | _ :: t, k => by simp [sliceVals, sliceVals_len b t]
theorem sliceVals_get (b : Nat) : ∀ (rows : List (List Int)) (k j : Nat), j < rows.length → (sliceVals b k rows)[j]? = some (.slice (some ⟨b + (k + j), 0, none⟩) (rows.getD j []).length (rows.getD j []).length)
  | [], _, _, h => by simp at h
  | r :: t, k, 0, _ => by simp [sliceVals]
  | r :: t, k, j + 1, h => by
    have := sliceVals_get b t (k + 1) j (by simpa using h)
    simp only [sliceVals, List.getElem?_cons_succ, List.getD_cons_succ]
    rw [this]
    congr 5
    omega
/-- A slice of slices of ints, read. -/
structure RdRows (w : World) (a : Option Addr) (n cap : Nat) (rows : List (List Int)) (vs : List Value) : Prop where
  rd : Rd w 1 a n cap vs
  len : rows.length = n
  row : ∀ j, j < n → ∃ aj cj, vs[j]? = some (.slice aj (rows.getD j []).length cj) ∧ Rd w 1 aj (rows.getD j []).length cj (ivs (rows.getD j []))
theorem rows_post (w : World) : ∃ vs, RdRows ((allocAll w rowsT).alloc (.cells (sliceVals w.heap.size 0 rowsT).toArray 39)) (some ⟨w.heap.size + 32, 0, none⟩) 32 32 rowsT vs := by
  have hs : (allocAll w rowsT).heap.size = w.heap.size + 32 := by simp [allocAll, rowsT]
  have h1 := Rd_new (allocAll w rowsT) (sliceVals w.heap.size 0 rowsT) 39 1 32 (by rw [sliceVals_len]; rfl) (by decide)
  rw [hs] at h1
  refine ⟨_, h1, rfl, fun j hj => ⟨some ⟨w.heap.size + j, 0, none⟩, (rowsT.getD j []).length, ?_, ?_⟩⟩
  · have := sliceVals_get w.heap.size rowsT 0 j hj
    rw [Nat.zero_add] at this
    exact this
  · exact (allocAll_rd rowsT w j hj (by decide)).ext ((Ext.refl _).alloc _)
set_option maxRecDepth 100000 in
set_option maxHeartbeats 4000000 in
theorem rows_any (w : World) : Calls Tryd.prog 55 #[] w fun e w' => ∃ a cap vs, e = .returned (.slice a 32 cap) ∧ RdRows w' a 32 cap rowsT vs ∧ Ext w w' := by
  have H := Lib.hid (rows_post w)
  have HE := Lib.hid ((allocAll_ext rowsT w).alloc (.cells (sliceVals w.heap.size 0 rowsT).toArray 39))
  go_enter Tryd.func55, Tryd.ntmps55
  go_wp2
  go_ret
  obtain ⟨vs, hv⟩ := H.out
  exact ⟨some ⟨w.heap.size + 32, 0, none⟩, 32, vs, rfl, hv, HE.out⟩
end Go.Proofs.YtaklnijmcidpkaaDoor
