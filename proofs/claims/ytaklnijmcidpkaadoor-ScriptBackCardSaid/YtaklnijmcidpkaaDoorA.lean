/- Proof text of the claims about the statements of layer 4 (code). By an AI agent. No condition beyond what each theorem states. -/
import Derived.Test.YtaklnijmcidpkaaDoorProg
import Derived.Test.YtaklnijmcidpkaaDoorLB
set_option linter.unusedVariables false
set_option linter.unusedSimpArgs false
namespace Go.Proofs.YtaklnijmcidpkaaDoor
open Go.RowKit
theorem info47 : (Tryd.prog.info? 76).map (fun i => (i.zero, i.size, i.bytes)) = some (some (.agg #[.int .i64 0, .int .i64 0]), 2, 16) := by kernel_rfl
theorem size47 : (Tryd.prog.info? 76).map (·.size) = some 2 := by kernel_rfl

/-- Pairs as cells. -/
def prs : List (Int × Int) → List Value
  | [] => []
  | p :: r => .int .i64 p.1 :: .int .i64 p.2 :: prs r
theorem prs_append (l m : List (Int × Int)) : prs (l ++ m) = prs l ++ prs m := by
  induction l with
  | nil => rfl
  | cons p r ih => simp [prs, ih]
theorem prs_length (l : List (Int × Int)) : (prs l).length = l.length * 2 := by
  induction l with
  | nil => rfl
  | cons p r ih => simp [prs, ih]; omega
theorem rep_snoc (k : Nat) (p : Int × Int) : prs (List.replicate (k + 1) p) = prs (List.replicate k p) ++ [.int .i64 p.1, .int .i64 p.2] := by
  rw [List.replicate_succ', prs_append]; rfl
theorem put_pair (k n : Nat) (p : Int × Int) (xs : List Value) (hn : xs.length = n * 2) (hk : k < n) (h : xs.take (k * 2) = prs (List.replicate k p)) :
    (xs.take (k * 2) ++ [Value.int .i64 p.1, Value.int .i64 p.2] ++ xs.drop (k * 2 + 2)).take ((k + 1) * 2) = prs (List.replicate (k + 1) p) := by
  rw [rep_snoc, ← h, List.take_append_of_le_length (by simp; omega)]
  rw [List.take_of_length_le (by simp; omega)]

set_option maxHeartbeats 400000 in
theorem numbers_any (n : Nat) (a b : Int) (w : World) (hn : n ≤ 16) :
    Calls Tryd.prog 68 #[.int .i64 n, .agg #[.int .i64 a, .int .i64 b]] w fun e w' => ∃ g, e = .returned (.slice (some ⟨g, 0, none⟩) n n) ∧ w'.ownsRow w.heap.size 76 2 (.slice (some ⟨g, 0, none⟩) n n) n (prs (List.replicate n (a, b))) ∧ Ext w w' := by
  obtain ⟨i0, hi, hz0, hz1, hz2⟩ := info_parts info47
  go_enter Tryd.func68, Tryd.ntmps68
  go_wp2_with (at_make; refine wpList_make_full _ rfl _ _ _ rfl w.heap.size 76 i0 (.agg #[.int .i64 0, .int .i64 0]) 2 Tryd.underlying70 hi hz0 hz1 _ _ _ _ n rfl rfl rfl rfl ?c1 ?c2 ?c3 ?_)
  case c1 => rw [hz2]; omega
  case c2 => unfold maxLen; omega
  case c3 => simp
  intro w1 ho hg
  have hc0 : w1.cell? ⟨w.heap.size, 0, none⟩ = some (.int .i64 a) := hg.cell (by simp) (by simp)
  have hc1 : w1.cell? ⟨w.heap.size, 1, none⟩ = some (.int .i64 b) := hg.cell (by simp) (by simp)
  have hB : Ext w w1 := ((Ext.refl _).alloc _).grown hg (by simp)
  clear hg
  go_wp2
  go_loopw [11] (fun i wr => ∃ k : Nat, ∃ xs : List Value, k ≤ n ∧ i = .int .i64 k ∧ wr.ownsRow w.heap.size 76 2 (.slice (some ⟨w.heap.size + 1, 0, none⟩) n n) n xs ∧ xs.take (k * 2) = prs (List.replicate k (a, b)) ∧ wr.cell? ⟨w.heap.size, 0, none⟩ = some (.int .i64 a) ∧ wr.cell? ⟨w.heap.size, 1, none⟩ = some (.int .i64 b) ∧ Ext w wr) (fun i _ => n - (intOf i).toNat)
  case atStart => exact ⟨0, _, Nat.zero_le _, rfl, ho, by simp [prs], hc0, hc1, hB⟩
  case round =>
    obtain ⟨k, xs, hk, rfl, ho, hxs, hc0, hc1, hB⟩ := hrel
    have HX := Lib.hid hxs
    clear hxs
    by_cases hlt : k < n
    · go_wp2_with (refine wpList_store_own rfl (.tmp 17) (.tmp 16) 76 rfl w.heap.size 76 2 (w.heap.size + 1) n n xs (k * 2) rfl (.agg #[.int .i64 a, .int .i64 b]) rfl ho size47 ?c1 ?c2 ?_)
      case c1 => simp [Value.cells, Value.oneCell']
      case c2 => simp [Value.cells]; omega
      intro w2 ho2 hg2
      have hc0' : w2.cell? ⟨w.heap.size, 0, none⟩ = some (.int .i64 a) := hg2.cell hc0 (by simp)
      have hc1' : w2.cell? ⟨w.heap.size, 1, none⟩ = some (.int .i64 b) := hg2.cell hc1 (by simp)
      have hB' : Ext w w2 := hB.grown hg2 (by simp)
      clear hg2 hc0 hc1 hB
      go_wp2
      go_roundw
      case rel => exact ⟨k + 1, _, by omega, by go_num, ho2, by simpa using put_pair k n (a, b) xs ho.1 hlt HX.out, hc0', hc1', hB'⟩
      case measure => simp [intOf]; omega
    · go_wp2
      go_ret
      obtain rfl : k = n := by omega
      have hx := HX.out
      rw [List.take_of_length_le (by rw [ho.1]; omega)] at hx
      subst hx
      exact ⟨_, rfl, ho, hB⟩
end Go.Proofs.YtaklnijmcidpkaaDoor
