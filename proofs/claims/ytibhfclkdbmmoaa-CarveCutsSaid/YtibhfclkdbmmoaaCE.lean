/- Proof text: layer 10's example. By an AI agent. No condition beyond what each theorem states. -/
import Derived.Test.YtibhfclkdbmmoaaCD
set_option linter.unusedVariables false
set_option linter.unusedSimpArgs false
namespace Go.Proofs.Ytibhfclkdbmmoaa
open Go.RowKit
set_option maxHeartbeats 1000000 in
theorem awake10 (w : World) : Calls Try.prog 15 #[] w fun e w' => e = .returned (.bool true) ∧ Ext w w' := by
  have H1 := Lib.hid (Rd_new w (vrows exL) 25 8 3 rfl (by unfold maxLen; omega))
  have H2 := Lib.hid (Rd_new (w.alloc (.cells (vrows exL).toArray 25)) (brows exE) 4 1 3 rfl (by unfold maxLen; omega))
  have H3 := Lib.hid (Rd_new ((w.alloc (.cells (vrows exL).toArray 25)).alloc (.cells (brows exE).toArray 4)) (srow exS) 45 5 1 rfl (by unfold maxLen; omega))
  have CY := Lib.hid (carve_yes exL exE exS _ _ _ 3 3 1 3 3 1 (((w.alloc (.cells (vrows exL).toArray 25)).alloc (.cells (brows exE).toArray 4)).alloc (.cells (srow exS).toArray 45)) (H1.out.ext (((Ext.refl _).alloc _).alloc _)) rfl (H2.out.ext ((Ext.refl _).alloc _)) rfl H3.out rfl ex_may)
  have HE0 := Lib.hid ((((Ext.refl w).alloc (.cells (vrows exL).toArray 25)).alloc (.cells (brows exE).toArray 4)).alloc (.cells (srow exS).toArray 45))
  clear H1 H2 H3
  go_enter Try.func15, Try.ntmps15
  go_wp2_with fail
  have h := CY.out
  simp only [World.size_alloc] at h
  refine Calls.mono h ?_
  rintro e w1 ⟨a, c, b, d, rfl, h1, h2, hE⟩
  obtain ⟨p, q, r, t, hc, e1, e2, e3⟩ := ex_carved
  rw [hc] at h1 h2 ⊢
  simp only [List.length_cons, List.length_nil, List.map_cons, List.map_nil, Nat.zero_add, Nat.reduceAdd] at h1 h2 ⊢
  obtain ⟨b1, o1, rfl, -, -⟩ := h1.at_ (by omega)
  obtain ⟨b2, o2, rfl, -, -⟩ := h2.at_ (by omega)
  obtain ⟨-, -, -, c3, -⟩ := vert_at (j := 2) h1 rfl
  have f2 := flag_at (j := 2) h2 rfl
  have f1 := flag_at (j := 1) h2 rfl
  rw [e1] at c3
  rw [e2] at f2
  rw [e3] at f1
  have HE := Lib.hid (HE0.out.trans hE)
  clear h1 h2 hE CY HE0 hc e1 e2 e3 h
  have c3 : w1.cell? ⟨b1, o1 + 16 + 3, none⟩ = some (.int .i64 1) := c3
  have f2 : w1.cell? ⟨b2, o2 + 2, none⟩ = some (.bool true) := f2
  have f1 : w1.cell? ⟨b2, o2 + 1, none⟩ = some (.bool false) := f1
  obtain ⟨W, rfl⟩ : ∃ W : World, W = w1 := ⟨_, rfl⟩
  go_wp2_with fail
  go_ret
  exact ⟨rfl, HE.out⟩
end Go.Proofs.Ytibhfclkdbmmoaa
