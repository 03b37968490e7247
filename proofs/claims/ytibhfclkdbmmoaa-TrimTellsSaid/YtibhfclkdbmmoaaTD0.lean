/- Proof text: the example of layer 9, and the law TrimParts. By an AI agent. No condition beyond what each theorem states. -/
import Derived.Test.YtibhfclkdbmmoaaTC
set_option linter.unusedVariables false
set_option linter.unusedSimpArgs false
namespace Go.Proofs.Ytibhfclkdbmmoaa
open Go.RowKit
set_option maxHeartbeats 1000000 in
theorem awake9 (w : World) : Calls Try.prog 11 #[] w fun e w' => e = .returned (.bool true) ∧ Ext w w' := by
  have h1 : ∀ W : World, (Op.equalIn 10000 25 (.agg #[.int .i64 0, .int .i64 0, .int .i64 0, .int .i64 1, .int .i64 0, .int .i64 0, .int .i64 0, .int .i64 0]) (.agg #[.int .i64 0, .int .i64 0, .int .i64 0, .int .i64 1, .int .i64 0, .int .i64 0, .int .i64 0, .int .i64 0])).run Try.prog W = .ok true W := fun W => eq_vx ⟨0, 0, 0, 1, 0, 0, 0, 0⟩ ⟨0, 0, 0, 1, 0, 0, 0, 0⟩ W
  have h5 : ∀ W : World, (Op.equalIn 10000 25 (.agg #[.int .i64 0, .int .i64 0, .int .i64 0, .int .i64 5, .int .i64 0, .int .i64 0, .int .i64 0, .int .i64 0]) (.agg #[.int .i64 0, .int .i64 0, .int .i64 0, .int .i64 5, .int .i64 0, .int .i64 0, .int .i64 0, .int .i64 0])).run Try.prog W = .ok true W := fun W => eq_vx ⟨0, 0, 0, 5, 0, 0, 0, 0⟩ ⟨0, 0, 0, 5, 0, 0, 0, 0⟩ W
  have HR := Lib.hid (Rd_new w (srow [⟨0, 0, 0, 0, 0⟩]) 45 5 1 rfl (by unfold maxLen; omega))
  go_enter Try.func11, Try.ntmps11
  go_wp2_with fail
  refine (trim_ex _ _ _ HR.out).mono ?_
  rintro e w1 ⟨rfl, hE⟩
  obtain ⟨x1, rfl⟩ := Later.mk' hE
  clear hE
  go_wp2_with fail
  go_ret
  exact ⟨rfl, by (repeat (first | with_reducible exact Ext.refl _ | with_reducible assumption | with_reducible refine Ext.alloc ?_ _ | with_reducible refine Ext.drew ?_ | with_reducible refine Ext.drewN ?_ _ | with_reducible refine Ext.later ?_ _ | (with_reducible refine Ext.setCell ?_ _ ?hp; case hp => first | (simp; done) | (simp; omega) | omega)))⟩
theorem one_side (s : Sd) (a b : Vx) (w : World) :
    Rd ((((w.alloc (.cells #[.int .i64 s.k, .int .i64 s.p0, .int .i64 s.p1, .int .i64 s.p2, .int .i64 s.p3] 45)).alloc (.cells #[.int .i64 a.x, .int .i64 a.y, .int .i64 a.z, .int .i64 a.w, .int .i64 a.c0, .int .i64 a.c1, .int .i64 a.c2, .int .i64 a.c3] 25)).alloc (.cells #[.int .i64 b.x, .int .i64 b.y, .int .i64 b.z, .int .i64 b.w, .int .i64 b.c0, .int .i64 b.c1, .int .i64 b.c2, .int .i64 b.c3] 25)).alloc (.cells #[.int .i64 s.k, .int .i64 s.p0, .int .i64 s.p1, .int .i64 s.p2, .int .i64 s.p3] 45)) 5 (some ⟨w.heap.size + 1 + 1 + 1, 0, none⟩) 1 1 (srow [s]) := by
  have := Rd_new (((w.alloc (.cells s.row.toArray 45)).alloc (.cells a.row 25)).alloc (.cells b.row 25)) (srow [s]) 45 5 1 rfl (by unfold maxLen; omega)
  rw [show ((((w.alloc (.cells s.row.toArray 45)).alloc (.cells a.row 25)).alloc (.cells b.row 25)).heap.size) = w.heap.size + 1 + 1 + 1 by simp] at this
  exact this
end Go.Proofs.Ytibhfclkdbmmoaa
