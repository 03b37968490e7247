/- Proof text: the example of layer 9, and the law TrimParts. By an AI agent. No condition beyond what each theorem states. -/
import Derived.Test.YtmpkimcegckloaaTC
set_option linter.unusedVariables false
set_option linter.unusedSimpArgs false
namespace Go.Proofs.Ytmpkimcegckloaa
open Go.RowKit
set_option maxHeartbeats 1000000 in
theorem awake9 (w : World) : Calls Try.prog 25 #[] w fun e w' => e = .returned (.bool true) ∧ Ext w w' := by
  have h1 : ∀ W : World, (Op.equalIn 10000 27 (.agg #[.int .i64 0, .int .i64 0, .int .i64 0, .int .i64 1, .int .i64 0, .int .i64 0, .int .i64 0, .int .i64 0]) (.agg #[.int .i64 0, .int .i64 0, .int .i64 0, .int .i64 1, .int .i64 0, .int .i64 0, .int .i64 0, .int .i64 0])).run Try.prog W = .ok true W := fun W => eq_vx ⟨0, 0, 0, 1, 0, 0, 0, 0⟩ ⟨0, 0, 0, 1, 0, 0, 0, 0⟩ W
  have h5 : ∀ W : World, (Op.equalIn 10000 27 (.agg #[.int .i64 0, .int .i64 0, .int .i64 0, .int .i64 5, .int .i64 0, .int .i64 0, .int .i64 0, .int .i64 0]) (.agg #[.int .i64 0, .int .i64 0, .int .i64 0, .int .i64 5, .int .i64 0, .int .i64 0, .int .i64 0, .int .i64 0])).run Try.prog W = .ok true W := fun W => eq_vx ⟨0, 0, 0, 5, 0, 0, 0, 0⟩ ⟨0, 0, 0, 5, 0, 0, 0, 0⟩ W
  have HR := Lib.hid (Rd_new w (srow [⟨0, 0, 0, 0, 0⟩]) 24 5 1 rfl (by unfold maxLen; omega))
  go_enter Try.func25, Try.ntmps25
  go_wp2_with fail
  refine (trim_ex _ _ _ HR.out).mono ?_
  rintro e w1 ⟨rfl, hE⟩
  obtain ⟨x1, rfl⟩ := Later.mk' hE
  clear hE
  go_wp2_with fail
  go_ret
  exact ⟨rfl, by (repeat (first | with_reducible exact Ext.refl _ | with_reducible assumption | with_reducible refine Ext.alloc ?_ _ | with_reducible refine Ext.drew ?_ | with_reducible refine Ext.drewN ?_ _ | with_reducible refine Ext.later ?_ _ | (with_reducible refine Ext.setCell ?_ _ ?hp; case hp => first | (simp; done) | (simp; omega) | omega)))⟩
theorem one_side (s : Sd) (a b : Vx) (w : World) :
    Rd ((((w.alloc (.cells #[.int .i64 s.k, .int .i64 s.p0, .int .i64 s.p1, .int .i64 s.p2, .int .i64 s.p3] 24)).alloc (.cells #[.int .i64 a.x, .int .i64 a.y, .int .i64 a.z, .int .i64 a.w, .int .i64 a.c0, .int .i64 a.c1, .int .i64 a.c2, .int .i64 a.c3] 27)).alloc (.cells #[.int .i64 b.x, .int .i64 b.y, .int .i64 b.z, .int .i64 b.w, .int .i64 b.c0, .int .i64 b.c1, .int .i64 b.c2, .int .i64 b.c3] 27)).alloc (.cells #[.int .i64 s.k, .int .i64 s.p0, .int .i64 s.p1, .int .i64 s.p2, .int .i64 s.p3] 24)) 5 (some ⟨w.heap.size + 1 + 1 + 1, 0, none⟩) 1 1 (srow [s]) := by
  have := Rd_new (((w.alloc (.cells s.row.toArray 24)).alloc (.cells a.row 27)).alloc (.cells b.row 27)) (srow [s]) 24 5 1 rfl (by unfold maxLen; omega)
  rw [show ((((w.alloc (.cells s.row.toArray 24)).alloc (.cells a.row 27)).alloc (.cells b.row 27)).heap.size) = w.heap.size + 1 + 1 + 1 by simp] at this
  exact this
set_option maxHeartbeats 2000000 in
theorem parts_walk (s : Sd) (a b : Vx) (w : World) (h : MayT a b [s]) (k n d : Int) (hp : Pt (dist s a) (dist s b) k n d) :
    Calls Try.prog 7 #[s.v, a.v, b.v] w fun e w' => e = .returned (.bool true) ∧ Ext w w' := by
  have hs := h.2.2.2 s (by simp)
  have ha := h.2.1
  have hb := h.2.2.1
  have HR := Lib.hid (one_side s a b w)
  have HM := Lib.hid h; clear h
  have HS := Lib.hid hs; clear hs
  have HA := Lib.hid ha; clear ha
  have HB := Lib.hid hb; clear hb
  have HP := Lib.hid hp; clear hp
  have e1 : (k == k) = true := by simp
  have e2 : (n == n) = true := by simp
  have e3 : (d == d) = true := by simp
  go_enter Try.func7, Try.ntmps7
  go_wp2_with fail
  refine (may_yes [s] a b (some ⟨w.heap.size + 1 + 1 + 1, 0, none⟩) 1 1 _ HR.out rfl HM.out).mono ?_
  rintro e w1 ⟨rfl, hE⟩
  obtain ⟨x1, rfl⟩ := Later.mk' hE
  clear hE
  have H1 := Lib.hid (boxes3 (s := s) (a := a) (b := b) (((Ext.refl (((w.alloc (.cells s.row.toArray 24)).alloc (.cells a.row 27)).alloc (.cells b.row 27))).alloc (.cells s.row.toArray 24)).later x1))
  obtain ⟨p0, p1, p2, p3, p4⟩ := cells5 (s := s) H1.out.1
  obtain ⟨a0, a1, a2, a3, a4, a5, a6, a7⟩ := cells8 (v := a) H1.out.2.1
  obtain ⟨b0, b1, b2, b3, b4, b5, b6, b7⟩ := cells8 (v := b) H1.out.2.2
  go_wp2_with fail
  clear p0 p1 p2 p3 p4 a0 a1 a2 a3 a4 a5 a6 a7 b0 b1 b2 b3 b4 b5 b6 b7
  refine (part_of s a b _ HS.out HA.out HB.out k n d HP.out).mono ?_
  rintro e w1 ⟨rfl, hE⟩
  obtain ⟨x2, rfl⟩ := Later.mk' hE
  clear hE
  obtain ⟨p0, p1, p2, p3, p4⟩ := cells5 (s := s) (H1.out.1.later x2)
  obtain ⟨a0, a1, a2, a3, a4, a5, a6, a7⟩ := cells8 (v := a) (H1.out.2.1.later x2)
  obtain ⟨b0, b1, b2, b3, b4, b5, b6, b7⟩ := cells8 (v := b) (H1.out.2.2.later x2)
  go_wp2_with fail
  clear p0 p1 p2 p3 p4 a0 a1 a2 a3 a4 a5 a6 a7 b0 b1 b2 b3 b4 b5 b6 b7
  refine (rpart_of s a b _ HS.out HA.out HB.out k n d HP.out).mono ?_
  rintro e w1 ⟨rfl, hE⟩
  obtain ⟨x3, rfl⟩ := Later.mk' hE
  clear hE
  go_wp2_with fail
  refine (awake9 _).mono ?_
  rintro e w1 ⟨rfl, hE⟩
  obtain ⟨x4, rfl⟩ := Later.mk' hE
  clear hE
  go_wp2_with fail
  go_ret
  exact ⟨rfl, by (repeat (first | with_reducible exact Ext.refl _ | with_reducible assumption | with_reducible refine Ext.alloc ?_ _ | with_reducible refine Ext.drew ?_ | with_reducible refine Ext.drewN ?_ _ | with_reducible refine Ext.later ?_ _ | (with_reducible refine Ext.setCell ?_ _ ?hp; case hp => first | (simp; done) | (simp; omega) | omega)))⟩
set_option maxHeartbeats 1000000 in
theorem law_parts (s : Sd) (a b : Vx) (w : World) :
    Calls Try.prog 7 #[s.v, a.v, b.v] w fun e w' => e = .returned (.bool true) ∧ Ext w w' := by
  by_cases h : MayT a b [s]
  · obtain ⟨k, n, d, hp⟩ := pt_ex (dist s a) (dist s b)
    exact parts_walk s a b w h k n d hp
  · have HR := Lib.hid (one_side s a b w)
    have HM := Lib.hid h; clear h
    go_enter Try.func7, Try.ntmps7
    go_wp2_with fail
    refine (may_no [s] a b (some ⟨w.heap.size + 1 + 1 + 1, 0, none⟩) 1 1 _ HR.out rfl HM.out).mono ?_
    rintro e w1 ⟨rfl, hE⟩
    obtain ⟨x1, rfl⟩ := Later.mk' hE
    clear hE
    go_wp2_with fail
    refine (awake9 _).mono ?_
    rintro e w1 ⟨rfl, hE⟩
    obtain ⟨x4, rfl⟩ := Later.mk' hE
    clear hE
    go_wp2_with fail
    go_ret
    exact ⟨rfl, by (repeat (first | with_reducible exact Ext.refl _ | with_reducible assumption | with_reducible refine Ext.alloc ?_ _ | with_reducible refine Ext.drew ?_ | with_reducible refine Ext.drewN ?_ _ | with_reducible refine Ext.later ?_ _ | (with_reducible refine Ext.setCell ?_ _ ?hp; case hp => first | (simp; done) | (simp; omega) | omega)))⟩
end Go.Proofs.Ytmpkimcegckloaa
