/- Proof text: the vertex on the way between two, the document's answer (rastrumref08.At). By an AI agent. No condition beyond what each theorem states. -/
import Derived.Test.YtibhfclkdbmmoaaNR
import Derived.Test.YtibhfclkdbmmoaaSC
import Derived.Test.YtibhfclkdbmmoaaSF
set_option linter.unusedVariables false
set_option linter.unusedSimpArgs false
namespace Go.Proofs.Ytibhfclkdbmmoaa
open Go.RowKit
set_option maxRecDepth 100000 in
set_option maxHeartbeats 1000000 in
theorem rat_no_a (a b : Vx) (n d : Int) (w : World) (ha : ¬ a.Fit) :
    Calls Try.prog 8 #[a.v, b.v, .int .i64 n, .int .i64 d] w fun e w' => e = .returned (.tuple #[V0.v, .int .i64 1]) ∧ Ext w w' := by
  have HA := Lib.hid ha; clear ha
  go_enter Try.func8, Try.ntmps8
  go_wp2_with fail
  refine (rfits_no a _ HA.out).mono ?_
  rintro e w1 ⟨rfl, hE⟩
  obtain ⟨x1, rfl⟩ := Later.mk' hE
  clear hE
  have B3 : Blk x1.w (w.heap.size + 1 + 1) 25 V0.row := Blk.later (Blk.new' _ _ _ (by simp)) x1
  have HB := Lib.hid B3
  obtain ⟨R0, R1, R2, R3, R4, R5, R6, R7⟩ := cells8 B3
  obtain ⟨F0, F1, F2, F3, F4, F5, F6, F7⟩ := frees8 B3
  clear B3
  go_wp2_with fail
  clear R0 R1 R2 R3 R4 R5 R6 R7 F0 F1 F2 F3 F4 F5 F6 F7
  obtain ⟨q0, q1, q2, q3, q4, q5, q6, q7⟩ := cells8 (HB.out.set8 V0)
  simp only [V0] at q0 q1 q2 q3 q4 q5 q6 q7
  refine bodyPost_ret (v := .tuple #[V0.v, .int .i64 1]) (by simp [results, Try.results8, q0, q1, q2, q3, q4, q5, q6, q7, go_sem, V0]) rfl ⟨rfl, by (repeat (first | with_reducible exact Ext.refl _ | with_reducible assumption | with_reducible refine Ext.alloc ?_ _ | with_reducible refine Ext.drew ?_ | with_reducible refine Ext.drewN ?_ _ | with_reducible refine Ext.later ?_ _ | (with_reducible refine Ext.setCell ?_ _ ?hp; case hp => first | (simp; done) | (simp; omega) | omega)))⟩
set_option maxRecDepth 100000 in
set_option maxHeartbeats 1000000 in
theorem rat_no_b (a b : Vx) (n d : Int) (w : World) (ha : a.Fit) (hb : ¬ b.Fit) :
    Calls Try.prog 8 #[a.v, b.v, .int .i64 n, .int .i64 d] w fun e w' => e = .returned (.tuple #[V0.v, .int .i64 1]) ∧ Ext w w' := by
  have HA := Lib.hid ha; clear ha
  have HB := Lib.hid hb; clear hb
  go_enter Try.func8, Try.ntmps8
  go_wp2_with fail
  refine (rfits_yes a _ HA.out).mono ?_
  rintro e w1 ⟨rfl, hE⟩
  obtain ⟨x1, rfl⟩ := Later.mk' hE
  clear hE
  go_wp2_with fail
  refine (rfits_no b _ HB.out).mono ?_
  rintro e w1 ⟨rfl, hE⟩
  obtain ⟨x2, rfl⟩ := Later.mk' hE
  clear hE
  have B3 : Blk x2.w (w.heap.size + 1 + 1) 25 V0.row := Blk.later (Blk.later (Blk.new' _ _ _ (by simp)) x1) x2
  have HB := Lib.hid B3
  obtain ⟨R0, R1, R2, R3, R4, R5, R6, R7⟩ := cells8 B3
  obtain ⟨F0, F1, F2, F3, F4, F5, F6, F7⟩ := frees8 B3
  clear B3
  go_wp2_with fail
  clear R0 R1 R2 R3 R4 R5 R6 R7 F0 F1 F2 F3 F4 F5 F6 F7
  obtain ⟨q0, q1, q2, q3, q4, q5, q6, q7⟩ := cells8 (HB.out.set8 V0)
  simp only [V0] at q0 q1 q2 q3 q4 q5 q6 q7
  refine bodyPost_ret (v := .tuple #[V0.v, .int .i64 1]) (by simp [results, Try.results8, q0, q1, q2, q3, q4, q5, q6, q7, go_sem, V0]) rfl ⟨rfl, by (repeat (first | with_reducible exact Ext.refl _ | with_reducible assumption | with_reducible refine Ext.alloc ?_ _ | with_reducible refine Ext.drew ?_ | with_reducible refine Ext.drewN ?_ _ | with_reducible refine Ext.later ?_ _ | (with_reducible refine Ext.setCell ?_ _ ?hp; case hp => first | (simp; done) | (simp; omega) | omega)))⟩
set_option maxRecDepth 100000 in
set_option maxHeartbeats 4000000 in
theorem rat_no_n (a b : Vx) (n d : Int) (w : World) (ha : a.Fit) (hb : b.Fit) (h : d < 1 ∨ (¬ d < 1 ∧ n < 0) ∨ (¬ d < 1 ∧ ¬ n < 0 ∧ n > d)) :
    Calls Try.prog 8 #[a.v, b.v, .int .i64 n, .int .i64 d] w fun e w' => e = .returned (.tuple #[V0.v, .int .i64 1]) ∧ Ext w w' := by
  have HA := Lib.hid ha; clear ha
  have HB := Lib.hid hb; clear hb
  go_enter Try.func8, Try.ntmps8
  go_wp2_with fail
  refine (rfits_yes a _ HA.out).mono ?_
  rintro e w1 ⟨rfl, hE⟩
  obtain ⟨x1, rfl⟩ := Later.mk' hE
  clear hE
  go_wp2_with fail
  refine (rfits_yes b _ HB.out).mono ?_
  rintro e w1 ⟨rfl, hE⟩
  obtain ⟨x2, rfl⟩ := Later.mk' hE
  clear hE
  have B3 : Blk x2.w (w.heap.size + 1 + 1) 25 V0.row := Blk.later (Blk.later (Blk.new' _ _ _ (by simp)) x1) x2
  have HB := Lib.hid B3
  obtain ⟨R0, R1, R2, R3, R4, R5, R6, R7⟩ := cells8 B3
  obtain ⟨F0, F1, F2, F3, F4, F5, F6, F7⟩ := frees8 B3
  clear B3
  have t1 : decide (d < 1) = true ∨ (decide (d < 1) = false ∧ decide (n < 0) = true) ∨ (decide (d < 1) = false ∧ decide (n < 0) = false ∧ decide (n > d) = true) := by
    rcases h with h | ⟨h, h'⟩ | ⟨h, h', h''⟩
    · exact .inl (by simpa using h)
    · exact .inr (.inl ⟨by simpa using h, by simpa using h'⟩)
    · exact .inr (.inr ⟨by simpa using h, by simpa using h', by simpa using h''⟩)
  clear h
  rcases t1 with t1 | ⟨t1, t2⟩ | ⟨t1, t2, t3⟩
  all_goals
    go_wp2_with fail
    clear R0 R1 R2 R3 R4 R5 R6 R7 F0 F1 F2 F3 F4 F5 F6 F7
    obtain ⟨q0, q1, q2, q3, q4, q5, q6, q7⟩ := cells8 (HB.out.set8 V0)
    simp only [V0] at q0 q1 q2 q3 q4 q5 q6 q7
    refine bodyPost_ret (v := .tuple #[V0.v, .int .i64 1]) (by simp [results, Try.results8, q0, q1, q2, q3, q4, q5, q6, q7, go_sem, V0]) rfl ⟨rfl, by (repeat (first | with_reducible exact Ext.refl _ | with_reducible assumption | with_reducible refine Ext.alloc ?_ _ | with_reducible refine Ext.drew ?_ | with_reducible refine Ext.drewN ?_ _ | with_reducible refine Ext.later ?_ _ | (with_reducible refine Ext.setCell ?_ _ ?hp; case hp => first | (simp; done) | (simp; omega) | omega)))⟩
theorem rat_no (a b : Vx) (n d : Int) (w : World) (h : ¬ May a b n d) :
    Calls Try.prog 8 #[a.v, b.v, .int .i64 n, .int .i64 d] w fun e w' => e = .returned (.tuple #[V0.v, .int .i64 1]) ∧ Ext w w' := by
  by_cases ha : a.Fit
  · by_cases hb : b.Fit
    · refine rat_no_n a b n d w ha hb ?_
      by_cases h1 : d < 1
      · exact .inl h1
      · by_cases h2 : n < 0
        · exact .inr (.inl ⟨h1, h2⟩)
        · refine .inr (.inr ⟨h1, h2, ?_⟩)
          rcases Int.lt_or_le d n with h3 | h3
          · exact h3
          · exact absurd ⟨ha, hb, by omega, by omega, h3⟩ h
    · exact rat_no_b a b n d w ha hb
  · exact rat_no_a a b n d w ha
end Go.Proofs.Ytibhfclkdbmmoaa
