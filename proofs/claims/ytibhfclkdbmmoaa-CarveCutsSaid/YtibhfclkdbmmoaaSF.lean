/- Proof text: where nothing stands on the way. By an AI agent. No condition beyond what each theorem states. -/
import Derived.Test.YtibhfclkdbmmoaaSE
set_option linter.unusedVariables false
set_option linter.unusedSimpArgs false
namespace Go.Proofs.Ytibhfclkdbmmoaa
open Go.RowKit
def V0 : Vx := ⟨0, 0, 0, 0, 0, 0, 0, 0⟩
theorem cells8 {w : World} {g : Nat} {t : TypeId} {v : Vx} (h : Blk w g t v.row) : w.cell? ⟨g, 0, none⟩ = some (.int .i64 v.x) ∧ w.cell? ⟨g, 1, none⟩ = some (.int .i64 v.y) ∧ w.cell? ⟨g, 2, none⟩ = some (.int .i64 v.z) ∧ w.cell? ⟨g, 3, none⟩ = some (.int .i64 v.w) ∧
    w.cell? ⟨g, 4, none⟩ = some (.int .i64 v.c0) ∧ w.cell? ⟨g, 5, none⟩ = some (.int .i64 v.c1) ∧ w.cell? ⟨g, 6, none⟩ = some (.int .i64 v.c2) ∧ w.cell? ⟨g, 7, none⟩ = some (.int .i64 v.c3) :=
  ⟨h.cell 0, h.cell 1, h.cell 2, h.cell 3, h.cell 4, h.cell 5, h.cell 6, h.cell 7⟩
theorem frees8 {w : World} {g : Nat} {t : TypeId} {cs : Array Value} (h : Blk w g t cs) : w.frozen? ⟨g, 0, none⟩ = false ∧ w.frozen? ⟨g, 1, none⟩ = false ∧ w.frozen? ⟨g, 2, none⟩ = false ∧ w.frozen? ⟨g, 3, none⟩ = false ∧
    w.frozen? ⟨g, 4, none⟩ = false ∧ w.frozen? ⟨g, 5, none⟩ = false ∧ w.frozen? ⟨g, 6, none⟩ = false ∧ w.frozen? ⟨g, 7, none⟩ = false :=
  ⟨h.frozen 0, h.frozen 1, h.frozen 2, h.frozen 3, h.frozen 4, h.frozen 5, h.frozen 6, h.frozen 7⟩
/-- Eight cells written, one behind the other. -/
theorem Blk.set8 {w : World} {g : Nat} {t : TypeId} {v : Vx} (h : Blk w g t v.row) (u : Vx) :
    Blk ((((((((w.setCell ⟨g, 0, none⟩ (.int .i64 u.x)).setCell ⟨g, 1, none⟩ (.int .i64 u.y)).setCell ⟨g, 2, none⟩ (.int .i64 u.z)).setCell ⟨g, 3, none⟩ (.int .i64 u.w)).setCell ⟨g, 4, none⟩ (.int .i64 u.c0)).setCell ⟨g, 5, none⟩ (.int .i64 u.c1)).setCell ⟨g, 6, none⟩ (.int .i64 u.c2)).setCell ⟨g, 7, none⟩ (.int .i64 u.c3)) g t u.row := by
  have h8 := (((((((h.set_ 0 (.int .i64 u.x)).set_ 1 (.int .i64 u.y)).set_ 2 (.int .i64 u.z)).set_ 3 (.int .i64 u.w)).set_ 4 (.int .i64 u.c0)).set_ 5 (.int .i64 u.c1)).set_ 6 (.int .i64 u.c2)).set_ 7 (.int .i64 u.c3)
  simpa using h8

set_option maxRecDepth 100000 in
set_option maxHeartbeats 1000000 in
theorem at_no_a (a b : Vx) (n d : Int) (w : World) (ha : ¬ a.Fit) :
    Calls Try.prog 7 #[a.v, b.v, .int .i64 n, .int .i64 d] w fun e w' => e = .returned (.tuple #[V0.v, .int .i64 1]) ∧ Ext w w' := by
  have HA := Lib.hid ha; clear ha
  go_enter Try.func7, Try.ntmps7
  go_wp2_with fail
  refine (fits_no a _ HA.out).mono ?_
  rintro e w1 ⟨rfl, hE⟩
  obtain ⟨x1, rfl⟩ := Later.mk' hE
  clear hE
  have B3 : Blk x1.w (w.heap.size + 1 + 1) 25 V0.row := Blk.later (Blk.new' _ _ _ (by simp)) x1
  have HB := Lib.hid B3
  obtain ⟨R0, R1, R2, R3, R4, R5, R6, R7⟩ := cells8 B3
  obtain ⟨F0, F1, F2, F3, F4, F5, F6, F7⟩ := frees8 B3
  clear B3
  go_wp2_with fail
  clear R0 R1 R2 R3 R4 R5 R6 R7 F0 F1 F2 F3 F4 F5 F6 F7
  obtain ⟨q0, q1, q2, q3, q4, q5, q6, q7⟩ := cells8 (HB.out.set8 V0)
  simp only [V0] at q0 q1 q2 q3 q4 q5 q6 q7
  refine bodyPost_ret (v := .tuple #[V0.v, .int .i64 1]) (by simp [results, Try.results7, q0, q1, q2, q3, q4, q5, q6, q7, go_sem, V0]) rfl ⟨rfl, by (repeat (first | with_reducible exact Ext.refl _ | with_reducible assumption | with_reducible refine Ext.alloc ?_ _ | with_reducible refine Ext.drew ?_ | with_reducible refine Ext.drewN ?_ _ | with_reducible refine Ext.later ?_ _ | (with_reducible refine Ext.setCell ?_ _ ?hp; case hp => first | (simp; done) | (simp; omega) | omega)))⟩
set_option maxRecDepth 100000 in
set_option maxHeartbeats 1000000 in
theorem at_no_b (a b : Vx) (n d : Int) (w : World) (ha : a.Fit) (hb : ¬ b.Fit) :
    Calls Try.prog 7 #[a.v, b.v, .int .i64 n, .int .i64 d] w fun e w' => e = .returned (.tuple #[V0.v, .int .i64 1]) ∧ Ext w w' := by
  have HA := Lib.hid ha; clear ha
  have HB := Lib.hid hb; clear hb
  go_enter Try.func7, Try.ntmps7
  go_wp2_with fail
  refine (fits_yes a _ HA.out).mono ?_
  rintro e w1 ⟨rfl, hE⟩
  obtain ⟨x1, rfl⟩ := Later.mk' hE
  clear hE
  go_wp2_with fail
  refine (fits_no b _ HB.out).mono ?_
  rintro e w1 ⟨rfl, hE⟩
  obtain ⟨x2, rfl⟩ := Later.mk' hE
  clear hE
  have B3 : Blk x2.w (w.heap.size + 1 + 1) 25 V0.row := Blk.later (Blk.later (Blk.new' _ _ _ (by simp)) x1) x2
  have HB := Lib.hid B3
  obtain ⟨R0, R1, R2, R3, R4, R5, R6, R7⟩ := cells8 B3
  obtain ⟨F0, F1, F2, F3, F4, F5, F6, F7⟩ := frees8 B3
  clear B3
  go_wp2_with fail
  clear R0 R1 R2 R3 R4 R5 R6 R7 F0 F1 F2 F3 F4 F5 F6 F7
  obtain ⟨q0, q1, q2, q3, q4, q5, q6, q7⟩ := cells8 (HB.out.set8 V0)
  simp only [V0] at q0 q1 q2 q3 q4 q5 q6 q7
  refine bodyPost_ret (v := .tuple #[V0.v, .int .i64 1]) (by simp [results, Try.results7, q0, q1, q2, q3, q4, q5, q6, q7, go_sem, V0]) rfl ⟨rfl, by (repeat (first | with_reducible exact Ext.refl _ | with_reducible assumption | with_reducible refine Ext.alloc ?_ _ | with_reducible refine Ext.drew ?_ | with_reducible refine Ext.drewN ?_ _ | with_reducible refine Ext.later ?_ _ | (with_reducible refine Ext.setCell ?_ _ ?hp; case hp => first | (simp; done) | (simp; omega) | omega)))⟩
set_option maxRecDepth 100000 in
set_option maxHeartbeats 4000000 in
theorem at_no_n (a b : Vx) (n d : Int) (w : World) (ha : a.Fit) (hb : b.Fit) (h : d < 1 ∨ (¬ d < 1 ∧ n < 0) ∨ (¬ d < 1 ∧ ¬ n < 0 ∧ n > d)) :
    Calls Try.prog 7 #[a.v, b.v, .int .i64 n, .int .i64 d] w fun e w' => e = .returned (.tuple #[V0.v, .int .i64 1]) ∧ Ext w w' := by
  have HA := Lib.hid ha; clear ha
  have HB := Lib.hid hb; clear hb
  go_enter Try.func7, Try.ntmps7
  go_wp2_with fail
  refine (fits_yes a _ HA.out).mono ?_
  rintro e w1 ⟨rfl, hE⟩
  obtain ⟨x1, rfl⟩ := Later.mk' hE
  clear hE
  go_wp2_with fail
  refine (fits_yes b _ HB.out).mono ?_
  rintro e w1 ⟨rfl, hE⟩
  obtain ⟨x2, rfl⟩ := Later.mk' hE
  clear hE
  have B3 : Blk x2.w (w.heap.size + 1 + 1) 25 V0.row := Blk.later (Blk.later (Blk.new' _ _ _ (by simp)) x1) x2
  have HB := Lib.hid B3
  obtain ⟨R0, R1, R2, R3, R4, R5, R6, R7⟩ := cells8 B3
  obtain ⟨F0, F1, F2, F3, F4, F5, F6, F7⟩ := frees8 B3
  clear B3
  have t1 : decide (d < 1) = true ∨ (decide (d < 1) = false ∧ decide (n < 0) = true) ∨ (decide (d < 1) = false ∧ decide (n < 0) = false ∧ decide (n > d) = true) := by
    rcases h with h | ⟨h, h'⟩ | ⟨h, h', h''⟩
    · exact .inl (by simpa using h)
    · exact .inr (.inl ⟨by simpa using h, by simpa using h'⟩)
    · exact .inr (.inr ⟨by simpa using h, by simpa using h', by simpa using h''⟩)
  clear h
  rcases t1 with t1 | ⟨t1, t2⟩ | ⟨t1, t2, t3⟩
  all_goals
    go_wp2_with fail
    clear R0 R1 R2 R3 R4 R5 R6 R7 F0 F1 F2 F3 F4 F5 F6 F7
    obtain ⟨q0, q1, q2, q3, q4, q5, q6, q7⟩ := cells8 (HB.out.set8 V0)
    simp only [V0] at q0 q1 q2 q3 q4 q5 q6 q7
    refine bodyPost_ret (v := .tuple #[V0.v, .int .i64 1]) (by simp [results, Try.results7, q0, q1, q2, q3, q4, q5, q6, q7, go_sem, V0]) rfl ⟨rfl, by (repeat (first | with_reducible exact Ext.refl _ | with_reducible assumption | with_reducible refine Ext.alloc ?_ _ | with_reducible refine Ext.drew ?_ | with_reducible refine Ext.drewN ?_ _ | with_reducible refine Ext.later ?_ _ | (with_reducible refine Ext.setCell ?_ _ ?hp; case hp => first | (simp; done) | (simp; omega) | omega)))⟩
/-- May a way be asked for? -/
def May (a b : Vx) (n d : Int) : Prop := a.Fit ∧ b.Fit ∧ 1 ≤ d ∧ 0 ≤ n ∧ n ≤ d
theorem at_no (a b : Vx) (n d : Int) (w : World) (h : ¬ May a b n d) :
    Calls Try.prog 7 #[a.v, b.v, .int .i64 n, .int .i64 d] w fun e w' => e = .returned (.tuple #[V0.v, .int .i64 1]) ∧ Ext w w' := by
  by_cases ha : a.Fit
  · by_cases hb : b.Fit
    · refine at_no_n a b n d w ha hb ?_
      by_cases h1 : d < 1
      · exact .inl h1
      · by_cases h2 : n < 0
        · exact .inr (.inl ⟨h1, h2⟩)
        · refine .inr (.inr ⟨h1, h2, ?_⟩)
          rcases Int.lt_or_le d n with h3 | h3
          · exact h3
          · exact absurd ⟨ha, hb, by omega, by omega, h3⟩ h
    · exact at_no_b a b n d w ha hb
  · exact at_no_a a b n d w ha
theorem at_may (a b : Vx) (n d : Int) (w : World) (h : May a b n d) (hd : d < 9223372036854775808) :
    Calls Try.prog 7 #[a.v, b.v, .int .i64 n, .int .i64 d] w fun e w' => e = .returned (.tuple #[(at_ a b n d).v, .int .i64 0]) ∧ Ext w w' := by
  obtain ⟨ha, hb, h1, h2, h3⟩ := h
  obtain ⟨D, rfl⟩ := Int.eq_ofNat_of_zero_le (show 0 ≤ d by omega)
  exact at_yes a b n D w ha hb h2 h3 (by omega) (by omega)
end Go.Proofs.Ytibhfclkdbmmoaa
