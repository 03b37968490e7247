/- Proof text: at which part a line comes in or goes out (packages trim, rastrumref09). By an AI agent. No condition beyond what each theorem states. -/
import Derived.Test.YtibhfclkdbmmoaaT4h
import Derived.Test.YtibhfclkdbmmoaaCuts
set_option linter.unusedVariables false
set_option linter.unusedSimpArgs false
namespace Go.Proofs.Ytibhfclkdbmmoaa
open Go.RowKit
/-- At which part, by how far in both ends are. -/
def Pt (p q k n d : Int) : Prop :=
  (p < 0 ∧ q < 0 ∧ k = 3 ∧ n = 0 ∧ d = 0) ∨ (p < 0 ∧ 0 ≤ q ∧ k = 1 ∧ n = -p ∧ d = q - p) ∨ (0 ≤ p ∧ q < 0 ∧ k = 2 ∧ n = p ∧ d = p - q) ∨ (0 ≤ p ∧ 0 ≤ q ∧ k = 0 ∧ n = 0 ∧ d = 0)
theorem pt_ex (p q : Int) : ∃ k n d, Pt p q k n d := by
  unfold Pt
  by_cases hp : p < 0 <;> by_cases hq : q < 0
  · exact ⟨3, 0, 0, .inl ⟨hp, hq, rfl, rfl, rfl⟩⟩
  · exact ⟨1, -p, q - p, .inr (.inl ⟨hp, by omega, rfl, rfl, rfl⟩)⟩
  · exact ⟨2, p, p - q, .inr (.inr (.inl ⟨by omega, hq, rfl, rfl, rfl⟩))⟩
  · exact ⟨0, 0, 0, .inr (.inr (.inr ⟨by omega, by omega, rfl, rfl, rfl⟩))⟩
set_option maxHeartbeats 2000000 in
theorem part_of (s : Sd) (a b : Vx) (w : World) (hs : s.Ok) (ha : a.Fit) (hb : b.Fit) (k n d : Int) (h : Pt (dist s a) (dist s b) k n d) :
    Calls Try.prog 29 #[s.v, a.v, b.v] w fun e w' => e = .returned (.tuple #[.int .i64 k, .int .i64 n, .int .i64 d]) ∧ Ext w w' := by
  obtain ⟨g1, g2⟩ := dist_bound hs ha
  obtain ⟨g3, g4⟩ := dist_bound hs hb
  have HS := Lib.hid hs; clear hs
  have HA := Lib.hid ha; clear ha
  have HB := Lib.hid hb; clear hb
  have hd : (decide (dist s a < 0) = true ∧ decide (dist s b < 0) = true ∧ k = 3 ∧ n = 0 ∧ d = 0) ∨ (decide (dist s a < 0) = true ∧ decide (dist s b < 0) = false ∧ k = 1 ∧ n = -dist s a ∧ d = dist s b - dist s a) ∨
      (decide (dist s a < 0) = false ∧ decide (dist s b < 0) = true ∧ k = 2 ∧ n = dist s a ∧ d = dist s a - dist s b) ∨ (decide (dist s a < 0) = false ∧ decide (dist s b < 0) = false ∧ k = 0 ∧ n = 0 ∧ d = 0) := by
    rcases h with ⟨h1, h2, h3⟩ | ⟨h1, h2, h3⟩ | ⟨h1, h2, h3⟩ | ⟨h1, h2, h3⟩
    · exact .inl ⟨by simpa using h1, by simpa using h2, h3⟩
    · exact .inr (.inl ⟨by simpa using h1, by simpa using h2, h3⟩)
    · exact .inr (.inr (.inl ⟨by simpa using h1, by simpa using h2, h3⟩))
    · exact .inr (.inr (.inr ⟨by simpa using h1, by simpa using h2, h3⟩))
  clear h
  rcases hd with ⟨d1, d2, rfl, rfl, rfl⟩ | ⟨d1, d2, rfl, rfl, rfl⟩ | ⟨d1, d2, rfl, rfl, rfl⟩ | ⟨d1, d2, rfl, rfl, rfl⟩
  all_goals
    go_enter Try.func29, Try.ntmps29
    go_wp2_with fail
    refine wp_region_later (by kernel_rfl) (by kernel_rfl) ?_
    repeat (go_big_quiet_step ((first | (go_at_call 27; with_reducible exact Calls.later _ (dist_any s a _ HS.out HA.out)) | (go_at_call 27; with_reducible exact Calls.later _ (dist_any s b _ HS.out HB.out)))))
    refine wpQuiet_nil ?_
    intro y
    go_wp2_with fail
    go_ret3
    exact ⟨rfl, by (repeat (first | with_reducible exact Ext.refl _ | with_reducible assumption | with_reducible refine Ext.alloc ?_ _ | with_reducible refine Ext.drew ?_ | with_reducible refine Ext.drewN ?_ _ | with_reducible refine Ext.later ?_ _ | (with_reducible refine Ext.setCell ?_ _ ?hp; case hp => first | (simp; done) | (simp; omega) | omega)))⟩
set_option maxHeartbeats 2000000 in
theorem rpart_of (s : Sd) (a b : Vx) (w : World) (hs : s.Ok) (ha : a.Fit) (hb : b.Fit) (k n d : Int) (h : Pt (dist s a) (dist s b) k n d) :
    Calls Try.prog 31 #[s.v, a.v, b.v] w fun e w' => e = .returned (.tuple #[.int .i64 k, .int .i64 n, .int .i64 d]) ∧ Ext w w' := by
  obtain ⟨g1, g2⟩ := dist_bound hs ha
  obtain ⟨g3, g4⟩ := dist_bound hs hb
  have HS := Lib.hid hs; clear hs
  have HA := Lib.hid ha; clear ha
  have HB := Lib.hid hb; clear hb
  have e0 : wrap64 (-dist s a) = -dist s a := wrap64_of (by omega) (by omega)
  have hd : (decide (dist s a ≥ 0) = false ∧ decide (dist s a < 0) = true ∧ decide (dist s b < 0) = true ∧ k = 3 ∧ n = 0 ∧ d = 0) ∨ (decide (dist s a ≥ 0) = false ∧ decide (dist s a < 0) = true ∧ decide (dist s b < 0) = false ∧ k = 1 ∧ n = -dist s a ∧ d = dist s b - dist s a) ∨
      (decide (dist s a ≥ 0) = true ∧ decide (dist s a < 0) = false ∧ decide (dist s b ≥ 0) = false ∧ k = 2 ∧ n = dist s a ∧ d = dist s a - dist s b) ∨ (decide (dist s a ≥ 0) = true ∧ decide (dist s a < 0) = false ∧ decide (dist s b ≥ 0) = true ∧ k = 0 ∧ n = 0 ∧ d = 0) := by
    rcases h with ⟨h1, h2, h3⟩ | ⟨h1, h2, h3⟩ | ⟨h1, h2, h3⟩ | ⟨h1, h2, h3⟩
    · exact .inl ⟨by simp; omega, by simpa using h1, by simpa using h2, h3⟩
    · exact .inr (.inl ⟨by simp; omega, by simpa using h1, by simpa using h2, h3⟩)
    · exact .inr (.inr (.inl ⟨by simpa using h1, by simpa using h1, by simp; omega, h3⟩))
    · exact .inr (.inr (.inr ⟨by simpa using h1, by simpa using h1, by simpa using h2, h3⟩))
  clear h
  rcases hd with ⟨d0, d1, d2, rfl, rfl, rfl⟩ | ⟨d0, d1, d2, rfl, rfl, rfl⟩ | ⟨d0, d1, d2, rfl, rfl, rfl⟩ | ⟨d0, d1, d2, rfl, rfl, rfl⟩
  all_goals
    go_enter Try.func31, Try.ntmps31
    go_wp2_with fail
    refine wp_region_later (by kernel_rfl) (by kernel_rfl) ?_
    repeat (go_big_quiet_step ((first | (go_at_call 37; with_reducible exact Calls.later _ (rdist_any s a _ HS.out HA.out)) | (go_at_call 37; with_reducible exact Calls.later _ (rdist_any s b _ HS.out HB.out)))))
    refine wpQuiet_nil ?_
    intro y
    go_wp2_with fail
    go_ret3
    exact ⟨by first | rfl | (rw [e0]; rfl) | (simp; rfl), by (repeat (first | with_reducible exact Ext.refl _ | with_reducible assumption | with_reducible refine Ext.alloc ?_ _ | with_reducible refine Ext.drew ?_ | with_reducible refine Ext.drewN ?_ _ | with_reducible refine Ext.later ?_ _ | (with_reducible refine Ext.setCell ?_ _ ?hp; case hp => first | (simp; done) | (simp; omega) | omega)))⟩
/-- A part of a way, as the program has it. -/
@[reducible] def cutV (x : Int × Int) : Value := .agg #[.int .i64 x.1, .int .i64 x.2]
set_option maxHeartbeats 2000000 in
theorem less_cells (x1 x2 y1 y2 A B : Int) (h1 l1 h2 l2 : Int) (w : World) (r : Bool)
    (c1 : ∀ W, Calls Try.prog 40 #[.int .i64 x1, .int .i64 y2] W fun e w' => e = .returned (.agg #[.int .i64 h1, .int .u64 l1]) ∧ Ext W w')
    (c2 : ∀ W, Calls Try.prog 40 #[.int .i64 y1, .int .i64 x2] W fun e w' => e = .returned (.agg #[.int .i64 h2, .int .u64 l2]) ∧ Ext W w')
    (g : Int) (c3 : ∀ W, Calls Try.prog 51 #[.agg #[.int .i64 h1, .int .u64 l1], .agg #[.int .i64 h2, .int .u64 l2]] W fun e w' => e = .returned (.int .i64 g) ∧ Ext W w') (hg : decide (g < 0) = r) :
    Calls Try.prog 30 #[.agg #[.int .i64 x1, .int .i64 x2], .agg #[.int .i64 y1, .int .i64 y2]] w fun e w' => e = .returned (.bool r) ∧ Ext w w' := by
  have C1 := Lib.hid c1; clear c1
  have C2 := Lib.hid c2; clear c2
  have C3 := Lib.hid c3; clear c3
  subst hg
  go_enter Try.func30, Try.ntmps30
  go_wp2_with fail
  refine wp_region_later (by kernel_rfl) (by kernel_rfl) ?_
  repeat (go_big_quiet_step ((first | (go_at_call 40; with_reducible exact Calls.later _ (C1.out _)) | (go_at_call 40; with_reducible exact Calls.later _ (C2.out _)) | (go_at_call 51; with_reducible exact Calls.later _ (C3.out _)))))
  refine wpQuiet_nil ?_
  intro y
  go_wp2_with fail
  go_ret
  exact ⟨rfl, by (repeat (first | with_reducible exact Ext.refl _ | with_reducible assumption | with_reducible refine Ext.alloc ?_ _ | with_reducible refine Ext.drew ?_ | with_reducible refine Ext.drewN ?_ _ | with_reducible refine Ext.later ?_ _ | (with_reducible refine Ext.setCell ?_ _ ?hp; case hp => first | (simp; done) | (simp; omega) | omega)))⟩
def I64 (n : Int) : Prop := -9223372036854775808 ≤ n ∧ n < 9223372036854775808
theorem sgn_neg (a b : Int) : decide (sgn a b < 0) = decide (a < b) := by
  unfold sgn
  split
  · simp [*]
  · split <;> simp [*]
theorem less_any (x y : Int × Int) (w : World) (hx1 : I64 x.1) (hx2 : I64 x.2) (hy1 : I64 y.1) (hy2 : I64 y.2) :
    Calls Try.prog 30 #[cutV x, cutV y] w fun e w' => e = .returned (.bool (decide (less x y))) ∧ Ext w w' := by
  have := less_cells x.1 x.2 y.1 y.2 0 0 _ _ _ _ w (decide (less x y)) (fun W => mul_any x.1 y.2 W hx1.1 hx1.2 hy2.1 hy2.2) (fun W => mul_any y.1 x.2 W hy1.1 hy1.2 hx2.1 hx2.2) _ (fun W => cmp_any (x.1 * y.2) (y.1 * x.2) W) (by rw [sgn_neg]; rfl)
  exact this
end Go.Proofs.Ytibhfclkdbmmoaa
