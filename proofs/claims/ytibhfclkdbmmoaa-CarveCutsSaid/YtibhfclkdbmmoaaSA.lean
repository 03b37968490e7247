/- Proof text: the numbers of a vertex and of a side (packages side, rastrumref08). By an AI agent. No condition beyond what each theorem states. -/
import Derived.Test.YtibhfclkdbmmoaaXA
set_option linter.unusedVariables false
set_option linter.unusedSimpArgs false
namespace Go.Proofs.Ytibhfclkdbmmoaa
open Go.RowKit
/-- A vertex: its four coordinates, its four colors. -/
structure Vx where
  x : Int
  y : Int
  z : Int
  w : Int
  c0 : Int
  c1 : Int
  c2 : Int
  c3 : Int
/-- A side: its kind, its four coefficients. -/
structure Sd where
  k : Int
  p0 : Int
  p1 : Int
  p2 : Int
  p3 : Int
@[reducible] def Vx.v (v : Vx) : Value := .agg #[.int .i64 v.x, .int .i64 v.y, .int .i64 v.z, .int .i64 v.w, .int .i64 v.c0, .int .i64 v.c1, .int .i64 v.c2, .int .i64 v.c3]
@[reducible] def Sd.v (s : Sd) : Value := .agg #[.int .i64 s.k, .int .i64 s.p0, .int .i64 s.p1, .int .i64 s.p2, .int .i64 s.p3]
def Vx.e (v : Vx) : Nat → Int
  | 0 => v.x
  | 1 => v.y
  | 2 => v.z
  | _ => v.w
def Vx.c (v : Vx) : Nat → Int
  | 0 => v.c0
  | 1 => v.c1
  | 2 => v.c2
  | _ => v.c3
def Sd.p (s : Sd) : Nat → Int
  | 0 => s.p0
  | 1 => s.p1
  | 2 => s.p2
  | _ => s.p3
theorem four_cases {P : Nat → Prop} (h : P 0 ∧ P 1 ∧ P 2 ∧ P 3) : ∀ k, k < 4 → P k
  | 0, _ => h.1
  | 1, _ => h.2.1
  | 2, _ => h.2.2.1
  | 3, _ => h.2.2.2
  | k + 4, h => by omega
theorem upto {P : Nat → Prop} {k : Nat} (h : ∀ j, j < k → P j) (hk : P k) : ∀ j, j < k + 1 → P j := by
  intro j hj
  rcases Nat.lt_or_ge j k with h1 | h1
  · exact h j h1
  · obtain rfl : j = k := by omega
    exact hk
theorem index_e (v : Vx) (w : World) : ∀ k : Nat, k < 4 → (Instr.index 22 (.agg #[.int .i64 v.x, .int .i64 v.y, .int .i64 v.z, .int .i64 v.w]) (.int .i64 (k : Int))).run Try.prog w = .ok (.int .i64 (v.e k)) w :=
  four_cases ⟨by kernel_rfl, by kernel_rfl, by kernel_rfl, by kernel_rfl⟩
theorem index_lit (v : Vx) (w : World) : (Instr.index 22 (.agg #[.int .i64 v.x, .int .i64 v.y, .int .i64 v.z, .int .i64 v.w]) (.int .i64 0)).run Try.prog w = .ok (.int .i64 v.x) w ∧
    (Instr.index 22 (.agg #[.int .i64 v.x, .int .i64 v.y, .int .i64 v.z, .int .i64 v.w]) (.int .i64 1)).run Try.prog w = .ok (.int .i64 v.y) w ∧
    (Instr.index 22 (.agg #[.int .i64 v.x, .int .i64 v.y, .int .i64 v.z, .int .i64 v.w]) (.int .i64 2)).run Try.prog w = .ok (.int .i64 v.z) w ∧
    (Instr.index 22 (.agg #[.int .i64 v.x, .int .i64 v.y, .int .i64 v.z, .int .i64 v.w]) (.int .i64 3)).run Try.prog w = .ok (.int .i64 v.w) w := ⟨by kernel_rfl, by kernel_rfl, by kernel_rfl, by kernel_rfl⟩
theorem index_c (v : Vx) (w : World) : ∀ k : Nat, k < 4 → (Instr.index 23 (.agg #[.int .i64 v.c0, .int .i64 v.c1, .int .i64 v.c2, .int .i64 v.c3]) (.int .i64 (k : Int))).run Try.prog w = .ok (.int .i64 (v.c k)) w :=
  four_cases ⟨by kernel_rfl, by kernel_rfl, by kernel_rfl, by kernel_rfl⟩
theorem index_p (s : Sd) (w : World) : ∀ k : Nat, k < 4 → (Instr.index 22 (.agg #[.int .i64 s.p0, .int .i64 s.p1, .int .i64 s.p2, .int .i64 s.p3]) (.int .i64 (k : Int))).run Try.prog w = .ok (.int .i64 (s.p k)) w :=
  four_cases ⟨by kernel_rfl, by kernel_rfl, by kernel_rfl, by kernel_rfl⟩

def inMost (n m : Int) : Prop := -m ≤ n ∧ n ≤ m
theorem far_no (n m : Int) (w : World) (m0 : 0 ≤ m) (m1 : m ≤ 68719476736) (h : inMost n m) : Calls Try.prog 38 #[.int .i64 n, .int .i64 m] w fun e w' => e = .returned (.bool false) ∧ w = w' := by
  obtain ⟨h1, h2⟩ := h
  have d1 : decide (n > m) = false := by simp; omega
  have d2 : decide (n < -m) = false := by simp; omega
  go_enter Try.func38, Try.ntmps38
  go_wp2
  go_ret
  exact ⟨rfl, rfl⟩
theorem far_yes (n m : Int) (w : World) (m0 : 0 ≤ m) (m1 : m ≤ 68719476736) (h : ¬ inMost n m) : Calls Try.prog 38 #[.int .i64 n, .int .i64 m] w fun e w' => e = .returned (.bool true) ∧ w = w' := by
  by_cases d : n > m
  · have d1 : decide (n > m) = true := by simp; omega
    go_enter Try.func38, Try.ntmps38
    go_wp2
    go_ret
    exact ⟨rfl, rfl⟩
  · have d1 : decide (n > m) = false := by simp; omega
    have d2 : decide (n < -m) = true := by simp only [decide_eq_true_eq]; unfold inMost at h; omega
    go_enter Try.func38, Try.ntmps38
    go_wp2
    go_ret
    exact ⟨rfl, rfl⟩
theorem within_yes (n a b : Int) (w : World) (h1 : a ≤ n) (h2 : n ≤ b) : Calls Try.prog 42 #[.int .i64 n, .int .i64 a, .int .i64 b] w fun e w' => e = .returned (.bool true) ∧ w = w' := by
  have d1 : decide (n ≥ a) = true := by simp; omega
  have d2 : decide (n ≤ b) = true := by simp; omega
  go_enter Try.func42, Try.ntmps42
  go_wp2
  go_ret
  exact ⟨rfl, rfl⟩
theorem within_no (n a b : Int) (w : World) (h : ¬ (a ≤ n ∧ n ≤ b)) : Calls Try.prog 42 #[.int .i64 n, .int .i64 a, .int .i64 b] w fun e w' => e = .returned (.bool false) ∧ w = w' := by
  by_cases d : a ≤ n
  · have d1 : decide (n ≥ a) = true := by simp; omega
    have d2 : decide (n ≤ b) = false := by simp; omega
    go_enter Try.func42, Try.ntmps42
    go_wp2
    go_ret
    exact ⟨rfl, rfl⟩
  · have d1 : decide (n ≥ a) = false := by simp; omega
    go_enter Try.func42, Try.ntmps42
    go_wp2
    go_ret
    exact ⟨rfl, rfl⟩
theorem four_any (v : Vx) (w : World) : Calls Try.prog 22 #[v.v] w fun e w' => e = .returned (.agg #[.int .i64 v.x, .int .i64 v.y, .int .i64 v.z, .int .i64 v.w]) ∧ Ext w w' := by
  go_enter Try.func22, Try.ntmps22
  go_wp2
  go_returns
  exact ⟨rfl, by (repeat (first | with_reducible exact Ext.refl _ | with_reducible assumption | with_reducible refine Ext.alloc ?_ _ | with_reducible refine Ext.drew ?_ | with_reducible refine Ext.drewN ?_ _ | with_reducible refine Ext.later ?_ _ | (with_reducible refine Ext.setCell ?_ _ ?hp; case hp => first | (simp; done) | (simp; omega) | omega)))⟩
/-- Does a vertex fit? -/
def Vx.Fit (v : Vx) : Prop := (∀ k, k < 4 → inMost (v.e k) 68719476736) ∧ ∀ k, k < 4 → 0 ≤ v.c k ∧ v.c k ≤ 255

set_option maxHeartbeats 400000 in
theorem fits_yes (v : Vx) (w : World) (h : v.Fit) : Calls Try.prog 21 #[v.v] w fun e w' => e = .returned (.bool true) ∧ Ext w w' := by
  have H := Lib.hid h; clear h
  go_enter Try.func21, Try.ntmps21
  go_wp2_with fail
  refine (four_any v _).mono ?_
  rintro e w1 ⟨rfl, hE⟩
  obtain ⟨x1, rfl⟩ := Later.mk' hE
  clear hE
  go_wp2_with fail
  go_loop [4, 9] (fun _ i => ∃ k : Nat, k ≤ 4 ∧ i = .int .i64 k) (fun _ i => 4 - (intOf i).toNat)
  case atStart => exact ⟨0, by omega, rfl⟩
  case round =>
    obtain ⟨k, hk, rfl⟩ := hrel
    by_cases hlt : k < 4
    · have hi := fun W => index_e v W k hlt
      have H1 := Lib.hid (H.out.1 k hlt)
      go_wp2_with fail
      refine (far_no _ _ _ (by omega) (by omega) H1.out).mono ?_
      rintro e w1 ⟨rfl, rfl⟩
      go_wp2_with fail
      go_round
      case rel => exact ⟨k + 1, by omega, by go_num⟩
      case measure => simp [intOf]; omega
    · obtain rfl : k = 4 := by omega
      go_wp2_with fail
      go_loop [6, 17] (fun _ i => ∃ k : Nat, k ≤ 4 ∧ i = .int .i64 k) (fun _ i => 4 - (intOf i).toNat)
      case atStart => exact ⟨0, by omega, rfl⟩
      case round =>
        obtain ⟨k, hk, rfl⟩ := hrel
        by_cases hlt : k < 4
        · have hi := fun W => index_c v W k hlt
          obtain ⟨h1, h2⟩ := H.out.2 k hlt
          go_wp2_with fail
          go_round
          case rel => exact ⟨k + 1, by omega, by go_num⟩
          case measure => simp [intOf]; omega
        · obtain rfl : k = 4 := by omega
          go_wp2_with fail
          go_ret
          exact ⟨rfl, by (repeat (first | with_reducible exact Ext.refl _ | with_reducible assumption | with_reducible refine Ext.alloc ?_ _ | with_reducible refine Ext.drew ?_ | with_reducible refine Ext.drewN ?_ _ | with_reducible refine Ext.later ?_ _ | (with_reducible refine Ext.setCell ?_ _ ?hp; case hp => first | (simp; done) | (simp; omega) | omega)))⟩
end Go.Proofs.Ytibhfclkdbmmoaa
