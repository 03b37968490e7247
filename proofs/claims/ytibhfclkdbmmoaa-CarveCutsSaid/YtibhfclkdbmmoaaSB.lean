/- Proof text: which vertices and sides may be (packages side, rastrumref08). By an AI agent. No condition beyond what each theorem states. -/
import Derived.Test.YtibhfclkdbmmoaaEq
set_option linter.unusedVariables false
set_option linter.unusedSimpArgs false
namespace Go.Proofs.Ytibhfclkdbmmoaa
open Go.RowKit
set_option maxHeartbeats 400000 in
theorem fits_no (v : Vx) (w : World) (h : ¬ v.Fit) : Calls Try.prog 21 #[v.v] w fun e w' => e = .returned (.bool false) ∧ Ext w w' := by
  have H := Lib.hid h; clear h
  go_enter Try.func21, Try.ntmps21
  go_wp2_with fail
  refine (four_any v _).mono ?_
  rintro e w1 ⟨rfl, hE⟩
  obtain ⟨x1, rfl⟩ := Later.mk' hE
  clear hE
  go_wp2_with fail
  go_loop [4, 9] (fun _ i => ∃ k : Nat, k ≤ 4 ∧ i = .int .i64 k ∧ Hid (∀ j, j < k → inMost (v.e j) 68719476736)) (fun _ i => 4 - (intOf i).toNat)
  case atStart => exact ⟨0, by omega, rfl, Lib.hid (by intro j hj; omega)⟩
  case round =>
    obtain ⟨k, hk, rfl, HJ⟩ := hrel
    by_cases hlt : k < 4
    · have hi := fun W => index_e v W k hlt
      by_cases h1 : inMost (v.e k) 68719476736
      · have H1 := Lib.hid h1; clear h1
        go_wp2_with fail
        refine (far_no _ _ _ (by omega) (by omega) H1.out).mono ?_
        rintro e w1 ⟨rfl, rfl⟩
        go_wp2_with fail
        go_round
        case rel => exact ⟨k + 1, by omega, by go_num, Lib.hid (upto HJ.out H1.out)⟩
        case measure => simp [intOf]; omega
      · have H1 := Lib.hid h1; clear h1
        go_wp2_with fail
        refine (far_yes _ _ _ (by omega) (by omega) H1.out).mono ?_
        rintro e w1 ⟨rfl, rfl⟩
        go_wp2_with fail
        go_ret
        exact ⟨rfl, by (repeat (first | with_reducible exact Ext.refl _ | with_reducible assumption | with_reducible refine Ext.alloc ?_ _ | with_reducible refine Ext.drew ?_ | with_reducible refine Ext.drewN ?_ _ | with_reducible refine Ext.later ?_ _ | (with_reducible refine Ext.setCell ?_ _ ?hp; case hp => first | (simp; done) | (simp; omega) | omega)))⟩
    · obtain rfl : k = 4 := by omega
      go_wp2_with fail
      go_loop [6, 17] (fun _ i => ∃ k : Nat, k ≤ 4 ∧ i = .int .i64 k ∧ Hid (∀ j, j < k → 0 ≤ v.c j ∧ v.c j ≤ 255)) (fun _ i => 4 - (intOf i).toNat)
      case atStart => exact ⟨0, by omega, rfl, Lib.hid (by intro j hj; omega)⟩
      case round =>
        obtain ⟨k, hk, rfl, HC⟩ := hrel
        by_cases hlt : k < 4
        · have hi := fun W => index_c v W k hlt
          by_cases h1 : v.c k < 0
          · have d1 : decide (v.c k < 0) = true := by simpa using h1
            go_wp2_with fail
            go_ret
            exact ⟨rfl, by (repeat (first | with_reducible exact Ext.refl _ | with_reducible assumption | with_reducible refine Ext.alloc ?_ _ | with_reducible refine Ext.drew ?_ | with_reducible refine Ext.drewN ?_ _ | with_reducible refine Ext.later ?_ _ | (with_reducible refine Ext.setCell ?_ _ ?hp; case hp => first | (simp; done) | (simp; omega) | omega)))⟩
          · by_cases h2 : v.c k > 255
            · have d1 : decide (v.c k < 0) = false := by simpa using h1
              have d2 : decide (v.c k > 255) = true := by simpa using h2
              go_wp2_with fail
              go_ret
              exact ⟨rfl, by (repeat (first | with_reducible exact Ext.refl _ | with_reducible assumption | with_reducible refine Ext.alloc ?_ _ | with_reducible refine Ext.drew ?_ | with_reducible refine Ext.drewN ?_ _ | with_reducible refine Ext.later ?_ _ | (with_reducible refine Ext.setCell ?_ _ ?hp; case hp => first | (simp; done) | (simp; omega) | omega)))⟩
            · go_wp2_with fail
              go_round
              case rel => exact ⟨k + 1, by omega, by go_num, Lib.hid (upto HC.out (by omega))⟩
              case measure => simp [intOf]; omega
        · obtain rfl : k = 4 := by omega
          exact absurd ⟨HJ.out, HC.out⟩ H.out

theorem get_e (v : Vx) : ∀ (k : Nat) (h : k < 4), [Value.int .i64 v.x, .int .i64 v.y, .int .i64 v.z, .int .i64 v.w][k]'h = .int .i64 (v.e k)
  | 0, _ => rfl
  | 1, _ => rfl
  | 2, _ => rfl
  | 3, _ => rfl
  | k + 4, h => by omega
theorem get_c (v : Vx) : ∀ (k : Nat) (h : k < 4), [Value.int .i64 v.c0, .int .i64 v.c1, .int .i64 v.c2, .int .i64 v.c3][k]'h = .int .i64 (v.c k)
  | 0, _ => rfl
  | 1, _ => rfl
  | 2, _ => rfl
  | 3, _ => rfl
  | k + 4, h => by omega
theorem get_p (s : Sd) : ∀ (k : Nat) (h : k < 4), [Value.int .i64 s.p0, .int .i64 s.p1, .int .i64 s.p2, .int .i64 s.p3][k]'h = .int .i64 (s.p k)
  | 0, _ => rfl
  | 1, _ => rfl
  | 2, _ => rfl
  | 3, _ => rfl
  | k + 4, h => by omega

set_option maxHeartbeats 1000000 in
theorem rfits_yes (v : Vx) (w : World) (h : v.Fit) : Calls Try.prog 24 #[v.v] w fun e w' => e = .returned (.bool true) ∧ Ext w w' := by
  have H := Lib.hid h; clear h
  go_enter Try.func24, Try.ntmps24
  go_wp2_with fail
  go_loop [4] (fun i => ∃ k : Nat, k ≤ 4 ∧ i = .int .i64 k) (fun i => 4 - (intOf i).toNat)
  case atStart => exact ⟨0, by omega, rfl⟩
  case round =>
    obtain ⟨k, hk, rfl⟩ := hrel
    by_cases hlt : k < 4
    · have H1 := Lib.hid (H.out.1 k hlt)
      have H2 := Lib.hid (H.out.2 k hlt)
      have hk4 : k = 0 ∨ k = 1 ∨ k = 2 ∨ k = 3 := by omega
      rcases hk4 with rfl | rfl | rfl | rfl
      all_goals
        clear hk hlt
        go_wp2_with fail
        refine (within_yes _ (-68719476736) 68719476736 _ H1.out.1 H1.out.2).mono ?_
        rintro e w1 ⟨rfl, rfl⟩
        go_wp2_with fail
        refine (within_yes _ 0 255 _ H2.out.1 H2.out.2).mono ?_
        rintro e w1 ⟨rfl, rfl⟩
        go_wp2_with fail
        go_round
        case rel => first | exact ⟨1, by decide, rfl⟩ | exact ⟨2, by decide, rfl⟩ | exact ⟨3, by decide, rfl⟩ | exact ⟨4, by decide, rfl⟩
        case measure => simp [intOf]
    · obtain rfl : k = 4 := by omega
      go_wp2_with fail
      go_ret
      exact ⟨rfl, by (repeat (first | with_reducible exact Ext.refl _ | with_reducible assumption | with_reducible refine Ext.alloc ?_ _ | with_reducible refine Ext.drew ?_ | with_reducible refine Ext.drewN ?_ _ | with_reducible refine Ext.later ?_ _ | (with_reducible refine Ext.setCell ?_ _ ?hp; case hp => first | (simp; done) | (simp; omega) | omega)))⟩

set_option maxHeartbeats 2000000 in
theorem rfits_no (v : Vx) (w : World) (h : ¬ v.Fit) : Calls Try.prog 24 #[v.v] w fun e w' => e = .returned (.bool false) ∧ Ext w w' := by
  have H := Lib.hid h; clear h
  go_enter Try.func24, Try.ntmps24
  go_wp2_with fail
  go_loop [4] (fun i => ∃ k : Nat, k ≤ 4 ∧ i = .int .i64 k ∧ Hid (∀ j, j < k → inMost (v.e j) 68719476736 ∧ 0 ≤ v.c j ∧ v.c j ≤ 255)) (fun i => 4 - (intOf i).toNat)
  case atStart => exact ⟨0, by omega, rfl, Lib.hid (by intro j hj; omega)⟩
  case round =>
    obtain ⟨k, hk, rfl, HJ⟩ := hrel
    by_cases hlt : k < 4
    · have hk4 : k = 0 ∨ k = 1 ∨ k = 2 ∨ k = 3 := by omega
      by_cases h1 : -68719476736 ≤ v.e k ∧ v.e k ≤ 68719476736
      · have H1 := Lib.hid h1; clear h1
        by_cases h2 : 0 ≤ v.c k ∧ v.c k ≤ 255
        · have H2 := Lib.hid h2; clear h2
          have HN := Lib.hid (upto HJ.out ⟨H1.out, H2.out⟩)
          rcases hk4 with rfl | rfl | rfl | rfl
          all_goals
            clear hk hlt
            go_wp2_with fail
            refine (within_yes _ (-68719476736) 68719476736 _ H1.out.1 H1.out.2).mono ?_
            rintro e w1 ⟨rfl, rfl⟩
            go_wp2_with fail
            refine (within_yes _ 0 255 _ H2.out.1 H2.out.2).mono ?_
            rintro e w1 ⟨rfl, rfl⟩
            go_wp2_with fail
            go_round
            case rel => first | exact ⟨1, by decide, rfl, HN⟩ | exact ⟨2, by decide, rfl, HN⟩ | exact ⟨3, by decide, rfl, HN⟩ | exact ⟨4, by decide, rfl, HN⟩
            case measure => simp [intOf]
        · have H2 := Lib.hid h2; clear h2
          rcases hk4 with rfl | rfl | rfl | rfl
          all_goals
            clear hk hlt
            go_wp2_with fail
            refine (within_yes _ (-68719476736) 68719476736 _ H1.out.1 H1.out.2).mono ?_
            rintro e w1 ⟨rfl, rfl⟩
            go_wp2_with fail
            refine (within_no _ 0 255 _ H2.out).mono ?_
            rintro e w1 ⟨rfl, rfl⟩
            go_wp2_with fail
            go_ret
            exact ⟨rfl, by (repeat (first | with_reducible exact Ext.refl _ | with_reducible assumption | with_reducible refine Ext.alloc ?_ _ | with_reducible refine Ext.drew ?_ | with_reducible refine Ext.drewN ?_ _ | with_reducible refine Ext.later ?_ _ | (with_reducible refine Ext.setCell ?_ _ ?hp; case hp => first | (simp; done) | (simp; omega) | omega)))⟩
      · have H1 := Lib.hid h1; clear h1
        rcases hk4 with rfl | rfl | rfl | rfl
        all_goals
          clear hk hlt
          go_wp2_with fail
          refine (within_no _ (-68719476736) 68719476736 _ H1.out).mono ?_
          rintro e w1 ⟨rfl, rfl⟩
          go_wp2_with fail
          go_ret
          exact ⟨rfl, by (repeat (first | with_reducible exact Ext.refl _ | with_reducible assumption | with_reducible refine Ext.alloc ?_ _ | with_reducible refine Ext.drew ?_ | with_reducible refine Ext.drewN ?_ _ | with_reducible refine Ext.later ?_ _ | (with_reducible refine Ext.setCell ?_ _ ?hp; case hp => first | (simp; done) | (simp; omega) | omega)))⟩
    · obtain rfl : k = 4 := by omega
      exact absurd ⟨fun j hj => (HJ.out j hj).1, fun j hj => (HJ.out j hj).2⟩ H.out

/-- May a side be? -/
def Sd.Ok (s : Sd) : Prop := (s.k = 3 ∧ ∀ j, j < 4 → inMost (s.p j) 32768) ∨ (s.k ≠ 3 ∧ (0 ≤ s.k ∧ s.k < 3) ∧ ∀ j, j < 4 → s.p j = 0)
theorem p_zero {s : Sd} (h : ∀ j, j < 4 → s.p j = 0) : (s.p0 == 0 && (s.p1 == 0 && (s.p2 == 0 && s.p3 == 0))) = true := by
  have h0 := h 0 (by omega); have h1 := h 1 (by omega); have h2 := h 2 (by omega); have h3 := h 3 (by omega)
  simp only [Sd.p] at h0 h1 h2 h3
  simp [h0, h1, h2, h3]
theorem p_nought {s : Sd} (h : ¬ ∀ j, j < 4 → s.p j = 0) : (s.p0 == 0 && (s.p1 == 0 && (s.p2 == 0 && s.p3 == 0))) = false := by
  rw [Bool.eq_false_iff]
  intro hc
  simp at hc
  exact h (four_cases ⟨hc.1, hc.2.1, hc.2.2.1, hc.2.2.2⟩)
theorem right_yes (s : Sd) (w : World) (h : s.Ok) : Calls Try.prog 50 #[s.v] w fun e w' => e = .returned (.bool true) ∧ Ext w w' := by
  rcases h with ⟨h3, h⟩ | ⟨h3, h1, h⟩
  · have H := Lib.hid h; clear h
    have d0 : (s.k != 3) = false := by simp [h3]
    have H3 := Lib.hid h3; clear h3
    go_enter Try.func50, Try.ntmps50
    go_wp2_with fail
    go_loop [4, 24] (fun _ i => ∃ k : Nat, k ≤ 4 ∧ i = .int .i64 k) (fun _ i => 4 - (intOf i).toNat)
    case atStart => exact ⟨0, by omega, rfl⟩
    case round =>
      obtain ⟨k, hk, rfl⟩ := hrel
      by_cases hlt : k < 4
      · have hi := fun W => index_p s W k hlt
        have H1 := Lib.hid (H.out k hlt)
        go_wp2_with fail
        refine (far_no _ _ _ (by omega) (by omega) H1.out).mono ?_
        rintro e w1 ⟨rfl, rfl⟩
        go_wp2_with fail
        go_round
        case rel => exact ⟨k + 1, by omega, by go_num⟩
        case measure => simp [intOf]; omega
      · obtain rfl : k = 4 := by omega
        go_wp2_with fail
        go_ret
        exact ⟨rfl, by (repeat (first | with_reducible exact Ext.refl _ | with_reducible assumption | with_reducible refine Ext.alloc ?_ _ | with_reducible refine Ext.drew ?_ | with_reducible refine Ext.drewN ?_ _ | with_reducible refine Ext.later ?_ _ | (with_reducible refine Ext.setCell ?_ _ ?hp; case hp => first | (simp; done) | (simp; omega) | omega)))⟩
  · have d0 : (s.k != 3) = true := by simpa using h3
    have d1 : decide (s.k ≥ 0) = true := by simp; omega
    have d2 : decide (s.k < 3) = true := by simp; omega
    have he := fun W => eq_arr s.p0 s.p1 s.p2 s.p3 0 0 0 0 W
    rw [p_zero h] at he
    clear h h1 h3
    go_enter Try.func50, Try.ntmps50
    go_wp2_with fail
    go_ret
    exact ⟨rfl, by (repeat (first | with_reducible exact Ext.refl _ | with_reducible assumption | with_reducible refine Ext.alloc ?_ _ | with_reducible refine Ext.drew ?_ | with_reducible refine Ext.drewN ?_ _ | with_reducible refine Ext.later ?_ _ | (with_reducible refine Ext.setCell ?_ _ ?hp; case hp => first | (simp; done) | (simp; omega) | omega)))⟩
theorem right_no (s : Sd) (w : World) (h : ¬ s.Ok) : Calls Try.prog 50 #[s.v] w fun e w' => e = .returned (.bool false) ∧ Ext w w' := by
  by_cases h3 : s.k = 3
  · have H := Lib.hid (fun hh => h (.inl ⟨h3, hh⟩)); clear h
    have d0 : (s.k != 3) = false := by simp [h3]
    have H3 := Lib.hid h3; clear h3
    go_enter Try.func50, Try.ntmps50
    go_wp2_with fail
    go_loop [4, 24] (fun _ i => ∃ k : Nat, k ≤ 4 ∧ i = .int .i64 k ∧ Hid (∀ j, j < k → inMost (s.p j) 32768)) (fun _ i => 4 - (intOf i).toNat)
    case atStart => exact ⟨0, by omega, rfl, Lib.hid (by intro j hj; omega)⟩
    case round =>
      obtain ⟨k, hk, rfl, HJ⟩ := hrel
      by_cases hlt : k < 4
      · have hi := fun W => index_p s W k hlt
        by_cases h1 : inMost (s.p k) 32768
        · have H1 := Lib.hid h1; clear h1
          go_wp2_with fail
          refine (far_no _ _ _ (by omega) (by omega) H1.out).mono ?_
          rintro e w1 ⟨rfl, rfl⟩
          go_wp2_with fail
          go_round
          case rel => exact ⟨k + 1, by omega, by go_num, Lib.hid (upto HJ.out H1.out)⟩
          case measure => simp [intOf]; omega
        · have H1 := Lib.hid h1; clear h1
          go_wp2_with fail
          refine (far_yes _ _ _ (by omega) (by omega) H1.out).mono ?_
          rintro e w1 ⟨rfl, rfl⟩
          go_wp2_with fail
          go_ret
          exact ⟨rfl, by (repeat (first | with_reducible exact Ext.refl _ | with_reducible assumption | with_reducible refine Ext.alloc ?_ _ | with_reducible refine Ext.drew ?_ | with_reducible refine Ext.drewN ?_ _ | with_reducible refine Ext.later ?_ _ | (with_reducible refine Ext.setCell ?_ _ ?hp; case hp => first | (simp; done) | (simp; omega) | omega)))⟩
      · obtain rfl : k = 4 := by omega
        exact absurd HJ.out H.out
  · have d0 : (s.k != 3) = true := by simpa using h3
    by_cases h0 : 0 ≤ s.k
    · have d1 : decide (s.k ≥ 0) = true := by simp; omega
      by_cases h1 : s.k < 3
      · have d2 : decide (s.k < 3) = true := by simp; omega
        have he := fun W => eq_arr s.p0 s.p1 s.p2 s.p3 0 0 0 0 W
        rw [p_nought (fun hh => h (.inr ⟨h3, ⟨h0, h1⟩, hh⟩))] at he
        clear h h1 h3 h0
        go_enter Try.func50, Try.ntmps50
        go_wp2_with fail
        go_ret
        exact ⟨rfl, by (repeat (first | with_reducible exact Ext.refl _ | with_reducible assumption | with_reducible refine Ext.alloc ?_ _ | with_reducible refine Ext.drew ?_ | with_reducible refine Ext.drewN ?_ _ | with_reducible refine Ext.later ?_ _ | (with_reducible refine Ext.setCell ?_ _ ?hp; case hp => first | (simp; done) | (simp; omega) | omega)))⟩
      · have d2 : decide (s.k < 3) = false := by simp; omega
        clear h h1 h3 h0
        go_enter Try.func50, Try.ntmps50
        go_wp2_with fail
        go_ret
        exact ⟨rfl, by (repeat (first | with_reducible exact Ext.refl _ | with_reducible assumption | with_reducible refine Ext.alloc ?_ _ | with_reducible refine Ext.drew ?_ | with_reducible refine Ext.drewN ?_ _ | with_reducible refine Ext.later ?_ _ | (with_reducible refine Ext.setCell ?_ _ ?hp; case hp => first | (simp; done) | (simp; omega) | omega)))⟩
    · have d1 : decide (s.k ≥ 0) = false := by simp; omega
      clear h h3 h0
      go_enter Try.func50, Try.ntmps50
      go_wp2_with fail
      go_ret
      exact ⟨rfl, by (repeat (first | with_reducible exact Ext.refl _ | with_reducible assumption | with_reducible refine Ext.alloc ?_ _ | with_reducible refine Ext.drew ?_ | with_reducible refine Ext.drewN ?_ _ | with_reducible refine Ext.later ?_ _ | (with_reducible refine Ext.setCell ?_ _ ?hp; case hp => first | (simp; done) | (simp; omega) | omega)))⟩
end Go.Proofs.Ytibhfclkdbmmoaa
