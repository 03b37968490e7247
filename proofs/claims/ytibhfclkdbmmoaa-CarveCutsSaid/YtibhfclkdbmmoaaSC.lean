/- Proof text: which sides may be by the document, and how far in a vertex is. By an AI agent. No condition beyond what each theorem states. -/
import Derived.Test.YtibhfclkdbmmoaaSB
set_option linter.unusedVariables false
set_option linter.unusedSimpArgs false
namespace Go.Proofs.Ytibhfclkdbmmoaa
open Go.RowKit
set_option maxHeartbeats 2000000 in
theorem rright_yes (s : Sd) (w : World) (h : s.Ok) : Calls Try.prog 28 #[s.v] w fun e w' => e = .returned (.bool true) ∧ Ext w w' := by
  have hk03 : 0 ≤ s.k ∧ s.k ≤ 3 := by
    rcases h with ⟨h3, h⟩ | ⟨h3, h1, h⟩ <;> omega
  have HK := Lib.hid hk03; clear hk03
  rcases h with ⟨h3, h⟩ | ⟨h3, h1, h⟩
  · have H := Lib.hid h; clear h
    have d0 : (s.k != 3) = false := by simp [h3]
    clear h3
    go_enter Try.func28, Try.ntmps28
    go_wp2_with fail
    go_loop [3] (fun i => ∃ k : Nat, k ≤ 4 ∧ i = .int .i64 k) (fun i => 4 - (intOf i).toNat)
    case atStart => exact ⟨0, by omega, rfl⟩
    case round =>
      obtain ⟨k, hk, rfl⟩ := hrel
      by_cases hlt : k < 4
      · have H1 := Lib.hid (H.out k hlt)
        have hk4 : k = 0 ∨ k = 1 ∨ k = 2 ∨ k = 3 := by omega
        rcases hk4 with rfl | rfl | rfl | rfl
        all_goals
          clear hk hlt
          go_wp2_with fail
          refine (within_yes _ (-32768) 32768 _ H1.out.1 H1.out.2).mono ?_
          rintro e w1 ⟨rfl, rfl⟩
          go_wp2_with fail
          go_round
          case rel => first | exact ⟨1, by decide, rfl⟩ | exact ⟨2, by decide, rfl⟩ | exact ⟨3, by decide, rfl⟩ | exact ⟨4, by decide, rfl⟩
          case measure => simp [intOf]
      · obtain rfl : k = 4 := by omega
        go_wp2_with fail
        refine (within_yes s.k 0 3 _ HK.out.1 HK.out.2).mono ?_
        rintro e w1 ⟨rfl, rfl⟩
        go_wp2_with fail
        go_ret
        exact ⟨rfl, by (repeat (first | with_reducible exact Ext.refl _ | with_reducible assumption | with_reducible refine Ext.alloc ?_ _ | with_reducible refine Ext.drew ?_ | with_reducible refine Ext.drewN ?_ _ | with_reducible refine Ext.later ?_ _ | (with_reducible refine Ext.setCell ?_ _ ?hp; case hp => first | (simp; done) | (simp; omega) | omega)))⟩
  · have H := Lib.hid h; clear h
    have d0 : (s.k != 3) = true := by simpa using h3
    clear h1 h3
    go_enter Try.func28, Try.ntmps28
    go_wp2_with fail
    go_loop [3] (fun i => ∃ k : Nat, k ≤ 4 ∧ i = .int .i64 k) (fun i => 4 - (intOf i).toNat)
    case atStart => exact ⟨0, by omega, rfl⟩
    case round =>
      obtain ⟨k, hk, rfl⟩ := hrel
      by_cases hlt : k < 4
      · have z0 : (s.p0 != 0) = false := by have := H.out 0 (by omega); simpa [Sd.p] using this
        have z1 : (s.p1 != 0) = false := by have := H.out 1 (by omega); simpa [Sd.p] using this
        have z2 : (s.p2 != 0) = false := by have := H.out 2 (by omega); simpa [Sd.p] using this
        have z3 : (s.p3 != 0) = false := by have := H.out 3 (by omega); simpa [Sd.p] using this
        have H1 : Hid (-32768 ≤ s.p k ∧ s.p k ≤ 32768) := Lib.hid (by rw [H.out k hlt]; omega)
        have hk4 : k = 0 ∨ k = 1 ∨ k = 2 ∨ k = 3 := by omega
        rcases hk4 with rfl | rfl | rfl | rfl
        all_goals
          clear hk hlt
          go_wp2_with fail
          refine (within_yes _ (-32768) 32768 _ H1.out.1 H1.out.2).mono ?_
          rintro e w1 ⟨rfl, rfl⟩
          go_wp2_with fail
          go_round
          case rel => first | exact ⟨1, by decide, rfl⟩ | exact ⟨2, by decide, rfl⟩ | exact ⟨3, by decide, rfl⟩ | exact ⟨4, by decide, rfl⟩
          case measure => simp [intOf]
      · obtain rfl : k = 4 := by omega
        go_wp2_with fail
        refine (within_yes s.k 0 3 _ HK.out.1 HK.out.2).mono ?_
        rintro e w1 ⟨rfl, rfl⟩
        go_wp2_with fail
        go_ret
        exact ⟨rfl, by (repeat (first | with_reducible exact Ext.refl _ | with_reducible assumption | with_reducible refine Ext.alloc ?_ _ | with_reducible refine Ext.drew ?_ | with_reducible refine Ext.drewN ?_ _ | with_reducible refine Ext.later ?_ _ | (with_reducible refine Ext.setCell ?_ _ ?hp; case hp => first | (simp; done) | (simp; omega) | omega)))⟩
set_option maxHeartbeats 2000000 in
theorem rright_no3 (s : Sd) (w : World) (d0 : (s.k != 3) = false) (H : Hid ((∀ j, j < 4 → inMost (s.p j) 32768) → False)) : Calls Try.prog 28 #[s.v] w fun e w' => e = .returned (.bool false) ∧ Ext w w' := by
  go_enter Try.func28, Try.ntmps28
  go_wp2_with fail
  go_loop [3] (fun i => ∃ k : Nat, k ≤ 4 ∧ i = .int .i64 k ∧ Hid (∀ j, j < k → inMost (s.p j) 32768)) (fun i => 4 - (intOf i).toNat)
  case atStart => exact ⟨0, by omega, rfl, Lib.hid (by intro j hj; omega)⟩
  case round =>
    obtain ⟨k, hk, rfl, HJ⟩ := hrel
    by_cases hlt : k < 4
    · have hk4 : k = 0 ∨ k = 1 ∨ k = 2 ∨ k = 3 := by omega
      by_cases h1 : -32768 ≤ s.p k ∧ s.p k ≤ 32768
      · have H1 := Lib.hid h1; clear h1
        have HN := Lib.hid (upto HJ.out H1.out)
        rcases hk4 with rfl | rfl | rfl | rfl
        all_goals
          clear hk hlt
          go_wp2_with fail
          refine (within_yes _ (-32768) 32768 _ H1.out.1 H1.out.2).mono ?_
          rintro e w1 ⟨rfl, rfl⟩
          go_wp2_with fail
          go_round
          case rel => first | exact ⟨1, by decide, rfl, HN⟩ | exact ⟨2, by decide, rfl, HN⟩ | exact ⟨3, by decide, rfl, HN⟩ | exact ⟨4, by decide, rfl, HN⟩
          case measure => simp [intOf]
      · have H1 := Lib.hid h1; clear h1
        rcases hk4 with rfl | rfl | rfl | rfl
        all_goals
          clear hk hlt
          go_wp2_with fail
          refine (within_no _ (-32768) 32768 _ H1.out).mono ?_
          rintro e w1 ⟨rfl, rfl⟩
          go_wp2_with fail
          go_ret
          exact ⟨rfl, by (repeat (first | with_reducible exact Ext.refl _ | with_reducible assumption | with_reducible refine Ext.alloc ?_ _ | with_reducible refine Ext.drew ?_ | with_reducible refine Ext.drewN ?_ _ | with_reducible refine Ext.later ?_ _ | (with_reducible refine Ext.setCell ?_ _ ?hp; case hp => first | (simp; done) | (simp; omega) | omega)))⟩
    · obtain rfl : k = 4 := by omega
      exact (H.out HJ.out).elim
set_option maxHeartbeats 2000000 in
theorem rright_no (s : Sd) (w : World) (h : ¬ s.Ok) : Calls Try.prog 28 #[s.v] w fun e w' => e = .returned (.bool false) ∧ Ext w w' := by
  by_cases h3 : s.k = 3
  · exact rright_no3 s w (by simp [h3]) (Lib.hid (fun hh => h (.inl ⟨h3, hh⟩)))
  have d0 : (s.k != 3) = true := by simpa using h3
  have HF : Hid ((∀ j, j < 4 → s.p j = 0) → ¬ (0 ≤ s.k ∧ s.k ≤ 3)) := Lib.hid (fun hp hc => h (.inr ⟨h3, by omega, hp⟩))
  clear h h3
  go_enter Try.func28, Try.ntmps28
  go_wp2_with fail
  go_loop [3] (fun i => ∃ k : Nat, k ≤ 4 ∧ i = .int .i64 k ∧ Hid (∀ j, j < k → s.p j = 0)) (fun i => 4 - (intOf i).toNat)
  case atStart => exact ⟨0, by omega, rfl, Lib.hid (by intro j hj; omega)⟩
  case round =>
    obtain ⟨k, hk, rfl, HJ⟩ := hrel
    by_cases hlt : k < 4
    · have hk4 : k = 0 ∨ k = 1 ∨ k = 2 ∨ k = 3 := by omega
      by_cases h1 : -32768 ≤ s.p k ∧ s.p k ≤ 32768
      · have H1 := Lib.hid h1; clear h1
        by_cases hz : s.p k = 0
        · have HN := Lib.hid (upto HJ.out hz)
          have dz : (s.p k != 0) = false := by simpa using hz
          clear hz
          rcases hk4 with rfl | rfl | rfl | rfl
          all_goals
            clear hk hlt
            simp only [Sd.p] at dz
            go_wp2_with fail
            refine (within_yes _ (-32768) 32768 _ H1.out.1 H1.out.2).mono ?_
            rintro e w1 ⟨rfl, rfl⟩
            go_wp2_with fail
            go_round
            case rel => first | exact ⟨1, by decide, rfl, HN⟩ | exact ⟨2, by decide, rfl, HN⟩ | exact ⟨3, by decide, rfl, HN⟩ | exact ⟨4, by decide, rfl, HN⟩
            case measure => simp [intOf]
        · have dz : (s.p k != 0) = true := by simpa using hz
          clear hz
          rcases hk4 with rfl | rfl | rfl | rfl
          all_goals
            clear hk hlt
            simp only [Sd.p] at dz
            go_wp2_with fail
            refine (within_yes _ (-32768) 32768 _ H1.out.1 H1.out.2).mono ?_
            rintro e w1 ⟨rfl, rfl⟩
            go_wp2_with fail
            go_ret
            exact ⟨rfl, by (repeat (first | with_reducible exact Ext.refl _ | with_reducible assumption | with_reducible refine Ext.alloc ?_ _ | with_reducible refine Ext.drew ?_ | with_reducible refine Ext.drewN ?_ _ | with_reducible refine Ext.later ?_ _ | (with_reducible refine Ext.setCell ?_ _ ?hp; case hp => first | (simp; done) | (simp; omega) | omega)))⟩
      · have H1 := Lib.hid h1; clear h1
        rcases hk4 with rfl | rfl | rfl | rfl
        all_goals
          clear hk hlt
          go_wp2_with fail
          refine (within_no _ (-32768) 32768 _ H1.out).mono ?_
          rintro e w1 ⟨rfl, rfl⟩
          go_wp2_with fail
          go_ret
          exact ⟨rfl, by (repeat (first | with_reducible exact Ext.refl _ | with_reducible assumption | with_reducible refine Ext.alloc ?_ _ | with_reducible refine Ext.drew ?_ | with_reducible refine Ext.drewN ?_ _ | with_reducible refine Ext.later ?_ _ | (with_reducible refine Ext.setCell ?_ _ ?hp; case hp => first | (simp; done) | (simp; omega) | omega)))⟩
    · obtain rfl : k = 4 := by omega
      go_wp2_with fail
      refine (within_no s.k 0 3 _ (HF.out HJ.out)).mono ?_
      rintro e w1 ⟨rfl, rfl⟩
      go_wp2_with fail
      go_ret
      exact ⟨rfl, by (repeat (first | with_reducible exact Ext.refl _ | with_reducible assumption | with_reducible refine Ext.alloc ?_ _ | with_reducible refine Ext.drew ?_ | with_reducible refine Ext.drewN ?_ _ | with_reducible refine Ext.later ?_ _ | (with_reducible refine Ext.setCell ?_ _ ?hp; case hp => first | (simp; done) | (simp; omega) | omega)))⟩
end Go.Proofs.Ytibhfclkdbmmoaa
