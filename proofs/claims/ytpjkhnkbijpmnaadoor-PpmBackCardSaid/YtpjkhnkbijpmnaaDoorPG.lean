/- Proof text: which images may be (rastrumref23.Right, rastrumlaw28.small). By an AI agent. No condition beyond what each theorem states. -/
import Derived.Test.YtpjkhnkbijpmnaaDoorPF
set_option linter.unusedVariables false
set_option linter.unusedSimpArgs false
namespace Go.Proofs.YtpjkhnkbijpmnaaDoor
open Go.RowKit
/-- It says whether. -/
def IfP (P : Prop) (w : World) (e : Ending) (w' : World) : Prop := ∃ r : Bool, e = .returned (.bool r) ∧ (r = true ↔ P) ∧ Ext w w'
def PixOk (c z : Int) : Prop := (0 ≤ c ∧ c ≤ 4294967295) ∧ 0 ≤ z ∧ z ≤ 16777215
theorem pix_cases (c z : Int) : ¬ PixOk c z → decide (c < 0) = true ∨ (decide (c < 0) = false ∧ decide (c > 4294967295) = true) ∨ (decide (c < 0) = false ∧ decide (c > 4294967295) = false ∧ decide (z < 0) = true) ∨
    (decide (c < 0) = false ∧ decide (c > 4294967295) = false ∧ decide (z < 0) = false ∧ decide (z > 16777215) = true) := by
  intro h
  unfold PixOk at h
  simp only [decide_eq_true_eq, decide_eq_false_iff_not]
  omega
set_option maxRecDepth 10000 in
set_option maxHeartbeats 2000000 in
theorem rright_any (m : Im) (v : Value) (w : World) (hv : ImR w v m) :
    Calls Tryd.prog 14 #[v] w (IfP m.Ok w) := by
  obtain ⟨a, b, c, d, rfl, hC, hZ⟩ := hv
  have HC := Lib.hid hC; have HZ := Lib.hid hZ
  by_cases hin : 1 ≤ m.W ∧ m.W ≤ 1024 ∧ 1 ≤ m.H ∧ m.H ≤ 1024 ∧ (m.C.length : Int) = m.W * m.H ∧ (m.Z.length : Int) = m.W * m.H
  · obtain ⟨h1, h2, h3, h4, h5, h6⟩ := hin
    have hm2 : m.W * m.H ≤ 1048576 := by
      have : m.W * m.H ≤ 1024 * 1024 := Int.mul_le_mul h2 h4 (by omega) (by omega)
      omega
    have hm1 : 0 ≤ m.W * m.H := Int.mul_nonneg (by omega) (by omega)
    have d1 : decide (m.W < 1) = false := by simp; omega
    have d2 : decide (m.W > 1024) = false := by simp; omega
    have d3 : decide (m.H < 1) = false := by simp; omega
    have d4 : decide (m.H > 1024) = false := by simp; omega
    have d5 : ((m.C.length : Int) != m.W * m.H) = false := by simp; exact h5
    have d6 : ((m.Z.length : Int) != m.W * m.H) = false := by simp; exact h6
    obtain ⟨n, hn⟩ : ∃ n, n = m.C.length := ⟨_, rfl⟩
    have HN := Lib.hid hn
    have HZL : Hid (m.Z.length = n) := Lib.hid (by omega)
    have HIN := Lib.hid (And.intro h1 (And.intro h2 (And.intro h3 (And.intro h4 (And.intro h5 h6)))))
    have B1 := Lib.hid (Blk.new w 24 #[.int .i64 m.W, .int .i64 m.H, .slice a m.C.length c, .slice b m.Z.length d])
    have hnb : (n : Int) ≤ 1048576 := by omega
    clear hC hZ h5 h6
    go_enter Tryd.func14, Tryd.ntmps14
    go_wp2_with fail
    clear d1 d2 d3 d4 d5 d6 hm1 hm2 h1 h2 h3 h4
    go_loop [3] (fun i => ∃ j : Nat, j ≤ n ∧ i = .int .i64 j ∧ Hid (∀ k, k < j → PixOk (m.C.getD k 0) (m.Z.getD k 0))) (fun i => n - (intOf i).toNat)
    case atStart => exact ⟨0, Nat.zero_le _, rfl, Lib.hid (fun k hk => by omega)⟩
    case round =>
      obtain ⟨j, hj, rfl, HJ⟩ := hrel
      obtain ⟨-, -, p2, p3⟩ := B1.out.four
      by_cases hlt : j < n
      · have hC1 := HC.out.ext ((Ext.refl w).alloc (.cells #[.int .i64 m.W, .int .i64 m.H, .slice a m.C.length c, .slice b m.Z.length d] 24))
        have hZ1 := HZ.out.ext ((Ext.refl w).alloc (.cells #[.int .i64 m.W, .int .i64 m.H, .slice a m.C.length c, .slice b m.Z.length d] 24))
        obtain ⟨ba, oa, ha, -, -⟩ := hC1.at_ (by omega)
        obtain ⟨bb, ob, hb, -, -⟩ := hZ1.at_ (by have := HZL.out; omega)
        subst ha; subst hb
        have cc := int_at hC1 (j := j) (by omega)
        have cz := int_at hZ1 (j := j) (by have := HZL.out; omega)
        have i1 : j < m.C.length := by omega
        have i2 : j < m.Z.length := by have := HZL.out; omega
        obtain ⟨x, hx⟩ : ∃ x, x = m.C.getD j 0 := ⟨_, rfl⟩
        obtain ⟨z, hz⟩ : ∃ z, z = m.Z.getD j 0 := ⟨_, rfl⟩
        rw [← hx] at cc
        rw [← hz] at cz
        have HX := Lib.hid hx; have HZi := Lib.hid hz
        clear hC1 hZ1 hx hz
        by_cases hp : PixOk x z
        · have HP := Lib.hid hp
          obtain ⟨⟨q1, q2⟩, q3, q4⟩ := hp
          have t1 : decide (x < 0) = false := by simp; omega
          have t2 : decide (x > 4294967295) = false := by simp; omega
          have t3 : decide (z < 0) = false := by simp; omega
          have t4 : decide (z > 16777215) = false := by simp; omega
          clear q1 q2 q3 q4
          go_wp2_with fail
          go_round
          case rel => exact ⟨j + 1, by omega, by go_num, Lib.hid (fun k hk => by
            by_cases h : k < j
            · exact HJ.out k h
            · obtain rfl : k = j := by omega
              rw [← HX.out, ← HZi.out]; exact HP.out)⟩
          case measure => simp [intOf]; omega
        · have HP := Lib.hid hp
          rcases pix_cases x z hp with t1 | ⟨t1, t2⟩ | ⟨t1, t2, t3⟩ | ⟨t1, t2, t3, t4⟩
          all_goals
            clear hp
            go_wp2_with fail
            go_returns
            refine ⟨false, rfl, ⟨fun h => (by cases h), fun h => absurd ?_ HP.out⟩, by (repeat (first | with_reducible exact Ext.refl _ | with_reducible assumption | with_reducible refine Ext.alloc ?_ _ | with_reducible refine Ext.drew ?_ | with_reducible refine Ext.drewN ?_ _ | with_reducible refine Ext.later ?_ _ | (with_reducible refine Ext.setCell ?_ _ ?hp; case hp => first | (simp; done) | (simp; omega) | omega)))⟩
            have := h.2.2.2.2.2.2 j (by omega)
            rw [← HX.out, ← HZi.out] at this
            exact this
      · obtain rfl : j = n := by omega
        go_wp2_with fail
        go_returns
        refine ⟨true, rfl, ⟨fun _ => ?_, fun _ => rfl⟩, by (repeat (first | with_reducible exact Ext.refl _ | with_reducible assumption | with_reducible refine Ext.alloc ?_ _ | with_reducible refine Ext.drew ?_ | with_reducible refine Ext.drewN ?_ _ | with_reducible refine Ext.later ?_ _ | (with_reducible refine Ext.setCell ?_ _ ?hp; case hp => first | (simp; done) | (simp; omega) | omega)))⟩
        obtain ⟨g1, g2, g3, g4, g5, g6⟩ := HIN.out
        exact ⟨g1, g2, g3, g4, g5, g6, fun i hi => HJ.out i (by omega)⟩
  · have HNO : Hid (¬ m.Ok) := Lib.hid (fun h => hin ⟨h.1, h.2.1, h.2.2.1, h.2.2.2.1, h.2.2.2.2.1, h.2.2.2.2.2.1⟩)
    have hc : decide (m.W < 1) = true ∨ (decide (m.W < 1) = false ∧ decide (m.W > 1024) = true) ∨ (decide (m.W < 1) = false ∧ decide (m.W > 1024) = false ∧ decide (m.H < 1) = true) ∨
        (decide (m.W < 1) = false ∧ decide (m.W > 1024) = false ∧ decide (m.H < 1) = false ∧ decide (m.H > 1024) = true) ∨
        (decide (m.W < 1) = false ∧ decide (m.W > 1024) = false ∧ decide (m.H < 1) = false ∧ decide (m.H > 1024) = false ∧ ((m.C.length : Int) != m.W * m.H) = true ∧ 0 ≤ m.W * m.H ∧ m.W * m.H ≤ 1048576) ∨
        (decide (m.W < 1) = false ∧ decide (m.W > 1024) = false ∧ decide (m.H < 1) = false ∧ decide (m.H > 1024) = false ∧ ((m.C.length : Int) != m.W * m.H) = false ∧ ((m.Z.length : Int) != m.W * m.H) = true ∧ 0 ≤ m.W * m.H ∧ m.W * m.H ≤ 1048576) := by
      by_cases g1 : m.W < 1
      · exact .inl (by simpa using g1)
      by_cases g2 : m.W > 1024
      · exact .inr (.inl ⟨by simp; omega, by simpa using g2⟩)
      by_cases g3 : m.H < 1
      · exact .inr (.inr (.inl ⟨by simp; omega, by simp; omega, by simpa using g3⟩))
      by_cases g4 : m.H > 1024
      · exact .inr (.inr (.inr (.inl ⟨by simp; omega, by simp; omega, by simp; omega, by simpa using g4⟩)))
      have hm2 : m.W * m.H ≤ 1048576 := by
        have : m.W * m.H ≤ 1024 * 1024 := Int.mul_le_mul (by omega) (by omega) (by omega) (by omega)
        omega
      have hm1 : 0 ≤ m.W * m.H := Int.mul_nonneg (by omega) (by omega)
      by_cases g5 : (m.C.length : Int) = m.W * m.H
      · by_cases g6 : (m.Z.length : Int) = m.W * m.H
        · exact absurd ⟨by omega, by omega, by omega, by omega, g5, g6⟩ hin
        · exact .inr (.inr (.inr (.inr (.inr ⟨by simp; omega, by simp; omega, by simp; omega, by simp; omega, by simpa using g5, by simpa using g6, hm1, hm2⟩))))
      · exact .inr (.inr (.inr (.inr (.inl ⟨by simp; omega, by simp; omega, by simp; omega, by simp; omega, by simpa using g5, hm1, hm2⟩))))
    clear hin hC hZ
    rcases hc with d1 | ⟨d1, d2⟩ | ⟨d1, d2, d3⟩ | ⟨d1, d2, d3, d4⟩ | ⟨d1, d2, d3, d4, d5, hm1, hm2⟩ | ⟨d1, d2, d3, d4, d5, d6, hm1, hm2⟩
    all_goals
      go_enter Tryd.func14, Tryd.ntmps14
      go_wp2_with fail
      go_returns
      exact ⟨false, rfl, ⟨fun h => (by cases h), fun h => absurd h HNO.out⟩, by (repeat (first | with_reducible exact Ext.refl _ | with_reducible assumption | with_reducible refine Ext.alloc ?_ _ | with_reducible refine Ext.drew ?_ | with_reducible refine Ext.drewN ?_ _ | with_reducible refine Ext.later ?_ _ | (with_reducible refine Ext.setCell ?_ _ ?hp; case hp => first | (simp; done) | (simp; omega) | omega)))⟩
/-- Few enough pixels, of an image that may be. -/
def Im.Small (m : Im) : Prop := m.C.length ≤ 400 ∧ m.Z.length ≤ 400 ∧ m.Ok
set_option maxHeartbeats 1000000 in
theorem small_any (m : Im) (v : Value) (w : World) (hv : ImR w v m) :
    Calls Tryd.prog 8 #[v] w (IfP m.Small w) := by
  have HV := Lib.hid hv
  obtain ⟨a, b, c, d, rfl, hC, hZ⟩ := hv
  have RR := Lib.hid (rright_any m _ (w.alloc (.cells #[.int .i64 m.W, .int .i64 m.H, .slice a m.C.length c, .slice b m.Z.length d] 24)) (HV.out.ext ((Ext.refl w).alloc _)))
  clear hC hZ
  by_cases h1 : m.C.length ≤ 400
  · have t1 : decide ((m.C.length : Int) ≤ 400) = true := by simp; omega
    by_cases h2 : m.Z.length ≤ 400
    · have t2 : decide ((m.Z.length : Int) ≤ 400) = true := by simp; omega
      have HH := Lib.hid (And.intro h1 h2)
      clear h1 h2
      go_enter Tryd.func8, Tryd.ntmps8
      go_wp2_with fail
      refine RR.out.mono ?_
      rintro e w1 ⟨r, rfl, hr, hE⟩
      have HR := Lib.hid hr; have HE := Lib.hid hE
      clear hr hE
      go_wp2_with fail
      go_returns
      exact ⟨r, rfl, ⟨fun h => ⟨HH.out.1, HH.out.2, HR.out.1 h⟩, fun h => HR.out.2 h.2.2⟩, ((Ext.refl w).alloc _).trans HE.out⟩
    · have t2 : decide ((m.Z.length : Int) ≤ 400) = false := by simp; omega
      have HN : Hid (¬ m.Small) := Lib.hid (fun h => h2 h.2.1)
      clear h1 h2
      go_enter Tryd.func8, Tryd.ntmps8
      go_wp2_with fail
      go_returns
      exact ⟨false, rfl, ⟨fun h => (by cases h), fun h => absurd h HN.out⟩, by (repeat (first | with_reducible exact Ext.refl _ | with_reducible assumption | with_reducible refine Ext.alloc ?_ _ | with_reducible refine Ext.drew ?_ | with_reducible refine Ext.drewN ?_ _ | with_reducible refine Ext.later ?_ _ | (with_reducible refine Ext.setCell ?_ _ ?hp; case hp => first | (simp; done) | (simp; omega) | omega)))⟩
  · have t1 : decide ((m.C.length : Int) ≤ 400) = false := by simp; omega
    have HN : Hid (¬ m.Small) := Lib.hid (fun h => h1 h.1)
    clear h1
    go_enter Tryd.func8, Tryd.ntmps8
    go_wp2_with fail
    go_returns
    exact ⟨false, rfl, ⟨fun h => (by cases h), fun h => absurd h HN.out⟩, by (repeat (first | with_reducible exact Ext.refl _ | with_reducible assumption | with_reducible refine Ext.alloc ?_ _ | with_reducible refine Ext.drew ?_ | with_reducible refine Ext.drewN ?_ _ | with_reducible refine Ext.later ?_ _ | (with_reducible refine Ext.setCell ?_ _ ?hp; case hp => first | (simp; done) | (simp; omega) | omega)))⟩
end Go.Proofs.YtpjkhnkbijpmnaaDoor
