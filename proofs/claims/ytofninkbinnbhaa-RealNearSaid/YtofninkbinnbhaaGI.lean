/- Proof text: the law RealNear, its walk. By an AI agent. No condition beyond what each theorem states. -/
import Derived.Test.YtofninkbinnbhaaGH
set_option linter.unusedVariables false
set_option linter.unusedSimpArgs false
namespace Go.Proofs.Ytofninkbinnbhaa
open Go.RowKit
theorem tmod_two {a : Int} (h : a % 2 = 0) : (a.tmod 2 == 0) = true := by
  have := Int.tmod_eq_zero_of_dvd (Int.dvd_of_emod_eq_zero h)
  simp [this]
theorem fxv_err {b : Nat} {bs most : Int} (h : (fxv b bs most).2 ≠ 0) : (fxv b bs most).1 = 0 := by
  unfold fxv at h ⊢
  split
  · rfl
  · split
    · rfl
    · split
      · rfl
      · split
        · rfl
        · rename_i h1 h2 h3 h4
          rw [if_neg h1, if_neg h2, if_neg h3, if_neg h4] at h
          exact absurd rfl h
theorem fxv_ok {b : Nat} {bs : Int} (h : (fxv b bs 1099511627776).2 = 0) : 0 ≤ bs ∧ bs ≤ 32 ∧ nn b = false ∧ rg b ≠ 9218868437227405312 ∧ ((fn (rg b) bs : Nat) : Int) ≤ 1099511627776 ∧ (fxv b bs 1099511627776).1 = if sg b then -((fn (rg b) bs : Nat) : Int) else (fn (rg b) bs : Nat) := by
  unfold fxv at h ⊢
  split at h
  · cases h
  · rename_i h1
    split at h
    · cases h
    · rename_i h2
      split at h
      · cases h
      · rename_i h3
        split at h
        · cases h
        · rename_i h4
          rw [if_neg h1, if_neg h2, if_neg h3, if_neg h4]
          exact ⟨by omega, by omega, by simpa using h2, h3, by omega, rfl⟩
set_option maxHeartbeats 2000000 in
theorem near_simple (n bs p q : Int) (b : Nat) (w : World) (e1 : wd n = b) (hF : ∀ W, Calls Try.prog 14 #[.float .f64 b, .int .i64 bs, .int .i64 1099511627776] W fun x w' => x = .returned (.tuple #[.int .i64 p, .int .i64 q]) ∧ w' = W) (h : (q ≠ 0 ∧ p = 0) ∨ (q = 0 ∧ 31 < bs)) :
    Calls Try.prog 6 #[.int .i64 n, .int .i64 bs] w fun x w' => x = .returned (.bool true) ∧ w' = w := by
  have CO := Lib.hid (fun W => of_any n W)
  rw [e1] at CO
  have CF := Lib.hid hF
  clear hF e1
  rcases h with ⟨h1, rfl⟩ | ⟨rfl, h1⟩
  · have t1 : (q != 0) = true := by simpa using h1
    have t2 : (q == 0) = false := by simpa using h1
    clear h1
    go_enter Try.func6, Try.ntmps6
    go_wp2_with fail
    refine (CO.out _).mono ?_
    rintro x w1 ⟨rfl, rfl⟩
    go_wp2_with fail
    refine (CF.out _).mono ?_
    rintro x w1 ⟨rfl, rfl⟩
    go_wp2_with fail
    refine (awake1 _).mono ?_
    rintro x w1 ⟨rfl, rfl⟩
    go_wp2_with fail
    go_ret
    exact ⟨rfl, rfl⟩
  · go_enter Try.func6, Try.ntmps6
    go_wp2_with fail
    refine (CO.out _).mono ?_
    rintro x w1 ⟨rfl, rfl⟩
    go_wp2_with fail
    refine (CF.out _).mono ?_
    rintro x w1 ⟨rfl, rfl⟩
    go_wp2_with fail
    refine (awake1 _).mono ?_
    rintro x w1 ⟨rfl, rfl⟩
    go_wp2_with fail
    go_ret
    exact ⟨rfl, rfl⟩
set_option maxHeartbeats 4000000 in
theorem near_main (n bs a c d : Int) (b lw hw : Nat) (w : World) (e1 : wd n = b) (hF : ∀ W, Calls Try.prog 14 #[.float .f64 b, .int .i64 bs, .int .i64 1099511627776] W fun x w' => x = .returned (.tuple #[.int .i64 a, .int .i64 0]) ∧ w' = W) (b1 : 0 ≤ bs) (b2 : bs ≤ 31) (a1 : -1099511627776 ≤ a) (a2 : a ≤ 1099511627776)
    (hL : ∀ w, Calls Try.prog 19 #[.int .i64 (2 * a - 1), .int .i64 (bs + 1)] w fun x w' => x = .returned (.tuple #[.float .f64 lw, .int .i64 0]) ∧ w' = w)
    (hH : ∀ w, Calls Try.prog 19 #[.int .i64 (2 * a + 1), .int .i64 (bs + 1)] w fun x w' => x = .returned (.tuple #[.float .f64 hw, .int .i64 0]) ∧ w' = w)
    (hC : ∀ w, Calls Try.prog 12 #[.float .f64 lw, .float .f64 b] w fun x w' => x = .returned (.int .i64 c) ∧ w' = w)
    (hD : ∀ w, Calls Try.prog 12 #[.float .f64 b, .float .f64 hw] w fun x w' => x = .returned (.int .i64 d) ∧ w' = w)
    (h : ((FloatKind.f64.format.order b lw == some .eq) = true ∧ (a.tmod 2 == 0) = true) ∨ ((FloatKind.f64.format.order b lw == some .eq) = false ∧ (FloatKind.f64.format.order b hw == some .eq) = true ∧ (a.tmod 2 == 0) = true) ∨
      ((FloatKind.f64.format.order b lw == some .eq) = false ∧ (FloatKind.f64.format.order b hw == some .eq) = false ∧ decide (c < 0) = true ∧ decide (d < 0) = true)) :
    Calls Try.prog 6 #[.int .i64 n, .int .i64 bs] w fun x w' => x = .returned (.bool true) ∧ w' = w := by
  have CO := Lib.hid (fun W => of_any n W)
  rw [e1] at CO
  have CF := Lib.hid hF
  have CL := Lib.hid hL
  have CH := Lib.hid hH
  have CC := Lib.hid hC
  have CD := Lib.hid hD
  have q1 : wrap64 (2 * a) = 2 * a := wrap64_small (by omega) (by omega)
  have q2 : wrap64 (2 * a - 1) = 2 * a - 1 := wrap64_small (by omega) (by omega)
  have q3 : wrap64 (2 * a + 1) = 2 * a + 1 := wrap64_small (by omega) (by omega)
  have q4 : wrap64 (bs + 1) = bs + 1 := wrap64_small (by omega) (by omega)
  clear hF e1 hL hH hC hD
  rcases h with ⟨t1, t2⟩ | ⟨t1, t2, t3⟩ | ⟨t1, t2, t3, t4⟩
  all_goals
    go_enter Try.func6, Try.ntmps6
    go_wp2_with fail
    refine (CO.out _).mono ?_
    rintro x w1 ⟨rfl, rfl⟩
    go_wp2_with fail
    refine (CF.out _).mono ?_
    rintro x w1 ⟨rfl, rfl⟩
    go_wp2_with fail
    refine (CL.out _).mono ?_
    rintro x w1 ⟨rfl, rfl⟩
    go_wp2_with fail
    refine (CH.out _).mono ?_
    rintro x w1 ⟨rfl, rfl⟩
    go_wp2_with fail
    refine (CC.out _).mono ?_
    rintro x w1 ⟨rfl, rfl⟩
    go_wp2_with fail
    refine (CD.out _).mono ?_
    rintro x w1 ⟨rfl, rfl⟩
    go_wp2_with fail
    refine (awake1 _).mono ?_
    rintro x w1 ⟨rfl, rfl⟩
    go_wp2_with fail
    go_ret
    exact ⟨rfl, rfl⟩
theorem lnear_any (n bs : Int) (w : World) : Calls Try.prog 6 #[.int .i64 n, .int .i64 bs] w fun x w' => x = .returned (.bool true) ∧ w' = w := by
  have hb : wd n < 18446744073709551616 := wd_lt n
  obtain ⟨b, hbb⟩ : ∃ b, wd n = b := ⟨_, rfl⟩
  rw [hbb] at hb
  have hF := fun W => fixed_any b bs 1099511627776 hb W
  by_cases he : (fxv b bs 1099511627776).2 = 0
  · by_cases h31 : 31 < bs
    · exact near_simple n bs _ _ b w hbb hF (.inr ⟨he, h31⟩)
    · obtain ⟨o1, o2, o3, o4, o5, o6⟩ := fxv_ok he
      rw [he] at hF
      obtain ⟨a, ha⟩ : ∃ a, a = (fxv b bs 1099511627776).1 := ⟨_, rfl⟩
      rw [← ha] at hF o6
      have hab : -1099511627776 ≤ a ∧ a ≤ 1099511627776 := by
        rw [o6]
        split <;> omega
      obtain ⟨lw, hl, hL, _⟩ := back_any (2 * a - 1) (bs + 1) (by omega) (by omega) (by omega) (by omega)
      obtain ⟨hw, hh, hH, _⟩ := back_any (2 * a + 1) (bs + 1) (by omega) (by omega) (by omega) (by omega)
      obtain ⟨k1, k2, k3⟩ := near_keys o1 (by omega) o6 hl hh
      have hC := fun W => compare_any lw b hl.lt hb W
      have hD := fun W => compare_any b hw hb hh.lt W
      have r1 := ord_eq hb hl.lt o3 hl.nan
      have r2 := ord_eq hb hh.lt o3 hh.nan
      refine near_main n bs a _ _ b lw hw w hbb hF o1 (by omega) hab.1 hab.2 hL hH hC hD ?_
      rw [r1, r2]
      by_cases g1 : key b = key lw
      · left
        exact ⟨decide_eq_true g1, tmod_two (k3 (.inl g1))⟩
      · by_cases g2 : key b = key hw
        · right; left
          exact ⟨decide_eq_false g1, decide_eq_true g2, tmod_two (k3 (.inr g2))⟩
        · right; right
          have p1 := (key_pl hl.nan o3).1 (by omega)
          have p2 := (key_pl o3 hh.nan).1 (by omega)
          refine ⟨decide_eq_false g1, decide_eq_false g2, decide_eq_true ?_, decide_eq_true ?_⟩
          · unfold cmp; rw [if_pos p1]; decide
          · unfold cmp; rw [if_pos p2]; decide
  · exact near_simple n bs _ _ b w hbb hF (.inl ⟨he, fxv_err he⟩)
end Go.Proofs.Ytofninkbinnbhaa
