/- Proof text: the law RealBack. By an AI agent. No condition beyond what each theorem states. -/
import Derived.Test.YtofninkbinnbhaaGF
set_option linter.unusedVariables false
set_option linter.unusedSimpArgs false
namespace Go.Proofs.Ytofninkbinnbhaa
open Go.RowKit
theorem rnd_mul (N k : Nat) : rnd (N * 2 ^ k) k = N := by
  have h := Nat.two_pow_pos k
  unfold rnd
  rw [Nat.mul_div_cancel _ h, Nat.mul_mod_left, if_neg (by omega)]
  rfl
theorem fn_back {n bs : Int} {lb : Nat} (h : BackF n bs lb) (b1 : 0 ≤ bs) (b2 : bs ≤ 32) : fn (rg lb) bs = n.natAbs ∧ plc (rg lb) + bs ≤ 0 := by
  rcases h.val with ⟨rfl, h0⟩ | ⟨h0, e, f, e1, e2, hf, hr, hM⟩
  · rw [h0]
    have hp : plc 0 = -1074 := by decide
    exact ⟨fn_tiny (by rw [hp]; omega), by rw [hp]; omega⟩
  · obtain ⟨k, hk⟩ : ∃ k, k = bs.toNat := ⟨_, rfl⟩
    have hkb : bs = k := by omega
    rw [← hk] at hr
    obtain ⟨m1, p1⟩ := norm_parts (R := (e - k) * 4503599627370496 + f) (d := e - k - 1) (M := 4503599627370496 + f) (by omega) (by omega) (by omega)
    rw [hr, p1]
    refine ⟨?_, by omega⟩
    unfold fn
    rw [p1, m1, hM]
    by_cases he : e = 1075
    · subst he
      rw [if_pos (by omega), show (-1074 + ((1075 - k - 1 : Nat) : Int) + bs).toNat = 0 by omega]
      simp
    · rw [if_neg (by omega), show (-(-1074 + ((e - k - 1 : Nat) : Int) + bs)).toNat = 1075 - e by omega, rnd_mul]
theorem fxv_back {n bs : Int} {lb : Nat} (h : BackF n bs lb) (b1 : 0 ≤ bs) (b2 : bs ≤ 32) (n1 : -1099511627776 ≤ n) (n2 : n ≤ 1099511627776) : fxv lb bs 1099511627776 = (n, 0) := by
  obtain ⟨h1, h2⟩ := fn_back h b1 b2
  have hi := h.inf
  unfold fxv
  rw [if_neg (by omega), h.nan, if_neg (by decide), if_neg (by omega), h1, if_neg (by omega), h.sign]
  by_cases hn : n < 0
  · rw [decide_eq_true hn]; simp; omega
  · rw [decide_eq_false hn]; simp; omega
theorem refback_gen (n bs : Int) (lb db : Nat) (w : World) (b1 : 0 ≤ bs) (b2 : bs ≤ 32) (n1 : -4503599627370496 ≤ n) (n2 : n ≤ 4503599627370496) (hd : floatOfInt .f64 (2 ^ bs.toNat) = db) (hq : floatBits .quo .f64 (floatOfInt .f64 n) db = some lb) :
    Calls Try.prog 20 #[.int .i64 n, .int .i64 bs] w fun x w' => x = .returned (.tuple #[.float .f64 lb, .int .i64 0]) ∧ w' = w := by
  obtain ⟨F, hF⟩ : ∃ F, floatOfInt .f64 n = F := ⟨_, rfl⟩
  rw [hF] at hq
  obtain ⟨T, hT⟩ : ∃ T : Int, T = 2 ^ bs.toNat := ⟨_, rfl⟩
  rw [← hT] at hd
  have q1 : wrap64 (2 ^ bs.toNat) = T := by
    rw [hT]
    have hle : 2 ^ bs.toNat ≤ 2 ^ 32 := Nat.pow_le_pow_right (by omega) (by omega)
    rw [show (2 : Nat) ^ 32 = 4294967296 from rfl] at hle
    have hp : (2 : Int) ^ bs.toNat = ((2 ^ bs.toNat : Nat) : Int) := by rw [Int.natCast_pow]; rfl
    rw [hp]
    generalize 2 ^ bs.toNat = z at hle
    exact wrap64_small (by omega) (by omega)
  have q8 : ∀ (t : TypeId) (W : World), (binOp .quo t (.float .f64 F) (.float .f64 db)).run Try.prog W = .ok (.float .f64 lb) W := fun t W => run_float_arith W .quo t .f64 _ _ _ hq
  clear hq hT
  go_enter Try.func20, Try.ntmps20
  go_wp2_with fail
  go_ret2
  exact ⟨rfl, rfl⟩
theorem back_bad (n bs : Int) (w : World) (h : bs < 0 ∨ 32 < bs ∨ n < -4503599627370496 ∨ 4503599627370496 < n) :
    Calls Try.prog 19 #[.int .i64 n, .int .i64 bs] w (fun x w' => x = .returned (.tuple #[.float .f64 0, .int .i64 1]) ∧ w' = w) ∧
    Calls Try.prog 20 #[.int .i64 n, .int .i64 bs] w (fun x w' => x = .returned (.tuple #[.float .f64 0, .int .i64 1]) ∧ w' = w) := by
  have hc : decide (bs < 0) = true ∨ (decide (bs < 0) = false ∧ decide (bs > 32) = true) ∨ (decide (bs < 0) = false ∧ decide (bs > 32) = false ∧ decide (n < -4503599627370496) = true) ∨ (decide (bs < 0) = false ∧ decide (bs > 32) = false ∧ decide (n < -4503599627370496) = false ∧ decide (n > 4503599627370496) = true) := by
    simp only [decide_eq_true_eq, decide_eq_false_iff_not]
    omega
  clear h
  constructor
  · rcases hc with t1 | ⟨t1, t2⟩ | ⟨t1, t2, t3⟩ | ⟨t1, t2, t3, t4⟩
    all_goals
      go_enter Try.func19, Try.ntmps19
      go_wp2_with fail
      go_ret2
      exact ⟨rfl, rfl⟩
  · rcases hc with t1 | ⟨t1, t2⟩ | ⟨t1, t2, t3⟩ | ⟨t1, t2, t3, t4⟩
    all_goals
      go_enter Try.func20, Try.ntmps20
      go_wp2_with fail
      go_ret2
      exact ⟨rfl, rfl⟩
set_option maxHeartbeats 2000000 in
theorem lback_bad (n bs : Int) (w : World) (h : bs < 0 ∨ 32 < bs ∨ n < -4503599627370496 ∨ 4503599627370496 < n) : Calls Try.prog 7 #[.int .i64 n, .int .i64 bs] w fun x w' => x = .returned (.bool true) ∧ w' = w := by
  have C1 := Lib.hid (fun W => (back_bad n bs W h).1)
  have C2 := Lib.hid (fun W => (back_bad n bs W h).2)
  have B1 := Lib.hid (fun W => rbits_any 0 (by decide) W)
  have B2 := Lib.hid (fun W => refbits_any 0 (by decide) W)
  have M1 := Lib.hid (fun W => minus_any 0 (by decide) false (by decide) W)
  have M2 := Lib.hid (fun W => rminus_any 0 (by decide) false (by decide) W)
  obtain ⟨t, ht⟩ : ∃ t, t = bi 0 := ⟨_, rfl⟩
  rw [← ht] at B1 B2
  clear h ht
  go_enter Try.func7, Try.ntmps7
  go_wp2_with fail
  refine (C1.out _).mono ?_
  rintro x w1 ⟨rfl, rfl⟩
  go_wp2_with fail
  refine (C2.out _).mono ?_
  rintro x w1 ⟨rfl, rfl⟩
  go_wp2_with fail
  refine (B1.out _).mono ?_
  rintro x w1 ⟨rfl, rfl⟩
  go_wp2_with fail
  refine (B2.out _).mono ?_
  rintro x w1 ⟨rfl, rfl⟩
  go_wp2_with fail
  refine (M1.out _).mono ?_
  rintro x w1 ⟨rfl, rfl⟩
  go_wp2_with fail
  refine (M2.out _).mono ?_
  rintro x w1 ⟨rfl, rfl⟩
  go_wp2_with fail
  refine (awake1 _).mono ?_
  rintro x w1 ⟨rfl, rfl⟩
  go_wp2_with fail
  go_ret
  exact ⟨rfl, rfl⟩
set_option maxHeartbeats 2000000 in
theorem lback_good (n bs : Int) (w : World) (n1 : -4503599627370496 ≤ n) (n2 : n ≤ 4503599627370496) (b1 : 0 ≤ bs) (b2 : bs ≤ 32) : Calls Try.prog 7 #[.int .i64 n, .int .i64 bs] w fun x w' => x = .returned (.bool true) ∧ w' = w := by
  obtain ⟨lb, hb, hC, db, hd, hq⟩ := back_any n bs n1 n2 b1 b2
  have C1 := Lib.hid hC
  have C2 := Lib.hid (fun W => refback_gen n bs lb db W b1 b2 n1 n2 hd hq)
  have B1 := Lib.hid (fun W => rbits_any lb hb.lt W)
  have B2 := Lib.hid (fun W => refbits_any lb hb.lt W)
  have M1 := Lib.hid (fun W => minus_any lb hb.lt _ rfl W)
  have M2 := Lib.hid (fun W => rminus_any lb hb.lt _ rfl W)
  obtain ⟨t, ht⟩ : ∃ t, t = bi lb := ⟨_, rfl⟩
  rw [← ht] at B1 B2
  obtain ⟨mm, hmm⟩ : ∃ mm, mm = minus lb := ⟨_, rfl⟩
  rw [← hmm] at M1 M2
  have CF := Lib.hid (fun W => fixed_any lb bs 1099511627776 hb.lt W)
  by_cases hs : -1099511627776 ≤ n ∧ n ≤ 1099511627776
  · rw [fxv_back hb b1 b2 hs.1 hs.2] at CF
    obtain ⟨s1, s2⟩ := hs
    clear hb hC hd hq ht hmm n1 n2 b1 b2
    go_enter Try.func7, Try.ntmps7
    go_wp2_with fail
    refine (C1.out _).mono ?_
    rintro x w1 ⟨rfl, rfl⟩
    go_wp2_with fail
    refine (C2.out _).mono ?_
    rintro x w1 ⟨rfl, rfl⟩
    go_wp2_with fail
    refine (B1.out _).mono ?_
    rintro x w1 ⟨rfl, rfl⟩
    go_wp2_with fail
    refine (B2.out _).mono ?_
    rintro x w1 ⟨rfl, rfl⟩
    go_wp2_with fail
    refine (M1.out _).mono ?_
    rintro x w1 ⟨rfl, rfl⟩
    go_wp2_with fail
    refine (M2.out _).mono ?_
    rintro x w1 ⟨rfl, rfl⟩
    go_wp2_with fail
    refine (CF.out _).mono ?_
    rintro x w1 ⟨rfl, rfl⟩
    go_wp2_with fail
    refine (awake1 _).mono ?_
    rintro x w1 ⟨rfl, rfl⟩
    go_wp2_with fail
    go_ret
    exact ⟨by simp, rfl⟩
  · have hc : decide (n < -1099511627776) = true ∨ (decide (n < -1099511627776) = false ∧ decide (n > 1099511627776) = true) := by
      simp only [decide_eq_true_eq, decide_eq_false_iff_not]
      omega
    clear hb hC hd hq ht hmm n1 n2 b1 b2 hs CF
    rcases hc with t1 | ⟨t1, t2⟩
    all_goals
      go_enter Try.func7, Try.ntmps7
      go_wp2_with fail
      refine (C1.out _).mono ?_
      rintro x w1 ⟨rfl, rfl⟩
      go_wp2_with fail
      refine (C2.out _).mono ?_
      rintro x w1 ⟨rfl, rfl⟩
      go_wp2_with fail
      refine (B1.out _).mono ?_
      rintro x w1 ⟨rfl, rfl⟩
      go_wp2_with fail
      refine (B2.out _).mono ?_
      rintro x w1 ⟨rfl, rfl⟩
      go_wp2_with fail
      refine (M1.out _).mono ?_
      rintro x w1 ⟨rfl, rfl⟩
      go_wp2_with fail
      refine (M2.out _).mono ?_
      rintro x w1 ⟨rfl, rfl⟩
      go_wp2_with fail
      refine (awake1 _).mono ?_
      rintro x w1 ⟨rfl, rfl⟩
      go_wp2_with fail
      go_ret
      exact ⟨rfl, rfl⟩
theorem lback_any (n bs : Int) (w : World) : Calls Try.prog 7 #[.int .i64 n, .int .i64 bs] w fun x w' => x = .returned (.bool true) ∧ w' = w := by
  by_cases h : bs < 0 ∨ 32 < bs ∨ n < -4503599627370496 ∨ 4503599627370496 < n
  · exact lback_bad n bs w h
  · exact lback_good n bs w (by omega) (by omega) (by omega) (by omega)
end Go.Proofs.Ytofninkbinnbhaa
