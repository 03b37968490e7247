/- Proof text: the document's Unit, and the law RealUnit. By an AI agent. No condition beyond what each theorem states. -/
import Derived.Test.YtofninkbinnbhaaFV
set_option linter.unusedVariables false
set_option linter.unusedSimpArgs false
namespace Go.Proofs.Ytofninkbinnbhaa
open Go.RowKit
theorem half_lo (Q : Nat) : Q / 2 / 18446744073709551616 = Q / 18446744073709551616 / 2 ∧ Q / 2 % 18446744073709551616 = Q % 18446744073709551616 / 2 + Q / 18446744073709551616 % 2 * 9223372036854775808 := by omega
theorem div_far {P E : Nat} (hP : P < 151115727451828646838272) (hE : 77 ≤ E) : P / 2 ^ E = 0 := by
  apply Nat.div_eq_of_lt
  have h1 : 2 ^ 77 ≤ 2 ^ E := Nat.pow_le_pow_right (by omega) hE
  rw [show (2 : Nat) ^ 77 = 151115727451828646838272 from rfl] at h1
  omega
set_option maxRecDepth 100000 in
set_option maxHeartbeats 1000000 in
theorem refunit_loop (b top m E : Nat) (w : World) (hb : b < 18446744073709551616) (ht : top ≤ 16777216) (h : nn b = false) (h1 : 0 < key b) (h2 : key b < 4607182418800017408) (hm : m < 9007199254740992) (hE1 : 53 ≤ E) (hE2 : E ≤ 1074)
    (hw : (ex b = 0 ∧ m = fr b ∧ -(E : Int) = -1074) ∨ (0 < ex b ∧ m = fr b + 4503599627370496 ∧ -(E : Int) = ex b - 1075)) (hun : m * top / 2 ^ E = un b top) :
    Calls Try.prog 17 #[.float .f64 b, .int .i64 top] w fun x w' => x = .returned (.tuple #[.int .i64 (un b top), .int .i64 0]) ∧ w' = w := by
  have CK := Lib.hid (fun W => rkind_any b hb _ rfl W)
  have hk := kd_nan.2 h
  have hs : sg b = false := by
    unfold key at h1
    cases hs : sg b with
    | false => rfl
    | true => rw [hs] at h1; simp at h1; omega
  have hk3 : (kd b == 3) = false := by
    have hr : rg b ≠ 0 := by unfold key at h1; rw [hs] at h1; simp at h1; omega
    unfold kd
    rw [h, if_neg (by decide)]
    rw [if_neg hr]
    split
    · decide
    · split <;> decide
  have CM := Lib.hid (fun W => rminus_any b hb false (by unfold minus; rw [h, hs]; rfl) W)
  have CC := Lib.hid (fun W => refcompare_any b 4607182418800017408 hb (by decide) W)
  have hc : decide (cmp b 4607182418800017408 ≥ 0) = false := by
    have := cmp_one hb h h1
    simp only [decide_eq_false_iff_not]
    omega
  obtain ⟨c, hcc⟩ : ∃ c, c = cmp b 4607182418800017408 := ⟨_, rfl⟩
  rw [← hcc] at CC hc
  obtain ⟨k, hkk⟩ : ∃ k, k = kd b := ⟨_, rfl⟩
  rw [← hkk] at CK hk hk3
  have CW := Lib.hid (fun W => whole_any b hb m (-(E : Int)) hw W)
  obtain ⟨P, hP⟩ : ∃ P, P = m * top := ⟨_, rfl⟩
  have hPb : P < 151115727451828646838272 := by
    have : m * top ≤ 9007199254740991 * 16777216 := Nat.mul_le_mul (by omega) ht
    omega
  obtain ⟨x, hx⟩ : ∃ x, P / 18446744073709551616 = x := ⟨_, rfl⟩
  obtain ⟨y, hy⟩ : ∃ y, P % 18446744073709551616 = y := ⟨_, rfl⟩
  have CX := Lib.hid (fun W => mul64_any m top x y (by omega) (by omega) (by rw [← hP]; exact hx) (by rw [← hP]; exact hy) W)
  have HU : Hid (P / 2 ^ E = un b top) := Lib.hid (by rw [hP]; exact hun)
  have HX := Lib.hid hx
  have HY := Lib.hid hy
  have HPb := Lib.hid hPb
  have HE1 := Lib.hid hE1
  have e2 : (E : Int) ≤ 1074 := by omega
  have ti : (top : Int) ≤ 16777216 := by omega
  clear hb h h1 h2 hm hE1 hE2 hw hun hs hcc hkk hP hPb hx hy ht
  go_enter Try.func17, Try.ntmps17
  go_wp2_with fail
  refine (CK.out _).mono ?_
  rintro x w1 ⟨rfl, rfl⟩
  go_wp2_with fail
  refine (CM.out _).mono ?_
  rintro x w1 ⟨rfl, rfl⟩
  go_wp2_with fail
  refine (CK.out _).mono ?_
  rintro x w1 ⟨rfl, rfl⟩
  go_wp2_with fail
  refine (CC.out _).mono ?_
  rintro x w1 ⟨rfl, rfl⟩
  go_wp2_with fail
  refine (CW.out _).mono ?_
  rintro x w1 ⟨rfl, rfl⟩
  go_wp2_with fail
  refine (CX.out _).mono ?_
  rintro x w1 ⟨rfl, rfl⟩
  go_wp2_with fail
  go_loopw [7, 8, 9] (fun qv hv lv wr => ∃ j Q h l : Nat, j ≤ E ∧ qv = .int .i64 ((j : Int) - E) ∧ hv = .int .u64 h ∧ lv = .int .u64 l ∧ Hid (Q = P / 2 ^ j ∧ Q < 151115727451828646838272 ∧ h = Q / 18446744073709551616 ∧ l = Q % 18446744073709551616) ∧ wr = w1) (fun qv _ _ _ => (0 - intOf qv).toNat)
  case atStart => exact ⟨0, P, x, y, Nat.zero_le _, by simp, rfl, rfl, Lib.hid ⟨by simp, HPb.out, HX.out.symm, HY.out.symm⟩, rfl⟩
  case round =>
    obtain ⟨j, Q, h, l, hj, rfl, rfl, rfl, HQ, rfl⟩ := hrel
    obtain ⟨q1, q2, q3, q4⟩ := HQ.out
    have hh : (h : Int) < 8192 := by omega
    have hl : (l : Int) < 18446744073709551616 := by omega
    by_cases hex : j < E ∧ 0 < Q
    · have HQ2 : Hid (Q / 2 = P / 2 ^ (j + 1) ∧ Q / 2 < 151115727451828646838272 ∧ ((h / 2 : Nat) = Q / 2 / 18446744073709551616) ∧ (l / 2 + h % 2 * 9223372036854775808 : Nat) = Q / 2 % 18446744073709551616) := Lib.hid (by
        have h3 := half_lo Q
        refine ⟨by rw [q1, Nat.pow_succ, Nat.div_div_eq_div_mul], by omega, by rw [q3]; exact h3.1.symm, by rw [q3, q4]; exact h3.2.symm⟩)
      have hjE : (j : Int) < E := by omega
      have f1 : IntKind.u64.wrap ((h : Int) % 2 * 9223372036854775808) = (h : Int) % 2 * 9223372036854775808 := by rw [IntKind.wrap_u64]; omega
      have f2 : IntKind.u64.wrap ((l : Int) / 2 + (h : Int) % 2 * 9223372036854775808) = (l : Int) / 2 + (h : Int) % 2 * 9223372036854775808 := by rw [IntKind.wrap_u64]; omega
      have f3 : IntKind.u64.wrap ((h : Int) / 2) = (h : Int) / 2 := by rw [IntKind.wrap_u64]; omega
      have f4 : IntKind.u64.wrap ((l : Int) / 2) = (l : Int) / 2 := by rw [IntKind.wrap_u64]; omega
      have hc2 : (0 < h ∧ (0 : Int) < h) ∨ (¬ 0 < h ∧ 0 < l ∧ (0 : Int) < l) := by omega
      have hjn : j + 1 ≤ E := by omega
      clear q1 q2 q3 q4 HQ hex hl hh
      rcases hc2 with ⟨g1, g2⟩ | ⟨g0, g1, g2⟩
      all_goals
        go_wp2_with fail
        go_roundw
        case rel => exact ⟨j + 1, Q / 2, h / 2, l / 2 + h % 2 * 9223372036854775808, hjn, congrArg (Value.int .i64) (by omega), congrArg (Value.int .u64) (by omega), congrArg (Value.int .u64) (by omega), HQ2, trivial⟩
        case measure => simp [intOf]; omega
    · have HQ3 : Hid (((l : Nat) : Int) = (un b top : Nat)) := Lib.hid (by
        have hu := HU.out
        have hE := HE1.out
        have hb2 : P / 2 ^ E < 18446744073709551616 := by
          rw [Nat.div_lt_iff_lt_mul (Nat.two_pow_pos _)]
          have h6 : 2 ^ 53 ≤ 2 ^ E := Nat.pow_le_pow_right (by omega) hE
          have h7 : 18446744073709551616 * 2 ^ 53 ≤ 18446744073709551616 * 2 ^ E := Nat.mul_le_mul_left _ h6
          have h8 : (18446744073709551616 : Nat) * 2 ^ 53 = 166153499473114484112975882535043072 := by decide
          have := HPb.out
          omega
        rw [← hu, q4]
        by_cases hjE : j = E
        · subst hjE
          rw [q1, Nat.mod_eq_of_lt hb2]
        · have hQ0 : Q = 0 := by omega
          have hz : P < 2 ^ j := by
            rw [hQ0] at q1
            rcases Nat.div_eq_zero_iff.1 q1.symm with h9 | h9
            · have := Nat.two_pow_pos j; omega
            · exact h9
          have : 2 ^ j ≤ 2 ^ E := Nat.pow_le_pow_right (by omega) hj
          rw [Nat.div_eq_of_lt (by omega), hQ0])
      have hun : (un b top : Int) < 18014398509481984 := by
        have hu := HU.out
        have hE := HE1.out
        rw [← hu]
        have : P / 2 ^ E < 18014398509481984 := by
          rw [Nat.div_lt_iff_lt_mul (Nat.two_pow_pos _)]
          have h6 : 2 ^ 53 ≤ 2 ^ E := Nat.pow_le_pow_right (by omega) hE
          have h7 : 18014398509481984 * 2 ^ 53 ≤ 18014398509481984 * 2 ^ E := Nat.mul_le_mul_left _ h6
          have h8 : (18014398509481984 : Nat) * 2 ^ 53 = 162259276829213363391578010288128 := by decide
          have := HPb.out
          omega
        omega
      have HW : Hid (wrap64 (l : Int) = (un b top : Nat)) := Lib.hid (by rw [HQ3.out]; exact wrap64_small (by omega) (by omega))
      have hc3 : (¬ (j : Int) - E < 0) ∨ ((j : Int) - E < 0 ∧ h = 0 ∧ l = 0) := by omega
      clear q1 q2 q3 q4 HQ hex hl hh hun
      rcases hc3 with g0 | ⟨g0, rfl, rfl⟩
      · go_wp2_with fail
        go_ret2
        exact ⟨by rw [← HW.out]; rfl, rfl⟩
      · go_wp2_with fail
        go_ret2
        exact ⟨by rw [← HQ3.out]; rfl, rfl⟩
theorem refunit_any (b : Nat) (top : Int) (hb : b < 18446744073709551616) (w : World) : Calls Try.prog 17 #[.float .f64 b, .int .i64 top] w fun x w' => x = .returned (.tuple #[.int .i64 (uv b top).1, .int .i64 (uv b top).2]) ∧ w' = w := by
  by_cases ho : top < 0 ∨ 16777216 < top
  · have HU : Hid (uv b top = (0, 1)) := Lib.hid (by unfold uv; rw [if_pos ho])
    have hc : decide (top < 0) = true ∨ (decide (top < 0) = false ∧ decide (top > 16777216) = true) := by
      by_cases h : top < 0
      · exact .inl (by simpa using h)
      · exact .inr ⟨by simp; omega, by simp; omega⟩
    clear ho hb
    rcases hc with t1 | ⟨t1, t2⟩
    all_goals
      go_enter Try.func17, Try.ntmps17
      go_wp2_with fail
      go_ret2
      exact ⟨by rw [HU.out]; rfl, rfl⟩
  · have o1 : 0 ≤ top := by omega
    have o2 : top ≤ 16777216 := by omega
    have CK := Lib.hid (fun W => rkind_any b hb _ rfl W)
    cases h : nn b with
    | true =>
      have HU : Hid (uv b top = (0, 2)) := Lib.hid (by unfold uv; rw [if_neg ho, h]; rfl)
      rw [kd_nan.1 h] at CK
      clear ho hb h
      go_enter Try.func17, Try.ntmps17
      go_wp2_with fail
      refine (CK.out _).mono ?_
      rintro x w1 ⟨rfl, rfl⟩
      go_wp2_with fail
      go_ret2
      exact ⟨by rw [HU.out]; rfl, rfl⟩
    | false =>
      have hk := kd_nan.2 h
      by_cases h1 : key b ≤ 0
      · have HU : Hid (uv b top = (0, 0)) := Lib.hid (by unfold uv; rw [if_neg ho, h, if_neg (by decide), if_pos h1])
        cases hs : sg b with
        | true =>
          have CM := Lib.hid (fun W => rminus_any b hb true (by unfold minus; rw [h, hs]; rfl) W)
          obtain ⟨k, hkk⟩ : ∃ k, k = kd b := ⟨_, rfl⟩
          rw [← hkk] at CK hk
          clear ho hb h h1 hs hkk
          go_enter Try.func17, Try.ntmps17
          go_wp2_with fail
          refine (CK.out _).mono ?_
          rintro x w1 ⟨rfl, rfl⟩
          go_wp2_with fail
          refine (CM.out _).mono ?_
          rintro x w1 ⟨rfl, rfl⟩
          go_wp2_with fail
          go_ret2
          exact ⟨by rw [HU.out]; rfl, rfl⟩
        | false =>
          have CM := Lib.hid (fun W => rminus_any b hb false (by unfold minus; rw [h, hs]; rfl) W)
          have hr : rg b = 0 := by
            rcases (le_key h).1 h1 with h2 | h2
            · rw [hs] at h2; cases h2
            · exact h2
          have hk3 : kd b = 3 := by unfold kd; rw [h, hr]; rfl
          rw [hk3] at CK hk
          clear ho hb h h1 hs hr hk3
          go_enter Try.func17, Try.ntmps17
          go_wp2_with fail
          refine (CK.out _).mono ?_
          rintro x w1 ⟨rfl, rfl⟩
          go_wp2_with fail
          refine (CM.out _).mono ?_
          rintro x w1 ⟨rfl, rfl⟩
          go_wp2_with fail
          refine (CK.out _).mono ?_
          rintro x w1 ⟨rfl, rfl⟩
          go_wp2_with fail
          go_ret2
          exact ⟨by rw [HU.out]; rfl, rfl⟩
      · have hs : sg b = false := by
          cases hs : sg b with
          | false => rfl
          | true => exact absurd ((le_key h).2 (.inl hs)) h1
        have hr : rg b ≠ 0 := fun hr => h1 ((le_key h).2 (.inr hr))
        have hk3 : (kd b == 3) = false := by
          unfold kd
          rw [h, if_neg (by decide)]
          rw [if_neg hr]
          split
          · decide
          · split <;> decide
        by_cases h2 : 4607182418800017408 ≤ key b
        · have HU : Hid (uv b top = (top, 0)) := Lib.hid (by unfold uv; rw [if_neg ho, h, if_neg (by decide), if_neg h1, if_pos h2])
          have CM := Lib.hid (fun W => rminus_any b hb false (by unfold minus; rw [h, hs]; rfl) W)
          have CC := Lib.hid (fun W => refcompare_any b 4607182418800017408 hb (by decide) W)
          have hc : decide (cmp b 4607182418800017408 ≥ 0) = true := by
            have := (cmp_one hb h (by omega)).2 h2
            simpa using this
          obtain ⟨c, hcc⟩ : ∃ c, c = cmp b 4607182418800017408 := ⟨_, rfl⟩
          rw [← hcc] at CC hc
          obtain ⟨k, hkk⟩ : ∃ k, k = kd b := ⟨_, rfl⟩
          rw [← hkk] at CK hk hk3
          clear ho hb h h1 h2 hs hr hcc hkk
          go_enter Try.func17, Try.ntmps17
          go_wp2_with fail
          refine (CK.out _).mono ?_
          rintro x w1 ⟨rfl, rfl⟩
          go_wp2_with fail
          refine (CM.out _).mono ?_
          rintro x w1 ⟨rfl, rfl⟩
          go_wp2_with fail
          refine (CK.out _).mono ?_
          rintro x w1 ⟨rfl, rfl⟩
          go_wp2_with fail
          refine (CC.out _).mono ?_
          rintro x w1 ⟨rfl, rfl⟩
          go_wp2_with fail
          go_ret2
          exact ⟨by rw [HU.out]; rfl, rfl⟩
        · have hU : uv b top = (((un b top.toNat : Nat) : Int), 0) := by unfold uv; rw [if_neg ho, h, if_neg (by decide), if_neg h1, if_neg h2]
          rw [hU]
          have he := key_ex hb (by omega) (by omega)
          obtain ⟨T, rfl⟩ : ∃ T : Nat, top = T := ⟨top.toNat, by omega⟩
          rw [Int.toNat_natCast]
          obtain ⟨_, p2, p3⟩ := rg_parts b
          by_cases h0 : ex b = 0
          · obtain ⟨E, hE⟩ : ∃ E : Nat, E = 1074 := ⟨_, rfl⟩
            refine refunit_loop b T (fr b) E w hb (by omega) h (by omega) (by omega) (by omega) (by omega) (by omega) (.inl ⟨h0, rfl, by omega⟩) ?_
            unfold un
            rw [if_pos h0]
            have h3 : fr b * T ≤ 4503599627370496 * 16777216 := Nat.mul_le_mul (by omega) (by omega)
            exact div_far (by omega) (by omega)
          · refine refunit_loop b T (fr b + 4503599627370496) (1075 - ex b) w hb (by omega) h (by omega) (by omega) (by omega) (by omega) (by omega) (.inr ⟨by omega, rfl, by omega⟩) ?_
            unfold un
            rw [if_neg h0]
set_option maxHeartbeats 1000000 in
theorem lunit_any (n top : Int) (w : World) : Calls Try.prog 5 #[.int .i64 n, .int .i64 top] w fun x w' => x = .returned (.bool true) ∧ w' = w := by
  obtain ⟨b, -, e1, hb⟩ := word_of_int n
  have C1 := Lib.hid (fun W => unit_any b top hb W)
  have C2 := Lib.hid (fun W => refunit_any b top hb W)
  obtain ⟨p, hp⟩ : ∃ p, p = (uv b top).1 := ⟨_, rfl⟩
  obtain ⟨q, hq⟩ : ∃ q, q = (uv b top).2 := ⟨_, rfl⟩
  rw [← hp, ← hq] at C1 C2
  clear hb hp hq
  go_enter Try.func5, Try.ntmps5
  go_wp2_with fail
  refine (C1.out _).mono ?_
  rintro x w1 ⟨rfl, rfl⟩
  go_wp2_with fail
  refine (C2.out _).mono ?_
  rintro x w1 ⟨rfl, rfl⟩
  go_wp2_with fail
  refine (awake1 _).mono ?_
  rintro x w1 ⟨rfl, rfl⟩
  go_wp2_with fail
  go_ret
  exact ⟨by simp, rfl⟩
end Go.Proofs.Ytofninkbinnbhaa
