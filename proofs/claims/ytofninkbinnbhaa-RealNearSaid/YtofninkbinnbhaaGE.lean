/- Proof text: the document's Fixed whole, and the law RealFixed. By an AI agent. No condition beyond what each theorem states. -/
import Derived.Test.YtofninkbinnbhaaGD
set_option linter.unusedVariables false
set_option linter.unusedSimpArgs false
namespace Go.Proofs.Ytofninkbinnbhaa
open Go.RowKit
theorem reffixed_any (b : Nat) (bs most : Int) (hb : b < 18446744073709551616) (w : World) :
    Calls Try.prog 15 #[.float .f64 b, .int .i64 bs, .int .i64 most] w fun x w' => x = .returned (.tuple #[.int .i64 (fxv b bs most).1, .int .i64 (fxv b bs most).2]) ∧ w' = w := by
  by_cases ho : bs < 0 ∨ 32 < bs ∨ most < 0 ∨ 1099511627776 < most
  · have HU : Hid (fxv b bs most = (0, 1)) := Lib.hid (by unfold fxv; rw [if_pos ho])
    have hc : decide (bs < 0) = true ∨ (decide (bs < 0) = false ∧ decide (bs > 32) = true) ∨ (decide (bs < 0) = false ∧ decide (bs > 32) = false ∧ decide (most < 0) = true) ∨ (decide (bs < 0) = false ∧ decide (bs > 32) = false ∧ decide (most < 0) = false ∧ decide (most > 1099511627776) = true) := by
      simp only [decide_eq_true_eq, decide_eq_false_iff_not]
      omega
    clear ho hb
    rcases hc with t1 | ⟨t1, t2⟩ | ⟨t1, t2, t3⟩ | ⟨t1, t2, t3, t4⟩
    all_goals
      go_enter Try.func15, Try.ntmps15
      go_wp2_with fail
      go_ret2
      exact ⟨by rw [HU.out]; rfl, rfl⟩
  · have b1 : 0 ≤ bs := by omega
    have b2 : bs ≤ 32 := by omega
    have m1 : 0 ≤ most := by omega
    have m2 : most ≤ 1099511627776 := by omega
    have CK := Lib.hid (fun W => rkind_any b hb _ rfl W)
    cases hn : nn b with
    | true =>
      have HU : Hid (fxv b bs most = (0, 2)) := Lib.hid (by unfold fxv; rw [if_neg ho, hn]; rfl)
      rw [kd_nan.1 hn] at CK
      clear ho hb hn
      go_enter Try.func15, Try.ntmps15
      go_wp2_with fail
      refine (CK.out _).mono ?_
      rintro x w1 ⟨rfl, rfl⟩
      go_wp2_with fail
      go_ret2
      exact ⟨by rw [HU.out]; rfl, rfl⟩
    | false =>
      by_cases hi : rg b = 9218868437227405312
      · have HU : Hid (fxv b bs most = (0, 3)) := Lib.hid (by unfold fxv; rw [if_neg ho, hn, if_neg (by decide), if_pos hi])
        have hk : kd b = 2 := by unfold kd; rw [hn, if_neg (by decide), if_pos hi]
        rw [hk] at CK
        clear ho hb hn hi hk
        go_enter Try.func15, Try.ntmps15
        go_wp2_with fail
        refine (CK.out _).mono ?_
        rintro x w1 ⟨rfl, rfl⟩
        go_wp2_with fail
        go_ret2
        exact ⟨by rw [HU.out]; rfl, rfl⟩
      · have hlt : rg b < 9218868437227405312 := by unfold nn at hn; simp at hn; omega
        by_cases he : plc (rg b) + bs ≤ 10
        · exact reffixed_in b bs most w hb b1 b2 m1 m2 hn hlt he
        · have HU : Hid (fxv b bs most = (0, 4)) := Lib.hid (by unfold fxv; rw [if_neg ho, hn, if_neg (by decide), if_neg hi, if_pos (.inl (by omega))])
          have hk := kd_nan.2 hn
          have hk2 : (kd b == 2) = false := by
            unfold kd
            rw [hn, if_neg (by decide), if_neg hi]
            split
            · decide
            · split <;> decide
          obtain ⟨k, hkk⟩ : ∃ k, k = kd b := ⟨_, rfl⟩
          rw [← hkk] at CK hk hk2
          have CW := Lib.hid (fun W => whole_mp b hb hlt W)
          have hpl : plc (rg b) ≤ 2000 := by unfold plc; split <;> omega
          obtain ⟨M, hM⟩ : ∃ M : Int, M = (mant (rg b) : Int) := ⟨_, rfl⟩
          obtain ⟨p, hp⟩ : ∃ p, p = plc (rg b) := ⟨_, rfl⟩
          rw [← hp] at he hpl CW
          rw [← hM] at CW
          have q9 : wrap64 (p + bs) = p + bs := wrap64_small (by omega) (by omega)
          have he2 : 10 < p + bs := by omega
          clear ho hb hn hi hlt hkk hM hp he hpl
          go_enter Try.func15, Try.ntmps15
          go_wp2_with fail
          refine (CK.out _).mono ?_
          rintro x w1 ⟨rfl, rfl⟩
          go_wp2_with fail
          refine (CW.out _).mono ?_
          rintro x w1 ⟨rfl, rfl⟩
          go_wp2_with fail
          go_ret2
          exact ⟨by rw [HU.out]; rfl, rfl⟩
set_option maxHeartbeats 1000000 in
theorem lfixed_any (n bs most : Int) (w : World) : Calls Try.prog 4 #[.int .i64 n, .int .i64 bs, .int .i64 most] w fun x w' => x = .returned (.bool true) ∧ w' = w := by
  obtain ⟨b, -, e1, hb⟩ := word_of_int n
  have C1 := Lib.hid (fun W => fixed_any b bs most hb W)
  have C2 := Lib.hid (fun W => reffixed_any b bs most hb W)
  obtain ⟨p, hp⟩ : ∃ p, p = (fxv b bs most).1 := ⟨_, rfl⟩
  obtain ⟨q, hq⟩ : ∃ q, q = (fxv b bs most).2 := ⟨_, rfl⟩
  rw [← hp, ← hq] at C1 C2
  clear hb hp hq
  go_enter Try.func4, Try.ntmps4
  go_wp2_with fail
  refine (C1.out _).mono ?_
  rintro x w1 ⟨rfl, rfl⟩
  go_wp2_with fail
  refine (C2.out _).mono ?_
  rintro x w1 ⟨rfl, rfl⟩
  go_wp2_with fail
  refine (awake1 _).mono ?_
  rintro x w1 ⟨rfl, rfl⟩
  go_wp2_with fail
  go_ret
  exact ⟨by simp, rfl⟩
end Go.Proofs.Ytofninkbinnbhaa
