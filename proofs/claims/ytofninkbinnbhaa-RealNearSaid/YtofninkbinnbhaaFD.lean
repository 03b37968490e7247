/- Proof text: the document's answers on kinds, signs, bits, the order of floats. By an AI agent. No condition beyond what each theorem states. -/
import Derived.Test.YtofninkbinnbhaaFC
set_option linter.unusedVariables false
set_option linter.unusedSimpArgs false
namespace Go.Proofs.Ytofninkbinnbhaa
open Go.RowKit
def ex (b : Nat) : Nat := b / 4503599627370496 % 2048
def fr (b : Nat) : Nat := b % 4503599627370496
theorem rg_parts (b : Nat) : rg b = ex b * 4503599627370496 + fr b ∧ ex b < 2048 ∧ fr b < 4503599627370496 := by
  unfold rg ex fr
  omega
theorem parts_any (b : Nat) (hb : b < 18446744073709551616) (e f : Nat) (he : ex b = e) (hf : fr b = f) (w : World) : Calls Try.prog 37 #[.float .f64 b] w fun x w' => x = .returned (.tuple #[.bool (sg b), .int .i64 e, .int .u64 f]) ∧ w' = w := by
  have e0 : decide ((b : Int) ≥ 9223372036854775808) = sg b := by
    unfold sg
    by_cases h : 9223372036854775808 ≤ b
    · rw [decide_eq_true (by omega), decide_eq_true h]
    · rw [decide_eq_false (by omega), decide_eq_false h]
  have E1 : Hid (wrap64 ((IntKind.u64.wrap ((b : Int) / 4503599627370496)).tmod 2048) = (e : Int)) := Lib.hid (by
    have h1 : IntKind.u64.wrap ((b : Int) / 4503599627370496) = ((b / 4503599627370496 : Nat) : Int) := by
      simp [IntKind.wrap, IntKind.bits, IntKind.signed]; omega
    rw [h1, ← he]
    unfold ex
    rw [show (2048 : Int) = ((2048 : Nat) : Int) from rfl, ← Int.ofNat_tmod]
    unfold wrap64
    omega)
  have E2 : Hid ((b : Int) % 4503599627370496 = (f : Int)) := Lib.hid (by rw [← hf]; unfold fr; omega)
  clear hb he hf
  go_enter Try.func37, Try.ntmps37
  go_wp2_with fail
  go_ret3
  exact ⟨by rw [← E1.out, ← E2.out]; rfl, rfl⟩
theorem kd_parts (b : Nat) : (ex b = 2047 ∧ 0 < fr b ∧ kd b = 1 ∧ nn b = true) ∨ (ex b = 2047 ∧ fr b = 0 ∧ kd b = 2 ∧ nn b = false) ∨ (ex b ≠ 2047 ∧ 0 < ex b ∧ kd b = 5 ∧ nn b = false) ∨ (ex b = 0 ∧ 0 < fr b ∧ kd b = 4 ∧ nn b = false) ∨ (ex b = 0 ∧ fr b = 0 ∧ kd b = 3 ∧ nn b = false) := by
  obtain ⟨h1, h2, h3⟩ := rg_parts b
  have hn : nn b = decide (9218868437227405312 < rg b) := rfl
  unfold kd
  rw [hn, h1]
  generalize ex b = e at *
  generalize fr b = f at *
  clear hn h1
  by_cases h4 : e = 2047
  · subst h4
    by_cases h5 : 0 < f
    · left
      refine ⟨rfl, h5, ?_, ?_⟩
      · rw [if_pos (by simp; omega)]
      · simp; omega
    · right; left
      obtain rfl : f = 0 := by omega
      exact ⟨rfl, rfl, by decide, by decide⟩
  · right; right
    by_cases h5 : 0 < e
    · left
      refine ⟨h4, h5, ?_, ?_⟩
      · rw [if_neg (by simp; omega), if_neg (by omega), if_neg (by omega), if_neg (by omega)]
      · simp; omega
    · obtain rfl : e = 0 := by omega
      right
      by_cases h6 : 0 < f
      · left
        refine ⟨rfl, h6, ?_, ?_⟩
        · rw [if_neg (by simp; omega), if_neg (by omega), if_neg (by omega), if_pos (by omega)]
        · simp; omega
      · right
        obtain rfl : f = 0 := by omega
        exact ⟨rfl, rfl, by decide, by decide⟩
theorem rkind_any (b : Nat) (hb : b < 18446744073709551616) (k : Int) (hk : kd b = k) (w : World) : Calls Try.prog 26 #[.float .f64 b] w fun x w' => x = .returned (.int .i64 k) ∧ w' = w := by
  subst hk
  rcases kd_parts b with ⟨h1, h2, h3, _⟩ | ⟨h1, h2, h3, _⟩ | ⟨h1, h2, h3, _⟩ | ⟨h1, h2, h3, _⟩ | ⟨h1, h2, h3, _⟩
  · have CP := Lib.hid (fun W => parts_any b hb 2047 (fr b) h1 rfl W)
    obtain ⟨f, hf⟩ : ∃ f, f = fr b := ⟨_, rfl⟩
    rw [← hf] at CP h2
    have h2' : (0 : Int) < f := by omega
    rw [h3]
    clear hb h1 h3 hf
    go_enter Try.func26, Try.ntmps26
    go_wp2_with fail
    refine (CP.out _).mono ?_
    rintro x w1 ⟨rfl, rfl⟩
    go_wp2_with fail
    go_ret
    exact ⟨rfl, rfl⟩
  · have CP := Lib.hid (fun W => parts_any b hb 2047 0 h1 h2 W)
    rw [h3]
    clear hb h1 h2 h3
    go_enter Try.func26, Try.ntmps26
    go_wp2_with fail
    refine (CP.out _).mono ?_
    rintro x w1 ⟨rfl, rfl⟩
    go_wp2_with fail
    go_ret
    exact ⟨rfl, rfl⟩
  · have CP := Lib.hid (fun W => parts_any b hb (ex b) (fr b) rfl rfl W)
    obtain ⟨e, he⟩ : ∃ e, e = ex b := ⟨_, rfl⟩
    rw [← he] at CP h1 h2
    have t1 : ((e : Int) == 2047) = false := by simp; omega
    have h2' : (0 : Int) < e := by omega
    rw [h3]
    clear hb h1 h3 he
    go_enter Try.func26, Try.ntmps26
    go_wp2_with fail
    refine (CP.out _).mono ?_
    rintro x w1 ⟨rfl, rfl⟩
    go_wp2_with fail
    go_ret
    exact ⟨rfl, rfl⟩
  · have CP := Lib.hid (fun W => parts_any b hb 0 (fr b) h1 rfl W)
    obtain ⟨f, hf⟩ : ∃ f, f = fr b := ⟨_, rfl⟩
    rw [← hf] at CP h2
    have h2' : (0 : Int) < f := by omega
    rw [h3]
    clear hb h1 h3 hf
    go_enter Try.func26, Try.ntmps26
    go_wp2_with fail
    refine (CP.out _).mono ?_
    rintro x w1 ⟨rfl, rfl⟩
    go_wp2_with fail
    go_ret
    exact ⟨rfl, rfl⟩
  · have CP := Lib.hid (fun W => parts_any b hb 0 0 h1 h2 W)
    rw [h3]
    clear hb h1 h2 h3
    go_enter Try.func26, Try.ntmps26
    go_wp2_with fail
    refine (CP.out _).mono ?_
    rintro x w1 ⟨rfl, rfl⟩
    go_wp2_with fail
    go_ret
    exact ⟨rfl, rfl⟩
theorem kd_nan {b : Nat} : (nn b = true → kd b = 1) ∧ (nn b = false → (kd b == 1) = false) := by
  rcases kd_parts b with ⟨_, _, h3, h4⟩ | ⟨_, _, h3, h4⟩ | ⟨_, _, h3, h4⟩ | ⟨_, _, h3, h4⟩ | ⟨_, _, h3, h4⟩ <;> rw [h3, h4] <;> decide
theorem rminus_any (b : Nat) (hb : b < 18446744073709551616) (m : Bool) (hm : minus b = m) (w : World) : Calls Try.prog 24 #[.float .f64 b] w fun x w' => x = .returned (.bool m) ∧ w' = w := by
  subst hm
  have CP := Lib.hid (fun W => parts_any b hb _ _ rfl rfl W)
  have CK := Lib.hid (fun W => rkind_any b hb _ rfl W)
  unfold minus
  cases hs : sg b with
  | false =>
    rw [hs] at CP
    clear hb hs CK
    go_enter Try.func24, Try.ntmps24
    go_wp2_with fail
    refine (CP.out _).mono ?_
    rintro x w1 ⟨rfl, rfl⟩
    go_wp2_with fail
    go_ret
    exact ⟨by rw [Bool.and_false]; rfl, rfl⟩
  | true =>
    rw [hs] at CP
    cases hn : nn b with
    | true =>
      have hk := kd_nan.1 hn
      rw [hk] at CK
      clear hb hs hn hk
      go_enter Try.func24, Try.ntmps24
      go_wp2_with fail
      refine (CP.out _).mono ?_
      rintro x w1 ⟨rfl, rfl⟩
      go_wp2_with fail
      refine (CK.out _).mono ?_
      rintro x w1 ⟨rfl, rfl⟩
      go_wp2_with fail
      go_ret
      exact ⟨rfl, rfl⟩
    | false =>
      have hk := kd_nan.2 hn
      obtain ⟨k, hkk⟩ : ∃ k, k = kd b := ⟨_, rfl⟩
      rw [← hkk] at hk CK
      have hk2 : (k != 1) = true := by simp [bne, hk]
      clear hb hs hn hkk
      go_enter Try.func24, Try.ntmps24
      go_wp2_with fail
      refine (CP.out _).mono ?_
      rintro x w1 ⟨rfl, rfl⟩
      go_wp2_with fail
      refine (CK.out _).mono ?_
      rintro x w1 ⟨rfl, rfl⟩
      go_wp2_with fail
      go_ret
      exact ⟨rfl, rfl⟩
theorem refbits_any (b : Nat) (hb : b < 18446744073709551616) (w : World) : Calls Try.prog 22 #[.float .f64 b] w fun x w' => x = .returned (.int .i64 (bi b)) ∧ w' = w := by
  have CK := Lib.hid (fun W => rkind_any b hb _ rfl W)
  unfold bi
  cases hn : nn b with
  | true =>
    rw [kd_nan.1 hn] at CK
    clear hb hn
    go_enter Try.func22, Try.ntmps22
    go_wp2_with fail
    refine (CK.out _).mono ?_
    rintro x w1 ⟨rfl, rfl⟩
    go_wp2_with fail
    go_ret
    exact ⟨rfl, rfl⟩
  | false =>
    have hk := kd_nan.2 hn
    obtain ⟨k, hkk⟩ : ∃ k, k = kd b := ⟨_, rfl⟩
    rw [← hkk] at hk CK
    clear hb hn hkk
    go_enter Try.func22, Try.ntmps22
    go_wp2_with fail
    refine (CK.out _).mono ?_
    rintro x w1 ⟨rfl, rfl⟩
    go_wp2_with fail
    go_ret
    exact ⟨rfl, rfl⟩
theorem place_any (b : Nat) (hb : b < 18446744073709551616) (w : World) : Calls Try.prog 28 #[.float .f64 b] w fun x w' => x = .returned (.int .i64 (pl b)) ∧ w' = w := by
  have CK := Lib.hid (fun W => rkind_any b hb _ rfl W)
  have CM := Lib.hid (fun W => rminus_any b hb _ rfl W)
  have hl := rg_lt b
  have E1 : Hid ((b : Int) % 9223372036854775808 = (rg b : Int)) := Lib.hid (by unfold rg; omega)
  have E2 : Hid (wrap64 (rg b : Int) = (rg b : Int)) := Lib.hid (by unfold wrap64; omega)
  have E3 : Hid (wrap64 (-1 - (rg b : Int)) = -1 - (rg b : Int)) := Lib.hid (by unfold wrap64; omega)
  unfold minus at CM
  have HL := Lib.hid hl
  clear hl
  cases hn : nn b with
  | true =>
    rw [kd_nan.1 hn] at CK
    rw [pl_nan hn]
    clear hb hn CM
    go_enter Try.func28, Try.ntmps28
    go_wp2_with fail
    refine (CK.out _).mono ?_
    rintro x w1 ⟨rfl, rfl⟩
    go_wp2_with fail
    go_ret
    exact ⟨rfl, rfl⟩
  | false =>
    have hk := kd_nan.2 hn
    obtain ⟨k, hkk⟩ : ∃ k, k = kd b := ⟨_, rfl⟩
    rw [← hkk] at hk CK
    have HP : Hid (pl b = if sg b then -1 - (rg b : Int) else rg b) := Lib.hid (by unfold pl; rw [hn]; rfl)
    rw [hn] at CM
    cases hs : sg b with
    | true =>
      rw [hs] at CM HP
      clear hb hn hkk hs
      go_enter Try.func28, Try.ntmps28
      go_wp2_with fail
      refine (CK.out _).mono ?_
      rintro x w1 ⟨rfl, rfl⟩
      go_wp2_with fail
      refine (CM.out _).mono ?_
      rintro x w1 ⟨rfl, rfl⟩
      go_wp2_with fail
      go_ret
      exact ⟨by rw [HP.out, ← E1.out]; rfl, rfl⟩
    | false =>
      rw [hs] at CM HP
      clear hb hn hkk hs
      go_enter Try.func28, Try.ntmps28
      go_wp2_with fail
      refine (CK.out _).mono ?_
      rintro x w1 ⟨rfl, rfl⟩
      go_wp2_with fail
      refine (CM.out _).mono ?_
      rintro x w1 ⟨rfl, rfl⟩
      go_wp2_with fail
      go_ret
      exact ⟨by rw [HP.out, ← E1.out]; rfl, rfl⟩
theorem pl_bound (b : Nat) : -9223372036854775808 ≤ pl b ∧ pl b ≤ 9223372036854775807 := by
  have := rg_lt b
  unfold pl
  split
  · omega
  · split <;> omega
theorem refcompare_any (a b : Nat) (ha : a < 18446744073709551616) (hb : b < 18446744073709551616) (w : World) : Calls Try.prog 13 #[.float .f64 a, .float .f64 b] w fun x w' => x = .returned (.int .i64 (cmp a b)) ∧ w' = w := by
  have CA := Lib.hid (fun W => place_any a ha W)
  have CB := Lib.hid (fun W => place_any b hb W)
  unfold cmp
  obtain ⟨p, hp⟩ : ∃ p, p = pl a := ⟨_, rfl⟩
  obtain ⟨q, hq⟩ : ∃ q, q = pl b := ⟨_, rfl⟩
  rw [← hp] at CA ⊢
  rw [← hq] at CB ⊢
  clear ha hb hp hq
  rcases Int.lt_trichotomy p q with h | h | h
  · rw [if_pos h]
    go_enter Try.func13, Try.ntmps13
    go_wp2_with fail
    refine (CA.out _).mono ?_
    rintro x w1 ⟨rfl, rfl⟩
    go_wp2_with fail
    refine (CB.out _).mono ?_
    rintro x w1 ⟨rfl, rfl⟩
    go_wp2_with fail
    go_ret
    exact ⟨rfl, rfl⟩
  · rw [if_neg (by omega), if_neg (by omega)]
    have t1 : decide (p < q) = false := by simp; omega
    have t2 : decide (p > q) = false := by simp; omega
    clear h
    go_enter Try.func13, Try.ntmps13
    go_wp2_with fail
    refine (CA.out _).mono ?_
    rintro x w1 ⟨rfl, rfl⟩
    go_wp2_with fail
    refine (CB.out _).mono ?_
    rintro x w1 ⟨rfl, rfl⟩
    go_wp2_with fail
    go_ret
    exact ⟨rfl, rfl⟩
  · rw [if_neg (by omega), if_pos h]
    have t1 : decide (p < q) = false := by simp; omega
    go_enter Try.func13, Try.ntmps13
    go_wp2_with fail
    refine (CA.out _).mono ?_
    rintro x w1 ⟨rfl, rfl⟩
    go_wp2_with fail
    refine (CB.out _).mono ?_
    rintro x w1 ⟨rfl, rfl⟩
    go_wp2_with fail
    go_ret
    exact ⟨rfl, rfl⟩
end Go.Proofs.Ytofninkbinnbhaa
