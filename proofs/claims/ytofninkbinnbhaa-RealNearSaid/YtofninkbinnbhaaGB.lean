/- Proof text: a float times a power of two, all cases. By an AI agent. No condition beyond what each theorem states. -/
import Derived.Test.YtofninkbinnbhaaGA
set_option linter.unusedVariables false
set_option linter.unusedSimpArgs false
namespace Go.Proofs.Ytofninkbinnbhaa
open Go.RowKit
theorem exp_field {B1 e f q : Nat} {s : Bool} (hB : B1 = wo s (e * 4503599627370496 + f)) (h2 : e ≤ 2046) (hf : f < 4503599627370496) (hq : q = B1 / 4503599627370496) : wrap64 ((B1 : Int) / 4503599627370496) = (q : Int) ∧ bits .and .i64 (q : Int) 2047 = (e : Int) := by
  have hb1 : B1 < 18446744073709551616 := by rw [hB]; exact wo_lt (by omega)
  have hw := wo_parts s e f
  rw [← hB] at hw
  constructor
  · rw [hq]
    exact wrap64_small (by omega) (by omega)
  · rw [and_2047 q (by omega)]
    congr 1
    rw [show (2 : Nat) ^ 52 = 4503599627370496 from rfl, show (2 : Nat) ^ 11 = 2048 from rfl] at hw
    omega
theorem exp_sums {e : Nat} {n ne c : Int} (h2 : e ≤ 2046) (n1 : -40 ≤ n) (n2 : n ≤ 40) (m1 : -60 ≤ ne) (m2 : ne ≤ 0) (hc : c = n + ne + e - 1023) : wrap64 ((e : Int) - 1023) = (e : Int) - 1023 ∧ wrap64 (n + ne) = n + ne ∧ wrap64 (n + ne + ((e : Int) - 1023)) = c :=
  ⟨wrap64_small (by omega) (by omega), wrap64_small (by omega) (by omega), by rw [wrap64_small (by omega) (by omega), hc]; omega⟩
theorem ldexp_zero (s : Bool) (n : Int) (w : World) : Calls Try.prog 40 #[.float .f64 (wo s 0), .int .i64 n] w fun x w' => x = .returned (.float .f64 (wo s 0)) ∧ w' = w := by
  have t1 : (FloatKind.f64.format.order (wo s 0) 0 == some .eq) = true := by
    have hb : wo s 0 < 18446744073709551616 := wo_lt (by decide)
    have hr : rg (wo s 0) = 0 := rg_wo (by decide)
    have hn : nn (wo s 0) = false := by unfold nn; rw [hr]; decide
    rw [eq_zero hb hn, hr]; rfl
  obtain ⟨B, hB⟩ : ∃ B, B = wo s 0 := ⟨_, rfl⟩
  rw [← hB] at t1 ⊢
  clear hB
  go_enter Try.func40, Try.ntmps40
  go_wp2_with fail
  go_ret
  exact ⟨rfl, rfl⟩
theorem inf_any (s : Bool) (w : World) : Calls Try.prog 43 #[.int .i64 (if s then -1 else 1)] w fun x w' => x = .returned (.float .f64 (wo s 9218868437227405312)) ∧ w' = w := by
  cases s with
  | true =>
    simp only [if_true]
    go_enter Try.func43, Try.ntmps43
    go_wp2_with fail
    go_ret
    exact ⟨rfl, rfl⟩
  | false =>
    simp only [Bool.false_eq_true, if_false]
    go_enter Try.func43, Try.ntmps43
    go_wp2_with fail
    go_ret
    exact ⟨rfl, rfl⟩
set_option maxRecDepth 10000 in
theorem ldexp_norm (B B1 e f : Nat) (s : Bool) (n ne c : Int) (w : World) (hb : B < 18446744073709551616) (hn : nn B = false) (hinf : rg B ≠ 9218868437227405312) (hz : rg B ≠ 0)
    (hZ : ∀ W, Calls Try.prog 42 #[.float .f64 B] W fun x w' => x = .returned (.tuple #[.float .f64 B1, .int .i64 ne]) ∧ w' = W) (hB1 : B1 = wo s (e * 4503599627370496 + f)) (h1 : 1 ≤ e) (h2 : e ≤ 2046) (hf : f < 4503599627370496)
    (n1 : -40 ≤ n) (n2 : n ≤ 40) (m1 : -60 ≤ ne) (m2 : ne ≤ 0) (hc : c = n + ne + e - 1023) (e' : Nat) (he' : (e' : Int) = c + 1023) (c1 : -1022 ≤ c) (c2 : c ≤ 1023) :
    Calls Try.prog 40 #[.float .f64 B, .int .i64 n] w fun x w' => x = .returned (.float .f64 (wo s (e' * 4503599627370496 + f))) ∧ w' = w := by
  have t1 : (FloatKind.f64.format.order B 0 == some .eq) = false := by rw [eq_zero hb hn]; exact decide_eq_false hz
  have CI := Lib.hid (fun W => isinf_any B hb W)
  have CN := Lib.hid (fun W => isnan_any B hb W)
  have CZ := Lib.hid hZ
  rw [decide_eq_false hinf] at CI
  rw [hn] at CN
  clear hinf hz hb hZ hn
  obtain ⟨q, hq⟩ : ∃ q, q = B1 / 4503599627370496 := ⟨_, rfl⟩
  obtain ⟨q1, q2⟩ := exp_field hB1 h2 hf hq
  obtain ⟨q3, q0, q4⟩ := exp_sums h2 n1 n2 m1 m2 hc
  obtain ⟨D, hD⟩ : ∃ D, D = wo s f := ⟨_, rfl⟩
  have q5 : bits .andNot .u64 (B1 : Int) 9218868437227405312 = (D : Int) := by rw [hB1, hD]; exact andNot_exp s e f (by omega) hf
  have q6 : c + 1023 = (e' : Int) := by omega
  obtain ⟨R, hR⟩ : ∃ R, R = wo s (e' * 4503599627370496 + f) := ⟨_, rfl⟩
  have q7 : bits .or .u64 (D : Int) ((e' : Int) * 4503599627370496) = (R : Int) := by rw [hD, hR]; exact or_exp s e' f (by omega) hf
  have hRr : rg R = e' * 4503599627370496 + f := by rw [hR]; exact rg_wo (by omega)
  have q8 : ∀ (t : TypeId) (W : World), (binOp .mul t (.float .f64 4607182418800017408) (.float .f64 R)).run Try.prog W = .ok (.float .f64 R) W := fun t W => run_float_arith W .mul t .f64 _ _ _ (mul_one (by rw [hR]; exact wo_lt (by omega)) (by omega) (by omega))
  have e1i : (e' : Int) ≤ 2046 := by omega
  rw [← hR]
  clear hB1 hq hD hR hRr h1 h2 hf he' hc
  go_enter Try.func40, Try.ntmps40
  go_wp2_with fail
  refine (CI.out _).mono ?_
  rintro x w1 ⟨rfl, rfl⟩
  go_wp2_with fail
  refine (CN.out _).mono ?_
  rintro x w1 ⟨rfl, rfl⟩
  go_wp2_with fail
  refine (CZ.out _).mono ?_
  rintro x w1 ⟨rfl, rfl⟩
  go_wp2_with fail
  go_ret
  exact ⟨rfl, rfl⟩
set_option maxRecDepth 10000 in
theorem ldexp_small (B B1 e f : Nat) (s : Bool) (n ne c : Int) (w : World) (hb : B < 18446744073709551616) (hn : nn B = false) (hinf : rg B ≠ 9218868437227405312) (hz : rg B ≠ 0)
    (hZ : ∀ W, Calls Try.prog 42 #[.float .f64 B] W fun x w' => x = .returned (.tuple #[.float .f64 B1, .int .i64 ne]) ∧ w' = W) (hB1 : B1 = wo s (e * 4503599627370496 + f)) (h1 : 1 ≤ e) (h2 : e ≤ 2046) (hf : f < 4503599627370496)
    (n1 : -40 ≤ n) (n2 : n ≤ 40) (m1 : -60 ≤ ne) (m2 : ne ≤ 0) (hc : c = n + ne + e - 1023) (e' RR : Nat) (he' : (e' : Int) = c + 1076) (c1 : -1074 ≤ c) (c2 : c < -1022) (hm : floatBits .mul .f64 4368491638549381120 (wo s (e' * 4503599627370496 + f)) = some RR) :
    Calls Try.prog 40 #[.float .f64 B, .int .i64 n] w fun x w' => x = .returned (.float .f64 RR) ∧ w' = w := by
  have t1 : (FloatKind.f64.format.order B 0 == some .eq) = false := by rw [eq_zero hb hn]; exact decide_eq_false hz
  have CI := Lib.hid (fun W => isinf_any B hb W)
  have CN := Lib.hid (fun W => isnan_any B hb W)
  have CZ := Lib.hid hZ
  rw [decide_eq_false hinf] at CI
  rw [hn] at CN
  clear hinf hz hb hZ hn
  obtain ⟨q, hq⟩ : ∃ q, q = B1 / 4503599627370496 := ⟨_, rfl⟩
  obtain ⟨q1, q2⟩ := exp_field hB1 h2 hf hq
  obtain ⟨q3, q0, q4⟩ := exp_sums h2 n1 n2 m1 m2 hc
  obtain ⟨D, hD⟩ : ∃ D, D = wo s f := ⟨_, rfl⟩
  have q5 : bits .andNot .u64 (B1 : Int) 9218868437227405312 = (D : Int) := by rw [hB1, hD]; exact andNot_exp s e f (by omega) hf
  have q6 : c + 53 + 1023 = (e' : Int) := by omega
  obtain ⟨R, hR⟩ : ∃ R, R = wo s (e' * 4503599627370496 + f) := ⟨_, rfl⟩
  have q7 : bits .or .u64 (D : Int) ((e' : Int) * 4503599627370496) = (R : Int) := by rw [hD, hR]; exact or_exp s e' f (by omega) hf
  rw [← hR] at hm
  have q8 : ∀ (t : TypeId) (W : World), (binOp .mul t (.float .f64 4368491638549381120) (.float .f64 R)).run Try.prog W = .ok (.float .f64 RR) W := fun t W => run_float_arith W .mul t .f64 _ _ _ hm
  have e1i : (e' : Int) ≤ 2046 := by omega
  clear hB1 hq hD hR h1 h2 hf he' hc hm
  go_enter Try.func40, Try.ntmps40
  go_wp2_with fail
  refine (CI.out _).mono ?_
  rintro x w1 ⟨rfl, rfl⟩
  go_wp2_with fail
  refine (CN.out _).mono ?_
  rintro x w1 ⟨rfl, rfl⟩
  go_wp2_with fail
  refine (CZ.out _).mono ?_
  rintro x w1 ⟨rfl, rfl⟩
  go_wp2_with fail
  go_ret
  exact ⟨rfl, rfl⟩
set_option maxRecDepth 10000 in
theorem ldexp_over (B B1 e f : Nat) (s : Bool) (n ne c : Int) (w : World) (hb : B < 18446744073709551616) (hn : nn B = false) (hinf : rg B ≠ 9218868437227405312) (hz : rg B ≠ 0)
    (hZ : ∀ W, Calls Try.prog 42 #[.float .f64 B] W fun x w' => x = .returned (.tuple #[.float .f64 B1, .int .i64 ne]) ∧ w' = W) (hB1 : B1 = wo s (e * 4503599627370496 + f)) (h1 : 1 ≤ e) (h2 : e ≤ 2046) (hf : f < 4503599627370496)
    (n1 : -40 ≤ n) (n2 : n ≤ 40) (m1 : -60 ≤ ne) (m2 : ne ≤ 0) (hc : c = n + ne + e - 1023) (c1 : 1023 < c) (c2 : c ≤ 1500) (t2 : (FloatKind.f64.format.order B1 0 == some .lt) = s) :
    Calls Try.prog 40 #[.float .f64 B, .int .i64 n] w fun x w' => x = .returned (.float .f64 (wo s 9218868437227405312)) ∧ w' = w := by
  have t1 : (FloatKind.f64.format.order B 0 == some .eq) = false := by rw [eq_zero hb hn]; exact decide_eq_false hz
  have CI := Lib.hid (fun W => isinf_any B hb W)
  have CN := Lib.hid (fun W => isnan_any B hb W)
  have CZ := Lib.hid hZ
  rw [decide_eq_false hinf] at CI
  rw [hn] at CN
  clear hinf hz hb hZ hn
  obtain ⟨q, hq⟩ : ∃ q, q = B1 / 4503599627370496 := ⟨_, rfl⟩
  obtain ⟨q1, q2⟩ := exp_field hB1 h2 hf hq
  obtain ⟨q3, q0, q4⟩ := exp_sums h2 n1 n2 m1 m2 hc
  have CF := Lib.hid (fun W => inf_any s W)
  clear hB1 hq h1 h2 hf hc
  cases s with
  | true =>
    simp only [if_true] at CF
    obtain ⟨RI, hRI⟩ : ∃ RI, RI = wo true 9218868437227405312 := ⟨_, rfl⟩
    rw [← hRI] at CF ⊢
    clear hRI
    go_enter Try.func40, Try.ntmps40
    go_wp2_with fail
    refine (CI.out _).mono ?_
    rintro x w1 ⟨rfl, rfl⟩
    go_wp2_with fail
    refine (CN.out _).mono ?_
    rintro x w1 ⟨rfl, rfl⟩
    go_wp2_with fail
    refine (CZ.out _).mono ?_
    rintro x w1 ⟨rfl, rfl⟩
    go_wp2_with fail
    refine (CF.out _).mono ?_
    rintro x w1 ⟨rfl, rfl⟩
    go_wp2_with fail
    go_ret
    exact ⟨rfl, rfl⟩
  | false =>
    simp only [Bool.false_eq_true, if_false] at CF
    obtain ⟨RI, hRI⟩ : ∃ RI, RI = wo false 9218868437227405312 := ⟨_, rfl⟩
    rw [← hRI] at CF ⊢
    clear hRI
    go_enter Try.func40, Try.ntmps40
    go_wp2_with fail
    refine (CI.out _).mono ?_
    rintro x w1 ⟨rfl, rfl⟩
    go_wp2_with fail
    refine (CN.out _).mono ?_
    rintro x w1 ⟨rfl, rfl⟩
    go_wp2_with fail
    refine (CZ.out _).mono ?_
    rintro x w1 ⟨rfl, rfl⟩
    go_wp2_with fail
    refine (CF.out _).mono ?_
    rintro x w1 ⟨rfl, rfl⟩
    go_wp2_with fail
    go_ret
    exact ⟨rfl, rfl⟩
theorem normalize_small (b B1 : Nat) (hb : b < 18446744073709551616) (h : nn b = false) (h2 : rg b < 4503599627370496) (hm : floatBits .mul .f64 b 4841369599423283200 = some B1) (w : World) : Calls Try.prog 42 #[.float .f64 b] w fun x w' => x = .returned (.tuple #[.float .f64 B1, .int .i64 (-52)]) ∧ w' = w := by
  have t := lt_least b h
  rw [decide_eq_true h2] at t
  have CA := Lib.hid (fun W => abs_any b hb W)
  have q8 : ∀ (t : TypeId) (W : World), (binOp .mul t (.float .f64 b) (.float .f64 4841369599423283200)).run Try.prog W = .ok (.float .f64 B1) W := fun t W => run_float_arith W .mul t .f64 _ _ _ hm
  clear hb h h2 hm
  go_enter Try.func42, Try.ntmps42
  go_wp2_with fail
  refine (CA.out _).mono ?_
  rintro x w1 ⟨rfl, rfl⟩
  go_wp2_with fail
  go_ret2
  exact ⟨rfl, rfl⟩
/-- The parts of a small float made normal. -/
theorem small_parts {r : Nat} (h0 : 0 < r) (h1 : r < 4503599627370496) : ∃ k f, k ≤ 51 ∧ f < 4503599627370496 ∧ r * 2 ^ (52 - k) = 4503599627370496 + f := by
  have hlt : r < 2 ^ (r.log2 + 1) := Nat.lt_log2_self
  have hle : 2 ^ r.log2 ≤ r := Nat.log2_self_le (by omega)
  have hk : r.log2 < 52 := (Nat.log2_lt (by omega)).2 (by omega)
  obtain ⟨k, hkk⟩ : ∃ k, k = r.log2 := ⟨_, rfl⟩
  rw [← hkk] at hlt hle hk
  have hM1 : 2 ^ k * 2 ^ (52 - k) ≤ r * 2 ^ (52 - k) := Nat.mul_le_mul_right _ hle
  have hM2 : r * 2 ^ (52 - k) < 2 ^ (k + 1) * 2 ^ (52 - k) := Nat.mul_lt_mul_of_pos_right hlt (Nat.two_pow_pos _)
  rw [← Nat.pow_add, show k + (52 - k) = 52 by omega] at hM1
  rw [← Nat.pow_add, show k + 1 + (52 - k) = 53 by omega] at hM2
  rw [show (2 : Nat) ^ 52 = 4503599627370496 from rfl] at hM1
  rw [show (2 : Nat) ^ 53 = 9007199254740992 from rfl] at hM2
  exact ⟨k, r * 2 ^ (52 - k) - 4503599627370496, by omega, by omega, by omega⟩
theorem mul_up (s : Bool) {r k f : Nat} (h0 : 0 < r) (h1 : r < 4503599627370496) (hk : k ≤ 51) (hf : f < 4503599627370496) (hM : r * 2 ^ (52 - k) = 4503599627370496 + f) : floatBits .mul .f64 (wo s r) 4841369599423283200 = some (wo s ((k + 1) * 4503599627370496 + f)) := by
  obtain ⟨hm, hp⟩ := norm_parts (R := (k + 1) * 4503599627370496 + f) (d := k) (M := 4503599627370496 + f) (by omega) (by omega) (by omega)
  have e1 : rg (wo s r) = r := rg_wo (by omega)
  have e2 : sg (wo s r) = s := sg_wo (by omega)
  have e3 : mant r = r := by unfold mant; rw [if_pos h1]
  have e4 : plc r = -1074 := by unfold plc; rw [if_pos h1]
  have := mul_exact (a := wo s r) (b := 4841369599423283200) (r := (k + 1) * 4503599627370496 + f) (k := k) (wo_lt (by omega)) (by decide) (by rw [e1]; omega) (by decide) (by omega) (by omega)
    (by rw [e1, e3, hm, ← hM, show mant (rg 4841369599423283200) = 2 ^ 52 by decide, Nat.mul_assoc, ← Nat.pow_add, show 52 - k + k = 52 by omega])
    (by rw [e1, e4, hp, show plc (rg 4841369599423283200) = 0 by decide]; omega)
  rw [this, e2, show sg 4841369599423283200 = false by decide, Bool.xor_false]
theorem mul_down (s : Bool) {r k f n : Nat} (h0 : 0 < r) (hk : k ≤ 51) (hf : f < 4503599627370496) (hM : r * 2 ^ (52 - k) = 4503599627370496 + f) (hn : n + k < 52) (hr : r * 2 ^ n < 4503599627370496) : floatBits .mul .f64 4368491638549381120 (wo s ((n + k + 2) * 4503599627370496 + f)) = some (wo s (r * 2 ^ n)) := by
  obtain ⟨hm, hp⟩ := norm_parts (R := (n + k + 2) * 4503599627370496 + f) (d := n + k + 1) (M := 4503599627370496 + f) (by omega) (by omega) (by omega)
  have hpos : 0 < r * 2 ^ n := Nat.mul_pos h0 (Nat.two_pow_pos n)
  have e1 : rg (wo s ((n + k + 2) * 4503599627370496 + f)) = (n + k + 2) * 4503599627370496 + f := rg_wo (by omega)
  have e2 : sg (wo s ((n + k + 2) * 4503599627370496 + f)) = s := sg_wo (by omega)
  have e3 : mant (r * 2 ^ n) = r * 2 ^ n := by unfold mant; rw [if_pos hr]
  have e4 : plc (r * 2 ^ n) = -1074 := by unfold plc; rw [if_pos hr]
  have := mul_exact (a := 4368491638549381120) (b := wo s ((n + k + 2) * 4503599627370496 + f)) (r := r * 2 ^ n) (k := 104 - k - n) (by decide) (wo_lt (by omega)) (by decide) (by rw [e1]; omega) hpos (by omega)
    (by rw [e1, hm, ← hM, e3, show mant (rg 4368491638549381120) = 2 ^ 52 by decide, Nat.mul_comm (2 ^ 52), Nat.mul_assoc, Nat.mul_assoc, ← Nat.pow_add, ← Nat.pow_add]; congr 2; omega)
    (by rw [e1, hp, e4, show plc (rg 4368491638549381120) = -105 by decide]; omega)
  rw [this, e2, show sg 4368491638549381120 = false by decide, Bool.false_xor]
end Go.Proofs.Ytofninkbinnbhaa
