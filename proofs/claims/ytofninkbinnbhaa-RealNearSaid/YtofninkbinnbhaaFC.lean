/- Proof text: kinds, signs, bits, the order of floats, on. By an AI agent. No condition beyond what each theorem states. -/
import Derived.Test.YtofninkbinnbhaaFB
set_option linter.unusedVariables false
set_option linter.unusedSimpArgs false
namespace Go.Proofs.Ytofninkbinnbhaa
open Go.RowKit
/-- The kind; is the sign set; the bits as an int; a number that goes by the order. -/
def kd (b : Nat) : Int := if nn b then 1 else if rg b = 9218868437227405312 then 2 else if rg b = 0 then 3 else if rg b < 4503599627370496 then 4 else 5
def minus (b : Nat) : Bool := !nn b && sg b
def bi (b : Nat) : Int := if nn b then 9221120237041090561 else wrap64 b
def pl (b : Nat) : Int := if nn b then 9223372036854775807 else if sg b then -1 - (rg b : Int) else rg b
def cmp (a b : Nat) : Int := if pl a < pl b then -1 else if pl b < pl a then 1 else 0
theorem ord_selfn {b : Nat} (hb : b < 18446744073709551616) : (FloatKind.f64.format.order b b != some .eq) = nn b := by
  show (!(FloatKind.f64.format.order b b == some .eq)) = nn b
  rw [ord_self hb, Bool.not_not]
theorem kind_any (b : Nat) (hb : b < 18446744073709551616) (w : World) : Calls Try.prog 25 #[.float .f64 b] w fun x w' => x = .returned (.int .i64 (kd b)) ∧ w' = w := by
  have CB := Lib.hid (fun W => bare_any b hb W)
  have CI := Lib.hid (fun W => isinf_any b hb W)
  have hs := ord_selfn hb
  cases hn : nn b with
  | true =>
    rw [hn] at hs
    have HK : Hid (kd b = 1) := Lib.hid (by unfold kd; rw [hn]; rfl)
    clear hn
    go_enter Try.func25, Try.ntmps25
    go_wp2_with fail
    go_ret
    exact ⟨by rw [HK.out]; rfl, rfl⟩
  | false =>
    rw [hn] at hs
    have hz := eq_zero hb hn
    have hc : (decide (rg b = 9218868437227405312) = true ∧ Hid (kd b = 2)) ∨ (decide (rg b = 9218868437227405312) = false ∧ decide (rg b = 0) = true ∧ Hid (kd b = 3)) ∨
        (decide (rg b = 9218868437227405312) = false ∧ decide (rg b = 0) = false ∧ decide ((rg b : Int) < 4503599627370496) = true ∧ Hid (kd b = 4)) ∨ (decide (rg b = 9218868437227405312) = false ∧ decide (rg b = 0) = false ∧ decide ((rg b : Int) < 4503599627370496) = false ∧ Hid (kd b = 5)) := by
      by_cases h1 : rg b = 9218868437227405312
      · exact .inl ⟨by simp [h1], Lib.hid (by unfold kd; rw [hn, if_neg (by decide), if_pos h1])⟩
      · by_cases h2 : rg b = 0
        · exact .inr (.inl ⟨by simp [h1], by simp [h2], Lib.hid (by unfold kd; rw [hn, if_neg (by decide), if_neg h1, if_pos h2])⟩)
        · by_cases h3 : rg b < 4503599627370496
          · exact .inr (.inr (.inl ⟨by simp [h1], by simp [h2], by simp; omega, Lib.hid (by unfold kd; rw [hn, if_neg (by decide), if_neg h1, if_neg h2, if_pos h3])⟩))
          · exact .inr (.inr (.inr ⟨by simp [h1], by simp [h2], by simp; omega, Lib.hid (by unfold kd; rw [hn, if_neg (by decide), if_neg h1, if_neg h2, if_neg h3])⟩))
    have HB := Lib.hid hb
    clear hn hb
    rcases hc with ⟨t1, HK⟩ | ⟨t1, t2, HK⟩ | ⟨t1, t2, t3, HK⟩ | ⟨t1, t2, t3, HK⟩
    · rw [t1] at CI
      clear t1 hz
      go_enter Try.func25, Try.ntmps25
      go_wp2_with fail
      refine (CI.out _).mono ?_
      rintro x w1 ⟨rfl, rfl⟩
      go_wp2_with fail
      go_ret
      exact ⟨by rw [HK.out]; rfl, rfl⟩
    · rw [t1] at CI
      rw [t2] at hz
      clear t1 t2
      go_enter Try.func25, Try.ntmps25
      go_wp2_with fail
      refine (CI.out _).mono ?_
      rintro x w1 ⟨rfl, rfl⟩
      go_wp2_with fail
      go_ret
      exact ⟨by rw [HK.out]; rfl, rfl⟩
    all_goals
      rw [t1] at CI
      rw [t2] at hz
      clear t1 t2
      go_enter Try.func25, Try.ntmps25
      go_wp2_with fail
      refine (CI.out _).mono ?_
      rintro x w1 ⟨rfl, rfl⟩
      go_wp2_with fail
      refine (CB.out _).mono ?_
      rintro x w1 ⟨rfl, rfl⟩
      go_wp2_with fail
      go_ret
      exact ⟨by rw [HK.out]; rfl, rfl⟩
theorem minus_any (b : Nat) (hb : b < 18446744073709551616) (m : Bool) (hm : minus b = m) (w : World) : Calls Try.prog 23 #[.float .f64 b] w fun x w' => x = .returned (.bool m) ∧ w' = w := by
  have CS := Lib.hid (fun W => signbit_any b hb W)
  have hs := ord_self hb
  subst hm
  unfold minus
  cases hn : nn b with
  | true =>
    rw [hn] at hs
    clear hn
    go_enter Try.func23, Try.ntmps23
    go_wp2_with fail
    go_ret
    exact ⟨rfl, rfl⟩
  | false =>
    rw [hn] at hs
    clear hn
    go_enter Try.func23, Try.ntmps23
    go_wp2_with fail
    refine (CS.out _).mono ?_
    rintro x w1 ⟨rfl, rfl⟩
    go_wp2_with fail
    go_ret
    exact ⟨rfl, rfl⟩
theorem rbits_any (b : Nat) (hb : b < 18446744073709551616) (w : World) : Calls Try.prog 21 #[.float .f64 b] w fun x w' => x = .returned (.int .i64 (bi b)) ∧ w' = w := by
  have hs := ord_selfn hb
  unfold bi
  cases hn : nn b with
  | true =>
    rw [hn] at hs
    clear hn
    go_enter Try.func21, Try.ntmps21
    go_wp2_with fail
    go_ret
    exact ⟨rfl, rfl⟩
  | false =>
    rw [hn] at hs
    clear hn
    go_enter Try.func21, Try.ntmps21
    go_wp2_with fail
    go_ret
    exact ⟨rfl, rfl⟩
/-- The word of an int. -/
def wd (n : Int) : Nat := (n % 18446744073709551616).toNat
theorem wd_lt (n : Int) : wd n < 18446744073709551616 := by unfold wd; omega
theorem wrap_wd (n : Int) : (IntKind.u64.wrap n).toNat = wd n := by simp [IntKind.wrap, IntKind.bits, IntKind.signed, wd]
theorem of_any (n : Int) (w : World) : Calls Try.prog 18 #[.int .i64 n] w fun x w' => x = .returned (.float .f64 (wd n)) ∧ w' = w := by
  go_enter Try.func18, Try.ntmps18
  go_wp2_with fail
  go_ret
  exact ⟨by rw [← wrap_wd]; rfl, rfl⟩
theorem pl_nan {b : Nat} (h : nn b = true) : pl b = 9223372036854775807 := by unfold pl; rw [h]; rfl
theorem pl_lt {b : Nat} (h : nn b = false) : pl b < 9223372036854775807 := by
  unfold pl
  rw [h]
  unfold nn at h
  simp at h
  cases sg b <;> simp <;> omega
/-- How two floats stand. -/
theorem key_pl {a b : Nat} (h1 : nn a = false) (h2 : nn b = false) : (key a < key b → pl a < pl b) ∧ (key a = key b → sg a = sg b → pl a = pl b) ∧ (key a = key b → sg a = true → sg b = false → pl a < pl b) := by
  unfold key pl
  rw [h1, h2]
  cases sg a <;> cases sg b <;> simp <;> omega

theorem cmp_nn (a b : Nat) (ha : a < 18446744073709551616) (hb : b < 18446744073709551616) (h1 : nn a = true) (h2 : nn b = true) (w : World) : Calls Try.prog 12 #[.float .f64 a, .float .f64 b] w fun x w' => x = .returned (.int .i64 (cmp a b)) ∧ w' = w := by
  have HK : Hid (cmp a b = 0) := Lib.hid (by unfold cmp pl; rw [h1, h2]; rfl)
  have t1 : (FloatKind.f64.format.order a a != some .eq) = true := by rw [ord_selfn ha, h1]
  have t2 : (FloatKind.f64.format.order b b != some .eq) = true := by rw [ord_selfn hb, h2]
  clear ha hb h1 h2
  go_enter Try.func12, Try.ntmps12
  go_wp2_with fail
  go_ret
  exact ⟨by rw [HK.out]; rfl, rfl⟩
theorem cmp_nf (a b : Nat) (ha : a < 18446744073709551616) (hb : b < 18446744073709551616) (h1 : nn a = true) (h2 : nn b = false) (w : World) : Calls Try.prog 12 #[.float .f64 a, .float .f64 b] w fun x w' => x = .returned (.int .i64 (cmp a b)) ∧ w' = w := by
  have HK : Hid (cmp a b = 1) := Lib.hid (by have := pl_lt h2; unfold cmp; rw [pl_nan h1, if_neg (by omega), if_pos (by omega)])
  have t1 : (FloatKind.f64.format.order a a != some .eq) = true := by rw [ord_selfn ha, h1]
  have t2 : (FloatKind.f64.format.order b b != some .eq) = false := by rw [ord_selfn hb, h2]
  clear ha hb h1 h2
  go_enter Try.func12, Try.ntmps12
  go_wp2_with fail
  go_ret
  exact ⟨by rw [HK.out]; rfl, rfl⟩
theorem cmp_fn (a b : Nat) (ha : a < 18446744073709551616) (hb : b < 18446744073709551616) (h1 : nn a = false) (h2 : nn b = true) (w : World) : Calls Try.prog 12 #[.float .f64 a, .float .f64 b] w fun x w' => x = .returned (.int .i64 (cmp a b)) ∧ w' = w := by
  have HK : Hid (cmp a b = -1) := Lib.hid (by have := pl_lt h1; unfold cmp; rw [pl_nan h2, if_pos (by omega)])
  have t1 : (FloatKind.f64.format.order a a != some .eq) = false := by rw [ord_selfn ha, h1]
  have t2 : (FloatKind.f64.format.order b b != some .eq) = true := by rw [ord_selfn hb, h2]
  clear ha hb h1 h2
  go_enter Try.func12, Try.ntmps12
  go_wp2_with fail
  go_ret
  exact ⟨by rw [HK.out]; rfl, rfl⟩
theorem cmp_lt (a b : Nat) (ha : a < 18446744073709551616) (hb : b < 18446744073709551616) (h1 : nn a = false) (h2 : nn b = false) (h3 : key a < key b) (w : World) : Calls Try.prog 12 #[.float .f64 a, .float .f64 b] w fun x w' => x = .returned (.int .i64 (cmp a b)) ∧ w' = w := by
  have HK : Hid (cmp a b = -1) := Lib.hid (by unfold cmp; rw [if_pos ((key_pl h1 h2).1 h3)])
  have t1 : (FloatKind.f64.format.order a a != some .eq) = false := by rw [ord_selfn ha, h1]
  have t2 : (FloatKind.f64.format.order b b != some .eq) = false := by rw [ord_selfn hb, h2]
  have t3 : (FloatKind.f64.format.order a b == some .lt) = true := by rw [ord_lt ha hb h1 h2]; simpa using h3
  clear ha hb h1 h2 h3
  go_enter Try.func12, Try.ntmps12
  go_wp2_with fail
  go_ret
  exact ⟨by rw [HK.out]; rfl, rfl⟩
theorem cmp_gt (a b : Nat) (ha : a < 18446744073709551616) (hb : b < 18446744073709551616) (h1 : nn a = false) (h2 : nn b = false) (h3 : key b < key a) (w : World) : Calls Try.prog 12 #[.float .f64 a, .float .f64 b] w fun x w' => x = .returned (.int .i64 (cmp a b)) ∧ w' = w := by
  have HK : Hid (cmp a b = 1) := Lib.hid (by have := (key_pl h2 h1).1 h3; unfold cmp; rw [if_neg (by omega), if_pos this])
  have t1 : (FloatKind.f64.format.order a a != some .eq) = false := by rw [ord_selfn ha, h1]
  have t2 : (FloatKind.f64.format.order b b != some .eq) = false := by rw [ord_selfn hb, h2]
  have t3 : (FloatKind.f64.format.order a b == some .lt) = false := by rw [ord_lt ha hb h1 h2]; simp; omega
  have t4 : (FloatKind.f64.format.order a b == some .gt) = true := by rw [ord_gt ha hb h1 h2]; simpa using h3
  clear ha hb h1 h2 h3
  go_enter Try.func12, Try.ntmps12
  go_wp2_with fail
  go_ret
  exact ⟨by rw [HK.out]; rfl, rfl⟩
theorem cmp_tf (a b : Nat) (ha : a < 18446744073709551616) (hb : b < 18446744073709551616) (h1 : nn a = false) (h2 : nn b = false) (h3 : key a = key b) (h4 : sg a = true) (h5 : sg b = false) (w : World) : Calls Try.prog 12 #[.float .f64 a, .float .f64 b] w fun x w' => x = .returned (.int .i64 (cmp a b)) ∧ w' = w := by
  have HK : Hid (cmp a b = -1) := Lib.hid (by unfold cmp; rw [if_pos ((key_pl h1 h2).2.2 h3 h4 h5)])
  have t1 : (FloatKind.f64.format.order a a != some .eq) = false := by rw [ord_selfn ha, h1]
  have t2 : (FloatKind.f64.format.order b b != some .eq) = false := by rw [ord_selfn hb, h2]
  have t3 : (FloatKind.f64.format.order a b == some .lt) = false := by rw [ord_lt ha hb h1 h2]; simp; omega
  have t4 : (FloatKind.f64.format.order a b == some .gt) = false := by rw [ord_gt ha hb h1 h2]; simp; omega
  have MA := Lib.hid (fun W => minus_any a ha true (by unfold minus; rw [h1, h4]; rfl) W)
  have MB := Lib.hid (fun W => minus_any b hb false (by unfold minus; rw [h2, h5]; rfl) W)
  clear ha hb h1 h2 h3 h4 h5
  go_enter Try.func12, Try.ntmps12
  go_wp2_with fail
  refine (MA.out _).mono ?_
  rintro x w1 ⟨rfl, rfl⟩
  go_wp2_with fail
  refine (MB.out _).mono ?_
  rintro x w1 ⟨rfl, rfl⟩
  go_wp2_with fail
  go_ret
  exact ⟨by rw [HK.out]; rfl, rfl⟩
theorem cmp_ft (a b : Nat) (ha : a < 18446744073709551616) (hb : b < 18446744073709551616) (h1 : nn a = false) (h2 : nn b = false) (h3 : key a = key b) (h4 : sg a = false) (h5 : sg b = true) (w : World) : Calls Try.prog 12 #[.float .f64 a, .float .f64 b] w fun x w' => x = .returned (.int .i64 (cmp a b)) ∧ w' = w := by
  have HK : Hid (cmp a b = 1) := Lib.hid (by have := (key_pl h2 h1).2.2 h3.symm h5 h4; unfold cmp; rw [if_neg (by omega), if_pos this])
  have t1 : (FloatKind.f64.format.order a a != some .eq) = false := by rw [ord_selfn ha, h1]
  have t2 : (FloatKind.f64.format.order b b != some .eq) = false := by rw [ord_selfn hb, h2]
  have t3 : (FloatKind.f64.format.order a b == some .lt) = false := by rw [ord_lt ha hb h1 h2]; simp; omega
  have t4 : (FloatKind.f64.format.order a b == some .gt) = false := by rw [ord_gt ha hb h1 h2]; simp; omega
  have MA := Lib.hid (fun W => minus_any a ha false (by unfold minus; rw [h1, h4]; rfl) W)
  have MB := Lib.hid (fun W => minus_any b hb true (by unfold minus; rw [h2, h5]; rfl) W)
  clear ha hb h1 h2 h3 h4 h5
  go_enter Try.func12, Try.ntmps12
  go_wp2_with fail
  refine (MA.out _).mono ?_
  rintro x w1 ⟨rfl, rfl⟩
  go_wp2_with fail
  refine (MB.out _).mono ?_
  rintro x w1 ⟨rfl, rfl⟩
  go_wp2_with fail
  refine (MA.out _).mono ?_
  rintro x w1 ⟨rfl, rfl⟩
  go_wp2_with fail
  go_ret
  exact ⟨by rw [HK.out]; rfl, rfl⟩
theorem cmp_tt (a b : Nat) (ha : a < 18446744073709551616) (hb : b < 18446744073709551616) (h1 : nn a = false) (h2 : nn b = false) (h3 : key a = key b) (h4 : sg a = true) (h5 : sg b = true) (w : World) : Calls Try.prog 12 #[.float .f64 a, .float .f64 b] w fun x w' => x = .returned (.int .i64 (cmp a b)) ∧ w' = w := by
  have HK : Hid (cmp a b = 0) := Lib.hid (by have := (key_pl h1 h2).2.1 h3 (by rw [h4, h5]); unfold cmp; rw [if_neg (by omega), if_neg (by omega)])
  have t1 : (FloatKind.f64.format.order a a != some .eq) = false := by rw [ord_selfn ha, h1]
  have t2 : (FloatKind.f64.format.order b b != some .eq) = false := by rw [ord_selfn hb, h2]
  have t3 : (FloatKind.f64.format.order a b == some .lt) = false := by rw [ord_lt ha hb h1 h2]; simp; omega
  have t4 : (FloatKind.f64.format.order a b == some .gt) = false := by rw [ord_gt ha hb h1 h2]; simp; omega
  have MA := Lib.hid (fun W => minus_any a ha true (by unfold minus; rw [h1, h4]; rfl) W)
  have MB := Lib.hid (fun W => minus_any b hb true (by unfold minus; rw [h2, h5]; rfl) W)
  clear ha hb h1 h2 h3 h4 h5
  go_enter Try.func12, Try.ntmps12
  go_wp2_with fail
  refine (MA.out _).mono ?_
  rintro x w1 ⟨rfl, rfl⟩
  go_wp2_with fail
  refine (MB.out _).mono ?_
  rintro x w1 ⟨rfl, rfl⟩
  go_wp2_with fail
  refine (MB.out _).mono ?_
  rintro x w1 ⟨rfl, rfl⟩
  go_wp2_with fail
  refine (MA.out _).mono ?_
  rintro x w1 ⟨rfl, rfl⟩
  go_wp2_with fail
  go_ret
  exact ⟨by rw [HK.out]; rfl, rfl⟩
theorem cmp_ff (a b : Nat) (ha : a < 18446744073709551616) (hb : b < 18446744073709551616) (h1 : nn a = false) (h2 : nn b = false) (h3 : key a = key b) (h4 : sg a = false) (h5 : sg b = false) (w : World) : Calls Try.prog 12 #[.float .f64 a, .float .f64 b] w fun x w' => x = .returned (.int .i64 (cmp a b)) ∧ w' = w := by
  have HK : Hid (cmp a b = 0) := Lib.hid (by have := (key_pl h1 h2).2.1 h3 (by rw [h4, h5]); unfold cmp; rw [if_neg (by omega), if_neg (by omega)])
  have t1 : (FloatKind.f64.format.order a a != some .eq) = false := by rw [ord_selfn ha, h1]
  have t2 : (FloatKind.f64.format.order b b != some .eq) = false := by rw [ord_selfn hb, h2]
  have t3 : (FloatKind.f64.format.order a b == some .lt) = false := by rw [ord_lt ha hb h1 h2]; simp; omega
  have t4 : (FloatKind.f64.format.order a b == some .gt) = false := by rw [ord_gt ha hb h1 h2]; simp; omega
  have MA := Lib.hid (fun W => minus_any a ha false (by unfold minus; rw [h1, h4]; rfl) W)
  have MB := Lib.hid (fun W => minus_any b hb false (by unfold minus; rw [h2, h5]; rfl) W)
  clear ha hb h1 h2 h3 h4 h5
  go_enter Try.func12, Try.ntmps12
  go_wp2_with fail
  refine (MA.out _).mono ?_
  rintro x w1 ⟨rfl, rfl⟩
  go_wp2_with fail
  refine (MB.out _).mono ?_
  rintro x w1 ⟨rfl, rfl⟩
  go_wp2_with fail
  go_ret
  exact ⟨by rw [HK.out]; rfl, rfl⟩
theorem compare_any (a b : Nat) (ha : a < 18446744073709551616) (hb : b < 18446744073709551616) (w : World) : Calls Try.prog 12 #[.float .f64 a, .float .f64 b] w fun x w' => x = .returned (.int .i64 (cmp a b)) ∧ w' = w := by
  cases h1 : nn a <;> cases h2 : nn b
  · rcases Int.lt_trichotomy (key a) (key b) with h3 | h3 | h3
    · exact cmp_lt a b ha hb h1 h2 h3 w
    · cases h4 : sg a <;> cases h5 : sg b
      · exact cmp_ff a b ha hb h1 h2 h3 h4 h5 w
      · exact cmp_ft a b ha hb h1 h2 h3 h4 h5 w
      · exact cmp_tf a b ha hb h1 h2 h3 h4 h5 w
      · exact cmp_tt a b ha hb h1 h2 h3 h4 h5 w
    · exact cmp_gt a b ha hb h1 h2 h3 w
  · exact cmp_fn a b ha hb h1 h2 w
  · exact cmp_nf a b ha hb h1 h2 w
  · exact cmp_nn a b ha hb h1 h2 w
end Go.Proofs.Ytofninkbinnbhaa
