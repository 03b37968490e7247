/- Proof text: Fixed and Back by what a float times a power of two is; layer 1's example. By an AI agent. No condition beyond what each theorem states. -/
import Derived.Test.YtofninkbinnbhaaFG
set_option linter.unusedVariables false
set_option linter.unusedSimpArgs false
namespace Go.Proofs.Ytofninkbinnbhaa
open Go.RowKit
theorem mldexp_of (b lb : Nat) (n : Int) (w : World) (h : Calls Try.prog 40 #[.float .f64 b, .int .i64 n] w fun x w' => x = .returned (.float .f64 lb) ∧ w' = w) :
    Calls Try.prog 31 #[.float .f64 b, .int .i64 n] w fun x w' => x = .returned (.float .f64 lb) ∧ w' = w := by
  have H := Lib.hid h
  clear h
  go_enter Try.func31, Try.ntmps31
  go_wp2_with fail
  refine H.out.mono ?_
  rintro x w1 ⟨rfl, rfl⟩
  go_wp2_with fail
  go_ret
  exact ⟨rfl, rfl⟩
/-- A float made whole. -/
def whole (b : Nat) : Nat := FloatKind.f64.encode ((FloatKind.f64.decode b).integral .even)
theorem rte_run (b : Nat) (h : nn b = false) (w : World) : (callFunc 30 #[.float .f64 b]).run Try.prog w = .ok (.value (.float .f64 (whole b))) w := by
  refine run_extern (e := Extern.MathFloor.toIntegral "math.RoundToEven" .even) Try.func30 (by kernel_rfl) (by kernel_rfl) (by kernel_rfl) (by kernel_rfl) ?_
  have hd : ∀ s t, FloatKind.f64.decode b ≠ .nan s t := by
    intro s t he
    have h2 : Ieee.double.read b = .nan s t := he
    unfold Ieee.Format.read at h2
    rw [dbl_sign, dbl_bin, dbl_inf] at h2
    unfold nn rg at h
    simp at h
    simp only at h2
    split at h2
    · cases h2
    · split at h2
      · cases h2
      · split at h2
        · cases h2
        · omega
  unfold whole
  conv => lhs; arg 2; whnf
  cases hq : FloatKind.f64.decode b with
  | nan s t => exact absurd hq (hd s t)
  | infinity s => rfl
  | number s m p => rfl
set_option maxRecDepth 10000 in
theorem fixed_gen (b lb nb mb : Nat) (bs most n : Int) (far : Bool) (w : World) (hb : b < 18446744073709551616) (b1 : 0 ≤ bs) (b2 : bs ≤ 32) (m1 : 0 ≤ most) (m2 : most ≤ 1099511627776) (hnn : nn b = false) (hinf : rg b ≠ 9218868437227405312)
    (hL : ∀ W, Calls Try.prog 40 #[.float .f64 b, .int .i64 bs] W fun x w' => x = .returned (.float .f64 lb) ∧ w' = W) (hlb : nn lb = false) (hnb : whole lb = nb) (hnl : nb < 18446744073709551616) (hmb : floatOfInt .f64 most = mb)
    (hfar : (FloatKind.f64.format.order (rg nb) mb == some .gt) = far) (hn : far = false → floatToIntVal .f64 nb .i64 = some n) :
    Calls Try.prog 14 #[.float .f64 b, .int .i64 bs, .int .i64 most] w fun x w' => x = .returned (if far then .tuple #[.int .i64 0, .int .i64 4] else .tuple #[.int .i64 n, .int .i64 0]) ∧ w' = w := by
  have t1 : (FloatKind.f64.format.order b b != some .eq) = false := by rw [ord_selfn hb, hnn]
  have CI := Lib.hid (fun W => isinf_any b hb W)
  rw [decide_eq_false hinf] at CI
  have CL := Lib.hid (fun W => mldexp_of b lb bs W (hL W))
  have q1 : ∀ W, (callFunc 30 #[.float .f64 lb]).run Try.prog W = .ok (.value (.float .f64 nb)) W := fun W => by rw [rte_run lb hlb W, hnb]
  have CA := Lib.hid (fun W => abs_any nb hnl W)
  clear hb hnn hinf hL hlb hnb hnl
  cases far with
  | true =>
    clear hn
    go_enter Try.func14, Try.ntmps14
    go_wp2_with fail
    refine (CI.out _).mono ?_
    rintro x w1 ⟨rfl, rfl⟩
    go_wp2_with fail
    refine (CL.out _).mono ?_
    rintro x w1 ⟨rfl, rfl⟩
    go_wp2_with fail
    refine (CA.out _).mono ?_
    rintro x w1 ⟨rfl, rfl⟩
    go_wp2_with fail
    go_ret2
    exact ⟨rfl, rfl⟩
  | false =>
    have hn2 := hn rfl
    have q2 : ∀ W, (convert 22 3 (.float .f64 nb)).run Try.prog W = .ok (.int .i64 n) W := fun W => run_convert_float_int W _ _ .f64 .i64 nb n (by kernel_rfl) Try.underlying3 hn2
    clear hn hn2
    go_enter Try.func14, Try.ntmps14
    go_wp2_with fail
    refine (CI.out _).mono ?_
    rintro x w1 ⟨rfl, rfl⟩
    go_wp2_with fail
    refine (CL.out _).mono ?_
    rintro x w1 ⟨rfl, rfl⟩
    go_wp2_with fail
    refine (CA.out _).mono ?_
    rintro x w1 ⟨rfl, rfl⟩
    go_wp2_with fail
    go_ret2
    exact ⟨rfl, rfl⟩
theorem back_gen (n bs : Int) (fb lb : Nat) (w : World) (b1 : 0 ≤ bs) (b2 : bs ≤ 32) (n1 : -4503599627370496 ≤ n) (n2 : n ≤ 4503599627370496) (hf : floatOfInt .f64 n = fb)
    (hL : ∀ W, Calls Try.prog 40 #[.float .f64 fb, .int .i64 (-bs)] W fun x w' => x = .returned (.float .f64 lb) ∧ w' = W) :
    Calls Try.prog 19 #[.int .i64 n, .int .i64 bs] w fun x w' => x = .returned (.tuple #[.float .f64 lb, .int .i64 0]) ∧ w' = w := by
  have CL := Lib.hid (fun W => mldexp_of fb lb (-bs) W (hL W))
  have hw : wrap64 (-bs) = -bs := by unfold wrap64; omega
  clear hL
  go_enter Try.func19, Try.ntmps19
  go_wp2_with fail
  refine (CL.out _).mono ?_
  rintro x w1 ⟨rfl, rfl⟩
  go_wp2_with fail
  go_ret2
  exact ⟨rfl, rfl⟩
theorem copysign_ex (w : World) : Calls Try.prog 27 #[.float .f64 0, .float .f64 13830554455654793216] w fun x w' => x = .returned (.float .f64 9223372036854775808) ∧ w' = w := by
  have q1 : bits .andNot .u64 0 9223372036854775808 = 0 := by decide
  have q2 : bits .and .u64 13830554455654793216 9223372036854775808 = 9223372036854775808 := by decide
  have q3 : bits .or .u64 0 9223372036854775808 = 9223372036854775808 := by decide
  go_enter Try.func27, Try.ntmps27
  go_wp2_with fail
  go_ret
  exact ⟨rfl, rfl⟩
theorem unit_ex (w : World) : Calls Try.prog 16 #[.float .f64 9223372036854775808, .int .i64 7] w fun x w' => x = .returned (.tuple #[.int .i64 0, .int .i64 0]) ∧ w' = w := by
  have q1 : (FloatKind.f64.format.order 9223372036854775808 9223372036854775808 != some .eq) = false := by decide
  have q2 : (FloatKind.f64.format.order 9223372036854775808 0 == some .lt) = false := by decide
  have q3 : (FloatKind.f64.format.order 9223372036854775808 0 == some .eq) = true := by decide
  go_enter Try.func16, Try.ntmps16
  go_wp2_with fail
  go_ret2
  exact ⟨rfl, rfl⟩
theorem fixed_ex1 (w : World) : Calls Try.prog 14 #[.float .f64 4602678819172646912, .int .i64 0, .int .i64 9] w fun x w' => x = .returned (.tuple #[.int .i64 0, .int .i64 0]) ∧ w' = w :=
  fixed_gen 4602678819172646912 4602678819172646912 0 4621256167635550208 0 9 0 false w (by decide) (by decide) (by decide) (by decide) (by decide) (by decide) (by decide)
    (fun W => ldexp_normal false 1022 0 1022 0 W (by decide) (by decide) (by decide) (by decide) (by decide) (by decide)) (by decide) (by decide) (by decide) (by decide) (by decide) (fun _ => by decide)
theorem fixed_ex2 (w : World) : Calls Try.prog 14 #[.float .f64 4609434218613702656, .int .i64 0, .int .i64 9] w fun x w' => x = .returned (.tuple #[.int .i64 2, .int .i64 0]) ∧ w' = w :=
  fixed_gen 4609434218613702656 4609434218613702656 4611686018427387904 4621256167635550208 0 9 2 false w (by decide) (by decide) (by decide) (by decide) (by decide) (by decide) (by decide)
    (fun W => ldexp_normal false 1023 2251799813685248 1023 0 W (by decide) (by decide) (by decide) (by decide) (by decide) (by decide)) (by decide) (by decide) (by decide) (by decide) (by decide) (fun _ => by decide)
theorem back_ex (w : World) : Calls Try.prog 19 #[.int .i64 3, .int .i64 1] w fun x w' => x = .returned (.tuple #[.float .f64 4609434218613702656, .int .i64 0]) ∧ w' = w :=
  back_gen 3 1 4613937818241073152 4609434218613702656 w (by decide) (by decide) (by decide) (by decide) (by decide)
    (fun W => ldexp_normal false 1024 2251799813685248 1023 (-1) W (by decide) (by decide) (by decide) (by decide) (by decide) (by decide))
set_option maxHeartbeats 1000000 in
theorem awake1 (w : World) : Calls Try.prog 11 #[] w fun x w' => x = .returned (.bool true) ∧ w' = w := by
  have CK : Hid (∀ W, Calls Try.prog 25 #[.float .f64 4607182418800017408] W fun x w' => x = .returned (.int .i64 5) ∧ w' = W) := Lib.hid (fun W => kind_any 4607182418800017408 (by decide) W)
  have CC : Hid (∀ W, Calls Try.prog 12 #[.float .f64 4607182418800017408, .float .f64 4611686018427387904] W fun x w' => x = .returned (.int .i64 (-1)) ∧ w' = W) := Lib.hid (fun W => compare_any 4607182418800017408 4611686018427387904 (by decide) (by decide) W)
  have q1 : (FloatKind.f64.format.order 4609434218613702656 4609434218613702656 == some .eq) = true := by decide
  go_enter Try.func11, Try.ntmps11
  go_wp2_with fail
  refine (fixed_ex1 _).mono ?_
  rintro x w1 ⟨rfl, rfl⟩
  go_wp2_with fail
  refine (fixed_ex2 _).mono ?_
  rintro x w1 ⟨rfl, rfl⟩
  go_wp2_with fail
  refine (copysign_ex _).mono ?_
  rintro x w1 ⟨rfl, rfl⟩
  go_wp2_with fail
  refine (unit_ex _).mono ?_
  rintro x w1 ⟨rfl, rfl⟩
  go_wp2_with fail
  refine (back_ex _).mono ?_
  rintro x w1 ⟨rfl, rfl⟩
  go_wp2_with fail
  refine (CK.out _).mono ?_
  rintro x w1 ⟨rfl, rfl⟩
  go_wp2_with fail
  refine (CC.out _).mono ?_
  rintro x w1 ⟨rfl, rfl⟩
  go_wp2_with fail
  go_ret
  exact ⟨rfl, rfl⟩
end Go.Proofs.Ytofninkbinnbhaa
