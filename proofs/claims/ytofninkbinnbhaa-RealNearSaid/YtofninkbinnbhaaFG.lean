/- Proof text: a float times a power of two (math.ldexp, math.Ldexp). By an AI agent. No condition beyond what each theorem states. -/
import Derived.Test.YtofninkbinnbhaaFF
set_option linter.unusedVariables false
set_option linter.unusedSimpArgs false
namespace Go.Proofs.Ytofninkbinnbhaa
open Go.RowKit
set_option maxRecDepth 10000 in
theorem ldexp_normal (s : Bool) (e f e' : Nat) (n : Int) (w : World) (h1 : 1 ≤ e) (h2 : e ≤ 2046) (hf : f < 4503599627370496) (h3 : (e' : Int) = e + n) (h4 : 1 ≤ e') (h5 : e' ≤ 2046) :
    Calls Try.prog 40 #[.float .f64 (wo s (e * 4503599627370496 + f)), .int .i64 n] w fun x w' => x = .returned (.float .f64 (wo s (e' * 4503599627370496 + f))) ∧ w' = w := by
  obtain ⟨B, hB⟩ : ∃ B, B = wo s (e * 4503599627370496 + f) := ⟨_, rfl⟩
  have hr : rg B = e * 4503599627370496 + f := by rw [hB]; exact rg_wo (by omega)
  have hb : B < 18446744073709551616 := by rw [hB]; exact wo_lt (by omega)
  have hn : nn B = false := by unfold nn; rw [hr]; simp; omega
  have t1 : (FloatKind.f64.format.order B 0 == some .eq) = false := by rw [eq_zero hb hn, hr]; simp; omega
  have CI := Lib.hid (fun W => isinf_any B hb W)
  have CN := Lib.hid (fun W => isnan_any B hb W)
  have CZ := Lib.hid (fun W => normalize_normal B hb hn (by omega) W)
  rw [decide_eq_false (by rw [hr]; omega)] at CI
  rw [hn] at CN
  obtain ⟨q, hq⟩ : ∃ q, q = B / 4503599627370496 := ⟨_, rfl⟩
  have q1 : wrap64 ((B : Int) / 4503599627370496) = (q : Int) := by rw [hq]; unfold wrap64; omega
  have q2 : bits .and .i64 (q : Int) 2047 = (e : Int) := by
    rw [and_2047 q (by omega)]
    have := wo_parts s e f
    rw [← hB] at this
    congr 1
    omega
  have q3 : wrap64 ((e : Int) - 1023) = (e : Int) - 1023 := by unfold wrap64; omega
  obtain ⟨c, hc⟩ : ∃ c : Int, c = e' - 1023 := ⟨_, rfl⟩
  have q4 : wrap64 (n + ((e : Int) - 1023)) = c := by rw [hc]; unfold wrap64; omega
  have c1 : -1022 ≤ c := by omega
  have c2 : c ≤ 1023 := by omega
  obtain ⟨D, hD⟩ : ∃ D, D = wo s f := ⟨_, rfl⟩
  have q5 : bits .andNot .u64 (B : Int) 9218868437227405312 = (D : Int) := by rw [hB, hD]; exact andNot_exp s e f (by omega) hf
  have q6 : c + 1023 = (e' : Int) := by omega
  obtain ⟨R, hR⟩ : ∃ R, R = wo s (e' * 4503599627370496 + f) := ⟨_, rfl⟩
  have q7 : bits .or .u64 (D : Int) ((e' : Int) * 4503599627370496) = (R : Int) := by rw [hD, hR]; exact or_exp s e' f (by omega) hf
  have hRr : rg R = e' * 4503599627370496 + f := by rw [hR]; exact rg_wo (by omega)
  have q8 : ∀ (t : TypeId) (W : World), (binOp .mul t (.float .f64 4607182418800017408) (.float .f64 R)).run Try.prog W = .ok (.float .f64 R) W := fun t W => run_float_arith W .mul t .f64 _ _ _ (mul_one (by rw [hR]; exact wo_lt (by omega)) (by omega) (by omega))
  have e1i : (e' : Int) ≤ 2046 := by omega
  have n1 : -5000 ≤ n := by omega
  have n2 : n ≤ 5000 := by omega
  rw [← hB, ← hR]
  clear hr hb hn hB hq hc hD hR hRr h1 h2 h3 h4 h5 hf
  go_enter Try.func40, Try.ntmps40
  go_wp2_with fail
  refine (CI.out _).mono ?_
  rintro x w1 ⟨rfl, rfl⟩
  go_wp2_with fail
  refine (CN.out _).mono ?_
  rintro x w1 ⟨rfl, rfl⟩
  go_wp2_with fail
  refine (CZ.out _).mono ?_
  rintro x w1 ⟨rfl, rfl⟩
  go_wp2_with fail
  go_ret
  exact ⟨rfl, rfl⟩
end Go.Proofs.Ytofninkbinnbhaa
