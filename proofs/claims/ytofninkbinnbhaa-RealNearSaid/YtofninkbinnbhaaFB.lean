/- Proof text: kinds, signs, bits, the order of floats (package real, and the document's). By an AI agent. No condition beyond what each theorem states. -/
import Derived.Test.YtofninkbinnbhaaFA
set_option linter.unusedVariables false
set_option linter.unusedSimpArgs false
namespace Go.Proofs.Ytofninkbinnbhaa
open Go.RowKit
theorem run_extern {P : Program} {f : FuncId} {fn : Func} {e : Array Value → Sem Value} {args : Array Value} {v : Value} {w : World} (hf : P.funcs[f]? = some fn) (hname : (fn.name == "runtime.NumGoroutine") = false) (hb : fn.body.isNone = true) (hn : Extern.findNext fn = none) (he : Extern.find fn = some e)
    (h : (e args).run P w = .ok v w) : (callFunc f args).run P w = .ok (.value v) w := by
  have h1 : fn.name ≠ "runtime.NumGoroutine" := by simpa using hname
  have h2 : fn.body = none := by simpa using hb
  simp [callFunc, hf, h1, h2, hn, he, h, go_sem]
theorem bits_run (b : Nat) (w : World) : (callFunc 34 #[.float .f64 b]).run Try.prog w = .ok (.value (.int .u64 b)) w :=
  run_extern (e := Extern.MathFloatBits.float64bits) Try.func34 (by kernel_rfl) (by kernel_rfl) (by kernel_rfl) (by kernel_rfl) rfl
theorem float_run (n : Int) (w : World) : (callFunc 10 #[.int .u64 n]).run Try.prog w = .ok (.value (.float .f64 n.toNat)) w :=
  run_extern (e := Extern.MathFloatBits.float64frombits) Try.func10 (by kernel_rfl) (by kernel_rfl) (by kernel_rfl) (by kernel_rfl) rfl
attribute [go_sem] bits_run float_run
abbrev ford (a b : Nat) : Option Ordering := FloatKind.f64.format.order a b
theorem some_cmp (x y : Int) (o : Ordering) : (some (compare x y) == some o) = (compare x y == o) := rfl
theorem ord_eq {a b : Nat} (ha : a < 18446744073709551616) (hb : b < 18446744073709551616) (h1 : nn a = false) (h2 : nn b = false) : (FloatKind.f64.format.order a b == some .eq) = decide (key a = key b) := by
  show (Ieee.double.order a b == some .eq) = _
  rw [order_key ha hb h1 h2, compare_int]
  by_cases h : key a < key b
  · rw [if_pos h, decide_eq_false (by omega)]; rfl
  · rw [if_neg h]
    by_cases h' : key a = key b
    · rw [if_pos h', decide_eq_true h']; rfl
    · rw [if_neg h', decide_eq_false h']; rfl
theorem ord_lt {a b : Nat} (ha : a < 18446744073709551616) (hb : b < 18446744073709551616) (h1 : nn a = false) (h2 : nn b = false) : (FloatKind.f64.format.order a b == some .lt) = decide (key a < key b) := by
  show (Ieee.double.order a b == some .lt) = _
  rw [order_key ha hb h1 h2, compare_int]
  by_cases h : key a < key b
  · rw [if_pos h, decide_eq_true h]; rfl
  · rw [if_neg h, decide_eq_false h]
    by_cases h' : key a = key b
    · rw [if_pos h']; rfl
    · rw [if_neg h']; rfl
theorem ord_gt {a b : Nat} (ha : a < 18446744073709551616) (hb : b < 18446744073709551616) (h1 : nn a = false) (h2 : nn b = false) : (FloatKind.f64.format.order a b == some .gt) = decide (key b < key a) := by
  show (Ieee.double.order a b == some .gt) = _
  rw [order_key ha hb h1 h2, compare_int]
  by_cases h : key a < key b
  · rw [if_pos h, decide_eq_false (by omega)]; rfl
  · rw [if_neg h]
    by_cases h' : key a = key b
    · rw [if_pos h', decide_eq_false (by omega)]; rfl
    · rw [if_neg h', decide_eq_true (by omega)]; rfl
theorem ord_nan {a b : Nat} (h : nn a = true ∨ nn b = true) (o : Ordering) : (FloatKind.f64.format.order a b == some o) = false := by
  show (Ieee.double.order a b == some o) = _
  have e : Ieee.double.order a b = none := by
    rcases h with h | h
    · exact order_nan_l h
    · exact order_nan_r h
  rw [e]
  rfl
theorem ord_self {b : Nat} (hb : b < 18446744073709551616) : (FloatKind.f64.format.order b b == some .eq) = !nn b := by
  cases h : nn b with
  | true => rw [ord_nan (.inl h)]; rfl
  | false => rw [ord_eq hb hb h h]; simp
theorem rg_lt (b : Nat) : rg b < 9223372036854775808 := by unfold rg; omega
theorem rg_rg (b : Nat) : rg (rg b) = rg b := by unfold rg; omega
theorem sg_rg (b : Nat) : sg (rg b) = false := by unfold sg; have := rg_lt b; simp; omega
theorem nn_rg (b : Nat) : nn (rg b) = nn b := by unfold nn; rw [rg_rg]
theorem key_rg (b : Nat) : key (rg b) = rg b := by unfold key; rw [sg_rg, rg_rg]; rfl
theorem gt_max (b : Nat) : (FloatKind.f64.format.order (rg b) 9218868437227405311 == some .gt) = decide (rg b = 9218868437227405312) := by
  have hl := rg_lt b
  cases h : nn b with
  | true =>
    rw [ord_nan (.inl (by rw [nn_rg]; exact h))]
    unfold nn at h
    simp at h
    rw [decide_eq_false (by omega)]
  | false =>
    rw [ord_gt (by omega) (by decide) (by rw [nn_rg]; exact h) (by decide), key_rg]
    unfold nn at h
    simp at h
    have e : key 9218868437227405311 = 9218868437227405311 := by decide
    rw [e]
    by_cases h2 : rg b = 9218868437227405312
    · rw [decide_eq_true (by omega), decide_eq_true h2]
    · rw [decide_eq_false (by omega), decide_eq_false h2]
theorem eq_zero {b : Nat} (hb : b < 18446744073709551616) (h : nn b = false) : (FloatKind.f64.format.order b 0 == some .eq) = decide (rg b = 0) := by
  rw [ord_eq hb (by decide) h (by decide)]
  have e : key 0 = 0 := by decide
  rw [e]
  unfold key
  cases sg b <;> simp
theorem bare_any (b : Nat) (hb : b < 18446744073709551616) (w : World) : Calls Try.prog 38 #[.float .f64 b] w fun x w' => x = .returned (.int .u64 (rg b)) ∧ w' = w := by
  have e := andNot_sign b hb
  go_enter Try.func38, Try.ntmps38
  go_wp2_with fail
  go_ret
  exact ⟨rfl, rfl⟩
theorem abs_any (b : Nat) (hb : b < 18446744073709551616) (w : World) : Calls Try.prog 32 #[.float .f64 b] w fun x w' => x = .returned (.float .f64 (rg b)) ∧ w' = w := by
  have e := andNot_sign b hb
  go_enter Try.func32, Try.ntmps32
  go_wp2_with fail
  go_ret
  exact ⟨rfl, rfl⟩
theorem isinf_any (b : Nat) (hb : b < 18446744073709551616) (w : World) : Calls Try.prog 29 #[.float .f64 b, .int .i64 0] w fun x w' => x = .returned (.bool (decide (rg b = 9218868437227405312))) ∧ w' = w := by
  have e := gt_max b
  go_enter Try.func29, Try.ntmps29
  go_wp2_with fail
  refine (abs_any b hb _).mono ?_
  rintro x w1 ⟨rfl, rfl⟩
  go_wp2_with fail
  go_ret
  exact ⟨rfl, rfl⟩
theorem signbit_any (b : Nat) (hb : b < 18446744073709551616) (w : World) : Calls Try.prog 36 #[.float .f64 b] w fun x w' => x = .returned (.bool (sg b)) ∧ w' = w := by
  have e : decide (IntKind.i64.wrap (b : Int) < 0) = sg b := by
    rw [wrap_word b hb]
    cases h : sg b with
    | true => simp; omega
    | false => simp
  have e2 : wrap64 (b : Int) = IntKind.i64.wrap (b : Int) := by
    rw [wrap_word b hb]
    unfold wrap64 sg
    by_cases h : 9223372036854775808 ≤ b
    · simp [h]; omega
    · simp [h]; omega
  rw [← e2] at e
  clear e2
  go_enter Try.func36, Try.ntmps36
  go_wp2_with fail
  go_ret
  exact ⟨rfl, rfl⟩
end Go.Proofs.Ytofninkbinnbhaa
