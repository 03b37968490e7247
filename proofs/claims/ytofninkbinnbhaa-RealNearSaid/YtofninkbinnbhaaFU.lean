/- Proof text: a float among 0 and 1, times a number (real.Unit). By an AI agent. No condition beyond what each theorem states. -/
import Derived.Test.YtofninkbinnbhaaFJ
import Derived.Shelf.Bits.Mul64
set_option linter.unusedVariables false
set_option linter.unusedSimpArgs false
namespace Go.Proofs.Ytofninkbinnbhaa
open Go.RowKit
def lays264_ren : Go.Shelf.Ren := ⟨fun x => match x with | 264 => 35 | n => n, fun x => match x with | 46 => 45 | 53 => 24 | n => n, fun n => n⟩
theorem lays264 : Lays.n264 Try.prog lays264_ren := {
  mixed := by kernel_rfl
  f264 := by kernel_rfl
  t46 := by kernel_rfl
  a46 := fun w => by kernel_rfl
  z46 := fun w => by kernel_rfl
  v46 := fun w => by kernel_rfl
  t53 := by kernel_rfl
  a53 := fun w => by kernel_rfl
  z53 := fun w => by kernel_rfl
  v53 := fun w => by kernel_rfl }
theorem mul64_any (x y h l : Nat) (hx : x < 18446744073709551616) (hy : y < 18446744073709551616) (hh : x * y / 18446744073709551616 = h) (hl : x * y % 18446744073709551616 = l) (w : World) :
    Calls Try.prog 35 #[.int .u64 x, .int .u64 y] w fun e w' => e = .returned (.tuple #[.int .u64 h, .int .u64 l]) ∧ w' = w := by
  subst hh; subst hl
  exact Any.bits_Mul64 lays264 x y hx hy w
/-- What there is of a number. -/
def un (b top : Nat) : Nat := if ex b = 0 then 0 else (fr b + 4503599627370496) * top / 2 ^ (1075 - ex b)
theorem and_low (b : Nat) (hb : b < 18446744073709551616) : bits .and .u64 (b : Int) 4503599627370495 = (fr b : Int) := by
  have h1 := bits_and_u64_nat b 4503599627370495 hb (by omega)
  have := Nat.and_two_pow_sub_one_eq_mod b 52
  rw [show 2 ^ 52 - 1 = 4503599627370495 from rfl, show 2 ^ 52 = 4503599627370496 from rfl] at this
  rw [show (4503599627370495 : Int) = ((4503599627370495 : Nat) : Int) from rfl, h1, this]
  rfl
theorem or_top (f : Nat) (hf : f < 4503599627370496) : bits .or .u64 (f : Int) 4503599627370496 = ((f + 4503599627370496 : Nat) : Int) := by
  have h1 := bits_or_u64_nat f 4503599627370496 (by omega) (by omega)
  rw [show (4503599627370496 : Int) = ((4503599627370496 : Nat) : Int) from rfl, h1]
  have := word_or 0 1 f (by decide) (by simpa using hf)
  simp at this
  rw [this, Nat.add_comm]
theorem or_sum (a b k : Nat) (hb : b < 2 ^ k) (ha : 2 ^ k * a < 18446744073709551616) (hk : k ≤ 64) : bits .or .u64 ((2 ^ k * a : Nat) : Int) (b : Int) = ((2 ^ k * a + b : Nat) : Int) := by
  have hb2 : b < 18446744073709551616 := Nat.lt_of_lt_of_le hb (by rw [show 18446744073709551616 = 2 ^ 64 from rfl]; exact Nat.pow_le_pow_right (by omega) hk)
  rw [bits_or_u64_nat _ _ ha hb2, Nat.two_pow_add_eq_or_of_lt hb]
theorem le_zero {b : Nat} (hb : b < 18446744073709551616) (h : nn b = false) : ((FloatKind.f64.format.order b 0 == some .lt) || (FloatKind.f64.format.order b 0 == some .eq)) = decide (key b ≤ 0) := by
  rw [ord_lt hb (by decide) h (by decide), ord_eq hb (by decide) h (by decide), show key 0 = 0 by decide]
  rw [← Bool.decide_or]
  exact decide_eq_decide.2 ⟨by omega, by omega⟩
theorem ge_one {b : Nat} (hb : b < 18446744073709551616) (h : nn b = false) : ((FloatKind.f64.format.order b 4607182418800017408 == some .gt) || (FloatKind.f64.format.order b 4607182418800017408 == some .eq)) = decide (4607182418800017408 ≤ key b) := by
  rw [ord_gt hb (by decide) h (by decide), ord_eq hb (by decide) h (by decide), show key 4607182418800017408 = 4607182418800017408 by decide]
  rw [← Bool.decide_or]
  exact decide_eq_decide.2 ⟨by omega, by omega⟩
theorem mul64_int (f top h l : Nat) (hf : f < 4503599627370496) (ht : top ≤ 16777216) (hh : (f + 4503599627370496) * top / 18446744073709551616 = h) (hl : (f + 4503599627370496) * top % 18446744073709551616 = l) (w : World) :
    Calls Try.prog 35 #[.int .u64 ((f : Int) + 4503599627370496), .int .u64 top] w fun e w' => e = .returned (.tuple #[.int .u64 h, .int .u64 l]) ∧ w' = w := by
  have := mul64_any (f + 4503599627370496) top h l (by omega) (by omega) hh hl w
  rw [Int.natCast_add] at this
  exact this
theorem prod_bound {f top : Nat} (hf : f < 4503599627370496) (ht : top ≤ 16777216) : (f + 4503599627370496) * top < 151115727451828646838272 := by
  have h1 : (f + 4503599627370496) * top ≤ 9007199254740991 * 16777216 := Nat.mul_le_mul (by omega) ht
  omega
theorem un_far {P e : Nat} (hP : P < 151115727451828646838272) (he : e ≤ 947) : (if e = 0 then 0 else P / 2 ^ (1075 - e)) = 0 := by
  split
  · rfl
  · apply Nat.div_eq_of_lt
    have h1 : 2 ^ 77 ≤ 2 ^ (1075 - e) := Nat.pow_le_pow_right (by omega) (by omega)
    rw [show (2 : Nat) ^ 77 = 151115727451828646838272 from rfl] at h1
    omega
theorem cast_div (x k : Nat) : (x : Int) / 2 ^ k = ((x / 2 ^ k : Nat) : Int) := by
  rw [Int.natCast_ediv, Int.natCast_pow]
  rfl
theorem un_mid {P e x : Nat} (hP : P < 151115727451828646838272) (h1 : 948 ≤ e) (h2 : e ≤ 1011) (hx : P / 18446744073709551616 = x) : wrap64 ((x : Int) / 2 ^ (1075 - e - 64)) = (((if e = 0 then 0 else P / 2 ^ (1075 - e)) : Nat) : Int) := by
  rw [if_neg (by omega), cast_div, ← hx, show (18446744073709551616 : Nat) = 2 ^ 64 from rfl, Nat.div_div_eq_div_mul, ← Nat.pow_add, show 64 + (1075 - e - 64) = 1075 - e by omega]
  have : P / 2 ^ (1075 - e) ≤ P / 1 := Nat.div_le_div_left (Nat.two_pow_pos _) (by omega)
  have h3 : P / 2 ^ (1075 - e) < 2 ^ 63 := by
    rw [Nat.div_lt_iff_lt_mul (Nat.two_pow_pos _)]
    have h4 : 2 ^ 64 ≤ 2 ^ (1075 - e) := Nat.pow_le_pow_right (by omega) (by omega)
    have h5 : 2 ^ 63 * 2 ^ 64 ≤ 2 ^ 63 * 2 ^ (1075 - e) := Nat.mul_le_mul_left _ h4
    have h6 : (2 : Nat) ^ 63 * 2 ^ 64 = 170141183460469231731687303715884105728 := by decide
    omega
  rw [show (2 : Nat) ^ 63 = 9223372036854775808 from rfl] at h3
  clear this
  generalize P / 2 ^ (1075 - e) = Q at *
  exact wrap64_small (by omega) (by omega)
theorem un_near {P e x y : Nat} (hP : P < 151115727451828646838272) (h1 : 1012 ≤ e) (h2 : e ≤ 1022) (hx : P / 18446744073709551616 = x) (hy : P % 18446744073709551616 = y) :
    wrap64 (bits .or .u64 (IntKind.u64.wrap ((x : Int) * 2 ^ (64 - (1075 - e)))) ((y : Int) / 2 ^ (1075 - e))) = (((if e = 0 then 0 else P / 2 ^ (1075 - e)) : Nat) : Int) := by
  obtain ⟨D, hD⟩ : ∃ D, D = 1075 - e := ⟨_, rfl⟩
  have d1 : 53 ≤ D := by omega
  have d2 : D ≤ 63 := by omega
  rw [if_neg (by omega), ← hD]
  clear hD h1 h2
  have hx1 : x < 8192 := by omega
  have hy1 : y < 18446744073709551616 := by omega
  have hP2 : P = x * 2 ^ 64 + y := by rw [show (2 : Nat) ^ 64 = 18446744073709551616 from rfl]; omega
  clear hx hy hP
  obtain ⟨K, hK⟩ : ∃ K, K = 64 - D := ⟨_, rfl⟩
  have hKD : 2 ^ 64 = 2 ^ K * 2 ^ D := by rw [← Nat.pow_add]; congr 1; omega
  have hK11 : 2 ^ K ≤ 2 ^ 11 := Nat.pow_le_pow_right (by omega) (by omega)
  have hA : 2 ^ K * x < 16777216 := by
    have : 2 ^ K * x ≤ 2 ^ 11 * 8191 := Nat.mul_le_mul hK11 (by omega)
    rw [show (2 : Nat) ^ 11 * 8191 = 16775168 from rfl] at this
    omega
  have hB : y / 2 ^ D < 2 ^ K := by
    rw [Nat.div_lt_iff_lt_mul (Nat.two_pow_pos _), ← hKD]
    exact hy1
  have e1 : IntKind.u64.wrap ((x : Int) * 2 ^ K) = ((2 ^ K * x : Nat) : Int) := by
    rw [show (x : Int) * 2 ^ K = ((2 ^ K * x : Nat) : Int) by rw [Nat.mul_comm, Int.natCast_mul, Int.natCast_pow]; rfl]
    rw [IntKind.wrap_u64]
    omega
  rw [← hK, e1, cast_div, or_sum _ _ K hB (by omega) (by omega)]
  have e2 : P / 2 ^ D = 2 ^ K * x + y / 2 ^ D := by
    have e3 : x * (2 ^ K * 2 ^ D) = 2 ^ D * (2 ^ K * x) := by rw [Nat.mul_comm (2 ^ K), Nat.mul_left_comm, Nat.mul_comm x]
    rw [hP2, hKD, e3, Nat.mul_add_div (Nat.two_pow_pos _)]
  rw [e2]
  have : 2 ^ K ≤ 2048 := by rw [show (2048 : Nat) = 2 ^ 11 from rfl]; exact hK11
  clear e2 e1 hKD hP2
  generalize y / 2 ^ D = Q at *
  generalize 2 ^ K * x = T at *
  generalize 2 ^ K = V at *
  exact wrap64_small (by omega) (by omega)
set_option maxRecDepth 10000 in
theorem unit_far (b top : Nat) (w : World) (hb : b < 18446744073709551616) (ht : top ≤ 16777216) (h : nn b = false) (h1 : 0 < key b) (h2 : key b < 4607182418800017408) (h3 : 0 ≤ ex b) (h4 : ex b ≤ 947) :
    Calls Try.prog 16 #[.float .f64 b, .int .i64 top] w fun x w' => x = .returned (.tuple #[.int .i64 (un b top), .int .i64 0]) ∧ w' = w := by
  have t1 : (FloatKind.f64.format.order b b != some .eq) = false := by rw [ord_selfn hb, h]
  have t2 := le_zero hb h
  rw [decide_eq_false (by omega)] at t2
  have t3 := ge_one hb h
  rw [decide_eq_false (by omega)] at t3
  have hti : (top : Int) ≤ 16777216 := by omega
  have q1 := and_low b hb
  have hs : sg b = false := by
    unfold key at h1
    cases hs : sg b with
    | false => rfl
    | true => rw [hs] at h1; simp at h1; omega
  obtain ⟨p1, p2, p3⟩ := rg_parts b
  obtain ⟨e, he⟩ : ∃ e, e = ex b := ⟨_, rfl⟩
  obtain ⟨f, hf⟩ : ∃ f, f = fr b := ⟨_, rfl⟩
  have q3 : (b : Int) / 4503599627370496 = (e : Int) := by
    have := word_eq hb
    rw [hs] at this
    simp at this
    omega
  have HU : Hid (un b top = if e = 0 then 0 else (f + 4503599627370496) * top / 2 ^ (1075 - e)) := Lib.hid (by unfold un; rw [he, hf])
  rw [← hf] at q1 p3
  rw [← he] at h3 h4
  have q2 := or_top f p3
  obtain ⟨x, hx⟩ : ∃ x, (f + 4503599627370496) * top / 18446744073709551616 = x := ⟨_, rfl⟩
  obtain ⟨y, hy⟩ : ∃ y, (f + 4503599627370496) * top % 18446744073709551616 = y := ⟨_, rfl⟩
  have CM := Lib.hid (fun W => mul64_int f top x y p3 ht hx hy W)
  have HP := Lib.hid (prod_bound p3 ht)
  have HX := Lib.hid hx
  have HY := Lib.hid hy
  have e1 : (0 : Int) ≤ e := by omega
  have e2 : (e : Int) ≤ 947 := by omega
  have HE : Hid (0 ≤ e ∧ e ≤ 947) := Lib.hid ⟨h3, h4⟩
  clear h h1 h2 hb ht h3 h4 hs p1 p2 p3 he hf hx hy
  go_enter Try.func16, Try.ntmps16
  go_wp2_with fail
  refine (CM.out _).mono ?_
  rintro x w1 ⟨rfl, rfl⟩
  go_wp2_with fail
  go_ret2
  exact ⟨by rw [HU.out, un_far HP.out HE.out.2]; rfl, rfl⟩
set_option maxRecDepth 10000 in
theorem unit_mid (b top : Nat) (w : World) (hb : b < 18446744073709551616) (ht : top ≤ 16777216) (h : nn b = false) (h1 : 0 < key b) (h2 : key b < 4607182418800017408) (h3 : 948 ≤ ex b) (h4 : ex b ≤ 1011) :
    Calls Try.prog 16 #[.float .f64 b, .int .i64 top] w fun x w' => x = .returned (.tuple #[.int .i64 (un b top), .int .i64 0]) ∧ w' = w := by
  have t1 : (FloatKind.f64.format.order b b != some .eq) = false := by rw [ord_selfn hb, h]
  have t2 := le_zero hb h
  rw [decide_eq_false (by omega)] at t2
  have t3 := ge_one hb h
  rw [decide_eq_false (by omega)] at t3
  have hti : (top : Int) ≤ 16777216 := by omega
  have q1 := and_low b hb
  have hs : sg b = false := by
    unfold key at h1
    cases hs : sg b with
    | false => rfl
    | true => rw [hs] at h1; simp at h1; omega
  obtain ⟨p1, p2, p3⟩ := rg_parts b
  obtain ⟨e, he⟩ : ∃ e, e = ex b := ⟨_, rfl⟩
  obtain ⟨f, hf⟩ : ∃ f, f = fr b := ⟨_, rfl⟩
  have q3 : (b : Int) / 4503599627370496 = (e : Int) := by
    have := word_eq hb
    rw [hs] at this
    simp at this
    omega
  have HU : Hid (un b top = if e = 0 then 0 else (f + 4503599627370496) * top / 2 ^ (1075 - e)) := Lib.hid (by unfold un; rw [he, hf])
  rw [← hf] at q1 p3
  rw [← he] at h3 h4
  have q2 := or_top f p3
  obtain ⟨x, hx⟩ : ∃ x, (f + 4503599627370496) * top / 18446744073709551616 = x := ⟨_, rfl⟩
  obtain ⟨y, hy⟩ : ∃ y, (f + 4503599627370496) * top % 18446744073709551616 = y := ⟨_, rfl⟩
  have CM := Lib.hid (fun W => mul64_int f top x y p3 ht hx hy W)
  have HP := Lib.hid (prod_bound p3 ht)
  have HX := Lib.hid hx
  have HY := Lib.hid hy
  have e1 : (948 : Int) ≤ e := by omega
  have e2 : (e : Int) ≤ 1011 := by omega
  have HE : Hid (948 ≤ e ∧ e ≤ 1011) := Lib.hid ⟨h3, h4⟩
  clear h h1 h2 hb ht h3 h4 hs p1 p2 p3 he hf hx hy
  go_enter Try.func16, Try.ntmps16
  go_wp2_with fail
  refine (CM.out _).mono ?_
  rintro x w1 ⟨rfl, rfl⟩
  go_wp2_with fail
  go_ret2
  exact ⟨by rw [HU.out, ← un_mid HP.out HE.out.1 HE.out.2 HX.out]; rfl, rfl⟩
set_option maxRecDepth 10000 in
theorem unit_near (b top : Nat) (w : World) (hb : b < 18446744073709551616) (ht : top ≤ 16777216) (h : nn b = false) (h1 : 0 < key b) (h2 : key b < 4607182418800017408) (h3 : 1012 ≤ ex b) (h4 : ex b ≤ 1022) :
    Calls Try.prog 16 #[.float .f64 b, .int .i64 top] w fun x w' => x = .returned (.tuple #[.int .i64 (un b top), .int .i64 0]) ∧ w' = w := by
  have t1 : (FloatKind.f64.format.order b b != some .eq) = false := by rw [ord_selfn hb, h]
  have t2 := le_zero hb h
  rw [decide_eq_false (by omega)] at t2
  have t3 := ge_one hb h
  rw [decide_eq_false (by omega)] at t3
  have hti : (top : Int) ≤ 16777216 := by omega
  have q1 := and_low b hb
  have hs : sg b = false := by
    unfold key at h1
    cases hs : sg b with
    | false => rfl
    | true => rw [hs] at h1; simp at h1; omega
  obtain ⟨p1, p2, p3⟩ := rg_parts b
  obtain ⟨e, he⟩ : ∃ e, e = ex b := ⟨_, rfl⟩
  obtain ⟨f, hf⟩ : ∃ f, f = fr b := ⟨_, rfl⟩
  have q3 : (b : Int) / 4503599627370496 = (e : Int) := by
    have := word_eq hb
    rw [hs] at this
    simp at this
    omega
  have HU : Hid (un b top = if e = 0 then 0 else (f + 4503599627370496) * top / 2 ^ (1075 - e)) := Lib.hid (by unfold un; rw [he, hf])
  rw [← hf] at q1 p3
  rw [← he] at h3 h4
  have q2 := or_top f p3
  obtain ⟨x, hx⟩ : ∃ x, (f + 4503599627370496) * top / 18446744073709551616 = x := ⟨_, rfl⟩
  obtain ⟨y, hy⟩ : ∃ y, (f + 4503599627370496) * top % 18446744073709551616 = y := ⟨_, rfl⟩
  have CM := Lib.hid (fun W => mul64_int f top x y p3 ht hx hy W)
  have HP := Lib.hid (prod_bound p3 ht)
  have HX := Lib.hid hx
  have HY := Lib.hid hy
  have e1 : (1012 : Int) ≤ e := by omega
  have e2 : (e : Int) ≤ 1022 := by omega
  have HE : Hid (1012 ≤ e ∧ e ≤ 1022) := Lib.hid ⟨h3, h4⟩
  clear h h1 h2 hb ht h3 h4 hs p1 p2 p3 he hf hx hy
  go_enter Try.func16, Try.ntmps16
  go_wp2_with fail
  refine (CM.out _).mono ?_
  rintro x w1 ⟨rfl, rfl⟩
  go_wp2_with fail
  go_ret2
  exact ⟨by rw [HU.out, ← un_near HP.out HE.out.1 HE.out.2 HX.out HY.out]; rfl, rfl⟩
end Go.Proofs.Ytofninkbinnbhaa
