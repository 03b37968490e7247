/- Proof text: real.Fixed, whole. By an AI agent. No condition beyond what each theorem states. -/
import Derived.Test.YtofninkbinnbhaaGB
set_option linter.unusedVariables false
set_option linter.unusedSimpArgs false
namespace Go.Proofs.Ytofninkbinnbhaa
open Go.RowKit
/-- The whole number nearest to a magnitude times a power of two. -/
def fn (r : Nat) (bs : Int) : Nat := if 0 ≤ plc r + bs then mant r * 2 ^ (plc r + bs).toNat else rnd (mant r) (-(plc r + bs)).toNat
/-- What Fixed gives: the number, and why there is none. -/
def fxv (b : Nat) (bs most : Int) : Int × Int :=
  if bs < 0 ∨ 32 < bs ∨ most < 0 ∨ 1099511627776 < most then (0, 1) else if nn b then (0, 2) else if rg b = 9218868437227405312 then (0, 3)
  else if 10 < plc (rg b) + bs ∨ most < (fn (rg b) bs : Nat) then (0, 4) else (if sg b then -((fn (rg b) bs : Nat) : Int) else (fn (rg b) bs : Nat), 0)
theorem pow_ge {e k : Nat} (h : k ≤ e) : 2 ^ k ≤ 2 ^ e := Nat.pow_le_pow_right (by omega) h
theorem fixed_fin (b : Nat) (rL : Nat) (bs most : Int) (w : World) (hb : b < 18446744073709551616) (b1 : 0 ≤ bs) (b2 : bs ≤ 32) (m1 : 0 ≤ most) (m2 : most ≤ 1099511627776) (hnn : nn b = false) (hinf : rg b ≠ 9218868437227405312) (hrL : rL < 9218868437227405312)
    (hL : ∀ W, Calls Try.prog 40 #[.float .f64 b, .int .i64 bs] W fun x w' => x = .returned (.float .f64 (wo (sg b) rL)) ∧ w' = W) (hN : rn rL = fn (rg b) bs) (hfar : 10 < plc (rg b) + bs → most < (fn (rg b) bs : Nat)) :
    Calls Try.prog 14 #[.float .f64 b, .int .i64 bs, .int .i64 most] w fun x w' => x = .returned (.tuple #[.int .i64 (fxv b bs most).1, .int .i64 (fxv b bs most).2]) ∧ w' = w := by
  have hl : wo (sg b) rL < 18446744073709551616 := wo_lt (by omega)
  have e1 : rg (wo (sg b) rL) = rL := rg_wo (by omega)
  have e2 : sg (wo (sg b) rL) = sg b := sg_wo (by omega)
  obtain ⟨R, hR, hRi, hRN⟩ := whole_of hl (by rw [e1]; exact hrL)
  rw [e2] at hR
  rw [e1, hN] at hRN
  obtain ⟨Rm, hRm, hRmi, hRmN⟩ := of_int most (by omega) (by omega)
  rw [decide_eq_false (by omega)] at hRm
  have k1 : rg (wo (sg b) R) = R := rg_wo (by omega)
  have hord : (FloatKind.f64.format.order (rg (wo (sg b) R)) (wo false Rm) == some .gt) = decide (most < (fn (rg b) bs : Nat)) := by
    rw [k1, ord_gt (by omega) (wo_lt (by omega)) (by unfold nn; rw [show rg R = R by unfold rg; omega]; simp; omega) (by unfold nn; rw [rg_wo (by omega)]; simp; omega)]
    have x1 : key (wo false Rm) = Rm := by unfold key; rw [sg_wo (by omega), rg_wo (by omega)]; rfl
    have x2 : key R = R := by unfold key sg; rw [decide_eq_false (by omega), show rg R = R by unfold rg; omega]; rfl
    rw [x1, x2]
    apply decide_eq_decide.2
    have := int_order hRmN hRN
    omega
  have hx : fxv b bs most = if decide (most < (fn (rg b) bs : Nat)) = true then (0, 4) else (if sg b then -((fn (rg b) bs : Nat) : Int) else (fn (rg b) bs : Nat), 0) := by
    unfold fxv
    rw [if_neg (by omega), hnn, if_neg (by decide), if_neg hinf]
    by_cases hf : most < (fn (rg b) bs : Nat)
    · rw [if_pos (.inr hf), decide_eq_true hf, if_pos rfl]
    · rw [if_neg (fun h => hf (h.elim hfar id)), decide_eq_false hf]
      simp
  have h := fixed_gen b (wo (sg b) rL) (wo (sg b) R) (wo false Rm) bs most (if sg b then -((fn (rg b) bs : Nat) : Int) else (fn (rg b) bs : Nat)) (decide (most < (fn (rg b) bs : Nat))) w hb b1 b2 m1 m2 hnn hinf hL
    (by unfold nn; rw [e1]; simp; omega) hR (wo_lt (by omega)) hRm hord (fun hf => to_int hRi hRN (by simp at hf; omega))
  refine h.mono ?_
  rintro x w' ⟨rfl, rfl⟩
  refine ⟨?_, rfl⟩
  rw [hx]
  cases decide (most < (fn (rg b) bs : Nat)) <;> rfl
theorem fixed_over (b : Nat) (bs most : Int) (w : World) (hb : b < 18446744073709551616) (b1 : 0 ≤ bs) (b2 : bs ≤ 32) (m1 : 0 ≤ most) (m2 : most ≤ 1099511627776) (hnn : nn b = false) (hinf : rg b ≠ 9218868437227405312)
    (hL : ∀ W, Calls Try.prog 40 #[.float .f64 b, .int .i64 bs] W fun x w' => x = .returned (.float .f64 (wo (sg b) 9218868437227405312)) ∧ w' = W) (hfar : 10 < plc (rg b) + bs) :
    Calls Try.prog 14 #[.float .f64 b, .int .i64 bs, .int .i64 most] w fun x w' => x = .returned (.tuple #[.int .i64 (fxv b bs most).1, .int .i64 (fxv b bs most).2]) ∧ w' = w := by
  have hl : wo (sg b) 9218868437227405312 < 18446744073709551616 := wo_lt (by decide)
  have e1 : rg (wo (sg b) 9218868437227405312) = 9218868437227405312 := rg_wo (by decide)
  have e2 : sg (wo (sg b) 9218868437227405312) = sg b := sg_wo (by decide)
  obtain ⟨Rm, hRm, hRmi, hRmN⟩ := of_int most (by omega) (by omega)
  rw [decide_eq_false (by omega)] at hRm
  have hR : whole (wo (sg b) 9218868437227405312) = wo (sg b) 9218868437227405312 := by
    unfold whole
    have hd : FloatKind.f64.decode (wo (sg b) 9218868437227405312) = .infinity (sg b) := by
      have := read_inf hl e1
      rw [e2] at this
      exact this
    rw [hd]
    show Ieee.double.word (sg b) Ieee.double.infRung = _
    rw [wo_word, dbl_inf]
  have hord : (FloatKind.f64.format.order (rg (wo (sg b) 9218868437227405312)) (wo false Rm) == some .gt) = true := by
    rw [e1, ord_gt (by decide) (wo_lt (by omega)) (by decide) (by unfold nn; rw [rg_wo (by omega)]; simp; omega)]
    have x1 : key (wo false Rm) = Rm := by unfold key; rw [sg_wo (by omega), rg_wo (by omega)]; rfl
    have x2 : key 9218868437227405312 = 9218868437227405312 := by decide
    rw [x1, x2]
    exact decide_eq_true (by omega)
  have hx : fxv b bs most = (0, 4) := by
    unfold fxv
    rw [if_neg (by omega), hnn, if_neg (by decide), if_neg hinf, if_pos (.inl hfar)]
  rw [hx]
  exact fixed_gen b (wo (sg b) 9218868437227405312) (wo (sg b) 9218868437227405312) (wo false Rm) bs most 0 true w hb b1 b2 m1 m2 hnn hinf hL (by unfold nn; rw [e1]; decide) hR hl hRm hord (fun h => by cases h)
theorem ex_normal {r : Nat} (h1 : 4503599627370496 ≤ r) (h2 : r < 9218868437227405312) : ∃ e f, r = e * 4503599627370496 + f ∧ 1 ≤ e ∧ e ≤ 2046 ∧ f < 4503599627370496 ∧ mant r = 4503599627370496 + f ∧ plc r = (e : Int) - 1075 := by
  refine ⟨r / 4503599627370496, r % 4503599627370496, by omega, by omega, by omega, by omega, ?_, ?_⟩
  · unfold mant; rw [if_neg (by omega)]
  · unfold plc; rw [if_neg (by omega)]; omega
theorem fn_huge {r : Nat} {bs most : Int} (h1 : 4503599627370496 ≤ mant r) (h : 10 < plc r + bs) (hm : most ≤ 1099511627776) : most < (fn r bs : Nat) := by
  unfold fn
  rw [if_pos (by omega)]
  have h2 : 2 ^ 1 ≤ 2 ^ (plc r + bs).toNat := pow_ge (by omega)
  have h3 : 4503599627370496 * 2 ^ 1 ≤ mant r * 2 ^ (plc r + bs).toNat := Nat.mul_le_mul h1 h2
  omega
theorem fixed_norm (b : Nat) (bs most : Int) (w : World) (hb : b < 18446744073709551616) (b1 : 0 ≤ bs) (b2 : bs ≤ 32) (m1 : 0 ≤ most) (m2 : most ≤ 1099511627776) (h1 : 4503599627370496 ≤ rg b) (h2 : rg b < 9218868437227405312) :
    Calls Try.prog 14 #[.float .f64 b, .int .i64 bs, .int .i64 most] w fun x w' => x = .returned (.tuple #[.int .i64 (fxv b bs most).1, .int .i64 (fxv b bs most).2]) ∧ w' = w := by
  have hnn : nn b = false := by unfold nn; simp; omega
  obtain ⟨e, f, hr, e1, e2, hf, hm, hp⟩ := ex_normal h1 h2
  have hB : b = wo (sg b) (e * 4503599627370496 + f) := by rw [← hr]; exact (wo_of hb).symm
  have hZ : ∀ W, Calls Try.prog 42 #[.float .f64 b] W fun x w' => x = .returned (.tuple #[.float .f64 b, .int .i64 0]) ∧ w' = W := fun W => normalize_normal b hb hnn h1 W
  by_cases ho : (e : Int) + bs ≤ 2046
  · obtain ⟨e', he'⟩ : ∃ e' : Nat, (e' : Int) = (e : Int) + bs - 1023 + 1023 := ⟨((e : Int) + bs).toNat, by omega⟩
    have hL : ∀ W, Calls Try.prog 40 #[.float .f64 b, .int .i64 bs] W fun x w' => x = .returned (.float .f64 (wo (sg b) (e' * 4503599627370496 + f))) ∧ w' = W := fun W =>
      ldexp_norm b b e f (sg b) bs 0 ((e : Int) + bs - 1023) W hb hnn (by omega) (by omega) hZ hB e1 e2 hf (by omega) (by omega) (by decide) (by decide) (by omega) e' he' (by omega) (by omega)
    have hsum : -1074 + ((e' - 1 : Nat) : Int) = (e : Int) - 1075 + bs := by clear hm hp hL; omega
    have hrl : e' * 4503599627370496 + f < 9218868437227405312 := by clear hm hp hL; omega
    have hri : rg b ≠ 9218868437227405312 := by clear hm hp hL; omega
    have hmm : 4503599627370496 ≤ mant (rg b) := by rw [hm]; exact Nat.le_add_right _ _
    have hg := norm_parts (R := e' * 4503599627370496 + f) (d := e' - 1) (M := 4503599627370496 + f) (by clear hm hp hL hmm; omega) (by clear hm hp hL hmm; omega) (by clear hm hp hL hmm; omega)
    refine fixed_fin b (e' * 4503599627370496 + f) bs most w hb b1 b2 m1 m2 hnn hri hrl hL ?_ (fun h => fn_huge hmm h m2)
    unfold rn fn
    rw [hg.1, hg.2, hm, hp, hsum]
  · have hL : ∀ W, Calls Try.prog 40 #[.float .f64 b, .int .i64 bs] W fun x w' => x = .returned (.float .f64 (wo (sg b) 9218868437227405312)) ∧ w' = W := fun W =>
      ldexp_over b b e f (sg b) bs 0 ((e : Int) + bs - 1023) W hb hnn (by omega) (by omega) hZ hB e1 e2 hf (by omega) (by omega) (by decide) (by decide) (by omega) (by omega) (by omega)
        (by
          rw [ord_lt hb (by decide) hnn (by decide), show key 0 = 0 by decide]
          unfold key
          cases sg b
          · simp
          · simp; omega)
    exact fixed_over b bs most w hb b1 b2 m1 m2 hnn (by omega) hL (by omega)
theorem fn_tiny {r : Nat} {bs : Int} (h : plc r + bs ≤ -55) : fn r bs = 0 := by
  unfold fn
  rw [if_neg (by omega)]
  exact rnd_tiny (by have := mant_lt r; simpa using this) (by omega)
theorem rn_tiny {r : Nat} (h : plc r ≤ -55) : rn r = 0 := by
  unfold rn
  rw [if_neg (by omega)]
  exact rnd_tiny (by have := mant_lt r; simpa using this) (by omega)
theorem fixed_sub (b : Nat) (bs most : Int) (w : World) (hb : b < 18446744073709551616) (b1 : 0 ≤ bs) (b2 : bs ≤ 32) (m1 : 0 ≤ most) (m2 : most ≤ 1099511627776) (h1 : 0 < rg b) (h2 : rg b < 4503599627370496) :
    Calls Try.prog 14 #[.float .f64 b, .int .i64 bs, .int .i64 most] w fun x w' => x = .returned (.tuple #[.int .i64 (fxv b bs most).1, .int .i64 (fxv b bs most).2]) ∧ w' = w := by
  have hnn : nn b = false := by unfold nn; simp; omega
  have hpl : plc (rg b) = -1074 := by unfold plc; rw [if_pos h2]
  obtain ⟨k, f, hk, hf, hM⟩ := small_parts h1 h2
  have hup := mul_up (sg b) h1 h2 hk hf hM
  rw [wo_of hb] at hup
  have hZ : ∀ W, Calls Try.prog 42 #[.float .f64 b] W fun x w' => x = .returned (.tuple #[.float .f64 (wo (sg b) ((k + 1) * 4503599627370496 + f)), .int .i64 (-52)]) ∧ w' = W := fun W => normalize_small b _ hb hnn h2 hup W
  obtain ⟨n, rfl⟩ : ∃ n : Nat, bs = n := ⟨bs.toNat, by omega⟩
  by_cases hs : n + k < 52
  · have hr : rg b * 2 ^ n < 4503599627370496 := by
      have h3 : rg b * 2 ^ n * 2 ^ 1 ≤ rg b * 2 ^ (52 - k) := by
        rw [Nat.mul_assoc, ← Nat.pow_add]
        exact Nat.mul_le_mul_left _ (pow_ge (by omega))
      omega
    have hdn := mul_down (sg b) h1 hk hf hM hs hr
    have hL : ∀ W, Calls Try.prog 40 #[.float .f64 b, .int .i64 (n : Int)] W fun x w' => x = .returned (.float .f64 (wo (sg b) (rg b * 2 ^ n))) ∧ w' = W := fun W =>
      ldexp_small b _ (k + 1) f (sg b) n (-52) ((n : Int) + k - 1074) W hb hnn (by omega) (by omega) hZ rfl (by omega) (by omega) hf (by omega) (by omega) (by decide) (by decide) (by omega) (n + k + 2) _ (by omega) (by omega) (by omega) hdn
    have hrl : rg b * 2 ^ n < 9218868437227405312 := by clear hL hpl; omega
    have hri : rg b ≠ 9218868437227405312 := by clear hL hpl; omega
    have hp1 : plc (rg b) + (n : Int) ≤ -55 := by rw [hpl]; clear hpl hL; omega
    have hp2 : plc (rg b * 2 ^ n) ≤ -55 := by unfold plc; rw [if_pos hr]; decide
    refine fixed_fin b (rg b * 2 ^ n) n most w hb b1 b2 m1 m2 hnn hri hrl hL ?_ (fun h => by exfalso; rw [hpl] at h; clear hp2 hp1 hpl hL; omega)
    rw [fn_tiny hp1, rn_tiny hp2]
  · obtain ⟨e', he'⟩ : ∃ e' : Nat, (e' : Int) = (n : Int) + k - 1074 + 1023 := ⟨n + k - 51, by omega⟩
    have hL : ∀ W, Calls Try.prog 40 #[.float .f64 b, .int .i64 (n : Int)] W fun x w' => x = .returned (.float .f64 (wo (sg b) (e' * 4503599627370496 + f))) ∧ w' = W := fun W =>
      ldexp_norm b _ (k + 1) f (sg b) n (-52) ((n : Int) + k - 1074) W hb hnn (by omega) (by omega) hZ rfl (by omega) (by omega) hf (by omega) (by omega) (by decide) (by decide) (by omega) e' he' (by omega) (by omega)
    have hrl : e' * 4503599627370496 + f < 9218868437227405312 := by clear hL hpl; omega
    have hri : rg b ≠ 9218868437227405312 := by clear hL hpl; omega
    have hp1 : plc (rg b) + (n : Int) ≤ -55 := by rw [hpl]; clear hpl hL; omega
    have he2 : e' ≤ 100 := by clear hpl hL; omega
    have he1 : 1 ≤ e' := by clear hpl hL; omega
    have hp2 : plc (e' * 4503599627370496 + f) ≤ -55 := by
      rw [(norm_parts (R := e' * 4503599627370496 + f) (d := e' - 1) (M := 4503599627370496 + f) (by clear hpl hL hp1; omega) (by clear hpl hL hp1; omega) (by clear hpl hL hp1; omega)).2]
      clear hpl hL hp1
      omega
    refine fixed_fin b (e' * 4503599627370496 + f) n most w hb b1 b2 m1 m2 hnn hri hrl hL ?_ (fun h => by exfalso; rw [hpl] at h; clear hp2 hp1 hpl hL; omega)
    rw [fn_tiny hp1, rn_tiny hp2]
theorem fixed_any (b : Nat) (bs most : Int) (hb : b < 18446744073709551616) (w : World) :
    Calls Try.prog 14 #[.float .f64 b, .int .i64 bs, .int .i64 most] w fun x w' => x = .returned (.tuple #[.int .i64 (fxv b bs most).1, .int .i64 (fxv b bs most).2]) ∧ w' = w := by
  by_cases ho : bs < 0 ∨ 32 < bs ∨ most < 0 ∨ 1099511627776 < most
  · have HU : Hid (fxv b bs most = (0, 1)) := Lib.hid (by unfold fxv; rw [if_pos ho])
    have hc : decide (bs < 0) = true ∨ (decide (bs < 0) = false ∧ decide (bs > 32) = true) ∨ (decide (bs < 0) = false ∧ decide (bs > 32) = false ∧ decide (most < 0) = true) ∨ (decide (bs < 0) = false ∧ decide (bs > 32) = false ∧ decide (most < 0) = false ∧ decide (most > 1099511627776) = true) := by
      simp only [decide_eq_true_eq, decide_eq_false_iff_not]
      omega
    clear ho hb
    rcases hc with t1 | ⟨t1, t2⟩ | ⟨t1, t2, t3⟩ | ⟨t1, t2, t3, t4⟩
    all_goals
      go_enter Try.func14, Try.ntmps14
      go_wp2_with fail
      go_ret2
      exact ⟨by rw [HU.out]; rfl, rfl⟩
  · have b1 : 0 ≤ bs := by omega
    have b2 : bs ≤ 32 := by omega
    have m1 : 0 ≤ most := by omega
    have m2 : most ≤ 1099511627776 := by omega
    cases hn : nn b with
    | true =>
      have HU : Hid (fxv b bs most = (0, 2)) := Lib.hid (by unfold fxv; rw [if_neg ho, hn]; rfl)
      have t1 : (FloatKind.f64.format.order b b != some .eq) = true := by rw [ord_selfn hb, hn]
      clear ho hb hn
      go_enter Try.func14, Try.ntmps14
      go_wp2_with fail
      go_ret2
      exact ⟨by rw [HU.out]; rfl, rfl⟩
    | false =>
      by_cases hi : rg b = 9218868437227405312
      · have HU : Hid (fxv b bs most = (0, 3)) := Lib.hid (by unfold fxv; rw [if_neg ho, hn, if_neg (by decide), if_pos hi])
        have t1 : (FloatKind.f64.format.order b b != some .eq) = false := by rw [ord_selfn hb, hn]
        have CI := Lib.hid (fun W => isinf_any b hb W)
        rw [decide_eq_true hi] at CI
        clear ho hb hn hi
        go_enter Try.func14, Try.ntmps14
        go_wp2_with fail
        refine (CI.out _).mono ?_
        rintro x w1 ⟨rfl, rfl⟩
        go_wp2_with fail
        go_ret2
        exact ⟨by rw [HU.out]; rfl, rfl⟩
      · have hlt : rg b < 9218868437227405312 := by unfold nn at hn; simp at hn; omega
        rcases Nat.eq_zero_or_pos (rg b) with h0 | h0
        · have hB : b = wo (sg b) 0 := by rw [← h0]; exact (wo_of hb).symm
          have hL : ∀ W, Calls Try.prog 40 #[.float .f64 b, .int .i64 bs] W fun x w' => x = .returned (.float .f64 (wo (sg b) 0)) ∧ w' = W := fun W => by
            have := ldexp_zero (sg b) bs W
            rw [← hB] at this ⊢
            exact this
          have hp0 : plc 0 = -1074 := by decide
          refine fixed_fin b 0 bs most w hb b1 b2 m1 m2 hn hi (by decide) hL ?_ (fun h => by rw [h0, hp0] at h; omega)
          rw [h0, fn_tiny (by rw [hp0]; omega), rn_tiny (by decide)]
        · rcases Nat.lt_or_ge (rg b) 4503599627370496 with h1 | h1
          · exact fixed_sub b bs most w hb b1 b2 m1 m2 h0 h1
          · exact fixed_norm b bs most w hb b1 b2 m1 m2 h1 hlt
end Go.Proofs.Ytofninkbinnbhaa
