/- Proof text: numbers of 128 bits (package xint), on: Small, Cmp. By an AI agent. No condition beyond what each theorem states. -/
import Derived.Test.YtplljnfjkkloeaaGreatDoorXA
import Derived.Deep.CutBlock
import Derived.Deep.CutRange
set_option linter.unusedVariables false
set_option linter.unusedSimpArgs false
namespace Go.Proofs.YtplljnfjkkloeaaGreatDoor
open Go.RowKit
theorem small_hi {z : Int} (h1 : -9223372036854775808 ≤ z) (h2 : z < 9223372036854775808) : IntKind.i64.wrap (lo z) = z ∧ z / 9223372036854775808 = hi z := by
  rw [IntKind.wrap_i64]; unfold lo hi; omega
set_option maxHeartbeats 400000 in
theorem small_cells (h l z : Int) (w : World) (e0 : IntKind.i64.wrap l = z) (e1 : z / 9223372036854775808 = h) :
    Calls Tryz.prog 217 #[.agg #[.int .i64 h, .int .u64 l]] w fun e w' => e = .returned (.tuple #[.int .i64 z, .bool true]) ∧ Ext w w' := by
  have en : (h != h) = false := by simp
  go_enter Tryz.func217, Tryz.ntmps217
  go_wp2
  go_ret2
  exact ⟨rfl, by (repeat (first | with_reducible exact Ext.refl _ | with_reducible assumption | with_reducible refine Ext.alloc ?_ _ | with_reducible refine Ext.drew ?_ | with_reducible refine Ext.drewN ?_ _ | with_reducible refine Ext.later ?_ _ | (with_reducible refine Ext.setCell ?_ _ ?hp; case hp => first | (simp; done) | (simp; omega) | omega)))⟩
theorem small_any (z : Int) (w : World) (h1 : -9223372036854775808 ≤ z) (h2 : z < 9223372036854775808) :
    Calls Tryz.prog 217 #[I z] w fun e w' => e = .returned (.tuple #[.int .i64 z, .bool true]) ∧ Ext w w' :=
  small_cells _ _ z w (small_hi h1 h2).1 (small_hi h1 h2).2
set_option maxHeartbeats 400000 in
theorem cmp_low (h l h2 l2 : Int) (w : World) (e1 : decide (h < h2) = true) :
    Calls Tryz.prog 173 #[.agg #[.int .i64 h, .int .u64 l], .agg #[.int .i64 h2, .int .u64 l2]] w fun e w' => e = .returned (.int .i64 (-1)) ∧ Ext w w' := by
  go_enter Tryz.func173, Tryz.ntmps173
  go_wp2
  go_ret
  exact ⟨rfl, by (repeat (first | with_reducible exact Ext.refl _ | with_reducible assumption | with_reducible refine Ext.alloc ?_ _ | with_reducible refine Ext.drew ?_ | with_reducible refine Ext.drewN ?_ _ | with_reducible refine Ext.later ?_ _ | (with_reducible refine Ext.setCell ?_ _ ?hp; case hp => first | (simp; done) | (simp; omega) | omega)))⟩
set_option maxHeartbeats 400000 in
theorem cmp_low2 (h l l2 : Int) (w : World) (e1 : decide (l < l2) = true) :
    Calls Tryz.prog 173 #[.agg #[.int .i64 h, .int .u64 l], .agg #[.int .i64 h, .int .u64 l2]] w fun e w' => e = .returned (.int .i64 (-1)) ∧ Ext w w' := by
  have e2 : decide (h < h) = false := by simp
  have e3 : (h == h) = true := by simp
  go_enter Tryz.func173, Tryz.ntmps173
  go_wp2
  go_ret
  exact ⟨rfl, by (repeat (first | with_reducible exact Ext.refl _ | with_reducible assumption | with_reducible refine Ext.alloc ?_ _ | with_reducible refine Ext.drew ?_ | with_reducible refine Ext.drewN ?_ _ | with_reducible refine Ext.later ?_ _ | (with_reducible refine Ext.setCell ?_ _ ?hp; case hp => first | (simp; done) | (simp; omega) | omega)))⟩
set_option maxHeartbeats 400000 in
theorem cmp_same (h l : Int) (w : World) :
    Calls Tryz.prog 173 #[.agg #[.int .i64 h, .int .u64 l], .agg #[.int .i64 h, .int .u64 l]] w fun e w' => e = .returned (.int .i64 0) ∧ Ext w w' := by
  have e1 : decide (l < l) = false := by simp
  have e2 : decide (h < h) = false := by simp
  have e3 : (h == h) = true := by simp
  have e4 : (l == l) = true := by simp
  go_enter Tryz.func173, Tryz.ntmps173
  go_wp2
  go_ret
  exact ⟨rfl, by (repeat (first | with_reducible exact Ext.refl _ | with_reducible assumption | with_reducible refine Ext.alloc ?_ _ | with_reducible refine Ext.drew ?_ | with_reducible refine Ext.drewN ?_ _ | with_reducible refine Ext.later ?_ _ | (with_reducible refine Ext.setCell ?_ _ ?hp; case hp => first | (simp; done) | (simp; omega) | omega)))⟩
set_option maxHeartbeats 400000 in
theorem cmp_high (h l h2 l2 : Int) (w : World) (e1 : decide (h < h2) = false) (e2 : (h == h2) = false) :
    Calls Tryz.prog 173 #[.agg #[.int .i64 h, .int .u64 l], .agg #[.int .i64 h2, .int .u64 l2]] w fun e w' => e = .returned (.int .i64 1) ∧ Ext w w' := by
  go_enter Tryz.func173, Tryz.ntmps173
  go_wp2
  go_ret
  exact ⟨rfl, by (repeat (first | with_reducible exact Ext.refl _ | with_reducible assumption | with_reducible refine Ext.alloc ?_ _ | with_reducible refine Ext.drew ?_ | with_reducible refine Ext.drewN ?_ _ | with_reducible refine Ext.later ?_ _ | (with_reducible refine Ext.setCell ?_ _ ?hp; case hp => first | (simp; done) | (simp; omega) | omega)))⟩
set_option maxHeartbeats 400000 in
theorem cmp_high2 (h l l2 : Int) (w : World) (e1 : decide (l < l2) = false) (e4 : (l == l2) = false) :
    Calls Tryz.prog 173 #[.agg #[.int .i64 h, .int .u64 l], .agg #[.int .i64 h, .int .u64 l2]] w fun e w' => e = .returned (.int .i64 1) ∧ Ext w w' := by
  have e2 : decide (h < h) = false := by simp
  have e3 : (h == h) = true := by simp
  go_enter Tryz.func173, Tryz.ntmps173
  go_wp2
  go_ret
  exact ⟨rfl, by (repeat (first | with_reducible exact Ext.refl _ | with_reducible assumption | with_reducible refine Ext.alloc ?_ _ | with_reducible refine Ext.drew ?_ | with_reducible refine Ext.drewN ?_ _ | with_reducible refine Ext.later ?_ _ | (with_reducible refine Ext.setCell ?_ _ ?hp; case hp => first | (simp; done) | (simp; omega) | omega)))⟩
def sgn (y z : Int) : Int := if y < z then -1 else if y = z then 0 else 1
theorem cmp_any (y z : Int) (w : World) :
    Calls Tryz.prog 173 #[I y, I z] w fun e w' => e = .returned (.int .i64 (sgn y z)) ∧ Ext w w' := by
  have ey := hi_lo y
  have ez := hi_lo z
  have l1 := lo_pos y; have l2 := lo_lt y; have l3 := lo_pos z; have l4 := lo_lt z
  by_cases h1 : hi y < hi z
  · rw [show sgn y z = -1 from by unfold sgn; rw [if_pos (by omega)]]
    exact cmp_low _ _ _ _ w (by simpa using h1)
  by_cases h2 : hi y = hi z
  · by_cases h3 : lo y < lo z
    · rw [show sgn y z = -1 from by unfold sgn; rw [if_pos (by omega)]]
      have := cmp_low2 (hi y) (lo y) (lo z) w (by simpa using h3)
      show Calls Tryz.prog 173 #[I y, .agg #[.int .i64 (hi z), .int .u64 (lo z)]] w _
      rw [← h2]; exact this
    by_cases h4 : lo y = lo z
    · have : y = z := by omega
      subst this
      rw [show sgn y y = 0 from by unfold sgn; rw [if_neg (by omega), if_pos rfl]]
      exact cmp_same _ _ w
    · rw [show sgn y z = 1 from by unfold sgn; rw [if_neg (by omega), if_neg (by omega)]]
      have := cmp_high2 (hi y) (lo y) (lo z) w (by simpa using h3) (by simpa using h4)
      show Calls Tryz.prog 173 #[I y, .agg #[.int .i64 (hi z), .int .u64 (lo z)]] w _
      rw [← h2]; exact this
  · rw [show sgn y z = 1 from by unfold sgn; rw [if_neg (by omega), if_neg (by omega)]]
    exact cmp_high _ _ _ _ w (by simpa using h1) (by simpa using h2)
end Go.Proofs.YtplljnfjkkloeaaGreatDoor
set_option linter.unusedVariables false
set_option linter.unusedSimpArgs false
namespace Go.Proofs.YtplljnfjkkloeaaGreatDoor
theorem digit_test {u q r y1 y0 n B : Nat} (h : u = q * y1 + r) : q * y0 > B * r + n ↔ q * (y1 * B + y0) > u * B + n := by
  subst h
  have e1 : q * (y1 * B + y0) = q * y1 * B + q * y0 := by rw [Nat.mul_add, Nat.mul_assoc]
  have e2 : (q * y1 + r) * B = q * y1 * B + B * r := by rw [Nat.add_mul, Nat.mul_comm r B]
  rw [e1, e2]
  omega
theorem digit_lt {u y n B : Nat} (hy : 0 < y) (hu : u < y) (hn : n < B) : (u * B + n) / y < B := by
  rw [Nat.div_lt_iff_lt_mul hy]
  have : (u + 1) * B ≤ y * B := Nat.mul_le_mul_right _ hu
  rw [Nat.add_mul, Nat.one_mul] at this
  rw [Nat.mul_comm B y]
  omega
theorem digit_guess {u y1 y0 n B : Nat} (hy1 : 0 < y1) (hn : n < B) : (u * B + n) / (y1 * B + y0) ≤ u / y1 := by
  have hB : 0 < B := by omega
  have h1 : (u * B + n) / (y1 * B + y0) ≤ (u * B + n) / (y1 * B) := Nat.div_le_div_left (by omega) (Nat.mul_pos hy1 hB)
  have h2 : (u * B + n) / (y1 * B) = u / y1 := by
    rw [Nat.mul_comm y1 B, ← Nat.div_div_eq_div_mul, Nat.mul_comm u B, Nat.mul_add_div hB, Nat.div_eq_of_lt hn, Nat.add_zero]
  omega
theorem digit_down {N y q : Nat} (hy : 0 < y) (h : q * y > N) : N / y ≤ q - 1 := by
  have : N / y < q := by rw [Nat.div_lt_iff_lt_mul hy]; rw [Nat.mul_comm]; rw [Nat.mul_comm] at h; exact h
  omega
theorem digit_done {N y q : Nat} (hy : 0 < y) (h1 : N / y ≤ q) (h2 : ¬ q * y > N) : q = N / y := by
  have : q ≤ N / y := by rw [Nat.le_div_iff_mul_le hy]; omega
  omega
theorem two_digits {un32 un1 un0 y B : Nat} (hy : 0 < y) (h0 : un0 < B) :
    ((un32 * B + un1) * B + un0) / y = (un32 * B + un1) / y * B + ((un32 * B + un1) % y * B + un0) / y ∧
    ((un32 * B + un1) * B + un0) % y = ((un32 * B + un1) % y * B + un0) % y := by
  have e := Nat.div_add_mod (un32 * B + un1) y
  generalize (un32 * B + un1) / y = q at *
  generalize (un32 * B + un1) % y = r at *
  have : (un32 * B + un1) * B + un0 = y * (q * B) + (r * B + un0) := by
    rw [← e, Nat.add_mul, Nat.mul_assoc]; omega
  rw [this, Nat.mul_add_div hy, Nat.mul_add_mod]
  exact ⟨rfl, rfl⟩
theorem moved {N d s : Nat} (hs : 0 < s) : N * s / (d * s) = N / d ∧ N * s % (d * s) = N % d * s := by
  constructor
  · exact Nat.mul_div_mul_right _ _ hs
  · exact Nat.mul_mod_mul_right _ _ _
def Dg (u y1 y0 n q r : Nat) : Prop := u = q * y1 + r ∧ (u * 4294967296 + n) / (y1 * 4294967296 + y0) ≤ q ∧ q ≤ 4294967297
theorem dg_start {u y1 y0 n : Nat} (hy1 : 2147483648 ≤ y1) (hy0 : y0 < 4294967296) (hn : n < 4294967296) (hu : u < y1 * 4294967296 + y0) :
    Dg u y1 y0 n (u / y1) (u % y1) := by
  refine ⟨?_, digit_guess (by omega) hn, ?_⟩
  · rw [Nat.mul_comm]; exact (Nat.div_add_mod u y1).symm
  · have : u / y1 < 4294967298 := by
      rw [Nat.div_lt_iff_lt_mul (by omega)]
      omega
    omega
theorem dg_down {u y1 y0 n q r : Nat} (h : Dg u y1 y0 n q r) (hy1 : 2147483648 ≤ y1) (hy0 : y0 < 4294967296) (hn : n < 4294967296) (hu : u < y1 * 4294967296 + y0)
    (hc : 4294967296 ≤ q ∨ q * y0 > 4294967296 * r + n) : 1 ≤ q ∧ Dg u y1 y0 n (q - 1) (r + y1) := by
  obtain ⟨h1, h2, h3⟩ := h
  have hq : 1 ≤ q := by
    rcases hc with hc | hc
    · omega
    · rcases Nat.eq_zero_or_pos q with h0 | h0
      · subst h0; simp at hc
      · omega
  refine ⟨hq, ?_, ?_, by omega⟩
  · obtain ⟨k, rfl⟩ : ∃ k, q = k + 1 := ⟨q - 1, by omega⟩
    rw [h1, Nat.add_sub_cancel, Nat.add_mul, Nat.one_mul]; omega
  · rcases hc with hc | hc
    · have := digit_lt (y := y1 * 4294967296 + y0) (by omega) hu hn
      omega
    · exact digit_down (by omega) ((digit_test h1).1 hc)
theorem dg_done {u y1 y0 n q r : Nat} (h : Dg u y1 y0 n q r) (hy1 : 2147483648 ≤ y1) (hc : ¬ q * y0 > 4294967296 * r + n) :
    q = (u * 4294967296 + n) / (y1 * 4294967296 + y0) :=
  digit_done (by omega) h.2.1 (fun k => hc ((digit_test h.1).2 k))
theorem dg_break {u y1 y0 n q r : Nat} (h : Dg u y1 y0 n q r) (hy1 : 2147483648 ≤ y1) (hy0 : y0 < 4294967296) (hq : q ≤ 4294967296) (hr : 4294967296 ≤ r) :
    q = (u * 4294967296 + n) / (y1 * 4294967296 + y0) := by
  refine dg_done h hy1 ?_
  have h1 : q * y0 ≤ 4294967296 * y0 := Nat.mul_le_mul_right _ hq
  omega
end Go.Proofs.YtplljnfjkkloeaaGreatDoor
set_option linter.unusedVariables false
set_option linter.unusedSimpArgs false
namespace Go.Proofs.YtplljnfjkkloeaaGreatDoor
open Go.RowKit
set_option maxHeartbeats 400000 in
theorem div64_low (l y : Int) (w : World) (e0 : (y == 0) = false) (e1 : decide (y ≤ 0) = false) (hl : 0 ≤ l) (hl2 : l < 18446744073709551616) (hy : 0 < y) :
    Calls Tryz.prog 259 #[.int .u64 0, .int .u64 l, .int .u64 y] w fun e w' => e = .returned (.tuple #[.int .u64 (l / y), .int .u64 (l % y)]) ∧ ∃ n, w' = w.drewN n := by
  have hq : l.tdiv y = l / y := Int.tdiv_eq_ediv_of_nonneg hl
  have hr : l.tmod y = l % y := Int.tmod_eq_emod_of_nonneg hl
  have hy0 : y ≠ 0 := by omega
  have hw : IntKind.u64.wrap (l / y) = l / y := by
    have h1 : 0 ≤ l / y := Int.ediv_nonneg hl (by omega)
    have h2 : l / y ≤ l := Int.ediv_le_self _ hl
    rw [IntKind.wrap_u64]; omega
  go_enter Tryz.func259, Tryz.ntmps259
  go_wp2
  go_quiet (fail)
  all_goals (try go_wp2)
  all_goals go_ret2
  all_goals exact ⟨by first | rfl | (simp only [hq, hr]; rfl) | (rw [hq, hr]; rfl), _, rfl⟩
end Go.Proofs.YtplljnfjkkloeaaGreatDoor
set_option linter.unusedVariables false
set_option linter.unusedSimpArgs false
namespace Go.Proofs.YtplljnfjkkloeaaGreatDoor
open Go.RowKit
theorem u64_nat {n : Nat} (h : n < 18446744073709551616) : IntKind.u64.wrap (n : Int) = n := by rw [IntKind.wrap_u64]; omega
def Bnd (u y1 y0 n : Nat) : Prop := 2147483648 ≤ y1 ∧ y1 < 4294967296 ∧ y0 < 4294967296 ∧ n < 4294967296 ∧ u < y1 * 4294967296 + y0
def Hd (u y1 y0 n q r : Nat) : Prop := Dg u y1 y0 n q r ∧ r < 4294967296
def Dn (u y1 y0 n q : Nat) : Prop := q = (u * 4294967296 + n) / (y1 * 4294967296 + y0)
theorem dig_mul {q y0 : Nat} (hq : q ≤ 4294967296) (h0 : y0 < 4294967296) : q * y0 < 18446744073709551616 := by
  have h1 : q * y0 ≤ 4294967296 * y0 := Nat.mul_le_mul_right _ hq
  omega
theorem hd_start {u y1 y0 n : Nat} (b : Bnd u y1 y0 n) : Hd u y1 y0 n (u / y1) (u % y1) := by
  obtain ⟨b1, b2, b3, b4, b5⟩ := b
  refine ⟨dg_start b1 b3 b4 b5, ?_⟩
  have := Nat.mod_lt u (show 0 < y1 by omega)
  omega
theorem bnd_u {u y1 y0 n : Nat} (b : Bnd u y1 y0 n) : (u : Int) < 18446744073709551616 := by
  obtain ⟨b1, b2, b3, b4, b5⟩ := b; omega
theorem start_q {u y1 y0 n : Nat} : Value.int .u64 ((u : Int) / y1) = .int .u64 ((u / y1 : Nat) : Int) := rfl
theorem start_r {u y1 y0 n : Nat} (b : Bnd u y1 y0 n) : IntKind.u64.wrap ((u : Int) - IntKind.u64.wrap ((u : Int) / y1 * y1)) = ((u % y1 : Nat) : Int) := by
  have hu := bnd_u b
  have e := Nat.div_add_mod u y1
  have e1 : (u : Int) / y1 * y1 = ((y1 * (u / y1) : Nat) : Int) := by rw [Nat.mul_comm, Int.natCast_mul]; rfl
  rw [e1, u64_nat (by omega), show (u : Int) - ((y1 * (u / y1) : Nat) : Int) = ((u % y1 : Nat) : Int) by omega, u64_nat (by omega)]
theorem quot_u {u y1 y0 n : Nat} (b : Bnd u y1 y0 n) : IntKind.u64.wrap ((u : Int) / y1) = (u : Int) / y1 := by
  have hu := bnd_u b
  have : u / y1 ≤ u := Nat.div_le_self _ _
  have e : (u : Int) / y1 = ((u / y1 : Nat) : Int) := rfl
  rw [e, u64_nat (by omega)]
theorem hd_high {u y1 y0 n k r : Nat} (b : Bnd u y1 y0 n) (h : Hd u y1 y0 n (k + 1) r) (hc : 4294967296 ≤ k + 1) :
    (k : Int) ≤ 4294967296 ∧ (r : Int) < 4294967296 ∧ (y1 : Int) < 4294967296 ∧ (2147483648 : Int) ≤ (y1 : Int) ∧ (4294967296 : Int) ≤ (k : Int) + 1 := by
  obtain ⟨⟨h1, h2, h3⟩, h4⟩ := h
  obtain ⟨b1, b2, b3, b4, b5⟩ := b
  omega
theorem hd_out {u y1 y0 n k r : Nat} (b : Bnd u y1 y0 n) (h : Hd u y1 y0 n (k + 1) r) (hc : 4294967296 ≤ k + 1 ∨ (k + 1) * y0 > 4294967296 * r + n) (hr : 4294967296 ≤ r + y1) : Dn u y1 y0 n k := by
  obtain ⟨b1, b2, b3, b4, b5⟩ := b
  have := (dg_down h.1 b1 b3 b4 b5 hc).2
  exact dg_break this b1 b3 (by have := h.1.2.2; omega) hr
theorem hd_on {u y1 y0 n k r : Nat} (b : Bnd u y1 y0 n) (h : Hd u y1 y0 n (k + 1) r) (hc : 4294967296 ≤ k + 1 ∨ (k + 1) * y0 > 4294967296 * r + n) (hr : ¬ 4294967296 ≤ r + y1) : Hd u y1 y0 n k (r + y1) := by
  obtain ⟨b1, b2, b3, b4, b5⟩ := b
  have := (dg_down h.1 b1 b3 b4 b5 hc).2
  exact ⟨this, by omega⟩
theorem hd_test {u y1 y0 n q r : Nat} (b : Bnd u y1 y0 n) (h : Hd u y1 y0 n q r) (hc : ¬ 4294967296 ≤ q) :
    (q : Int) < 4294967296 ∧ (r : Int) < 4294967296 ∧ (y1 : Int) < 4294967296 ∧ (2147483648 : Int) ≤ (y1 : Int) ∧ (n : Int) < 4294967296 ∧ IntKind.u64.wrap ((q : Int) * y0) = (q : Int) * y0 ∧ 0 ≤ (q : Int) * y0 := by
  obtain ⟨⟨h1, h2, h3⟩, h4⟩ := h
  obtain ⟨b1, b2, b3, b4, b5⟩ := b
  refine ⟨by omega, by omega, by omega, by omega, by omega, ?_, ?_⟩
  · rw [← Int.natCast_mul]; exact u64_nat (dig_mul (by omega) b3)
  · rw [← Int.natCast_mul]; omega
theorem test_of {q r y0 n : Nat} (h : q * y0 > 4294967296 * r + n) : decide ((q : Int) * y0 > 4294967296 * (r : Int) + n) = true := by
  rw [← Int.natCast_mul]; simp only [decide_eq_true_eq]; omega
theorem hd_test1 {u y1 y0 n k r : Nat} (b : Bnd u y1 y0 n) (h : Hd u y1 y0 n (k + 1) r) (hc : ¬ 4294967296 ≤ k + 1) :
    (k : Int) + 1 < 4294967296 ∧ (r : Int) < 4294967296 ∧ (y1 : Int) < 4294967296 ∧ (2147483648 : Int) ≤ (y1 : Int) ∧ (n : Int) < 4294967296 ∧ IntKind.u64.wrap (((k : Int) + 1) * y0) = ((k : Int) + 1) * y0 ∧ 0 ≤ ((k : Int) + 1) * y0 := by
  have := hd_test b h hc
  rw [Int.natCast_add, Int.natCast_one] at this
  exact this
theorem test_of1 {k r y0 n : Nat} (h : (k + 1) * y0 > 4294967296 * r + n) : decide (((k : Int) + 1) * y0 > 4294967296 * (r : Int) + n) = true := by
  have := test_of h
  rw [Int.natCast_add, Int.natCast_one] at this
  exact this
theorem test_not {q r y0 n : Nat} (h : ¬ q * y0 > 4294967296 * r + n) : decide ((q : Int) * y0 > 4294967296 * (r : Int) + n) = false := by
  rw [← Int.natCast_mul]; simp only [decide_eq_false_iff_not]; omega
set_option maxRecDepth 100000 in
set_option maxHeartbeats 4000000 in
theorem div64_cells (h l y s : Int) (Y a b t : Int) (y1 y0 u n1 n0 v : Nat) (Q R : Nat) (w : World) (e0 : (y == 0) = false) (e1 : decide (y ≤ h) = false) (e2 : (h == 0) = false)
    (hs0 : 0 ≤ s) (hs1 : s ≤ 63) (hl : 0 ≤ l) (hy : 0 < y)
    (c0 : ∀ W, Calls Tryz.prog 285 #[.int .u64 y] W fun e w' => e = .returned (.int .i64 s) ∧ w' = W)
    (k0 : IntKind.u64.wrap s = s) (k00 : IntKind.u64.wrap (64 - s) = 64 - s)
    (k1 : IntKind.u64.wrap (y * 2 ^ s.toNat) = Y) (k2 : Y / 4294967296 = y1) (k3 : bits .and .u64 Y 4294967295 = y0)
    (k4 : IntKind.u64.wrap (h * 2 ^ s.toNat) = a) (k5 : l / 2 ^ (64 - s).toNat = b) (k6 : bits .or .u64 a b = u)
    (k7 : IntKind.u64.wrap (l * 2 ^ s.toNat) = t) (k8 : t / 4294967296 = n1) (k9 : bits .and .u64 t 4294967295 = n0) (hy1 : (y1 : Int) ≠ 0)
    (B1 : Hid (Bnd u y1 y0 n1)) (B2 : Hid (Bnd v y1 y0 n0))
    (F1 : Hid (∀ q1, Dn u y1 y0 n1 q1 → IntKind.u64.wrap (IntKind.u64.wrap (IntKind.u64.wrap ((u : Int) * 4294967296) + n1) - IntKind.u64.wrap ((q1 : Int) * Y)) = v))
    (F2 : Hid (∀ q1 q0, Dn u y1 y0 n1 q1 → Dn v y1 y0 n0 q0 → IntKind.u64.wrap (IntKind.u64.wrap ((q1 : Int) * 4294967296) + (q0 : Int)) = Q ∧
      IntKind.u64.wrap (IntKind.u64.wrap (IntKind.u64.wrap ((v : Int) * 4294967296) + n0) - IntKind.u64.wrap ((q0 : Int) * Y)) / 2 ^ s.toNat = R)) :
    Calls Tryz.prog 259 #[.int .u64 h, .int .u64 l, .int .u64 y] w fun e w' => e = .returned (.tuple #[.int .u64 Q, .int .u64 R]) ∧ ∃ n, w' = w.drewN n := by
  have C0 := Lib.hid c0; clear c0
  have k10 := quot_u B1.out
  go_enter Tryz.func259, Tryz.ntmps259
  go_upto_block 0 with (go_at_call 285; refine (C0.out _).mono ?_; rintro e w1 ⟨rfl, rfl⟩)
  clear k10 C0 k0 k00 k1 k2 k3 k4 k5 k6 k7 k8 k9 e0 e1 e2
  go_cut [15, 16] from 67 to 85 (fun q r wx => wx = w1 ∧ ∃ qn rn : Nat, q = .int .u64 qn ∧ r = .int .u64 rn ∧ Dn u y1 y0 n1 qn)
  case first =>
    go_wp2_with fail
    go_loop [15, 16] (fun q r => ∃ qn rn : Nat, q = .int .u64 qn ∧ r = .int .u64 rn ∧ Hd u y1 y0 n1 qn rn) (fun q _ => (intOf q).toNat)
    case atStart => exact ⟨u / y1, u % y1, by first | rfl | exact start_q, by first | (rw [start_r B1.out]) | skip, hd_start B1.out⟩
    case round =>
      obtain ⟨qn, rn, rfl, rfl, hD⟩ := hrel
      have HD := Lib.hid hD; clear hD
      by_cases hA : 4294967296 ≤ qn
      · obtain ⟨k, rfl⟩ : ∃ k, qn = k + 1 := ⟨qn - 1, by omega⟩
        obtain ⟨i1, i2, i3, i4, i5⟩ := hd_high B1.out HD.out hA
        have HA := Lib.hid hA; clear hA
        by_cases hB : 4294967296 ≤ rn + y1
        · have iB : (4294967296 : Int) ≤ (rn : Int) + y1 := by omega
          have HB := Lib.hid hB; clear hB
          go_wp2_with fail
          go_meet
          exact ⟨rfl, k, rn + y1, by go_num, by go_num, hd_out B1.out HD.out (.inl HA.out) HB.out⟩
        · have iB : ¬ (4294967296 : Int) ≤ (rn : Int) + y1 := by omega
          have HB := Lib.hid hB; clear hB
          go_wp2_with fail
          go_round
          case rel => exact ⟨k, rn + y1, by go_num, by go_num, hd_on B1.out HD.out (.inl HA.out) HB.out⟩
          case measure => simp [intOf]
      · have HA := Lib.hid hA; clear hA
        by_cases hC : qn * y0 > 4294967296 * rn + n1
        · obtain ⟨k, rfl⟩ : ∃ k, qn = k + 1 := by
            rcases qn with _ | k
            · simp at hC
            · exact ⟨k, rfl⟩
          obtain ⟨i1, i2, i3, i4, i5, i6, i7⟩ := hd_test1 B1.out HD.out HA.out
          have iA : ¬ (4294967296 : Int) ≤ (k : Int) + 1 := by omega
          have dC := test_of1 hC
          have HC := Lib.hid hC; clear hC
          by_cases hB : 4294967296 ≤ rn + y1
          · have iB : (4294967296 : Int) ≤ (rn : Int) + y1 := by omega
            have HB := Lib.hid hB; clear hB
            go_wp2_with fail
            go_meet
            exact ⟨rfl, k, rn + y1, by go_num, by go_num, hd_out B1.out HD.out (.inr HC.out) HB.out⟩
          · have iB : ¬ (4294967296 : Int) ≤ (rn : Int) + y1 := by omega
            have HB := Lib.hid hB; clear hB
            go_wp2_with fail
            go_round
            case rel => exact ⟨k, rn + y1, by go_num, by go_num, hd_on B1.out HD.out (.inr HC.out) HB.out⟩
            case measure => simp [intOf]
        · obtain ⟨i1, i2, i3, i4, i5, i6, i7⟩ := hd_test B1.out HD.out HA.out
          have iA : ¬ (4294967296 : Int) ≤ (qn : Int) := by omega
          have dC := test_not hC
          have HC := Lib.hid hC; clear hC
          go_wp2_with fail
          go_meet
          exact ⟨rfl, qn, rn, rfl, rfl, dg_done HD.out.1 B1.out.1 HC.out⟩
  case rest =>
    obtain ⟨rfl, q1, r1, rfl, rfl, hdn⟩ := hcut
    have HF := Lib.hid (F2.out q1); clear F2
    have h17 := F1.out q1 hdn
    have HN := Lib.hid hdn; clear hdn
    obtain ⟨A1, m1⟩ : ∃ A, IntKind.u64.wrap ((u : Int) * 4294967296) = A := ⟨_, rfl⟩
    rw [m1] at h17
    obtain ⟨A2, m2⟩ : ∃ A, IntKind.u64.wrap (A1 + (n1 : Int)) = A := ⟨_, rfl⟩
    rw [m2] at h17
    obtain ⟨A3, m3⟩ : ∃ A, IntKind.u64.wrap ((q1 : Int) * Y) = A := ⟨_, rfl⟩
    rw [m3] at h17
    have k11 := quot_u B2.out
    go_upto_block 2 with fail
    clear m1 m2 m3 h17 k11
    go_cut [18, 16] from 102 to 120 (fun q r wx => wx = wc ∧ ∃ qn rn : Nat, q = .int .u64 qn ∧ r = .int .u64 rn ∧ Dn v y1 y0 n0 qn)
    case first =>
      go_wp2_with fail
      go_loop [18, 16] (fun q r => ∃ qn rn : Nat, q = .int .u64 qn ∧ r = .int .u64 rn ∧ Hd v y1 y0 n0 qn rn) (fun q _ => (intOf q).toNat)
      case atStart => exact ⟨v / y1, v % y1, by first | rfl | exact start_q, by first | (rw [start_r B2.out]) | skip, hd_start B2.out⟩
      case round =>
        obtain ⟨qn, rn, rfl, rfl, hD⟩ := hrel
        have HD := Lib.hid hD; clear hD
        by_cases hA : 4294967296 ≤ qn
        · obtain ⟨k, rfl⟩ : ∃ k, qn = k + 1 := ⟨qn - 1, by omega⟩
          obtain ⟨i1, i2, i3, i4, i5⟩ := hd_high B2.out HD.out hA
          have HA := Lib.hid hA; clear hA
          by_cases hB : 4294967296 ≤ rn + y1
          · have iB : (4294967296 : Int) ≤ (rn : Int) + y1 := by omega
            have HB := Lib.hid hB; clear hB
            go_wp2_with fail
            go_meet
            exact ⟨rfl, k, rn + y1, by go_num, by go_num, hd_out B2.out HD.out (.inl HA.out) HB.out⟩
          · have iB : ¬ (4294967296 : Int) ≤ (rn : Int) + y1 := by omega
            have HB := Lib.hid hB; clear hB
            go_wp2_with fail
            go_round
            case rel => exact ⟨k, rn + y1, by go_num, by go_num, hd_on B2.out HD.out (.inl HA.out) HB.out⟩
            case measure => simp [intOf]
        · have HA := Lib.hid hA; clear hA
          by_cases hC : qn * y0 > 4294967296 * rn + n0
          · obtain ⟨k, rfl⟩ : ∃ k, qn = k + 1 := by
              rcases qn with _ | k
              · simp at hC
              · exact ⟨k, rfl⟩
            obtain ⟨i1, i2, i3, i4, i5, i6, i7⟩ := hd_test1 B2.out HD.out HA.out
            have iA : ¬ (4294967296 : Int) ≤ (k : Int) + 1 := by omega
            have dC := test_of1 hC
            have HC := Lib.hid hC; clear hC
            by_cases hB : 4294967296 ≤ rn + y1
            · have iB : (4294967296 : Int) ≤ (rn : Int) + y1 := by omega
              have HB := Lib.hid hB; clear hB
              go_wp2_with fail
              go_meet
              exact ⟨rfl, k, rn + y1, by go_num, by go_num, hd_out B2.out HD.out (.inr HC.out) HB.out⟩
            · have iB : ¬ (4294967296 : Int) ≤ (rn : Int) + y1 := by omega
              have HB := Lib.hid hB; clear hB
              go_wp2_with fail
              go_round
              case rel => exact ⟨k, rn + y1, by go_num, by go_num, hd_on B2.out HD.out (.inr HC.out) HB.out⟩
              case measure => simp [intOf]
          · obtain ⟨i1, i2, i3, i4, i5, i6, i7⟩ := hd_test B2.out HD.out HA.out
            have iA : ¬ (4294967296 : Int) ≤ (qn : Int) := by omega
            have dC := test_not hC
            have HC := Lib.hid hC; clear hC
            go_wp2_with fail
            go_meet
            exact ⟨rfl, qn, rn, rfl, rfl, dg_done HD.out.1 B2.out.1 HC.out⟩
    case rest =>
      obtain ⟨rfl, q0, r0, rfl, rfl, hdn⟩ := hcut
      obtain ⟨hQ, hR⟩ := HF.out q0 HN.out hdn
      clear hdn
      obtain ⟨D1, m1⟩ : ∃ A, IntKind.u64.wrap ((q1 : Int) * 4294967296) = A := ⟨_, rfl⟩
      obtain ⟨D2, m2⟩ : ∃ A, IntKind.u64.wrap ((v : Int) * 4294967296) = A := ⟨_, rfl⟩
      obtain ⟨D4, m4⟩ : ∃ A, IntKind.u64.wrap ((q0 : Int) * Y) = A := ⟨_, rfl⟩
      rw [m1] at hQ
      rw [m2, m4] at hR
      obtain ⟨D3, m3⟩ : ∃ A, IntKind.u64.wrap (D2 + (n0 : Int)) = A := ⟨_, rfl⟩
      rw [m3] at hR
      obtain ⟨D5, m5⟩ : ∃ A, IntKind.u64.wrap (D3 - D4) = A := ⟨_, rfl⟩
      rw [m5] at hR
      go_wp2_with fail
      go_ret2
      exact ⟨rfl, 0, rfl⟩
end Go.Proofs.YtplljnfjkkloeaaGreatDoor
