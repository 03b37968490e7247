/- Proof text: side.mid. By an AI agent. No condition beyond what each theorem states. -/
import Derived.Test.YtibhfclkdbmmoaaXI
import Derived.Test.YtibhfclkdbmmoaaMid
set_option linter.unusedVariables false
set_option linter.unusedSimpArgs false
namespace Go.Proofs.Ytibhfclkdbmmoaa
open Go.RowKit

set_option maxRecDepth 100000 in
set_option maxHeartbeats 1000000 in
theorem mid_cells (p q n d x a b c f g y r r' : Int) (w : World) (e0 : IntKind.i64.wrap (q - p) = x) (e1 : IntKind.i64.wrap (p + y) = r)
    (c1 : ∀ W, Calls Try.prog 40 #[.int .i64 x, .int .i64 n] W fun e w' => e = .returned (.agg #[.int .i64 a, .int .u64 b]) ∧ Ext W w')
    (c2 : ∀ W, Calls Try.prog 39 #[.agg #[.int .i64 a, .int .u64 b], .int .i64 d] W fun e w' => e = .returned (.tuple #[.agg #[.int .i64 f, .int .u64 g], .int .i64 r', .bool true]) ∧ Ext W w')
    (c3 : ∀ W, Calls Try.prog 41 #[.agg #[.int .i64 f, .int .u64 g]] W fun e w' => e = .returned (.tuple #[.int .i64 y, .bool true]) ∧ Ext W w') :
    Calls Try.prog 23 #[.int .i64 p, .int .i64 q, .int .i64 n, .int .i64 d] w fun e w' => e = .returned (.int .i64 r) ∧ Ext w w' := by
  have C1 := Lib.hid c1; clear c1
  have C2 := Lib.hid c2; clear c2
  have C3 := Lib.hid c3; clear c3
  go_enter Try.func23, Try.ntmps23
  go_wp2_with fail
  refine (C1.out _).mono ?_
  rintro e w1 ⟨rfl, hE⟩
  obtain ⟨x1, rfl⟩ := Later.mk' hE
  clear hE
  go_wp2_with fail
  refine (C2.out _).mono ?_
  rintro e w1 ⟨rfl, hE⟩
  obtain ⟨x2, rfl⟩ := Later.mk' hE
  clear hE
  go_wp2_with fail
  refine (C3.out _).mono ?_
  rintro e w1 ⟨rfl, hE⟩
  obtain ⟨x3, rfl⟩ := Later.mk' hE
  clear hE
  go_wp2_with fail
  go_ret
  exact ⟨rfl, by (repeat (first | with_reducible exact Ext.refl _ | with_reducible assumption | with_reducible refine Ext.alloc ?_ _ | with_reducible refine Ext.drew ?_ | with_reducible refine Ext.drewN ?_ _ | with_reducible refine Ext.later ?_ _ | (with_reducible refine Ext.setCell ?_ _ ?hp; case hp => first | (simp; done) | (simp; omega) | omega)))⟩

/-- A difference's part, in the bounds of an int. -/
theorem mid_any (p q n : Int) (d : Nat) (w : World) (p1 : -68719476736 ≤ p) (p2 : p ≤ 68719476736) (q1 : -68719476736 ≤ q) (q2 : q ≤ 68719476736) (n0 : 0 ≤ n) (nd : n ≤ d) (d1 : 1 ≤ d) (d2 : d < 9223372036854775808) :
    Calls Try.prog 23 #[.int .i64 p, .int .i64 q, .int .i64 n, .int .i64 (d : Int)] w fun e w' => e = .returned (.int .i64 (mid p q n d)) ∧ Ext w w' := by
  have hm := mid_between (p := p) (q := q) n0 nd (by omega : (1 : Int) ≤ d)
  unfold mid at hm ⊢
  have b1 : (q - p) * n ≤ 137438953472 * 9223372036854775808 := by
    rcases Int.le_total 0 (q - p) with h | h
    · exact Int.mul_le_mul (by omega) (by omega) n0 (by omega)
    · have := Int.mul_nonpos_of_nonpos_of_nonneg h n0; omega
  have b2 : -(137438953472 * 9223372036854775808) ≤ (q - p) * n := by
    rcases Int.le_total 0 (q - p) with h | h
    · have := Int.mul_nonneg h n0; omega
    · have := Int.mul_le_mul (a := p - q) (b := n) (c := 137438953472) (d := 9223372036854775808) (by omega) (by omega) n0 (by omega)
      have e : (q - p) * n = -((p - q) * n) := by rw [← Int.neg_mul]; congr 1; omega
      omega
  generalize hN : (q - p) * n = N at *
  exact mid_cells p q n d (q - p) _ _ 0 _ _ (N / d) _ _ w (by rw [IntKind.wrap_i64]; omega) (by rw [IntKind.wrap_i64]; generalize N / (d : Int) = k at hm ⊢; omega)
    (fun W => by have := mul_any (q - p) n W (by omega) (by omega) (by omega) (by omega); rw [hN] at this; exact this)
    (fun W => div_any N d W (by omega) (by omega) d1 d2)
    (fun W => small_any (N / d) W (by generalize N / (d : Int) = k at hm ⊢; omega) (by generalize N / (d : Int) = k at hm ⊢; omega))
end Go.Proofs.Ytibhfclkdbmmoaa
