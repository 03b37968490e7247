/- Proof text: what stands on the way between two numbers, the document's answer (rastrumref08.Mid). By an AI agent. No condition beyond what each theorem states. -/
import Derived.Test.YtibhfclkdbmmoaaNP
import Derived.Test.YtibhfclkdbmmoaaXA
set_option linter.unusedVariables false
set_option linter.unusedSimpArgs false
namespace Go.Proofs.Ytibhfclkdbmmoaa
open Go.RowKit
theorem mid_cross (p q n : Int) {d : Int} (hd : 0 < d) : (p * (d - n) + q * n) / d = mid p q n d := by
  unfold mid
  have e : p * (d - n) + q * n = (q - p) * n + p * d := by rw [Int.mul_sub, Int.sub_mul]; omega
  rw [e, Int.add_mul_ediv_right _ _ (by omega)]
  omega
set_option maxRecDepth 10000 in
set_option maxHeartbeats 2000000 in
theorem mid8_walk (p q n d e1 A B M : Int) (w : World) (hw : IntKind.i64.wrap (d - n) = e1)
    (c1 : ∀ W, Calls Try.prog 44 #[.int .i64 p, .int .i64 e1] W fun e w' => e = .returned (I A) ∧ Ext W w')
    (c2 : ∀ W, Calls Try.prog 43 #[I A] W (NumP A W))
    (c3 : ∀ W, Calls Try.prog 44 #[.int .i64 q, .int .i64 n] W fun e w' => e = .returned (I B) ∧ Ext W w')
    (c4 : ∀ W, Calls Try.prog 43 #[I B] W (NumP B W))
    (c5 : ∀ v1 v2 W, NumV W v1 A → NumV W v2 B → Calls Try.prog 46 #[v1, v2] W (NumP (A + B) W))
    (c6 : ∀ W, Calls Try.prog 47 #[.int .i64 d] W fun e w' => e = .returned (I d) ∧ Ext W w')
    (c7 : ∀ W, Calls Try.prog 43 #[I d] W (NumP d W))
    (c8 : ∀ v1 v2 W, NumV W v1 (A + B) → NumV W v2 d → Calls Try.prog 45 #[v1, v2] W fun e w' => ∃ x m' a' n' c', e = .returned (.tuple #[x, .agg #[.bool m', .slice a' n' c']]) ∧ NumF w' W.heap.size x M ∧ Ext W w')
    (c9 : ∀ v1 W, NumV W v1 M → Calls Try.prog 48 #[v1] W fun e w' => e = .returned (.tuple #[.agg #[.int .i64 (hi M), .int .u64 (lo M)], .bool true]) ∧ Ext W w')
    (c10 : ∀ W, Calls Try.prog 49 #[.agg #[.int .i64 (hi M), .int .u64 (lo M)]] W fun e w' => e = .returned (.tuple #[.int .i64 M, .bool true]) ∧ Ext W w') :
    Calls Try.prog 25 #[.int .i64 p, .int .i64 q, .int .i64 n, .int .i64 d] w fun e w' => e = .returned (.int .i64 M) ∧ Ext w w' := by
  have C1 := Lib.hid c1; have C2 := Lib.hid c2; have C3 := Lib.hid c3; have C4 := Lib.hid c4; have C5 := Lib.hid c5
  have C6 := Lib.hid c6; have C7 := Lib.hid c7; have C8 := Lib.hid c8; have C9 := Lib.hid c9; have C10 := Lib.hid c10
  clear c1 c2 c3 c4 c5 c6 c7 c8 c9 c10
  go_enter Try.func25, Try.ntmps25
  go_wp2_with fail
  refine (C1.out _).mono ?_
  rintro e w1 ⟨rfl, hE⟩
  have EX := Lib.hid hE
  clear hE
  go_wp2_with fail
  refine (C2.out _).mono ?_
  rintro e w2 ⟨v, rfl, hN, hE⟩
  obtain ⟨m1, a1, n1, d1, bs1, rfl, hx⟩ := id hN
  have EX := Lib.hid (EX.out.trans hE)
  have B9 := Lib.hid (Blk.new w2 78 #[.bool m1, .slice a1 n1 d1])
  have N1 := Lib.hid (hN.num.ext (Ext.alloc (Ext.refl _) (.cells #[.bool m1, .slice a1 n1 d1] 78)))
  clear hE hN hx
  go_wp2_with fail
  refine (C3.out _).mono ?_
  rintro e w3 ⟨rfl, hE⟩
  have EX := Lib.hid ((EX.out.alloc _).trans hE)
  have B9 := Lib.hid (B9.out.ext hE)
  have N1 := Lib.hid (N1.out.ext hE)
  clear hE
  go_wp2_with fail
  refine (C4.out _).mono ?_
  rintro e w4 ⟨v, rfl, hN, hE⟩
  obtain ⟨m2, a2, n2, d2, bs2, rfl, hx⟩ := id hN
  have EX := Lib.hid (EX.out.trans hE)
  have B9 := Lib.hid ((B9.out.ext hE).alloc (.cells #[.bool m2, .slice a2 n2 d2] 78))
  have B10 := Lib.hid (Blk.new w4 78 #[.bool m2, .slice a2 n2 d2])
  have N1 := Lib.hid ((N1.out.ext hE).ext (Ext.alloc (Ext.refl _) (.cells #[.bool m2, .slice a2 n2 d2] 78)))
  have N2 := Lib.hid (hN.num.ext (Ext.alloc (Ext.refl _) (.cells #[.bool m2, .slice a2 n2 d2] 78)))
  clear hE hN hx
  obtain ⟨p0, p1, -, -⟩ := num2 B9.out
  obtain ⟨q0, q1, -, -⟩ := num2 B10.out
  go_wp2_with fail
  clear p0 p1 q0 q1
  refine (C5.out _ _ _ N1.out N2.out).mono ?_
  rintro e w5 ⟨v5, rfl, hN, hE⟩
  have EX := Lib.hid ((EX.out.alloc _).trans hE)
  have N5 := Lib.hid hN.num
  clear hE hN B9 B10 N1 N2
  go_wp2_with fail
  refine (C6.out _).mono ?_
  rintro e w6 ⟨rfl, hE⟩
  have EX := Lib.hid (EX.out.trans hE)
  have N5 := Lib.hid (N5.out.ext hE)
  clear hE
  go_wp2_with fail
  refine (C7.out _).mono ?_
  rintro e w7 ⟨v7, rfl, hN, hE⟩
  have EX := Lib.hid (EX.out.trans hE)
  have N5 := Lib.hid (N5.out.ext hE)
  have N7 := Lib.hid hN.num
  clear hE hN
  go_wp2_with fail
  refine (C8.out _ _ _ N5.out N7.out).mono ?_
  rintro e w8 ⟨x, my, ay, ny, cy, rfl, hN, hE⟩
  have EX := Lib.hid (EX.out.trans hE)
  obtain ⟨m8, a8, n8, d8, bs8, rfl, hx⟩ := id hN
  have N8 := Lib.hid hN.num
  clear hE hN N5 N7 hx
  have B11 := Lib.hid ((Blk.new w8 78 #[.bool m8, .slice a8 n8 d8]).alloc (.cells #[.bool my, .slice ay ny cy] 78))
  go_wp2_with fail
  refine (C9.out _ _ (N8.out.ext (Ext.alloc (Ext.alloc (Ext.refl _) _) _))).mono ?_
  rintro e w9 ⟨rfl, hE⟩
  have EX := Lib.hid (((EX.out.alloc _).alloc _).trans hE)
  have B13 := Lib.hid (Blk.new w9 69 #[.int .i64 (hi M), .int .u64 (lo M)])
  clear hE N8 B11
  go_wp2_with fail
  refine (C10.out _).mono ?_
  rintro e w10 ⟨rfl, hE⟩
  have EX := Lib.hid ((EX.out.alloc _).trans hE)
  clear hE
  go_wp2_with fail
  go_ret
  exact ⟨rfl, EX.out⟩
/-- What stands n d-ths on the way, the document's answer. -/
theorem mid8_any (p q n : Int) (d : Nat) (w : World) (p1 : -68719476736 ≤ p) (p2 : p ≤ 68719476736) (q1 : -68719476736 ≤ q) (q2 : q ≤ 68719476736) (n0 : 0 ≤ n) (nd : n ≤ d) (d1 : 1 ≤ d) (d2 : d < 9223372036854775808) :
    Calls Try.prog 25 #[.int .i64 p, .int .i64 q, .int .i64 n, .int .i64 (d : Int)] w fun e w' => e = .returned (.int .i64 (mid p q n d)) ∧ Ext w w' := by
  have hm := mid_between (p := p) (q := q) n0 nd (by omega : (1 : Int) ≤ d)
  have hx := mid_cross p q n (by omega : (0 : Int) < d)
  have bnd : ∀ x y : Int, -68719476736 ≤ x → x ≤ 68719476736 → 0 ≤ y → y ≤ 9223372036854775808 → -633825300114114700748351602688 ≤ x * y ∧ x * y ≤ 633825300114114700748351602688 := by
    intro x y h1 h2 h3 h4
    rcases Int.le_total 0 x with h | h
    · have a := Int.mul_nonneg h h3
      have b := Int.mul_le_mul (a := x) (b := y) (c := 68719476736) (d := 9223372036854775808) h2 h4 h3 (by omega)
      omega
    · have a := Int.mul_nonpos_of_nonpos_of_nonneg h h3
      have b := Int.mul_le_mul (a := -x) (b := y) (c := 68719476736) (d := 9223372036854775808) (by omega) h4 h3 (by omega)
      rw [Int.neg_mul] at b
      omega
  have hA := bnd p (d - n) p1 p2 (by omega) (by omega)
  have hB := bnd q n q1 q2 n0 (by omega)
  have hm1 : -68719476736 ≤ mid p q n d ∧ mid p q n d ≤ 68719476736 := by omega
  generalize mid p q n d = M at *
  generalize hAe : p * ((d : Int) - n) = A at *
  generalize hBe : q * n = B at *
  refine mid8_walk p q n d (d - n) A B M w (by rw [IntKind.wrap_i64]; omega) ?_ ?_ ?_ ?_ ?_ ?_ ?_ ?_ ?_ ?_
  · intro W
    have := rmul_any p (d - n) W (by omega) (by omega) (by omega) (by omega) (by omega) (by omega)
    rw [hAe] at this
    exact this
  · exact fun W => from_any A W (by omega) (by omega)
  · intro W
    have := rmul_any q n W (by omega) (by omega) (by omega) (by omega) (by omega) (by omega)
    rw [hBe] at this
    exact this
  · exact fun W => from_any B W (by omega) (by omega)
  · exact fun v1 v2 W h1 h2 => sum_any v1 v2 A B W h1 h2 (lim_of (by omega) (by omega)) (lim_of (by omega) (by omega))
  · exact fun W => of_any d W (by omega) (by omega)
  · exact fun W => from_any d W (by omega) (by omega)
  · intro v1 v2 W h1 h2
    have := floor_any v1 v2 (A + B) d W h1 h2 (lim_of (by omega) (by omega)) (lim_of (by omega) (by omega)) (by omega)
    rw [hx] at this
    exact this
  · exact fun v1 W h1 => to_any v1 M W h1 (by omega) (by omega)
  · exact fun W => rsmall_any M W (by omega) (by omega)
end Go.Proofs.Ytibhfclkdbmmoaa
