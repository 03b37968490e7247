/- Proof text: ints back, products of ints, what is greater (rastrumref02.Small, Mul, Order, Cmp). By an AI agent. No condition beyond what each theorem states. -/
import Derived.Test.YtibhfclkdbmmoaaNK
set_option linter.unusedVariables false
set_option linter.unusedSimpArgs false
namespace Go.Proofs.Ytibhfclkdbmmoaa
open Go.RowKit
set_option maxRecDepth 10000 in
theorem rsmall_any (z : Int) (w : World) (h1 : -9223372036854775808 ≤ z) (h2 : z < 9223372036854775808) : Calls Try.prog 49 #[I z] w fun e w' => e = .returned (.tuple #[.int .i64 z, .bool true]) ∧ Ext w w' := by
  have C := Lib.hid (fun W => of_any z W h1 h2)
  have e1 : IntKind.i64.wrap (lo z) = z := by rw [IntKind.wrap_i64]; unfold lo; omega
  show Calls Try.prog 49 #[.agg #[.int .i64 (hi z), .int .u64 (lo z)]] w fun e w' => e = .returned (.tuple #[.int .i64 z, .bool true]) ∧ Ext w w'
  clear h1 h2
  go_enter Try.func49, Try.ntmps49
  go_upto_region 1 with fail
  refine wp_region_later (by kernel_rfl) (by kernel_rfl) ?_
  repeat (go_big_quiet_step ((go_at_call 47; with_reducible exact Calls.later _ (C.out _))))
  refine wpQuiet_nil ?_
  intro y
  go_wp2_with fail
  go_ret2
  exact ⟨rfl, by (repeat (first | with_reducible exact Ext.refl _ | with_reducible assumption | with_reducible refine Ext.alloc ?_ _ | with_reducible refine Ext.drew ?_ | with_reducible refine Ext.drewN ?_ _ | with_reducible refine Ext.later ?_ _ | (with_reducible refine Ext.setCell ?_ _ ?hp; case hp => first | (simp; done) | (simp; omega) | omega)))⟩
set_option maxRecDepth 10000 in
set_option maxHeartbeats 1000000 in
theorem rmul_any (p q : Int) (w : World) (h1 : -9223372036854775808 ≤ p) (h2 : p < 9223372036854775808) (h3 : -9223372036854775808 ≤ q) (h4 : q < 9223372036854775808) (g1 : -170141183460469231731687303715884105728 ≤ p * q) (g2 : p * q < 170141183460469231731687303715884105728) :
    Calls Try.prog 44 #[.int .i64 p, .int .i64 q] w fun e w' => e = .returned (I (p * q)) ∧ Ext w w' := by
  have C1 := Lib.hid (fun W => num_any p W h1 h2)
  have C2 := Lib.hid (fun W => num_any q W h3 h4)
  have P1 : Hid (p.natAbs < 2 ^ 200) := Lib.hid (lim_of (by omega) (by omega))
  have P2 : Hid (q.natAbs < 2 ^ 200) := Lib.hid (lim_of (by omega) (by omega))
  have G1 := Lib.hid g1; have G2 := Lib.hid g2
  show Calls Try.prog 44 #[.int .i64 p, .int .i64 q] w fun e w' => e = .returned (.agg #[.int .i64 (hi (p * q)), .int .u64 (lo (p * q))]) ∧ Ext w w'
  clear h1 h2 h3 h4 g1 g2
  go_enter Try.func44, Try.ntmps44
  go_wp2_with fail
  refine (C1.out _).mono ?_
  rintro e w1 ⟨v1, rfl, hN1, hE1⟩
  have B := Lib.hid ((Blk.new w _ _).ext hE1)
  have E1 : Hid (Ext w w1) := Lib.hid (Ext.trans (Ext.alloc (Ext.refl w) _) hE1)
  have N1 := Lib.hid hN1
  clear hE1 hN1
  go_wp2_with fail
  refine (C2.out _).mono ?_
  rintro e w2 ⟨v2, rfl, hN2, hE2⟩
  have B2 := Lib.hid (B.out.ext hE2)
  have E2 : Hid (Ext w w2) := Lib.hid (E1.out.trans hE2)
  have M1 := Lib.hid (N1.out.num.ext hE2)
  have M2 := Lib.hid hN2.num
  clear hE2 hN2
  go_wp2_with fail
  refine (prod_any v1 v2 p q _ M1.out M2.out P1.out P2.out).mono ?_
  rintro e w3 ⟨v3, rfl, hN3, hE3⟩
  have B3 := Lib.hid (B2.out.ext hE3)
  have E3 : Hid (Ext w w3) := Lib.hid (E2.out.trans hE3)
  have M3 := Lib.hid hN3.num
  clear hE3 hN3
  go_wp2_with fail
  refine (to_any v3 (p * q) _ M3.out G1.out G2.out).mono ?_
  rintro e w4 ⟨rfl, hE4⟩
  have b4 := B3.out.ext hE4
  have E4 := Lib.hid (E3.out.trans hE4)
  obtain ⟨t0, t1, u0, u1⟩ := num2 b4
  have B4 := Lib.hid b4
  clear hE4
  go_wp2_with fail
  have b5 := B4.out.alloc (.cells #[.int .i64 (hi (p * q)), .int .u64 (lo (p * q))] 69)
  obtain ⟨s0, s1⟩ := set2_same b5
  try simp only [Exit.inBlock, Exit.then]
  refine bodyPost_ret (by simp [results, Try.results44, go_sem, s0, s1]; try rfl) rfl ?_
  have E := E4.out
  exact ⟨rfl, by (repeat (first | with_reducible exact Ext.refl _ | with_reducible assumption | with_reducible refine Ext.alloc ?_ _ | with_reducible refine Ext.drew ?_ | with_reducible refine Ext.drewN ?_ _ | with_reducible refine Ext.later ?_ _ | (with_reducible refine Ext.setCell ?_ _ ?hp; case hp => first | (simp; done) | (simp; omega) | omega)))⟩
/-- The sign of a number. -/
def osgn (z : Int) : Int := if z < 0 then -1 else if 0 < z then 1 else 0
theorem osgn_val {z1 z2 : Int} {m : Bool} {bs : List Bool} {n : Nat} (hn : bs.length = n) (hc : Canon bs) (hm : m = true → bs ≠ []) (hz : z1 + -z2 = sg m (bval bs)) :
    (m = true ∧ osgn (z1 - z2) = -1) ∨ (m = false ∧ (0 : Int) < n ∧ osgn (z1 - z2) = 1) ∨ (m = false ∧ n = 0 ∧ osgn (z1 - z2) = 0) := by
  cases m
  · have hz2 : z1 - z2 = (bval bs : Int) := by have := sg_false_val hz; omega
    by_cases h : bs = []
    · subst h
      exact .inr (.inr ⟨rfl, by simpa using hn.symm, by rw [hz2]; rfl⟩)
    · have h1 := canon_pos hc h
      have h2 := Nat.two_pow_pos (bs.length - 1)
      have h3 := List.length_pos_iff.2 h
      refine .inr (.inl ⟨rfl, by omega, ?_⟩)
      rw [hz2, osgn, if_neg (by omega), if_pos (by omega)]
  · have hz2 : z1 - z2 = -(bval bs : Int) := by have := sg_true_val hz; omega
    have h1 := canon_pos hc (hm rfl)
    have h2 := Nat.two_pow_pos (bs.length - 1)
    refine .inl ⟨rfl, ?_⟩
    rw [hz2, osgn, if_pos (by omega)]
theorem keep4 {w : World} {g s : Nat} {t : TypeId} {u v u' v' : Value} (h1 : Blk w s t #[u, v]) (h2 : Blk w (s + 1) t #[u', v']) (hg : s + 1 < g) (x y : Value) :
    ((w.setCell ⟨g, 0, none⟩ x).setCell ⟨g, 1, none⟩ y).cell? ⟨s, 0, none⟩ = some u ∧ ((w.setCell ⟨g, 0, none⟩ x).setCell ⟨g, 1, none⟩ y).cell? ⟨s, 1, none⟩ = some v ∧ ((w.setCell ⟨g, 0, none⟩ x).setCell ⟨g, 1, none⟩ y).cell? ⟨s + 1, 0, none⟩ = some u' ∧ ((w.setCell ⟨g, 0, none⟩ x).setCell ⟨g, 1, none⟩ y).cell? ⟨s + 1, 1, none⟩ = some v' :=
  ⟨(keep2 h1 (by omega) x y).1, (keep2 h1 (by omega) x y).2, (keep2 h2 (by omega) x y).1, (keep2 h2 (by omega) x y).2⟩
set_option maxRecDepth 10000 in
set_option maxHeartbeats 2000000 in
theorem order_any (v1 v2 : Value) (z1 z2 : Int) (w : World) (h1 : NumV w v1 z1) (h2 : NumV w v2 z2) (b1 : z1.natAbs < 2 ^ 200) (b2 : z2.natAbs < 2 ^ 200) : Calls Try.prog 68 #[v1, v2] w fun e w' => e = .returned (.int .i64 (osgn (z1 - z2))) ∧ Ext w w' := by
  have H1 := Lib.hid h1; have H2 := Lib.hid h2
  have Q1 := Lib.hid b1; have Q2 := Lib.hid b2
  obtain ⟨m1, a1, n1, c1, l1, rfl, -⟩ := h1.opened b1
  obtain ⟨m2, a2, n2, c2, l2, rfl, -⟩ := h2.opened b2
  clear h1 h2 b1 b2
  go_enter Try.func68, Try.ntmps68
  go_upto_region 1 with fail
  have b1 : Blk ((w.alloc (.cells #[.bool m1, .slice a1 n1 c1] 78)).alloc (.cells #[.bool m2, .slice a2 n2 c2] 78)) w.heap.size 78 #[.bool m1, .slice a1 n1 c1] := (Blk.new w _ _).alloc _
  have b2 : Blk ((w.alloc (.cells #[.bool m1, .slice a1 n1 c1] 78)).alloc (.cells #[.bool m2, .slice a2 n2 c2] 78)) (w.heap.size + 1) 78 #[.bool m2, .slice a2 n2 c2] := Blk.new' _ _ _ (by simp)
  have hE : Ext w ((w.alloc (.cells #[.bool m1, .slice a1 n1 c1] 78)).alloc (.cells #[.bool m2, .slice a2 n2 c2] 78)) := by (repeat (first | with_reducible exact Ext.refl _ | with_reducible assumption | with_reducible refine Ext.alloc ?_ _ | with_reducible refine Ext.drew ?_ | with_reducible refine Ext.drewN ?_ _ | with_reducible refine Ext.later ?_ _ | (with_reducible refine Ext.setCell ?_ _ ?hp; case hp => first | (simp; done) | (simp; omega) | omega)))
  generalize ((w.alloc (.cells #[.bool m1, .slice a1 n1 c1] 78)).alloc (.cells #[.bool m2, .slice a2 n2 c2] 78)) = W at b1 b2 hE ⊢
  obtain ⟨p0, p1, -, -⟩ := num2 b1
  obtain ⟨q0, q1, -, -⟩ := num2 b2
  have HE := Lib.hid hE
  have B1 := Lib.hid b1; have B2 := Lib.hid b2; have HLT := Lib.hid b2.lt
  clear b1 b2 hE
  go_region_held3 (fun w' => w'.cell? ⟨w.heap.size, 0, none⟩ = some (.bool m1) ∧ w'.cell? ⟨w.heap.size, 1, none⟩ = some (.slice a1 n1 c1) ∧ w'.cell? ⟨w.heap.size + 1, 0, none⟩ = some (.bool m2) ∧ w'.cell? ⟨w.heap.size + 1, 1, none⟩ = some (.slice a2 n2 c2))
    (first | exact ⟨p0, p1, q0, q1⟩ | exact ⟨r0, r1, r2, r3⟩ | exact ⟨s0, s1, s2, s3⟩ | exact keep4 bb1.out bb2.out (by have := HLT.out; have := HZ1.out; have := HZ2.out; omega) _ _ | exact keep4 (bb1.out.alloc _) (bb2.out.alloc _) (by have := HLT.out; have := HZ1.out; have := HZ2.out; omega) _ _ | go_keep)
    ((first
      | (go_at_call 65; refine (turn_any _ z2 _ (H2.out.ext (by have E := HE.out; (repeat (first | with_reducible exact Ext.refl _ | with_reducible assumption | with_reducible refine Ext.alloc ?_ _ | with_reducible refine Ext.drew ?_ | with_reducible refine Ext.drewN ?_ _ | with_reducible refine Ext.later ?_ _ | (with_reducible refine Ext.setCell ?_ _ ?hp; case hp => first | (simp; done) | (simp; omega) | omega))))) Q2.out).mono ?_; rintro e w1 ⟨v3, rfl, hN1, hE1⟩; have r0 := hE1.cell_some (by first | exact p0 | simp [go_sem, p0] : World.cell? _ ⟨w.heap.size, 0, none⟩ = some (.bool m1)); have r1 := hE1.cell_some (by first | exact p1 | simp [go_sem, p1] : World.cell? _ ⟨w.heap.size, 1, none⟩ = some (.slice a1 n1 c1)); have r2 := hE1.cell_some (by first | exact q0 | simp [go_sem, q0] : World.cell? _ ⟨w.heap.size + 1, 0, none⟩ = some (.bool m2)); have r3 := hE1.cell_some (by first | exact q1 | simp [go_sem, q1] : World.cell? _ ⟨w.heap.size + 1, 1, none⟩ = some (.slice a2 n2 c2)); have E0 : Ext W w1 := Ext.trans (by (repeat (first | with_reducible exact Ext.refl _ | with_reducible assumption | with_reducible refine Ext.alloc ?_ _ | with_reducible refine Ext.drew ?_ | with_reducible refine Ext.drewN ?_ _ | with_reducible refine Ext.later ?_ _ | (with_reducible refine Ext.setCell ?_ _ ?hp; case hp => first | (simp; done) | (simp; omega) | omega)))) hE1; have E1 := Lib.hid (HE.out.trans E0); have HZ1 := Lib.hid E0.size; have N1 := Lib.hid hN1.num; (first | (have bn : Blk w1 W.heap.size 78 #[.bool false, .slice none 0 0] := (Blk.drew (Blk.new' _ _ _ rfl)).ext hE1) | skip); clear hN1)
      | (go_at_call 46; refine (sum_any _ v3 z1 (-z2) _ (H1.out.ext (by have E := E1.out; (repeat (first | with_reducible exact Ext.refl _ | with_reducible assumption | with_reducible refine Ext.alloc ?_ _ | with_reducible refine Ext.drew ?_ | with_reducible refine Ext.drewN ?_ _ | with_reducible refine Ext.later ?_ _ | (with_reducible refine Ext.setCell ?_ _ ?hp; case hp => first | (simp; done) | (simp; omega) | omega))))) (N1.out.ext (by (repeat (first | with_reducible exact Ext.refl _ | with_reducible assumption | with_reducible refine Ext.alloc ?_ _ | with_reducible refine Ext.drew ?_ | with_reducible refine Ext.drewN ?_ _ | with_reducible refine Ext.later ?_ _ | (with_reducible refine Ext.setCell ?_ _ ?hp; case hp => first | (simp; done) | (simp; omega) | omega))))) Q1.out (by rw [Int.natAbs_neg]; exact Q2.out)).mono ?_; rintro e w2 ⟨v4, rfl, hN2, hE2⟩; have s0 := hE2.cell_some (by first | exact r0 | simp [go_sem, r0] : World.cell? _ ⟨w.heap.size, 0, none⟩ = some (.bool m1)); have s1 := hE2.cell_some (by first | exact r1 | simp [go_sem, r1] : World.cell? _ ⟨w.heap.size, 1, none⟩ = some (.slice a1 n1 c1)); have s2 := hE2.cell_some (by first | exact r2 | simp [go_sem, r2] : World.cell? _ ⟨w.heap.size + 1, 0, none⟩ = some (.bool m2)); have s3 := hE2.cell_some (by first | exact r3 | simp [go_sem, r3] : World.cell? _ ⟨w.heap.size + 1, 1, none⟩ = some (.slice a2 n2 c2)); have E4 : Ext w1 w2 := Ext.trans (by (repeat (first | with_reducible exact Ext.refl _ | with_reducible assumption | with_reducible refine Ext.alloc ?_ _ | with_reducible refine Ext.drew ?_ | with_reducible refine Ext.drewN ?_ _ | with_reducible refine Ext.later ?_ _ | (with_reducible refine Ext.setCell ?_ _ ?hp; case hp => first | (simp; done) | (simp; omega) | omega)))) hE2; have E2 := Lib.hid (E1.out.trans E4); have HZ2 := Lib.hid E4.size; have bb1 := Lib.hid (B1.out.ext (E0.trans E4)); have bb2 := Lib.hid (B2.out.ext (E0.trans E4)); (first | (have bm := bn.ext E4) | (have bm : Blk w2 w1.heap.size 78 #[.bool false, .slice none 0 0] := (Blk.new' _ _ _ rfl).ext hE2) | skip); (first | (have hb1 := num2 bm; have hb2 := set2_same bm; obtain ⟨i0, i1, i2, i3⟩ := hb1; obtain ⟨j0, j1⟩ := hb2) | skip); obtain ⟨m, a, n, c, bs, rfl, g1, g2, g3, g4⟩ := hN2; have N2 := Lib.hid (osgn_val (rd_len g1.rd) g2 g3 g4); clear g1 g2 g3 g4)))
  all_goals
    have h1 := HLT.out
    have h2 := HZ1.out
    have h3 := HZ2.out
    have E := E2.out
    rcases N2.out with ⟨rfl, e⟩ | ⟨rfl, hn, e⟩ | ⟨rfl, rfl, e⟩
    all_goals
      have HO := Lib.hid e
      clear e h1 h2 h3
      go_wp2_with fail
      go_ret
      refine ⟨congrArg (fun t => Ending.returned (Value.int .i64 t)) HO.out.symm, ?_⟩
      have h1 := HLT.out
      have h2 := HZ1.out
      have h3 := HZ2.out
      (repeat (first | with_reducible exact Ext.refl _ | with_reducible assumption | with_reducible refine Ext.alloc ?_ _ | with_reducible refine Ext.drew ?_ | with_reducible refine Ext.drewN ?_ _ | with_reducible refine Ext.later ?_ _ | (with_reducible refine Ext.setCell ?_ _ ?hp; case hp => first | (simp; done) | (simp; omega) | omega)))
end Go.Proofs.Ytibhfclkdbmmoaa
