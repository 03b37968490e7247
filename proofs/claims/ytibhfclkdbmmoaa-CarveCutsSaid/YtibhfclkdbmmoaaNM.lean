/- Proof text: what is greater of 128 bits (rastrumref02.Cmp). By an AI agent. No condition beyond what each theorem states. -/
import Derived.Test.YtibhfclkdbmmoaaNL
set_option linter.unusedVariables false
set_option linter.unusedSimpArgs false
namespace Go.Proofs.Ytibhfclkdbmmoaa
open Go.RowKit
set_option maxRecDepth 10000 in
set_option maxHeartbeats 2000000 in
theorem rcmp_any (x y : Int) (w : World) (h1 : -170141183460469231731687303715884105728 ≤ x) (h2 : x < 170141183460469231731687303715884105728) (h3 : -170141183460469231731687303715884105728 ≤ y) (h4 : y < 170141183460469231731687303715884105728) :
    Calls Try.prog 52 #[I x, I y] w fun e w' => e = .returned (.int .i64 (osgn (x - y))) ∧ Ext w w' := by
  have C1 := Lib.hid (fun W => from_any x W h1 h2)
  have C2 := Lib.hid (fun W => from_any y W h3 h4)
  have Q1 : Hid (x.natAbs < 2 ^ 200) := Lib.hid (lim_of (by omega) (by omega))
  have Q2 : Hid (y.natAbs < 2 ^ 200) := Lib.hid (lim_of (by omega) (by omega))
  obtain ⟨hx, hhx⟩ : ∃ t, hi x = t := ⟨_, rfl⟩
  obtain ⟨lx, hlx⟩ : ∃ t, lo x = t := ⟨_, rfl⟩
  obtain ⟨hy, hhy⟩ : ∃ t, hi y = t := ⟨_, rfl⟩
  obtain ⟨ly, hly⟩ : ∃ t, lo y = t := ⟨_, rfl⟩
  have D1 : Hid (∀ W, Calls Try.prog 43 #[.agg #[.int .i64 hx, .int .u64 lx]] W (NumP x W)) := Lib.hid (by rw [← hhx, ← hlx]; exact C1.out)
  have D2 : Hid (∀ W, Calls Try.prog 43 #[.agg #[.int .i64 hy, .int .u64 ly]] W (NumP y W)) := Lib.hid (by rw [← hhy, ← hly]; exact C2.out)
  show Calls Try.prog 52 #[.agg #[.int .i64 (hi x), .int .u64 (lo x)], .agg #[.int .i64 (hi y), .int .u64 (lo y)]] w fun e w' => e = .returned (.int .i64 (osgn (x - y))) ∧ Ext w w'
  rw [hhx, hlx, hhy, hly]
  clear C1 C2 h1 h2 h3 h4 hhx hlx hhy hly
  go_enter Try.func52, Try.ntmps52
  go_upto_region 1 with fail
  have b1 : Blk ((w.alloc (.cells #[.int .i64 hx, .int .u64 lx] 69)).alloc (.cells #[.int .i64 hy, .int .u64 ly] 69)) w.heap.size 69 #[.int .i64 hx, .int .u64 lx] := (Blk.new w _ _).alloc _
  have b2 : Blk ((w.alloc (.cells #[.int .i64 hx, .int .u64 lx] 69)).alloc (.cells #[.int .i64 hy, .int .u64 ly] 69)) (w.heap.size + 1) 69 #[.int .i64 hy, .int .u64 ly] := Blk.new' _ _ _ (by simp)
  have hE : Ext w ((w.alloc (.cells #[.int .i64 hx, .int .u64 lx] 69)).alloc (.cells #[.int .i64 hy, .int .u64 ly] 69)) := by (repeat (first | with_reducible exact Ext.refl _ | with_reducible assumption | with_reducible refine Ext.alloc ?_ _ | with_reducible refine Ext.drew ?_ | with_reducible refine Ext.drewN ?_ _ | with_reducible refine Ext.later ?_ _ | (with_reducible refine Ext.setCell ?_ _ ?hp; case hp => first | (simp; done) | (simp; omega) | omega)))
  generalize ((w.alloc (.cells #[.int .i64 hx, .int .u64 lx] 69)).alloc (.cells #[.int .i64 hy, .int .u64 ly] 69)) = W at b1 b2 hE ⊢
  obtain ⟨p0, p1, -, -⟩ := num2 b1
  obtain ⟨q0, q1, -, -⟩ := num2 b2
  have HE := Lib.hid hE
  clear b1 b2 hE
  go_region_held3 (fun w' => w'.cell? ⟨w.heap.size, 0, none⟩ = some (.int .i64 hx) ∧ w'.cell? ⟨w.heap.size, 1, none⟩ = some (.int .u64 lx) ∧ w'.cell? ⟨w.heap.size + 1, 0, none⟩ = some (.int .i64 hy) ∧ w'.cell? ⟨w.heap.size + 1, 1, none⟩ = some (.int .u64 ly))
    (first | exact ⟨p0, p1, q0, q1⟩ | exact ⟨r0, r1, r2, r3⟩ | exact ⟨s0, s1, s2, s3⟩ | exact ⟨t0, t1, t2, t3⟩ | go_keep)
    ((first
      | (go_at_call 43; (with_reducible refine (D1.out _).mono ?_); rintro e w1 ⟨v3, rfl, hN1, hE1⟩; have r0 := hE1.cell_some p0; have r1 := hE1.cell_some p1; have r2 := hE1.cell_some q0; have r3 := hE1.cell_some q1; have E1 := Lib.hid (HE.out.drew.trans hE1); have N1 := Lib.hid hN1.num; clear hN1)
      | (go_at_call 43; (with_reducible refine (D2.out _).mono ?_); rintro e w2 ⟨v4, rfl, hN2, hE2⟩; have s0 := hE2.cell_some r0; have s1 := hE2.cell_some r1; have s2 := hE2.cell_some r2; have s3 := hE2.cell_some r3; have E2 := Lib.hid (E1.out.trans hE2); have M1 := Lib.hid (N1.out.ext hE2); have M2 := Lib.hid hN2.num; clear hN2)
      | (go_at_call 68; (with_reducible refine (order_any v3 v4 x y _ M1.out M2.out Q1.out Q2.out).mono ?_); rintro e w3 ⟨rfl, hE3⟩; have t0 := hE3.cell_some s0; have t1 := hE3.cell_some s1; have t2 := hE3.cell_some s2; have t3 := hE3.cell_some s3; have E3 := Lib.hid (E2.out.trans hE3))))
  all_goals
    go_wp2_with fail
    go_ret
    exact ⟨rfl, by have E := E3.out; (repeat (first | with_reducible exact Ext.refl _ | with_reducible assumption | with_reducible refine Ext.alloc ?_ _ | with_reducible refine Ext.drew ?_ | with_reducible refine Ext.drewN ?_ _ | with_reducible refine Ext.later ?_ _ | (with_reducible refine Ext.setCell ?_ _ ?hp; case hp => first | (simp; done) | (simp; omega) | omega)))⟩
end Go.Proofs.Ytibhfclkdbmmoaa
