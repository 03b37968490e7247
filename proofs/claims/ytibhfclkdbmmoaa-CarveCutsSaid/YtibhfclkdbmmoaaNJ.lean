/- Proof text: ints and the document's numbers, back to 128 bits (rastrumref02.Of, num, To, Small). By an AI agent. No condition beyond what each theorem states. -/
import Derived.Test.YtibhfclkdbmmoaaNI
set_option linter.unusedVariables false
set_option linter.unusedSimpArgs false
namespace Go.Proofs.Ytibhfclkdbmmoaa
open Go.RowKit
theorem of_any (n : Int) (w : World) (h1 : -9223372036854775808 ≤ n) (h2 : n < 9223372036854775808) : Calls Try.prog 47 #[.int .i64 n] w fun e w' => e = .returned (I n) ∧ Ext w w' := by
  show Calls Try.prog 47 #[.int .i64 n] w fun e w' => e = .returned (.agg #[.int .i64 (hi n), .int .u64 (lo n)]) ∧ Ext w w'
  have e1 : IntKind.u64.wrap n = lo n := by rw [IntKind.wrap_u64]; rfl
  by_cases h : n < 0
  · have e2 : hi n = -1 := by unfold hi; omega
    have hd : decide (n < 0) = true := by simpa using h
    rw [e2]
    go_enter Try.func47, Try.ntmps47
    go_wp2
    go_returns
    exact ⟨rfl, by (repeat (first | with_reducible exact Ext.refl _ | with_reducible assumption | with_reducible refine Ext.alloc ?_ _ | with_reducible refine Ext.drew ?_ | with_reducible refine Ext.drewN ?_ _ | with_reducible refine Ext.later ?_ _ | (with_reducible refine Ext.setCell ?_ _ ?hp; case hp => first | (simp; done) | (simp; omega) | omega)))⟩
  · have e2 : hi n = 0 := by unfold hi; omega
    have hd : decide (n < 0) = false := by simpa using h
    rw [e2]
    go_enter Try.func47, Try.ntmps47
    go_wp2
    go_returns
    exact ⟨rfl, by (repeat (first | with_reducible exact Ext.refl _ | with_reducible assumption | with_reducible refine Ext.alloc ?_ _ | with_reducible refine Ext.drew ?_ | with_reducible refine Ext.drewN ?_ _ | with_reducible refine Ext.later ?_ _ | (with_reducible refine Ext.setCell ?_ _ ?hp; case hp => first | (simp; done) | (simp; omega) | omega)))⟩
set_option maxRecDepth 10000 in
theorem num_any (n : Int) (w : World) (h1 : -9223372036854775808 ≤ n) (h2 : n < 9223372036854775808) : Calls Try.prog 63 #[.int .i64 n] w (NumP n w) := by
  have C1 := Lib.hid (fun W => of_any n W h1 h2)
  have C2 := Lib.hid (fun W => from_any n W (by omega) (by omega))
  clear h1 h2
  go_enter Try.func63, Try.ntmps63
  go_wp2_with fail
  refine (C1.out _).mono ?_
  rintro e w1 ⟨rfl, hE⟩
  have b3 : Blk w1 w.heap.size 78 #[.bool false, .slice none 0 0] := (Blk.new w _ _).ext hE
  have B3 := Lib.hid b3
  have E1 : Hid (Ext w w1) := Lib.hid (Ext.trans (Ext.alloc (Ext.refl w) _) hE)
  clear hE b3
  go_wp2_with fail
  refine (C2.out _).mono ?_
  rintro e w2 ⟨v2, rfl, hN, hE2⟩
  obtain ⟨mm, aa, nn, cc, bs, rfl, g1, g2, g3, g4⟩ := hN
  have b8 := B3.out.ext hE2
  obtain ⟨t0, t1, u0, u1⟩ := num2 b8
  obtain ⟨s0, s1⟩ := set2_same b8
  have HG := Lib.hid g4
  clear g4
  go_wp2_with fail
  try simp only [Exit.inBlock, Exit.then]
  refine bodyPost_ret (by simp [results, Try.results63, go_sem, s0, s1]; try rfl) rfl ?_
  have lb := B3.out.lt
  have e1 := E1.out.size
  refine ⟨_, rfl, ⟨mm, aa, nn, cc, bs, rfl, g1.set2 lb e1 _ _, g2, g3, HG.out⟩, ?_⟩
  have E := E1.out.trans hE2
  (repeat (first | with_reducible exact Ext.refl _ | with_reducible assumption | with_reducible refine Ext.alloc ?_ _ | with_reducible refine Ext.drew ?_ | with_reducible refine Ext.drewN ?_ _ | with_reducible refine Ext.later ?_ _ | (with_reducible refine Ext.setCell ?_ _ ?hp; case hp => first | (simp; done) | (simp; omega) | omega)))
end Go.Proofs.Ytibhfclkdbmmoaa
