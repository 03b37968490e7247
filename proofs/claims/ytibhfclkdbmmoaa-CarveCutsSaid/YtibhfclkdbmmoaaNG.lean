/- Proof text: the document's numbers turned, ordered (rastrumref02.Turn, Order). By an AI agent. No condition beyond what each theorem states. -/
import Derived.Test.YtibhfclkdbmmoaaNF
set_option linter.unusedVariables false
set_option linter.unusedSimpArgs false
namespace Go.Proofs.Ytibhfclkdbmmoaa
open Go.RowKit
theorem sg_not (m : Bool) (x : Nat) : sg (!m) x = -sg m x := by cases m <;> simp [sg]
set_option maxRecDepth 10000 in
set_option maxHeartbeats 2000000 in
theorem turn_any (v1 : Value) (z1 : Int) (w : World) (h1 : NumV w v1 z1) (b1 : z1.natAbs < 2 ^ 200) : Calls Try.prog 65 #[v1] w (NumP (-z1) w) := by
  obtain ⟨m, a, n, c, l, rfl, r1, hn, rfl, -⟩ := h1.opened b1
  have H1 := Lib.hid r1
  have N1 := Lib.hid hn
  clear h1 b1 r1 hn
  go_enter Try.func65, Try.ntmps65
  go_wp2_with fail
  have hz : (w.alloc (.cells #[.bool m, .slice a n c] 78)).heap.size = w.heap.size + 1 := by simp
  have b3 : Blk ((w.alloc (.cells #[.bool m, .slice a n c] 78)).alloc (.cells #[.bool false, .slice none 0 0] 78)) (w.heap.size + 1) 78 #[.bool false, .slice none 0 0] := Blk.new' _ _ _ (by simp)
  have hE : Ext w ((w.alloc (.cells #[.bool m, .slice a n c] 78)).alloc (.cells #[.bool false, .slice none 0 0] 78)) := by (repeat (first | with_reducible exact Ext.refl _ | with_reducible assumption | with_reducible refine Ext.alloc ?_ _ | with_reducible refine Ext.drew ?_ | with_reducible refine Ext.drewN ?_ _ | with_reducible refine Ext.later ?_ _ | (with_reducible refine Ext.setCell ?_ _ ?hp; case hp => first | (simp; done) | (simp; omega) | omega)))
  generalize ((w.alloc (.cells #[.bool m, .slice a n c] 78)).alloc (.cells #[.bool false, .slice none 0 0] 78)) = W at b3 hE ⊢
  have B3 := Lib.hid b3; have HE := Lib.hid hE
  clear b3 hE hz
  all_goals
    refine (ntrim_any _ l a n c _ (H1.out.ext HE.out) (Nat.le_trans N1.out (by decide))).mono ?_
    rintro e w2 ⟨v2, rfl, hN, hE2⟩
    obtain ⟨mm, aa, nn, cc, bs, rfl, g1, g2, g3, g4⟩ := hN
    have b9 := B3.out.ext hE2
    obtain ⟨t0, t1, u0, u1⟩ := num2 b9
    obtain ⟨s0, s1⟩ := set2_same b9
    have HG := Lib.hid g4
    clear g4
    go_wp2_with fail
    try simp only [Exit.inBlock, Exit.then]
    refine bodyPost_ret (by simp [results, Try.results65, go_sem, s0, s1]; try rfl) rfl ?_
    have e2 := HE.out.size
    have lb := B3.out.lt
    refine ⟨_, rfl, ⟨mm, aa, nn, cc, bs, rfl, g1.set2 lb (by omega) _ _, g2, g3, ?_⟩, ?_⟩
    · rw [← sg_not]; first | exact HG.out | (rename_i hm; rw [hm]; exact HG.out) | (rename_i hm; rw [eq_false_of_ne_true hm]; exact HG.out)
    · have E := HE.out.trans hE2
      (repeat (first | with_reducible exact Ext.refl _ | with_reducible assumption | with_reducible refine Ext.alloc ?_ _ | with_reducible refine Ext.drew ?_ | with_reducible refine Ext.drewN ?_ _ | with_reducible refine Ext.later ?_ _ | (with_reducible refine Ext.setCell ?_ _ ?hp; case hp => first | (simp; done) | (simp; omega) | omega)))
end Go.Proofs.Ytibhfclkdbmmoaa
