/- Proof text: sums of the document's numbers (rastrumref02.Sum). By an AI agent. No condition beyond what each theorem states. -/
import Derived.Test.YtibhfclkdbmmoaaNA
set_option linter.unusedVariables false
set_option linter.unusedSimpArgs false
namespace Go.Proofs.Ytibhfclkdbmmoaa
open Go.RowKit
theorem NumV.opened {w : World} {v : Value} {z : Int} (h : NumV w v z) {K : Nat} (hb : z.natAbs < 2 ^ K) :
    ∃ (m : Bool) (a : Option Addr) (n c : Nat) (bs : List Bool), v = .agg #[.bool m, .slice a n c] ∧ Rd w 1 a n c (brw bs) ∧ n ≤ K ∧ z = sg m (bval bs) ∧ Canon bs ∧ (m = true → bs ≠ []) := by
  obtain ⟨m, a, n, c, bs, h1, h2, h3, h4, h5⟩ := h
  refine ⟨m, a, n, c, bs, h1, h2, ?_, h5, h3, h4⟩
  have h6 : bval bs < 2 ^ K := by
    have : z.natAbs = bval bs := by rw [h5]; cases m <;> simp [sg]
    omega
  rw [← rd_len h2]
  exact canon_len h3 h6
theorem keep2 {w : World} {g g' : Nat} {t : TypeId} {u v : Value} (h : Blk w g t #[u, v]) (hne : g ≠ g') (x y : Value) :
    ((w.setCell ⟨g', 0, none⟩ x).setCell ⟨g', 1, none⟩ y).cell? ⟨g, 0, none⟩ = some u ∧ ((w.setCell ⟨g', 0, none⟩ x).setCell ⟨g', 1, none⟩ y).cell? ⟨g, 1, none⟩ = some v :=
  ⟨((h.far (p := ⟨g', 0, none⟩) hne x).far (p := ⟨g', 1, none⟩) hne y).cell 0, ((h.far (p := ⟨g', 0, none⟩) hne x).far (p := ⟨g', 1, none⟩) hne y).cell 1⟩
theorem sum_same (m : Bool) (x y : Nat) : sg m (x + y) = sg m x + sg m y := by cases m <;> simp [sg] <;> omega
theorem sum_less {m k : Bool} (hk : k ≠ m) {x y d : Nat} (h : d + y = x) : sg m d = sg m x + sg k y := by
  cases m <;> cases k <;> simp_all [sg] <;> omega
set_option maxRecDepth 10000 in
set_option maxHeartbeats 2000000 in
theorem sum_one (m : Bool) (l1 l2 : List Bool) (a1 a2 : Option Addr) (n1 n2 k1 k2 : Nat) (w : World) (h1 : Rd w 1 a1 n1 k1 (brw l1)) (h2 : Rd w 1 a2 n2 k2 (brw l2)) (hn1 : n1 ≤ 999) (hn2 : n2 ≤ 999) :
    Calls Try.prog 46 #[.agg #[.bool m, .slice a1 n1 k1], .agg #[.bool m, .slice a2 n2 k2]] w (NumP (sg m (bval l1) + sg m (bval l2)) w) := by
  have H1 := Lib.hid h1; have H2 := Lib.hid h2
  have N1 := Lib.hid hn1; have N2 := Lib.hid hn2
  have L1 := Lib.hid (rd_len h1); have L2 := Lib.hid (rd_len h2)
  clear h1 h2 hn1 hn2
  go_enter Try.func46, Try.ntmps46
  have hd : decide (m = m) = true := by simp
  go_upto_region 2 with fail
  have hz : ((w.alloc (.cells #[.bool m, .slice a1 n1 k1] 78)).alloc (.cells #[.bool m, .slice a2 n2 k2] 78)).heap.size = w.heap.size + 1 + 1 := by simp
  have b1 : Blk (((w.alloc (.cells #[.bool m, .slice a1 n1 k1] 78)).alloc (.cells #[.bool m, .slice a2 n2 k2] 78)).alloc (.cells #[.bool false, .slice none 0 0] 78)) w.heap.size 78 #[.bool m, .slice a1 n1 k1] := ((Blk.new w _ _).alloc _).alloc _
  have b2 : Blk (((w.alloc (.cells #[.bool m, .slice a1 n1 k1] 78)).alloc (.cells #[.bool m, .slice a2 n2 k2] 78)).alloc (.cells #[.bool false, .slice none 0 0] 78)) (w.heap.size + 1) 78 #[.bool m, .slice a2 n2 k2] := (Blk.new' _ _ _ (by simp)).alloc _
  have b3 : Blk (((w.alloc (.cells #[.bool m, .slice a1 n1 k1] 78)).alloc (.cells #[.bool m, .slice a2 n2 k2] 78)).alloc (.cells #[.bool false, .slice none 0 0] 78)) (w.heap.size + 1 + 1) 78 #[.bool false, .slice none 0 0] := Blk.new' _ _ _ (by simp)
  have hE : Ext w (((w.alloc (.cells #[.bool m, .slice a1 n1 k1] 78)).alloc (.cells #[.bool m, .slice a2 n2 k2] 78)).alloc (.cells #[.bool false, .slice none 0 0] 78)) := by (repeat (first | with_reducible exact Ext.refl _ | with_reducible assumption | with_reducible refine Ext.alloc ?_ _ | with_reducible refine Ext.drew ?_ | with_reducible refine Ext.drewN ?_ _ | with_reducible refine Ext.later ?_ _ | (with_reducible refine Ext.setCell ?_ _ ?hp; case hp => first | (simp; done) | (simp; omega) | omega)))
  generalize (((w.alloc (.cells #[.bool m, .slice a1 n1 k1] 78)).alloc (.cells #[.bool m, .slice a2 n2 k2] 78)).alloc (.cells #[.bool false, .slice none 0 0] 78)) = W at b1 b2 b3 hE ⊢
  have B1 := Lib.hid b1; have B2 := Lib.hid b2; have B3 := Lib.hid b3; have HE := Lib.hid hE
  obtain ⟨p0, p1, -, -⟩ := num2 b1
  obtain ⟨q0, q1, -, -⟩ := num2 b2
  clear b1 b2 b3 hE hz
  go_region_held3 (fun w' => w'.cell? ⟨w.heap.size, 0, none⟩ = some (.bool m) ∧ w'.cell? ⟨w.heap.size, 1, none⟩ = some (.slice a1 n1 k1) ∧ w'.cell? ⟨w.heap.size + 1, 1, none⟩ = some (.slice a2 n2 k2))
    (first | exact ⟨p0, p1, q1⟩ | exact ⟨r0, r1, r2⟩ | exact ⟨s0, s1, s2⟩ | exact ⟨k0, k1, k2⟩ | go_keep)
    ((first
      | (go_at_call 66; refine (more_any l1 l2 a1 a2 n1 k1 n2 k2 _ (H1.out.ext HE.out.drew) (H2.out.ext HE.out.drew) (Nat.le_succ_of_le N1.out) (Nat.le_succ_of_le N2.out)).mono ?_; rintro e w1 ⟨v, out, rfl, ho, hv0, hle0, hE1⟩; have hv := Lib.hid hv0; have hle := Lib.hid hle0; clear hv0 hle0; obtain ⟨ao, co, rfl, hr⟩ := ownsRow_rd ho; have r0 := hE1.cell_some p0; have r1 := hE1.cell_some p1; have r2 := hE1.cell_some q1)
      | (go_at_call 60; refine (ntrim_any m out ao out.length co _ hr (by have := hle.out; have := L1.out; have := L2.out; have := N1.out; have := N2.out; omega)).mono ?_; rintro e w2 ⟨v2, rfl, hN, hE2⟩; have s0 := hE2.cell_some r0; have s1 := hE2.cell_some r1; have s2 := hE2.cell_some r2; obtain ⟨mm, aa, nn, cc, bs, rfl, hN2⟩ := hN; have b9 := ((B3.out.drew).ext hE1).ext hE2; obtain ⟨t0, t1, u0, u1⟩ := num2 b9; obtain ⟨k0, k1⟩ := keep2 ((B1.out.drew.ext hE1).ext hE2) (by omega : w.heap.size ≠ w.heap.size + 1 + 1) (.bool mm) (.slice aa nn cc); have k2 := (keep2 ((B2.out.drew.ext hE1).ext hE2) (by omega : w.heap.size + 1 ≠ w.heap.size + 1 + 1) (.bool mm) (.slice aa nn cc)).2)))
  go_wp2_with fail
  try simp only [Exit.inBlock, Exit.then]
  obtain ⟨s0, s1⟩ := set2_same b9
  refine bodyPost_ret (by simp [results, Try.results46, go_sem, s0, s1]; try rfl) rfl ?_
  have e1 := hE1.size
  have e2 := HE.out.size
  have lb := B3.out.lt
  obtain ⟨g1, g2, g3, g4⟩ := hN2
  have e3 : w.heap.size + 1 + 1 < w1.heap.size := Nat.lt_of_lt_of_le lb (by simpa using e1)
  refine ⟨_, rfl, ⟨mm, aa, nn, cc, bs, rfl, g1.set2 e3 (by omega) _ _, g2, g3, ?_⟩, ?_⟩
  · rw [← sum_same, ← hv.out]; exact g4
  · have E := ((HE.out.drew.trans hE1).trans hE2)
    (repeat (first | with_reducible exact Ext.refl _ | with_reducible assumption | with_reducible refine Ext.alloc ?_ _ | with_reducible refine Ext.drew ?_ | with_reducible refine Ext.drewN ?_ _ | with_reducible refine Ext.later ?_ _ | (with_reducible refine Ext.setCell ?_ _ ?hp; case hp => first | (simp; done) | (simp; omega) | omega)))
set_option maxRecDepth 10000 in
set_option maxHeartbeats 2000000 in
theorem sum_two (m k : Bool) (hk : k ≠ m) (l1 l2 : List Bool) (a1 a2 : Option Addr) (n1 n2 k1 k2 : Nat) (w : World) (h1 : Rd w 1 a1 n1 k1 (brw l1)) (h2 : Rd w 1 a2 n2 k2 (brw l2)) (hn1 : n1 ≤ 999) (hn2 : n2 ≤ 999) (hle : bval l2 ≤ bval l1) :
    Calls Try.prog 46 #[.agg #[.bool m, .slice a1 n1 k1], .agg #[.bool k, .slice a2 n2 k2]] w (NumP (sg m (bval l1) + sg k (bval l2)) w) := by
  have H1 := Lib.hid h1; have H2 := Lib.hid h2
  have N1 := Lib.hid hn1; have N2 := Lib.hid hn2
  have L1 := Lib.hid (rd_len h1); have L2 := Lib.hid (rd_len h2)
  clear h1 h2 hn1 hn2
  go_enter Try.func46, Try.ntmps46
  have hd : (m == k) = false := by rw [beq_eq_false_iff_ne]; exact fun e => hk e.symm
  have HLE := Lib.hid hle
  clear hle
  go_wp2_with fail
  refine (above_any l1 l2 a1 a2 n1 k1 n2 k2 _ (H1.out.ext (by (repeat (first | with_reducible exact Ext.refl _ | with_reducible assumption | with_reducible refine Ext.alloc ?_ _ | with_reducible refine Ext.drew ?_ | with_reducible refine Ext.drewN ?_ _ | with_reducible refine Ext.later ?_ _ | (with_reducible refine Ext.setCell ?_ _ ?hp; case hp => first | (simp; done) | (simp; omega) | omega))))) (H2.out.ext (by (repeat (first | with_reducible exact Ext.refl _ | with_reducible assumption | with_reducible refine Ext.alloc ?_ _ | with_reducible refine Ext.drew ?_ | with_reducible refine Ext.drewN ?_ _ | with_reducible refine Ext.later ?_ _ | (with_reducible refine Ext.setCell ?_ _ ?hp; case hp => first | (simp; done) | (simp; omega) | omega))))) (Nat.le_succ_of_le N1.out) (Nat.le_succ_of_le N2.out)).mono ?_
  rintro e w0 ⟨⟨z, rfl, hz0⟩, rfl⟩
  have hzz : 0 ≤ z := by have := HLE.out; omega
  clear hz0
  go_upto_region 4 with fail
  have hz : ((w.alloc (.cells #[.bool m, .slice a1 n1 k1] 78)).alloc (.cells #[.bool k, .slice a2 n2 k2] 78)).heap.size = w.heap.size + 1 + 1 := by simp
  have b1 : Blk (((w.alloc (.cells #[.bool m, .slice a1 n1 k1] 78)).alloc (.cells #[.bool k, .slice a2 n2 k2] 78)).alloc (.cells #[.bool false, .slice none 0 0] 78)) w.heap.size 78 #[.bool m, .slice a1 n1 k1] := ((Blk.new w _ _).alloc _).alloc _
  have b2 : Blk (((w.alloc (.cells #[.bool m, .slice a1 n1 k1] 78)).alloc (.cells #[.bool k, .slice a2 n2 k2] 78)).alloc (.cells #[.bool false, .slice none 0 0] 78)) (w.heap.size + 1) 78 #[.bool k, .slice a2 n2 k2] := (Blk.new' _ _ _ (by simp)).alloc _
  have b3 : Blk (((w.alloc (.cells #[.bool m, .slice a1 n1 k1] 78)).alloc (.cells #[.bool k, .slice a2 n2 k2] 78)).alloc (.cells #[.bool false, .slice none 0 0] 78)) (w.heap.size + 1 + 1) 78 #[.bool false, .slice none 0 0] := Blk.new' _ _ _ (by simp)
  have hE : Ext w (((w.alloc (.cells #[.bool m, .slice a1 n1 k1] 78)).alloc (.cells #[.bool k, .slice a2 n2 k2] 78)).alloc (.cells #[.bool false, .slice none 0 0] 78)) := by (repeat (first | with_reducible exact Ext.refl _ | with_reducible assumption | with_reducible refine Ext.alloc ?_ _ | with_reducible refine Ext.drew ?_ | with_reducible refine Ext.drewN ?_ _ | with_reducible refine Ext.later ?_ _ | (with_reducible refine Ext.setCell ?_ _ ?hp; case hp => first | (simp; done) | (simp; omega) | omega)))
  generalize (((w.alloc (.cells #[.bool m, .slice a1 n1 k1] 78)).alloc (.cells #[.bool k, .slice a2 n2 k2] 78)).alloc (.cells #[.bool false, .slice none 0 0] 78)) = W at b1 b2 b3 hE ⊢
  have B1 := Lib.hid b1; have B2 := Lib.hid b2; have B3 := Lib.hid b3; have HE := Lib.hid hE
  obtain ⟨p0, p1, -, -⟩ := num2 b1
  obtain ⟨q0, q1, -, -⟩ := num2 b2
  clear b1 b2 b3 hE hz
  go_region_held3 (fun w' => w'.cell? ⟨w.heap.size, 0, none⟩ = some (.bool m) ∧ w'.cell? ⟨w.heap.size, 1, none⟩ = some (.slice a1 n1 k1) ∧ w'.cell? ⟨w.heap.size + 1, 1, none⟩ = some (.slice a2 n2 k2))
    (first | exact ⟨p0, p1, q1⟩ | exact ⟨r0, r1, r2⟩ | exact ⟨s0, s1, s2⟩ | exact ⟨k0, k1, k2⟩ | go_keep)
    ((first
      | (go_at_call 61; refine (nless_any l1 l2 a1 a2 n1 k1 n2 k2 _ (H1.out.ext HE.out.drew) (H2.out.ext HE.out.drew) (Nat.le_succ_of_le N1.out) HLE.out).mono ?_; rintro e w1 ⟨v, out, rfl, ho, hv0, hle0, hE1⟩; have hv := Lib.hid hv0; have hle := Lib.hid hle0; clear hv0 hle0; obtain ⟨ao, co, rfl, hr⟩ := ownsRow_rd ho; have r0 := hE1.cell_some p0; have r1 := hE1.cell_some p1; have r2 := hE1.cell_some q1)
      | (go_at_call 60; refine (ntrim_any m out ao out.length co _ hr (by have := hle.out; have := L1.out; have := L2.out; have := N1.out; have := N2.out; omega)).mono ?_; rintro e w2 ⟨v2, rfl, hN, hE2⟩; have s0 := hE2.cell_some r0; have s1 := hE2.cell_some r1; have s2 := hE2.cell_some r2; obtain ⟨mm, aa, nn, cc, bs, rfl, hN2⟩ := hN; have b9 := ((B3.out.drew).ext hE1).ext hE2; obtain ⟨t0, t1, u0, u1⟩ := num2 b9; obtain ⟨k0, k1⟩ := keep2 ((B1.out.drew.ext hE1).ext hE2) (by omega : w.heap.size ≠ w.heap.size + 1 + 1) (.bool mm) (.slice aa nn cc); have k2 := (keep2 ((B2.out.drew.ext hE1).ext hE2) (by omega : w.heap.size + 1 ≠ w.heap.size + 1 + 1) (.bool mm) (.slice aa nn cc)).2)))
  go_wp2_with fail
  try simp only [Exit.inBlock, Exit.then]
  obtain ⟨s0, s1⟩ := set2_same b9
  refine bodyPost_ret (by simp [results, Try.results46, go_sem, s0, s1]; try rfl) rfl ?_
  have e1 := hE1.size
  have e2 := HE.out.size
  have lb := B3.out.lt
  obtain ⟨g1, g2, g3, g4⟩ := hN2
  have e3 : w.heap.size + 1 + 1 < w1.heap.size := Nat.lt_of_lt_of_le lb (by simpa using e1)
  refine ⟨_, rfl, ⟨mm, aa, nn, cc, bs, rfl, g1.set2 e3 (by omega) _ _, g2, g3, ?_⟩, ?_⟩
  · rw [← sum_less hk hv.out]; exact g4
  · have E := ((HE.out.drew.trans hE1).trans hE2)
    (repeat (first | with_reducible exact Ext.refl _ | with_reducible assumption | with_reducible refine Ext.alloc ?_ _ | with_reducible refine Ext.drew ?_ | with_reducible refine Ext.drewN ?_ _ | with_reducible refine Ext.later ?_ _ | (with_reducible refine Ext.setCell ?_ _ ?hp; case hp => first | (simp; done) | (simp; omega) | omega)))
set_option maxRecDepth 10000 in
set_option maxHeartbeats 2000000 in
theorem sum_three (m k : Bool) (hk : k ≠ m) (l1 l2 : List Bool) (a1 a2 : Option Addr) (n1 n2 k1 k2 : Nat) (w : World) (h1 : Rd w 1 a1 n1 k1 (brw l1)) (h2 : Rd w 1 a2 n2 k2 (brw l2)) (hn1 : n1 ≤ 999) (hn2 : n2 ≤ 999) (hle : bval l1 < bval l2) :
    Calls Try.prog 46 #[.agg #[.bool m, .slice a1 n1 k1], .agg #[.bool k, .slice a2 n2 k2]] w (NumP (sg m (bval l1) + sg k (bval l2)) w) := by
  have H1 := Lib.hid h1; have H2 := Lib.hid h2
  have N1 := Lib.hid hn1; have N2 := Lib.hid hn2
  have L1 := Lib.hid (rd_len h1); have L2 := Lib.hid (rd_len h2)
  clear h1 h2 hn1 hn2
  go_enter Try.func46, Try.ntmps46
  have hd : (m == k) = false := by rw [beq_eq_false_iff_ne]; exact fun e => hk e.symm
  have HLE := Lib.hid hle
  clear hle
  go_wp2_with fail
  refine (above_any l1 l2 a1 a2 n1 k1 n2 k2 _ (H1.out.ext (by (repeat (first | with_reducible exact Ext.refl _ | with_reducible assumption | with_reducible refine Ext.alloc ?_ _ | with_reducible refine Ext.drew ?_ | with_reducible refine Ext.drewN ?_ _ | with_reducible refine Ext.later ?_ _ | (with_reducible refine Ext.setCell ?_ _ ?hp; case hp => first | (simp; done) | (simp; omega) | omega))))) (H2.out.ext (by (repeat (first | with_reducible exact Ext.refl _ | with_reducible assumption | with_reducible refine Ext.alloc ?_ _ | with_reducible refine Ext.drew ?_ | with_reducible refine Ext.drewN ?_ _ | with_reducible refine Ext.later ?_ _ | (with_reducible refine Ext.setCell ?_ _ ?hp; case hp => first | (simp; done) | (simp; omega) | omega))))) (Nat.le_succ_of_le N1.out) (Nat.le_succ_of_le N2.out)).mono ?_
  rintro e w0 ⟨⟨z, rfl, hz0⟩, rfl⟩
  have hzz : ¬ (0 : Int) ≤ z := by have := HLE.out; omega
  clear hz0
  go_upto_region 5 with fail
  have hz : ((w.alloc (.cells #[.bool m, .slice a1 n1 k1] 78)).alloc (.cells #[.bool k, .slice a2 n2 k2] 78)).heap.size = w.heap.size + 1 + 1 := by simp
  have b1 : Blk (((w.alloc (.cells #[.bool m, .slice a1 n1 k1] 78)).alloc (.cells #[.bool k, .slice a2 n2 k2] 78)).alloc (.cells #[.bool false, .slice none 0 0] 78)) w.heap.size 78 #[.bool m, .slice a1 n1 k1] := ((Blk.new w _ _).alloc _).alloc _
  have b2 : Blk (((w.alloc (.cells #[.bool m, .slice a1 n1 k1] 78)).alloc (.cells #[.bool k, .slice a2 n2 k2] 78)).alloc (.cells #[.bool false, .slice none 0 0] 78)) (w.heap.size + 1) 78 #[.bool k, .slice a2 n2 k2] := (Blk.new' _ _ _ (by simp)).alloc _
  have b3 : Blk (((w.alloc (.cells #[.bool m, .slice a1 n1 k1] 78)).alloc (.cells #[.bool k, .slice a2 n2 k2] 78)).alloc (.cells #[.bool false, .slice none 0 0] 78)) (w.heap.size + 1 + 1) 78 #[.bool false, .slice none 0 0] := Blk.new' _ _ _ (by simp)
  have hE : Ext w (((w.alloc (.cells #[.bool m, .slice a1 n1 k1] 78)).alloc (.cells #[.bool k, .slice a2 n2 k2] 78)).alloc (.cells #[.bool false, .slice none 0 0] 78)) := by (repeat (first | with_reducible exact Ext.refl _ | with_reducible assumption | with_reducible refine Ext.alloc ?_ _ | with_reducible refine Ext.drew ?_ | with_reducible refine Ext.drewN ?_ _ | with_reducible refine Ext.later ?_ _ | (with_reducible refine Ext.setCell ?_ _ ?hp; case hp => first | (simp; done) | (simp; omega) | omega)))
  generalize (((w.alloc (.cells #[.bool m, .slice a1 n1 k1] 78)).alloc (.cells #[.bool k, .slice a2 n2 k2] 78)).alloc (.cells #[.bool false, .slice none 0 0] 78)) = W at b1 b2 b3 hE ⊢
  have B1 := Lib.hid b1; have B2 := Lib.hid b2; have B3 := Lib.hid b3; have HE := Lib.hid hE
  obtain ⟨p0, p1, -, -⟩ := num2 b1
  obtain ⟨q0, q1, -, -⟩ := num2 b2
  clear b1 b2 b3 hE hz
  go_region_held3 (fun w' => w'.cell? ⟨w.heap.size + 1, 0, none⟩ = some (.bool k) ∧ w'.cell? ⟨w.heap.size + 1, 1, none⟩ = some (.slice a2 n2 k2) ∧ w'.cell? ⟨w.heap.size, 1, none⟩ = some (.slice a1 n1 k1))
    (first | exact ⟨q0, q1, p1⟩ | exact ⟨r0, r1, r2⟩ | exact ⟨s0, s1, s2⟩ | exact ⟨k2, k3, k1⟩ | go_keep)
    ((first
      | (go_at_call 61; refine (nless_any l2 l1 a2 a1 n2 k2 n1 k1 _ (H2.out.ext HE.out.drew) (H1.out.ext HE.out.drew) (Nat.le_succ_of_le N2.out) (Nat.le_of_lt HLE.out)).mono ?_; rintro e w1 ⟨v, out, rfl, ho, hv0, hle0, hE1⟩; have hv := Lib.hid hv0; have hle := Lib.hid hle0; clear hv0 hle0; obtain ⟨ao, co, rfl, hr⟩ := ownsRow_rd ho; have r0 := hE1.cell_some q0; have r1 := hE1.cell_some q1; have r2 := hE1.cell_some p1)
      | (go_at_call 60; refine (ntrim_any k out ao out.length co _ hr (by have := hle.out; have := L1.out; have := L2.out; have := N1.out; have := N2.out; omega)).mono ?_; rintro e w2 ⟨v2, rfl, hN, hE2⟩; have s0 := hE2.cell_some r0; have s1 := hE2.cell_some r1; have s2 := hE2.cell_some r2; obtain ⟨mm, aa, nn, cc, bs, rfl, hN2⟩ := hN; have b9 := ((B3.out.drew).ext hE1).ext hE2; obtain ⟨t0, t1, u0, u1⟩ := num2 b9; obtain ⟨k0, k1⟩ := keep2 ((B1.out.drew.ext hE1).ext hE2) (by omega : w.heap.size ≠ w.heap.size + 1 + 1) (.bool mm) (.slice aa nn cc); obtain ⟨k2, k3⟩ := keep2 ((B2.out.drew.ext hE1).ext hE2) (by omega : w.heap.size + 1 ≠ w.heap.size + 1 + 1) (.bool mm) (.slice aa nn cc))))
  go_wp2_with fail
  try simp only [Exit.inBlock, Exit.then]
  obtain ⟨s0, s1⟩ := set2_same b9
  refine bodyPost_ret (by simp [results, Try.results46, go_sem, s0, s1]; try rfl) rfl ?_
  have e1 := hE1.size
  have e2 := HE.out.size
  have lb := B3.out.lt
  obtain ⟨g1, g2, g3, g4⟩ := hN2
  have e3 : w.heap.size + 1 + 1 < w1.heap.size := Nat.lt_of_lt_of_le lb (by simpa using e1)
  refine ⟨_, rfl, ⟨mm, aa, nn, cc, bs, rfl, g1.set2 e3 (by omega) _ _, g2, g3, ?_⟩, ?_⟩
  · rw [Int.add_comm, ← sum_less (Ne.symm hk) hv.out]; exact g4
  · have E := ((HE.out.drew.trans hE1).trans hE2)
    (repeat (first | with_reducible exact Ext.refl _ | with_reducible assumption | with_reducible refine Ext.alloc ?_ _ | with_reducible refine Ext.drew ?_ | with_reducible refine Ext.drewN ?_ _ | with_reducible refine Ext.later ?_ _ | (with_reducible refine Ext.setCell ?_ _ ?hp; case hp => first | (simp; done) | (simp; omega) | omega)))
theorem lim_of {z : Int} (h1 : -1361129467683753853853498429727072845824 ≤ z) (h2 : z ≤ 1361129467683753853853498429727072845824) : z.natAbs < 2 ^ 200 := by
  have e : (2 : Nat) ^ 131 = 2722258935367507707706996859454145691648 := by decide
  have e2 : (2 : Nat) ^ 131 ≤ 2 ^ 200 := Nat.pow_le_pow_right (by decide) (by decide)
  exact Nat.lt_of_lt_of_le (by rw [e]; omega) e2
/-- Both together. -/
theorem sum_any (v1 v2 : Value) (z1 z2 : Int) (w : World) (h1 : NumV w v1 z1) (h2 : NumV w v2 z2) (b1 : z1.natAbs < 2 ^ 200) (b2 : z2.natAbs < 2 ^ 200) : Calls Try.prog 46 #[v1, v2] w (NumP (z1 + z2) w) := by
  obtain ⟨m, a1, n1, k1, l1, rfl, r1, hn1, rfl, -⟩ := h1.opened b1
  obtain ⟨k, a2, n2, k2, l2, rfl, r2, hn2, rfl, -⟩ := h2.opened b2
  by_cases hk : k = m
  · subst hk
    exact sum_one k l1 l2 a1 a2 n1 n2 k1 k2 w r1 r2 (Nat.le_trans hn1 (by decide)) (Nat.le_trans hn2 (by decide))
  · rcases Nat.lt_or_ge (bval l1) (bval l2) with h | h
    · exact sum_three m k hk l1 l2 a1 a2 n1 n2 k1 k2 w r1 r2 (Nat.le_trans hn1 (by decide)) (Nat.le_trans hn2 (by decide)) h
    · exact sum_two m k hk l1 l2 a1 a2 n1 n2 k1 k2 w r1 r2 (Nat.le_trans hn1 (by decide)) (Nat.le_trans hn2 (by decide)) h
end Go.Proofs.Ytibhfclkdbmmoaa
