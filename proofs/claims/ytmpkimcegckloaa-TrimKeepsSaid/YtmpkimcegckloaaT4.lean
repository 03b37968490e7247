/- Proof text: the law SideMeets. By an AI agent. No condition beyond what each theorem states. -/
import Derived.Test.YtmpkimcegckloaaWay
import Derived.RegionTactic
import Derived.Deep.CutRange
set_option linter.unusedVariables false
set_option linter.unusedSimpArgs false
namespace Go.Proofs.Ytmpkimcegckloaa
open Go.RowKit
/-- The three arguments' boxes, in a later world. -/
theorem boxes3 {w W : World} {s : Sd} {a b : Vx} (h : Ext (((w.alloc (.cells s.row.toArray 24)).alloc (.cells a.row 27)).alloc (.cells b.row 27)) W) :
    Blk W w.heap.size 24 s.row.toArray ∧ Blk W (w.heap.size + 1) 27 a.row ∧ Blk W (w.heap.size + 1 + 1) 27 b.row :=
  ⟨Blk.ext (Blk.alloc (Blk.alloc (Blk.new _ _ _) _) _) h, Blk.ext (Blk.alloc (Blk.new' _ _ _ (by simp)) _) h, Blk.ext (Blk.new' _ _ _ (by simp)) h⟩
theorem later_ext2 {W : World} (x : Later W) (y : Later x.w) : Ext W y.w := x.ext.trans y.ext
set_option maxHeartbeats 1000000 in
theorem meets_out (s : Sd) (a b : Vx) (w : World) (r f g : Bool) (hrf : r = false ∨ (r = true ∧ f = false) ∨ (r = true ∧ f = true ∧ g = false))
    (c2 : ∀ W, Calls Try.prog 15 #[s.v] W fun e w' => e = .returned (.bool r) ∧ Ext W w')
    (c3 : ∀ W, Calls Try.prog 17 #[a.v] W fun e w' => e = .returned (.bool f) ∧ Ext W w')
    (c4 : ∀ W, Calls Try.prog 17 #[b.v] W fun e w' => e = .returned (.bool g) ∧ Ext W w') :
    Calls Try.prog 6 #[s.v, a.v, b.v] w fun e w' => e = .returned (.bool true) ∧ Ext w w' := by
  have C2 := Lib.hid c2; clear c2
  have C3 := Lib.hid c3; clear c3
  have C4 := Lib.hid c4; clear c4
  rcases hrf with rfl | ⟨rfl, rfl⟩ | ⟨rfl, rfl, rfl⟩
  · go_enter Try.func6, Try.ntmps6
    go_wp2_with fail
    refine (C2.out _).mono ?_
    rintro e w1 ⟨rfl, hE⟩
    obtain ⟨x1, rfl⟩ := Later.mk' hE
    clear hE
    go_wp2_with fail
    refine (awake8 _).mono ?_
    rintro e w1 ⟨rfl, hE⟩
    obtain ⟨x2, rfl⟩ := Later.mk' hE
    clear hE
    go_wp2_with fail
    go_ret
    exact ⟨rfl, by (repeat (first | with_reducible exact Ext.refl _ | with_reducible assumption | with_reducible refine Ext.alloc ?_ _ | with_reducible refine Ext.drew ?_ | with_reducible refine Ext.drewN ?_ _ | with_reducible refine Ext.later ?_ _ | (with_reducible refine Ext.setCell ?_ _ ?hp; case hp => first | (simp; done) | (simp; omega) | omega)))⟩
  · go_enter Try.func6, Try.ntmps6
    go_wp2_with fail
    refine (C2.out _).mono ?_
    rintro e w1 ⟨rfl, hE⟩
    obtain ⟨x1, rfl⟩ := Later.mk' hE
    clear hE
    go_wp2_with fail
    refine (C3.out _).mono ?_
    rintro e w1 ⟨rfl, hE⟩
    obtain ⟨x2, rfl⟩ := Later.mk' hE
    clear hE
    go_wp2_with fail
    refine (awake8 _).mono ?_
    rintro e w1 ⟨rfl, hE⟩
    obtain ⟨x3, rfl⟩ := Later.mk' hE
    clear hE
    go_wp2_with fail
    go_ret
    exact ⟨rfl, by (repeat (first | with_reducible exact Ext.refl _ | with_reducible assumption | with_reducible refine Ext.alloc ?_ _ | with_reducible refine Ext.drew ?_ | with_reducible refine Ext.drewN ?_ _ | with_reducible refine Ext.later ?_ _ | (with_reducible refine Ext.setCell ?_ _ ?hp; case hp => first | (simp; done) | (simp; omega) | omega)))⟩
  · go_enter Try.func6, Try.ntmps6
    go_wp2_with fail
    refine (C2.out _).mono ?_
    rintro e w1 ⟨rfl, hE⟩
    obtain ⟨x1, rfl⟩ := Later.mk' hE
    clear hE
    go_wp2_with fail
    refine (C3.out _).mono ?_
    rintro e w1 ⟨rfl, hE⟩
    obtain ⟨x2, rfl⟩ := Later.mk' hE
    clear hE
    obtain ⟨hb1, hb2, hb3⟩ := boxes3 (later_ext2 x1 x2)
    obtain ⟨q0, q1, q2, q3, q4, q5, q6, q7⟩ := cells8 hb3
    clear hb1 hb2 hb3
    go_wp2_with fail
    refine (C4.out _).mono ?_
    rintro e w1 ⟨rfl, hE⟩
    obtain ⟨x3, rfl⟩ := Later.mk' hE
    clear hE
    go_wp2_with fail
    refine (awake8 _).mono ?_
    rintro e w1 ⟨rfl, hE⟩
    obtain ⟨x4, rfl⟩ := Later.mk' hE
    clear hE
    go_wp2_with fail
    go_ret
    exact ⟨rfl, by (repeat (first | with_reducible exact Ext.refl _ | with_reducible assumption | with_reducible refine Ext.alloc ?_ _ | with_reducible refine Ext.drew ?_ | with_reducible refine Ext.drewN ?_ _ | with_reducible refine Ext.later ?_ _ | (with_reducible refine Ext.setCell ?_ _ ?hp; case hp => first | (simp; done) | (simp; omega) | omega)))⟩
/-- The sum's first k parts. -/
def ssum (s : Sd) : Nat → Int
  | 0 => 0
  | 1 => max s.p0 (0 - s.p0)
  | 2 => max s.p0 (0 - s.p0) + max s.p1 (0 - s.p1)
  | 3 => max s.p0 (0 - s.p0) + max s.p1 (0 - s.p1) + max s.p2 (0 - s.p2)
  | _ => slackOf s
set_option maxHeartbeats 4000000 in
theorem meets_not (s : Sd) (a b : Vx) (w : World) (hs : s.Ok) (ha : a.Fit) (hb : b.Fit) (hd : decide (dist s a < 0) = true ∨ (decide (dist s a < 0) = false ∧ decide (dist s b ≥ 0) = true)) :
    Calls Try.prog 6 #[s.v, a.v, b.v] w fun e w' => e = .returned (.bool true) ∧ Ext w w' := by
  have HS := Lib.hid hs; clear hs
  have HA := Lib.hid ha; clear ha
  have HB := Lib.hid hb; clear hb
  rcases hd with d1 | ⟨d1, d2⟩
  all_goals
    go_enter Try.func6, Try.ntmps6
    go_wp2_with fail
    refine (rright_yes s _ HS.out).mono ?_
    rintro e w1 ⟨rfl, hE⟩
    obtain ⟨x1, rfl⟩ := Later.mk' hE
    clear hE
    go_wp2_with fail
    refine (rfits_yes a _ HA.out).mono ?_
    rintro e w1 ⟨rfl, hE⟩
    obtain ⟨x2, rfl⟩ := Later.mk' hE
    clear hE
    have H2 := Lib.hid (boxes3 (later_ext2 x1 x2))
    obtain ⟨q0, q1, q2, q3, q4, q5, q6, q7⟩ := cells8 H2.out.2.2
    go_wp2_with fail
    clear q0 q1 q2 q3 q4 q5 q6 q7
    refine (rfits_yes b _ HB.out).mono ?_
    rintro e w1 ⟨rfl, hE⟩
    obtain ⟨x3, rfl⟩ := Later.mk' hE
    clear hE
    have E3 : Ext w x3.w := by (repeat (first | with_reducible exact Ext.refl _ | with_reducible assumption | with_reducible refine Ext.alloc ?_ _ | with_reducible refine Ext.drew ?_ | with_reducible refine Ext.drewN ?_ _ | with_reducible refine Ext.later ?_ _ | (with_reducible refine Ext.setCell ?_ _ ?hp; case hp => first | (simp; done) | (simp; omega) | omega)))
    have L3 := x3.le
    have L2 := x2.le
    have L1 := x1.le
    simp at L1
    have H3 := Lib.hid (And.intro (H2.out.1.later x3) (And.intro (H2.out.2.1.later x3) (H2.out.2.2.later x3)))
    clear H2
    obtain ⟨W, hW⟩ : ∃ W, W = x3.w := ⟨_, rfl⟩
    rw [← hW] at H3 E3 L3 ⊢
    have HE := Lib.hid E3; clear E3
    have hsz : w.heap.size + 1 + 1 < W.heap.size := by omega
    clear L1 L2 L3
    clear hW
    clear x3
    obtain ⟨p0, p1, p2, p3, p4⟩ := cells5 (s := s) H3.out.1
    obtain ⟨a0, a1, a2, a3, a4, a5, a6, a7⟩ := cells8 (v := a) H3.out.2.1
    obtain ⟨b0, b1, b2, b3, b4, b5, b6, b7⟩ := cells8 (v := b) H3.out.2.2
    go_wp2_with fail
    refine wp_region_later (by kernel_rfl) (by kernel_rfl) ?_
    repeat (go_big_quiet_step ((first | (go_at_call 19; with_reducible exact Calls.later _ (dist_any s a _ HS.out HA.out)) | (go_at_call 19; with_reducible exact Calls.later _ (dist_any s b _ HS.out HB.out)))))
    refine wpQuiet_nil ?_
    intro y
    go_wp2_with fail
    refine (awake8 _).mono ?_
    rintro e w1 ⟨rfl, hE⟩
    obtain ⟨x4, rfl⟩ := Later.mk' hE
    clear hE
    go_wp2_with fail
    go_ret
    exact ⟨rfl, (HE.out.later y).later x4⟩
/-- What the kind says of how far in the meeting place is. -/
def Kinds (s : Sd) (X : Int) : Prop :=
  ((s.k == 0) = true ∧ (X == 0) = true) ∨ ((s.k == 0) = false ∧ (s.k == 2) = true ∧ (X == 0) = true) ∨
  ((s.k == 0) = false ∧ (s.k == 2) = false ∧ (s.k == 1) = true ∧ (X == 0) = true) ∨ ((s.k == 0) = false ∧ (s.k == 2) = false ∧ (s.k == 1) = true ∧ (X == 0) = false ∧ (X == -1) = true)
theorem kinds_of {s : Sd} {a b : Vx} (hs : s.Ok) (hp : 0 ≤ dist s a) (hq : dist s b < 0) (h3 : s.k ≠ 3) : Kinds s (dist s (at_ a b (dist s a) (dist s a - dist s b))) := by
  have hk := hs.kind
  obtain ⟨m0, m1, m2, _⟩ := meets s a b hp hq hk
  have : s.k = 0 ∨ s.k = 1 ∨ s.k = 2 := by omega
  rcases this with h | h | h
  · exact .inl ⟨by simp [h], by simp [m0 h]⟩
  · rcases m1 h with m | m
    · exact .inr (.inr (.inl ⟨by simp [h], by simp [h], by simp [h], by simp [m]⟩))
    · exact .inr (.inr (.inr ⟨by simp [h], by simp [h], by simp [h], by simp [m], by simp [m]⟩))
  · exact .inr (.inl ⟨by simp [h], by simp [h], by simp [m2 h]⟩)
set_option maxHeartbeats 4000000 in
theorem meets_kinds (s : Sd) (a b : Vx) (w : World) (hs : s.Ok) (ha : a.Fit) (hb : b.Fit) (hp : 0 ≤ dist s a) (hq : dist s b < 0) (h3 : s.k ≠ 3) :
    Calls Try.prog 6 #[s.v, a.v, b.v] w fun e w' => e = .returned (.bool true) ∧ Ext w w' := by
  have HK := Lib.hid (kinds_of hs hp hq h3)
  have d1 : decide (dist s a < 0) = false := by simpa using hp
  have d2 : decide (dist s b ≥ 0) = false := by simp; omega
  obtain ⟨g1, g2⟩ := dist_bound hs ha
  obtain ⟨g3, g4⟩ := dist_bound hs hb
  have HF := Lib.hid (at_fit ha hb hp (by omega : dist s a ≤ dist s a - dist s b) (by omega))
  have HM : Hid (May a b (dist s a) (dist s a - dist s b)) := Lib.hid ⟨ha, hb, by omega, hp, by omega⟩
  clear hp hq h3
  have HS := Lib.hid hs; clear hs
  have HA := Lib.hid ha; clear ha
  have HB := Lib.hid hb; clear hb
  go_enter Try.func6, Try.ntmps6
  go_wp2_with fail
  refine (rright_yes s _ HS.out).mono ?_
  rintro e w1 ⟨rfl, hE⟩
  obtain ⟨x1, rfl⟩ := Later.mk' hE
  clear hE
  go_wp2_with fail
  refine (rfits_yes a _ HA.out).mono ?_
  rintro e w1 ⟨rfl, hE⟩
  obtain ⟨x2, rfl⟩ := Later.mk' hE
  clear hE
  have H2 := Lib.hid (boxes3 (later_ext2 x1 x2))
  obtain ⟨q0, q1, q2, q3, q4, q5, q6, q7⟩ := cells8 H2.out.2.2
  go_wp2_with fail
  clear q0 q1 q2 q3 q4 q5 q6 q7
  refine (rfits_yes b _ HB.out).mono ?_
  rintro e w1 ⟨rfl, hE⟩
  obtain ⟨x3, rfl⟩ := Later.mk' hE
  clear hE
  have E3 : Ext w x3.w := by (repeat (first | with_reducible exact Ext.refl _ | with_reducible assumption | with_reducible refine Ext.alloc ?_ _ | with_reducible refine Ext.drew ?_ | with_reducible refine Ext.drewN ?_ _ | with_reducible refine Ext.later ?_ _ | (with_reducible refine Ext.setCell ?_ _ ?hp; case hp => first | (simp; done) | (simp; omega) | omega)))
  have L3 := x3.le
  have L2 := x2.le
  have L1 := x1.le
  simp at L1
  have H3 := Lib.hid (And.intro (H2.out.1.later x3) (And.intro (H2.out.2.1.later x3) (H2.out.2.2.later x3)))
  clear H2
  obtain ⟨W, hW⟩ : ∃ W, W = x3.w := ⟨_, rfl⟩
  rw [← hW] at H3 E3 L3 ⊢
  have HE := Lib.hid E3; clear E3
  have hsz : w.heap.size + 1 + 1 < W.heap.size := by omega
  clear L1 L2 L3
  clear hW
  clear x3
  obtain ⟨p0, p1, p2, p3, p4⟩ := cells5 (s := s) H3.out.1
  obtain ⟨a0, a1, a2, a3, a4, a5, a6, a7⟩ := cells8 (v := a) H3.out.2.1
  obtain ⟨b0, b1, b2, b3, b4, b5, b6, b7⟩ := cells8 (v := b) H3.out.2.2
  go_wp2_with fail
  refine wp_region_later (by kernel_rfl) (by kernel_rfl) ?_
  repeat (go_big_quiet_step ((first | (go_at_call 19; with_reducible exact Calls.later _ (dist_any s a _ HS.out HA.out)) | (go_at_call 19; with_reducible exact Calls.later _ (dist_any s b _ HS.out HB.out)))))
  refine wpQuiet_nil ?_
  intro y
  obtain ⟨hs1, hs2, hs3⟩ := H3.out
  have H4 := Lib.hid (And.intro (hs1.later y) (And.intro (hs2.later y) (hs3.later y)))
  clear hs1 hs2 hs3
  clear p0 p1 p2 p3 p4 a0 a1 a2 a3 a4 a5 a6 a7 b0 b1 b2 b3 b4 b5 b6 b7
  obtain ⟨a0, a1, a2, a3, a4, a5, a6, a7⟩ := cells8 (v := a) H4.out.2.1
  obtain ⟨b0, b1, b2, b3, b4, b5, b6, b7⟩ := cells8 (v := b) H4.out.2.2
  go_wp2_with fail
  clear a0 a1 a2 a3 a4 a5 a6 a7 b0 b1 b2 b3 b4 b5 b6 b7
  refine (at_may a b _ _ _ HM.out (by omega)).mono ?_
  rintro e w1 ⟨rfl, hE⟩
  obtain ⟨z, rfl⟩ := Later.mk' hE
  clear hE
  obtain ⟨p0, p1, p2, p3, p4⟩ := cells5 (s := s) (H4.out.1.later z)
  go_wp2_with fail
  refine (dist_any s _ _ HS.out HF.out).mono ?_
  rintro e w1 ⟨rfl, hE⟩
  obtain ⟨u, rfl⟩ := Later.mk' hE
  clear hE
  clear p0 p1 p2 p3 p4
  obtain ⟨p0, p1, p2, p3, p4⟩ := cells5 (s := s) (((H4.out.1.later z).alloc (.cells (at_ a b (dist s a) (dist s a - dist s b)).row 27)).later u)
  have E4 := Lib.hid ((((HE.out.later y).later z).alloc (.cells (at_ a b (dist s a) (dist s a - dist s b)).row 27)).later u)
  clear g1 g2 g3 g4 d1 d2
  rcases HK.out with ⟨m0, m1⟩ | ⟨m0, m1, m2⟩ | ⟨m0, m1, m2, m3⟩ | ⟨m0, m1, m2, m3, m4⟩
  all_goals
    go_wp2_with fail
    refine (awake8 _).mono ?_
    rintro e w1 ⟨rfl, hE⟩
    obtain ⟨x4, rfl⟩ := Later.mk' hE
    clear hE
    go_wp2_with fail
    go_ret
    exact ⟨rfl, E4.out.later x4⟩
theorem ssum_step {s : Sd} (hs : s.Pl) (k : Nat) (hk : k < 4) : wrap64 (ssum s k + max (s.p k) (wrap64 (-s.p k))) = ssum s (k + 1) := by
  have b0 := hs 0 (by omega)
  have b1 := hs 1 (by omega)
  have b2 := hs 2 (by omega)
  have b3 := hs 3 (by omega)
  simp only [inMost, Sd.p] at b0 b1 b2 b3
  have hk4 : k = 0 ∨ k = 1 ∨ k = 2 ∨ k = 3 := by omega
  rcases hk4 with rfl | rfl | rfl | rfl <;> simp only [Sd.p, ssum, slackOf, Nat.reduceAdd] <;> unfold wrap64 <;> omega
theorem slack_bound {s : Sd} (hs : s.Pl) : 0 ≤ slackOf s ∧ slackOf s ≤ 131072 := by
  have b0 := hs 0 (by omega)
  have b1 := hs 1 (by omega)
  have b2 := hs 2 (by omega)
  have b3 := hs 3 (by omega)
  simp only [inMost, Sd.p] at b0 b1 b2 b3
  unfold slackOf
  omega
set_option maxHeartbeats 4000000 in
theorem meets_three (s : Sd) (a b : Vx) (w : World) (hs : s.Ok) (ha : a.Fit) (hb : b.Fit) (hp : 0 ≤ dist s a) (hq : dist s b < 0) (h3 : s.k = 3) :
    Calls Try.prog 6 #[s.v, a.v, b.v] w fun e w' => e = .returned (.bool true) ∧ Ext w w' := by
  have HK := Lib.hid ((meets s a b hp hq hs.kind).2.2.2 h3)
  have HP := Lib.hid (hs.pl h3)
  have m0 : (s.k == 0) = false := by simp [h3]
  have m1 : (s.k == 2) = false := by simp [h3]
  have m2 : (s.k == 1) = false := by simp [h3]
  have d1 : decide (dist s a < 0) = false := by simpa using hp
  have d2 : decide (dist s b ≥ 0) = false := by simp; omega
  obtain ⟨g1, g2⟩ := dist_bound hs ha
  obtain ⟨g3, g4⟩ := dist_bound hs hb
  have HF := Lib.hid (at_fit ha hb hp (by omega : dist s a ≤ dist s a - dist s b) (by omega))
  have HM : Hid (May a b (dist s a) (dist s a - dist s b)) := Lib.hid ⟨ha, hb, by omega, hp, by omega⟩
  clear hp hq h3
  have HS := Lib.hid hs; clear hs
  have HA := Lib.hid ha; clear ha
  have HB := Lib.hid hb; clear hb
  go_enter Try.func6, Try.ntmps6
  go_wp2_with fail
  refine (rright_yes s _ HS.out).mono ?_
  rintro e w1 ⟨rfl, hE⟩
  obtain ⟨x1, rfl⟩ := Later.mk' hE
  clear hE
  go_wp2_with fail
  refine (rfits_yes a _ HA.out).mono ?_
  rintro e w1 ⟨rfl, hE⟩
  obtain ⟨x2, rfl⟩ := Later.mk' hE
  clear hE
  have H2 := Lib.hid (boxes3 (later_ext2 x1 x2))
  obtain ⟨q0, q1, q2, q3, q4, q5, q6, q7⟩ := cells8 H2.out.2.2
  go_wp2_with fail
  clear q0 q1 q2 q3 q4 q5 q6 q7
  refine (rfits_yes b _ HB.out).mono ?_
  rintro e w1 ⟨rfl, hE⟩
  obtain ⟨x3, rfl⟩ := Later.mk' hE
  clear hE
  have E3 : Ext w x3.w := by (repeat (first | with_reducible exact Ext.refl _ | with_reducible assumption | with_reducible refine Ext.alloc ?_ _ | with_reducible refine Ext.drew ?_ | with_reducible refine Ext.drewN ?_ _ | with_reducible refine Ext.later ?_ _ | (with_reducible refine Ext.setCell ?_ _ ?hp; case hp => first | (simp; done) | (simp; omega) | omega)))
  have L3 := x3.le
  have L2 := x2.le
  have L1 := x1.le
  simp at L1
  have H3 := Lib.hid (And.intro (H2.out.1.later x3) (And.intro (H2.out.2.1.later x3) (H2.out.2.2.later x3)))
  clear H2
  obtain ⟨W, hW⟩ : ∃ W, W = x3.w := ⟨_, rfl⟩
  rw [← hW] at H3 E3 L3 ⊢
  have HE := Lib.hid E3; clear E3
  have hsz : w.heap.size + 1 + 1 < W.heap.size := by omega
  clear L1 L2 L3
  clear hW
  clear x3
  obtain ⟨p0, p1, p2, p3, p4⟩ := cells5 (s := s) H3.out.1
  obtain ⟨a0, a1, a2, a3, a4, a5, a6, a7⟩ := cells8 (v := a) H3.out.2.1
  obtain ⟨b0, b1, b2, b3, b4, b5, b6, b7⟩ := cells8 (v := b) H3.out.2.2
  go_wp2_with fail
  refine wp_region_later (by kernel_rfl) (by kernel_rfl) ?_
  repeat (go_big_quiet_step ((first | (go_at_call 19; with_reducible exact Calls.later _ (dist_any s a _ HS.out HA.out)) | (go_at_call 19; with_reducible exact Calls.later _ (dist_any s b _ HS.out HB.out)))))
  refine wpQuiet_nil ?_
  intro y
  obtain ⟨hs1, hs2, hs3⟩ := H3.out
  have H4 := Lib.hid (And.intro (hs1.later y) (And.intro (hs2.later y) (hs3.later y)))
  clear hs1 hs2 hs3
  clear p0 p1 p2 p3 p4 a0 a1 a2 a3 a4 a5 a6 a7 b0 b1 b2 b3 b4 b5 b6 b7
  obtain ⟨a0, a1, a2, a3, a4, a5, a6, a7⟩ := cells8 (v := a) H4.out.2.1
  obtain ⟨b0, b1, b2, b3, b4, b5, b6, b7⟩ := cells8 (v := b) H4.out.2.2
  go_wp2_with fail
  clear a0 a1 a2 a3 a4 a5 a6 a7 b0 b1 b2 b3 b4 b5 b6 b7
  refine (at_may a b _ _ _ HM.out (by omega)).mono ?_
  rintro e w1 ⟨rfl, hE⟩
  obtain ⟨z, rfl⟩ := Later.mk' hE
  clear hE
  obtain ⟨p0, p1, p2, p3, p4⟩ := cells5 (s := s) (H4.out.1.later z)
  go_wp2_with fail
  refine (dist_any s _ _ HS.out HF.out).mono ?_
  rintro e w1 ⟨rfl, hE⟩
  obtain ⟨u, rfl⟩ := Later.mk' hE
  clear hE
  clear p0 p1 p2 p3 p4
  have HB5 := Lib.hid (((H4.out.1.later z).alloc (.cells (at_ a b (dist s a) (dist s a - dist s b)).row 27)).later u)
  obtain ⟨p0, p1, p2, p3, p4⟩ := cells5 (s := s) HB5.out
  have E4 := Lib.hid ((((HE.out.later y).later z).alloc (.cells (at_ a b (dist s a) (dist s a - dist s b)).row 27)).later u)
  clear g1 g2 g3 g4 d1 d2
  go_wp2_with fail
  clear p0 p1 p2 p3 p4
  go_loopw [12, 13] (fun x i wr => ∃ k : Nat, k ≤ 4 ∧ i = .int .i64 k ∧ x = .int .i64 (ssum s k) ∧ Blk wr w.heap.size 24 s.row.toArray ∧ Ext w wr) (fun _ i _ => 4 - (intOf i).toNat)
  case atStart => exact ⟨0, by omega, rfl, rfl, HB5.out, E4.out⟩
  case round =>
    obtain ⟨k, hk, rfl, rfl, hB, hE⟩ := hrel
    by_cases hlt : k < 4
    · have n2 := ssum_step HP.out k hlt
      obtain ⟨p0, p1, p2, p3, p4⟩ := cells5 (s := s) hB
      have HB6 := Lib.hid hB; clear hB
      have HE6 := Lib.hid hE; clear hE
      have hk4 : k = 0 ∨ k = 1 ∨ k = 2 ∨ k = 3 := by omega
      rcases hk4 with rfl | rfl | rfl | rfl
      all_goals
        clear hk hlt
        simp only [Sd.p] at n2
        go_upto_region 20 with fail
        go_region
        go_wp2_with fail
        go_roundw
        case rel => first | exact ⟨1, by decide, rfl, congrArg _ n2, HB6.out, HE6.out.drew⟩ | exact ⟨2, by decide, rfl, congrArg _ n2, HB6.out, HE6.out.drew⟩ | exact ⟨3, by decide, rfl, congrArg _ n2, HB6.out, HE6.out.drew⟩ | exact ⟨4, by decide, rfl, congrArg _ n2, HB6.out, HE6.out.drew⟩
        case measure => simp [intOf]
    · obtain rfl : k = 4 := by omega
      have e : ssum s 4 = slackOf s := rfl
      rw [e]
      have HE6 := Lib.hid hE; clear hE
      obtain ⟨s1, s2⟩ := slack_bound HP.out
      have v1 : decide (dist s (at_ a b (dist s a) (dist s a - dist s b)) ≤ slackOf s) = true := by simpa using HK.out.1
      have v2 : decide (dist s (at_ a b (dist s a) (dist s a - dist s b)) ≥ 0 - slackOf s) = true := by have := HK.out.2; simp only [ge_iff_le, decide_eq_true_eq]; exact this
      have v3 : decide (dist s (at_ a b (dist s a) (dist s a - dist s b)) ≥ -slackOf s) = true := by have := HK.out.2; simp only [ge_iff_le, decide_eq_true_eq]; omega
      go_wp2_with fail
      refine (awake8 _).mono ?_
      rintro e w1 ⟨rfl, hE⟩
      obtain ⟨x4, rfl⟩ := Later.mk' hE
      clear hE
      go_wp2_with fail
      go_ret
      exact ⟨rfl, HE6.out.later x4⟩
theorem law_meets (s : Sd) (a b : Vx) (w : World) :
    Calls Try.prog 6 #[s.v, a.v, b.v] w fun e w' => e = .returned (.bool true) ∧ Ext w w' := by
  by_cases hs : s.Ok
  · by_cases ha : a.Fit
    · by_cases hb : b.Fit
      · by_cases hp : dist s a < 0
        · exact meets_not s a b w hs ha hb (.inl (by simpa using hp))
        · by_cases hq : dist s b < 0
          · by_cases h3 : s.k = 3
            · exact meets_three s a b w hs ha hb (by omega) hq h3
            · exact meets_kinds s a b w hs ha hb (by omega) hq h3
          · exact meets_not s a b w hs ha hb (.inr ⟨by simpa using hp, by simp; omega⟩)
      · exact meets_out s a b w true true false (.inr (.inr ⟨rfl, rfl, rfl⟩)) (fun W => rright_yes s W hs) (fun W => rfits_yes a W ha) (fun W => rfits_no b W hb)
    · by_cases hb : b.Fit
      · exact meets_out s a b w true false true (.inr (.inl ⟨rfl, rfl⟩)) (fun W => rright_yes s W hs) (fun W => rfits_no a W ha) (fun W => rfits_yes b W hb)
      · exact meets_out s a b w true false false (.inr (.inl ⟨rfl, rfl⟩)) (fun W => rright_yes s W hs) (fun W => rfits_no a W ha) (fun W => rfits_no b W hb)
  · have hf : ∃ f, ∀ W, Calls Try.prog 17 #[a.v] W fun e w' => e = .returned (.bool f) ∧ Ext W w' := by
      by_cases ha : a.Fit
      · exact ⟨true, fun W => rfits_yes a W ha⟩
      · exact ⟨false, fun W => rfits_no a W ha⟩
    have hg : ∃ f, ∀ W, Calls Try.prog 17 #[b.v] W fun e w' => e = .returned (.bool f) ∧ Ext W w' := by
      by_cases hb : b.Fit
      · exact ⟨true, fun W => rfits_yes b W hb⟩
      · exact ⟨false, fun W => rfits_no b W hb⟩
    obtain ⟨f, hf⟩ := hf
    obtain ⟨g, hg⟩ := hg
    exact meets_out s a b w false f g (.inl rfl) (fun W => rright_no s W hs) hf hg
end Go.Proofs.Ytmpkimcegckloaa
