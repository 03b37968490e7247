/- Proof text: the law SideBetween. By an AI agent. No condition beyond what each theorem states. -/
import Derived.Test.YtmpkimcegckloaaWay
import Derived.Test.YtmpkimcegckloaaOp
import Derived.RegionTactic
import Derived.Deep.CutRange
set_option linter.unusedVariables false
set_option linter.unusedSimpArgs false
namespace Go.Proofs.Ytmpkimcegckloaa
open Go.RowKit Go.ChangeShapes Go.WideShapes Go.ChangeAt Go.Joins Go.Deep
theorem at_zero (a b : Vx) (d : Int) : at_ a b 0 d = a := by simp [at_, mid_zero]
theorem at_full (a b : Vx) {d : Int} (hd : 1 ≤ d) : at_ a b d d = b := by simp [at_, mid_full _ _ d hd]
theorem at_turned (a b : Vx) {n d : Int} (hd : 1 ≤ d) : at_ b a (d - n) d = at_ a b n d := by simp [at_, mid_turn _ _ n d hd]
theorem at_same (a b u : Vx) (n d : Int) (h : May a b n d) (hd : d < 9223372036854775808) (hu : at_ a b n d = u) : ∃ p : Vx, (∀ W, (Op.equalIn 10000 27 p.v u.v).run Try.prog W = .ok true W) ∧
    ∀ w, Calls Try.prog 23 #[a.v, b.v, .int .i64 n, .int .i64 d] w fun e w' => e = .returned (.tuple #[p.v, .int .i64 0]) ∧ Ext w w' :=
  ⟨u, fun W => by have := eq_vx u u W; rw [Vx.same_refl] at this; exact this, fun w => hu ▸ at_may a b n d w h hd⟩
/-- Not less than the smaller, not more than the greater. -/
def Btw (a b v : Int) : Prop := decide (v < min a b) = false ∧ decide (v > max a b) = false
theorem btw_mid {p q n d : Int} (hn : 0 ≤ n) (hnd : n ≤ d) (hd : 1 ≤ d) : Btw p q (mid p q n d) := by
  obtain ⟨h1, h2⟩ := mid_between (p := p) (q := q) hn hnd hd
  exact ⟨by simp; omega, by simp; omega⟩
def BtwV (a b v : Vx) : Prop := (∀ k, k < 4 → Btw (a.e k) (b.e k) (v.e k)) ∧ ∀ k, k < 4 → Btw (a.c k) (b.c k) (v.c k)
theorem btw_at {a b : Vx} {n d : Int} (hn : 0 ≤ n) (hnd : n ≤ d) (hd : 1 ≤ d) : BtwV a b (at_ a b n d) :=
  ⟨fun k hk => by rw [← at_e a b n d k hk]; exact btw_mid hn hnd hd, fun k hk => by rw [← at_c a b n d k hk]; exact btw_mid hn hnd hd⟩
/-- The three arguments' boxes, in a later world. -/
theorem boxesB {w W : World} {a b : Vx} {n d : Int} (h : Ext (((w.alloc (.cells a.row 27)).alloc (.cells b.row 27)).alloc (.cells #[.int .i64 n, .int .i64 d] 38)) W) :
    Blk W w.heap.size 27 a.row ∧ Blk W (w.heap.size + 1) 27 b.row ∧ Ext w W :=
  ⟨Blk.ext (Blk.alloc (Blk.alloc (Blk.new _ _ _) _) _) h, Blk.ext (Blk.alloc (Blk.new' _ _ _ (by simp)) _) h, (((Ext.refl w).alloc _).alloc _ |>.alloc _).trans h⟩
set_option maxRecDepth 100000 in
set_option maxHeartbeats 4000000 in
theorem between_no (a b : Vx) (n d : Int) (w : World) (h : ¬ May a b n d) :
    Calls Try.prog 5 #[a.v, b.v, .agg #[.int .i64 n, .int .i64 d]] w fun e w' => e = .returned (.bool true) ∧ Ext w w' := by
  have HM := Lib.hid h; clear h
  go_enter Try.func5, Try.ntmps5
  go_wp2_with fail
  refine wp_region_later (by kernel_rfl) (by kernel_rfl) ?_
  repeat (go_big_quiet_step (fail))
  refine wpQuiet_nil ?_
  intro y
  obtain ⟨h1, h2, h3⟩ := boxesB y.ext
  obtain ⟨a0, a1, a2, a3, a4, a5, a6, a7⟩ := cells8 (v := a) h1
  obtain ⟨b0, b1, b2, b3, b4, b5, b6, b7⟩ := cells8 (v := b) h2
  have HE := Lib.hid h3
  clear h1 h2 h3
  go_wp2_with fail
  clear a0 a1 a2 a3 a4 a5 a6 a7 b0 b1 b2 b3 b4 b5 b6 b7
  refine (at_no a b n d _ HM.out).mono ?_
  obtain ⟨z, HZ⟩ : ∃ z, z = V0 := ⟨_, rfl⟩
  have q1 : ∀ W, (Op.equalIn 10000 27 z.v (.agg #[.int .i64 0, .int .i64 0, .int .i64 0, .int .i64 0, .int .i64 0, .int .i64 0, .int .i64 0, .int .i64 0])).run Try.prog W = .ok true W := fun W => by
    have := eq_vx V0 V0 W
    rw [Vx.same_refl] at this
    rw [HZ]
    exact this
  rw [← HZ]
  clear HZ
  rintro e w1 ⟨rfl, hE⟩
  obtain ⟨x1, rfl⟩ := Later.mk' hE
  clear hE
  have HE1 := Lib.hid ((HE.out.later x1).alloc (.cells z.row 27)); clear HE
  go_wp2_with fail
  refine (awake8 _).mono ?_
  rintro e w1 ⟨rfl, hE⟩
  obtain ⟨x4, rfl⟩ := Later.mk' hE
  clear hE
  obtain ⟨a0, a1, a2, a3, a4, a5, a6, a7⟩ := cells8 ((Blk.new x1.w 27 z.row).later x4)
  have HE4 := Lib.hid (HE1.out.later x4)
  go_wp2_with fail
  go_ret
  exact ⟨rfl, HE4.out⟩
theorem cells4 {w : World} {g : Nat} {t : TypeId} {v : Vx} (h : Blk w g t v.row4) : w.cell? ⟨g, 0, none⟩ = some (.int .i64 v.x) ∧ w.cell? ⟨g, 1, none⟩ = some (.int .i64 v.y) ∧ w.cell? ⟨g, 2, none⟩ = some (.int .i64 v.z) ∧ w.cell? ⟨g, 3, none⟩ = some (.int .i64 v.w) :=
  ⟨h.cell 0, h.cell 1, h.cell 2, h.cell 3⟩
theorem half3 {w : World} {g h k : Nat} {t : TypeId} {a v b : Vx} (ha : Blk w g t a.row) (hv : Blk w h t v.row) (hb : Blk w k t b.row) :
    (w.cell? ⟨g, 0, none⟩ = some (.int .i64 a.x) ∧ w.cell? ⟨g, 1, none⟩ = some (.int .i64 a.y) ∧ w.cell? ⟨g, 2, none⟩ = some (.int .i64 a.z) ∧ w.cell? ⟨g, 3, none⟩ = some (.int .i64 a.w)) ∧
    (w.cell? ⟨h, 0, none⟩ = some (.int .i64 v.x) ∧ w.cell? ⟨h, 1, none⟩ = some (.int .i64 v.y) ∧ w.cell? ⟨h, 2, none⟩ = some (.int .i64 v.z) ∧ w.cell? ⟨h, 3, none⟩ = some (.int .i64 v.w)) ∧
    (w.cell? ⟨k, 0, none⟩ = some (.int .i64 b.x) ∧ w.cell? ⟨k, 1, none⟩ = some (.int .i64 b.y) ∧ w.cell? ⟨k, 2, none⟩ = some (.int .i64 b.z) ∧ w.cell? ⟨k, 3, none⟩ = some (.int .i64 b.w)) :=
  ⟨⟨ha.cell 0, ha.cell 1, ha.cell 2, ha.cell 3⟩, ⟨hv.cell 0, hv.cell 1, hv.cell 2, hv.cell 3⟩, hb.cell 0, hb.cell 1, hb.cell 2, hb.cell 3⟩
/-- The boxes that the loop reads. -/
def BtwB (a b v : Vx) (w wx : World) (V X Y Z : Nat) : Prop :=
  Blk wx X 22 a.row4 ∧ Blk wx Y 22 v.row4 ∧ Blk wx Z 22 b.row4 ∧ Blk wx w.heap.size 27 a.row ∧ Blk wx (w.heap.size + 1) 27 b.row ∧ Blk wx V 27 v.row ∧ Ext w wx
theorem BtwB.ext {a b v : Vx} {w wx wy : World} {V X Y Z : Nat} (h : BtwB a b v w wx V X Y Z) (e : Ext wx wy) : BtwB a b v w wy V X Y Z :=
  ⟨h.1.ext e, h.2.1.ext e, h.2.2.1.ext e, h.2.2.2.1.ext e, h.2.2.2.2.1.ext e, h.2.2.2.2.2.1.ext e, h.2.2.2.2.2.2.trans e⟩
set_option maxRecDepth 100000 in
set_option maxHeartbeats 4000000 in
theorem between_yes (a b : Vx) (n d : Int) (w : World) (h : May a b n d) (hd : d < 9223372036854775808) :
    Calls Try.prog 5 #[a.v, b.v, .agg #[.int .i64 n, .int .i64 d]] w fun e w' => e = .returned (.bool true) ∧ Ext w w' := by
  obtain ⟨ha, hb, d1, n0, nd⟩ := h
  have HV := Lib.hid (btw_at (a := a) (b := b) n0 nd d1)
  obtain ⟨p, qp, cp⟩ := at_same a b a 0 d ⟨ha, hb, d1, Int.le_refl _, by omega⟩ hd (at_zero a b d)
  obtain ⟨q, qq, cq⟩ := at_same a b b d d ⟨ha, hb, d1, by omega, Int.le_refl _⟩ hd (at_full a b d1)
  obtain ⟨r, qr, cr⟩ := at_same b a (at_ a b n d) (d - n) d ⟨hb, ha, d1, by omega, by omega⟩ hd (at_turned a b d1)
  have cv := fun w => at_may a b n d w ⟨ha, hb, d1, n0, nd⟩ hd
  generalize at_ a b n d = v at HV qr cv
  have CP := Lib.hid cp
  have CQ := Lib.hid cq
  have CR := Lib.hid cr
  have CV := Lib.hid cv
  clear cp cq cr cv ha hb
  go_enter Try.func5, Try.ntmps5
  go_wp2_with fail
  refine wp_region_later (by kernel_rfl) (by kernel_rfl) ?_
  repeat (go_big_quiet_step (fail))
  refine wpQuiet_nil ?_
  intro y
  have HB := Lib.hid (boxesB y.ext)
  obtain ⟨a0, a1, a2, a3, a4, a5, a6, a7⟩ := cells8 (v := a) HB.out.1
  obtain ⟨b0, b1, b2, b3, b4, b5, b6, b7⟩ := cells8 (v := b) HB.out.2.1
  go_wp2_with fail
  clear a0 a1 a2 a3 a4 a5 a6 a7 b0 b1 b2 b3 b4 b5 b6 b7
  refine (CV.out _).mono ?_
  rintro e w1 ⟨rfl, hE⟩
  obtain ⟨x1, rfl⟩ := Later.mk' hE
  clear hE
  have HB1 := Lib.hid (And.intro (HB.out.1.later x1) (And.intro (HB.out.2.1.later x1) (HB.out.2.2.later x1))); clear HB
  obtain ⟨a0, a1, a2, a3, a4, a5, a6, a7⟩ := cells8 (v := a) HB1.out.1
  obtain ⟨b0, b1, b2, b3, b4, b5, b6, b7⟩ := cells8 (v := b) HB1.out.2.1
  go_wp2_with fail
  clear a0 a1 a2 a3 a4 a5 a6 a7 b0 b1 b2 b3 b4 b5 b6 b7
  refine (CP.out _).mono ?_
  rintro e w1 ⟨rfl, hE⟩
  obtain ⟨x2, rfl⟩ := Later.mk' hE
  clear hE
  have HB2 := Lib.hid (And.intro ((HB1.out.1.alloc _).later x2) (And.intro ((HB1.out.2.1.alloc _).later x2) (And.intro ((HB1.out.2.2.alloc _).later x2) ((Blk.new x1.w 27 v.row).later x2)))); clear HB1
  obtain ⟨a0, a1, a2, a3, a4, a5, a6, a7⟩ := cells8 (v := a) HB2.out.1
  obtain ⟨b0, b1, b2, b3, b4, b5, b6, b7⟩ := cells8 (v := b) HB2.out.2.1
  go_wp2_with fail
  clear a0 a1 a2 a3 a4 a5 a6 a7 b0 b1 b2 b3 b4 b5 b6 b7
  refine (CQ.out _).mono ?_
  rintro e w1 ⟨rfl, hE⟩
  obtain ⟨x3, rfl⟩ := Later.mk' hE
  clear hE
  have HB3 := Lib.hid (And.intro ((HB2.out.1.alloc _).later x3) (And.intro ((HB2.out.2.1.alloc _).later x3) (And.intro ((HB2.out.2.2.1.alloc _).later x3) (And.intro ((HB2.out.2.2.2.alloc _).later x3) ((Blk.new x2.w 27 p.row).later x3))))); clear HB2
  obtain ⟨a0, a1, a2, a3, a4, a5, a6, a7⟩ := cells8 (v := a) HB3.out.1
  obtain ⟨b0, b1, b2, b3, b4, b5, b6, b7⟩ := cells8 (v := b) HB3.out.2.1
  go_wp2_with fail
  clear a0 a1 a2 a3 a4 a5 a6 a7 b0 b1 b2 b3 b4 b5 b6 b7
  refine (CR.out _).mono ?_
  rintro e w1 ⟨rfl, hE⟩
  obtain ⟨x4, rfl⟩ := Later.mk' hE
  clear hE
  have HB4 := Lib.hid (And.intro ((HB3.out.1.alloc _).later x4) (And.intro ((HB3.out.2.1.alloc _).later x4) (And.intro ((HB3.out.2.2.1.alloc _).later x4) (And.intro ((HB3.out.2.2.2.1.alloc _).later x4) (And.intro ((HB3.out.2.2.2.2.alloc _).later x4) ((Blk.new x3.w 27 q.row).later x4)))))); clear HB3
  obtain ⟨a0, a1, a2, a3, a4, a5, a6, a7⟩ := cells8 (v := a) HB4.out.1
  obtain ⟨b0, b1, b2, b3, b4, b5, b6, b7⟩ := cells8 (v := b) HB4.out.2.1
  obtain ⟨v0, v1, v2, v3, v4, v5, v6, v7⟩ := cells8 (v := v) HB4.out.2.2.2.1
  obtain ⟨p0, p1, p2, p3, p4, p5, p6, p7⟩ := cells8 (v := p) HB4.out.2.2.2.2.1
  obtain ⟨c0, c1, c2, c3, c4, c5, c6, c7⟩ := cells8 (v := q) HB4.out.2.2.2.2.2
  clear d1 n0 nd hd
  go_wp2_with fail
  clear a0 a1 a2 a3 a4 a5 a6 a7 b0 b1 b2 b3 b4 b5 b6 b7 v0 v1 v2 v3 v4 v5 v6 v7 p0 p1 p2 p3 p4 p5 p6 p7 c0 c1 c2 c3 c4 c5 c6 c7 qp qq qr
  have HB5 := Lib.hid (And.intro (HB4.out.1.alloc (.cells r.row 27)) (And.intro (HB4.out.2.1.alloc (.cells r.row 27)) (And.intro (HB4.out.2.2.1.alloc (.cells r.row 27)) (HB4.out.2.2.2.1.alloc (.cells r.row 27))))); clear HB4
  generalize hW : x4.w.alloc (.cells r.row 27) = W at HB5 ⊢
  clear hW CP CQ CR CV
  obtain ⟨V, hV⟩ : ∃ V, V = x1.w.heap.size := ⟨_, rfl⟩
  rw [← hV] at HB5 ⊢
  clear hV
  obtain ⟨B1, B2, B3, B4⟩ := HB5.out
  have z1 := B1.lt
  have z2 := B2.lt
  have z3 := B4.lt
  go_cut [17, 18, 19] from 91 to 117 (fun s1 s2 s3 wx => ∃ X Y Z : Nat, s1 = .pointer (some ⟨X, 0, none⟩) ∧ s2 = .pointer (some ⟨Y, 0, none⟩) ∧ s3 = .pointer (some ⟨Z, 0, none⟩) ∧ BtwB a b v w wx V X Y Z)
  case first =>
    go_region_held3 (fun w' => (w'.cell? ⟨w.heap.size, 0, none⟩ = some (.int .i64 a.x) ∧ w'.cell? ⟨w.heap.size, 1, none⟩ = some (.int .i64 a.y) ∧ w'.cell? ⟨w.heap.size, 2, none⟩ = some (.int .i64 a.z) ∧ w'.cell? ⟨w.heap.size, 3, none⟩ = some (.int .i64 a.w)) ∧ (w'.cell? ⟨V, 0, none⟩ = some (.int .i64 v.x) ∧ w'.cell? ⟨V, 1, none⟩ = some (.int .i64 v.y) ∧ w'.cell? ⟨V, 2, none⟩ = some (.int .i64 v.z) ∧ w'.cell? ⟨V, 3, none⟩ = some (.int .i64 v.w)) ∧ (w'.cell? ⟨w.heap.size + 1, 0, none⟩ = some (.int .i64 b.x) ∧ w'.cell? ⟨w.heap.size + 1, 1, none⟩ = some (.int .i64 b.y) ∧ w'.cell? ⟨w.heap.size + 1, 2, none⟩ = some (.int .i64 b.z) ∧ w'.cell? ⟨w.heap.size + 1, 3, none⟩ = some (.int .i64 b.w))) ((refine half3 (t := 27) ?_ ?_ ?_ <;> (repeat (first | with_reducible assumption | with_reducible refine Blk.alloc ?_ _ | with_reducible refine Blk.drew ?_ | with_reducible refine Blk.far ?_ ?_ _ | (dsimp only; omega))))) (fail)
    all_goals
      go_wp2_with fail
      go_meet
      refine ⟨_, _, _, rfl, rfl, rfl, ?_, ?_, ?_, ?_, ?_, ?_, ?_⟩
      all_goals (repeat (first | with_reducible assumption | with_reducible refine Blk.drew ?_ | with_reducible refine Ext.drew ?_ | with_reducible refine Ext.alloc ?_ _ | (with_reducible refine Blk.new' _ _ _ ?_; (simp; done)) | with_reducible refine Blk.alloc ?_ _))
  case rest =>
    obtain ⟨X, Y, Z, rfl, rfl, rfl, hB⟩ := hcut
    have HBB := Lib.hid hB
    clear hB B1 B2 B3 B4 z1 z2 z3 HB5
    obtain ⟨W0, rfl⟩ : ∃ W0 : World, W0 = wc := ⟨_, rfl⟩
    go_wp2_with fail
    go_loopw [20] (fun i wr => ∃ k : Nat, k ≤ 4 ∧ i = .int .i64 k ∧ Ext W0 wr) (fun i _ => 4 - (intOf i).toNat)
    case atStart => exact ⟨0, by omega, rfl, Ext.refl _⟩
    case round =>
      obtain ⟨k, hk, rfl, hE⟩ := hrel
      by_cases hlt : k < 4
      · have HB := Lib.hid (HBB.out.ext hE)
        have HEr := Lib.hid hE; clear hE
        obtain ⟨t1, t2⟩ := HV.out.1 k hlt
        obtain ⟨t3, t4⟩ := HV.out.2 k hlt
        have cx := cell_e HB.out.1 k hlt
        have cy := cell_e HB.out.2.1 k hlt
        have cz := cell_e HB.out.2.2.1 k hlt
        have ca := cell_c HB.out.2.2.2.1 k hlt
        have cb := cell_c HB.out.2.2.2.2.1 k hlt
        have cv := cell_c HB.out.2.2.2.2.2.1 k hlt
        go_upto_region 14 with fail
        refine wp_region_later (by kernel_rfl) (by kernel_rfl) ?_
        repeat (go_big_quiet_step (fail))
        refine wpQuiet_nil ?_
        intro y
        have HEy := Lib.hid (HEr.out.later y)
        clear cx cy cz ca cb cv t1 t2 t3 t4
        go_wp2_with fail
        go_roundw
        case rel => first | exact ⟨k + 1, by omega, by go_num, HEy.out⟩ | ((repeat apply Exists.intro); exact ⟨⟨k + 1, by omega, by go_num, HEy.out⟩, rfl⟩)
        case measure => simp [intOf]; omega
      · obtain rfl : k = 4 := by omega
        have HEr := Lib.hid (HBB.out.2.2.2.2.2.2.trans hE); clear hE
        go_wp2_with fail
        refine (awake8 _).mono ?_
        rintro e w1 ⟨rfl, hE⟩
        have HE2 := Lib.hid (HEr.out.trans hE)
        clear hE
        go_wp2_with fail
        go_ret
        exact ⟨rfl, HE2.out⟩
theorem wf_lt {d : Int} (h : (Lit.int .i64 d).wf = true) : d < 9223372036854775808 := by
  simp only [Lit.wf, Bool.and_eq_true, decide_eq_true_eq] at h
  have := h.2
  have e : IntKind.i64.max = 9223372036854775807 := by decide
  omega
theorem law_between (a b : Vx) (n d : Int) (w : World) (hd : d < 9223372036854775808) :
    Calls Try.prog 5 #[a.v, b.v, .agg #[.int .i64 n, .int .i64 d]] w fun e w' => e = .returned (.bool true) ∧ Ext w w' := by
  by_cases h : May a b n d
  · exact between_yes a b n d w h hd
  · exact between_no a b n d w h
section
variable {H : Type} {enc : TypeId × Value → H} {w : World} {base : Nat} {spare : Nat → Bool} {held : Bool}
theorem ca2 : Try.prog.cellsOf 38 = 2 := by kernel_rfl
theorem open_arr2 {r : Reach} {b0 : Nat} {v : Value} {d : DataW H} {p : List MemPlace} (hv : Value.okWide Try.prog w r b0 38 v) (h : DataW.Trod enc Try.prog w base spare held 38 v d p) :
    ∃ x y : Int, v = .agg #[.int .i64 x, .int .i64 y] ∧ (Lit.int .i64 x).wf = true ∧ (Lit.int .i64 y).wf = true := by
  simp only [Value.okWide, Try.underlying38] at hv
  obtain ⟨cs, rfl, _, _⟩ := hv
  obtain ⟨m, hm⟩ := h
  obtain ⟨xs, m', _, _, hl, hxl, hi⟩ := DataW.trod_array Try.underlying38 hm
  obtain ⟨c0, c1, hcs⟩ := list2 (hl.trans ca2)
  have i0 := hi 0 (by omega); have i1 := hi 1 (by omega)
  rw [ci] at i0 i1
  rw [hcs] at i0 i1
  obtain ⟨z0, rfl, w0⟩ := int_of Try.underlying3 i0 (by simp [hxl])
  obtain ⟨z1, rfl, w1⟩ := int_of Try.underlying3 i1 (by simp [hxl])
  refine ⟨z0, z1, ?_, w0, w1⟩
  have : cs.toList = [.int .i64 z0, .int .i64 z1] := hcs
  cases cs; simp_all
end
end Go.Proofs.Ytmpkimcegckloaa
