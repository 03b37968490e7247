/- Proof text: the law SideAts. By an AI agent. No condition beyond what each theorem states. -/
import Derived.Test.YtibhfclkdbmmoaaNT
import Derived.Test.YtibhfclkdbmmoaaWay
import Derived.Test.YtibhfclkdbmmoaaOp
import Derived.RegionTactic
import Derived.Deep.CutRange
set_option linter.unusedVariables false
set_option linter.unusedSimpArgs false
namespace Go.Proofs.Ytibhfclkdbmmoaa
open Go.RowKit Go.ChangeShapes Go.WideShapes Go.ChangeAt Go.Joins Go.Deep
/-- The three arguments' boxes, in a world that comes later. -/
structure At2 (a b : Vx) (n d : Int) (w wx : World) : Prop where
  b1 : Blk wx w.heap.size 25 a.row
  b2 : Blk wx (w.heap.size + 1) 25 b.row
  b3 : Blk wx (w.heap.size + 1 + 1) 26 #[.int .i64 n, .int .i64 d]
  ex : Ext w wx
theorem At2.ext {a b : Vx} {n d : Int} {w wx wy : World} (h : At2 a b n d w wx) (e : Ext wx wy) : At2 a b n d w wy := ⟨h.b1.ext e, h.b2.ext e, h.b3.ext e, h.ex.trans e⟩
set_option maxRecDepth 100000 in
set_option maxHeartbeats 4000000 in
theorem ats_walk (a b p : Vx) (n d k : Int) (w : World)
    (c1 : ∀ W, Calls Try.prog 7 #[a.v, b.v, .int .i64 n, .int .i64 d] W fun e w' => e = .returned (.tuple #[p.v, .int .i64 k]) ∧ Ext W w')
    (c2 : ∀ W, Calls Try.prog 8 #[a.v, b.v, .int .i64 n, .int .i64 d] W fun e w' => e = .returned (.tuple #[p.v, .int .i64 k]) ∧ Ext W w') :
    Calls Try.prog 3 #[a.v, b.v, .agg #[.int .i64 n, .int .i64 d]] w fun e w' => e = .returned (.bool true) ∧ Ext w w' := by
  have C1 := Lib.hid c1; have C2 := Lib.hid c2
  clear c1 c2
  have q1 : ∀ W, (Op.equalIn 10000 25 p.v p.v).run Try.prog W = .ok true W := fun W => by
    have := eq_vx p p W
    rw [Vx.same_refl] at this
    exact this
  have hk : (k == k) = true := by simp
  go_enter Try.func3, Try.ntmps3
  go_wp2_with fail
  refine (C1.out _).mono ?_
  rintro e w1 ⟨rfl, hE⟩
  have h0 : At2 a b n d w w1 := by
    refine ⟨?_, ?_, ?_, ?_⟩
    · exact Blk.ext (Blk.alloc (Blk.alloc (Blk.new _ _ _) _) _) hE
    · exact Blk.ext (Blk.alloc (Blk.new' _ _ _ (by simp)) _) hE
    · exact Blk.ext (Blk.new' _ _ _ (by simp)) hE
    · exact Ext.trans (by (repeat (first | with_reducible exact Ext.refl _ | with_reducible assumption | with_reducible refine Ext.alloc ?_ _ | with_reducible refine Ext.drew ?_ | with_reducible refine Ext.drewN ?_ _ | with_reducible refine Ext.later ?_ _ | (with_reducible refine Ext.setCell ?_ _ ?hp; case hp => first | (simp; done) | (simp; omega) | omega)))) hE
  have J1 := Lib.hid (h0.ext (Ext.alloc (Ext.refl _) (.cells p.row 25)))
  have B7 := Lib.hid (Blk.new w1 25 p.row)
  clear hE h0
  obtain ⟨a0, a1, a2, a3, a4, a5, a6, a7⟩ := cells8 (v := a) J1.out.b1
  obtain ⟨b0, b1, b2, b3, b4, b5, b6, b7⟩ := cells8 (v := b) J1.out.b2
  have c0 := J1.out.b3.cell 0
  have c1 := J1.out.b3.cell 1
  simp at c0 c1
  go_wp2_with fail
  clear a0 a1 a2 a3 a4 a5 a6 a7 b0 b1 b2 b3 b4 b5 b6 b7 c0 c1
  refine (C2.out _).mono ?_
  rintro e w2 ⟨rfl, hE⟩
  have E2 := Lib.hid ((J1.out.ex.trans hE).alloc (.cells p.row 25))
  have B7 := Lib.hid ((B7.out.ext hE).alloc (.cells p.row 25))
  have B9 := Lib.hid (Blk.new w2 25 p.row)
  clear hE J1
  go_wp2_with fail
  refine (awake8 _).mono ?_
  rintro e w3 ⟨rfl, hE⟩
  have E3 := Lib.hid (E2.out.trans hE)
  obtain ⟨a0, a1, a2, a3, a4, a5, a6, a7⟩ := cells8 (v := p) (B7.out.ext hE)
  obtain ⟨b0, b1, b2, b3, b4, b5, b6, b7⟩ := cells8 (v := p) (B9.out.ext hE)
  clear hE
  go_wp2_with fail
  go_ret
  exact ⟨rfl, E3.out⟩
theorem law_ats (a b : Vx) (n d : Int) (w : World) (hd : d < 9223372036854775808) :
    Calls Try.prog 3 #[a.v, b.v, .agg #[.int .i64 n, .int .i64 d]] w fun e w' => e = .returned (.bool true) ∧ Ext w w' := by
  by_cases h : May a b n d
  · exact ats_walk a b _ n d 0 w (fun W => at_may a b n d W h hd) (fun W => rat_may a b n d W h hd)
  · exact ats_walk a b V0 n d 1 w (fun W => at_no a b n d W h) (fun W => rat_no a b n d W h)
theorem wf_lt {d : Int} (h : (Lit.int .i64 d).wf = true) : d < 9223372036854775808 := by
  simp only [Lit.wf, Bool.and_eq_true, decide_eq_true_eq] at h
  have := h.2
  have e : IntKind.i64.max = 9223372036854775807 := by decide
  omega
section
variable {H : Type} {enc : TypeId × Value → H} {w : World} {base : Nat} {spare : Nat → Bool} {held : Bool}
theorem ca2 : Try.prog.cellsOf 26 = 2 := by kernel_rfl
set_option maxRecDepth 100000 in
theorem open_arr2 {r : Reach} {b0 : Nat} {v : Value} {d : DataW H} {p : List MemPlace} (hv : Value.okWide Try.prog w r b0 26 v) (h : DataW.Trod enc Try.prog w base spare held 26 v d p) :
    ∃ x y : Int, v = .agg #[.int .i64 x, .int .i64 y] ∧ (Lit.int .i64 x).wf = true ∧ (Lit.int .i64 y).wf = true := by
  simp only [Value.okWide, Try.underlying26] at hv
  obtain ⟨cs, rfl, _, _⟩ := hv
  obtain ⟨m, hm⟩ := h
  obtain ⟨xs, m', _, _, hl, hxl, hi⟩ := DataW.trod_array Try.underlying26 hm
  obtain ⟨c0, c1, hcs⟩ := list2 (hl.trans ca2)
  have i0 := hi 0 (by omega); have i1 := hi 1 (by omega)
  rw [ci] at i0 i1
  rw [hcs] at i0 i1
  obtain ⟨z0, rfl, w0⟩ := int_of Try.underlying3 i0 (by simp [hxl])
  obtain ⟨z1, rfl, w1⟩ := int_of Try.underlying3 i1 (by simp [hxl])
  refine ⟨z0, z1, ?_, w0, w1⟩
  have : cs.toList = [.int .i64 z0, .int .i64 z1] := hcs
  cases cs; simp_all
end
end Go.Proofs.Ytibhfclkdbmmoaa
