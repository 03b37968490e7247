/- Proof text: the law TrimTells. By an AI agent. No condition beyond what each theorem states. -/
import Derived.Test.YtibhfclkdbmmoaaTE
import Derived.Test.YtibhfclkdbmmoaaTJ
set_option linter.unusedVariables false
set_option linter.unusedSimpArgs false
namespace Go.Proofs.Ytibhfclkdbmmoaa
open Go.RowKit
theorem rtrim_val (l : List Sd) (a b : Vx) (A : Option Addr) (n cap : Nat) (w : World) (hr : Rd w 5 A n cap (srow l)) (hl : l.length = n) (hn : l.length ≤ 9) (hok : ∀ s ∈ l, s.Ok) (ha : a.Fit) (hb : b.Fit) :
    Calls Try.prog 13 #[a.v, b.v, .slice A n cap] w fun e w' => ∃ u v ok, Hid (TrimVal l a b u v ok) ∧ e = .returned (.tuple #[u.v, v.v, .bool ok]) ∧ Ext w w' := by
  refine (rtrim_any l a b A n cap w hr hl (by omega) hok ha hb).mono ?_
  rintro e w' (⟨f, g, hL, rfl, hE⟩ | ⟨hB, rfl, hE⟩)
  · exact ⟨_, _, true, Lib.hid (.inl ⟨rfl, f, g, hL, rfl, rfl⟩), rfl, hE⟩
  · exact ⟨_, _, false, Lib.hid (.inr ⟨rfl, hB, rfl, rfl⟩), rfl, hE⟩
theorem boxes2t {w W : World} {a b : Vx} (h : Ext ((w.alloc (.cells a.row 25)).alloc (.cells b.row 25)) W) :
    Blk W w.heap.size 25 a.row ∧ Blk W (w.heap.size + 1) 25 b.row :=
  ⟨Blk.ext (Blk.alloc (Blk.new _ _ _) _) h, Blk.ext (Blk.new' _ _ _ (by simp)) h⟩
set_option maxHeartbeats 1000000 in
theorem not_may9t (F : FuncId) (l : List Sd) (a b : Vx) (A : Option Addr) (n cap : Nat) (w : World) (hr : Rd w 5 A n cap (srow l)) (hl : l.length = n) (h : ¬ MayT a b l) :
    Calls Try.prog 4 #[a.v, b.v, .slice A n cap] w fun e w' => e = .returned (.bool true) ∧ Ext w w' := by
  have HR := Lib.hid (hr.ext (((Ext.refl w).alloc (.cells a.row 25)).alloc (.cells b.row 25)))
  have HL := Lib.hid hl; clear hl hr
  have HM := Lib.hid h; clear h
  go_enter Try.func4, Try.ntmps4
  go_wp2_with fail
  refine (may_no l a b A n cap _ HR.out HL.out HM.out).mono ?_
  rintro e w1 ⟨rfl, hE⟩
  obtain ⟨x1, rfl⟩ := Later.mk' hE
  clear hE
  go_wp2_with fail
  refine (awake9 _).mono ?_
  rintro e w1 ⟨rfl, hE⟩
  obtain ⟨x4, rfl⟩ := Later.mk' hE
  clear hE
  go_wp2_with fail
  go_ret
  exact ⟨rfl, by (repeat (first | with_reducible exact Ext.refl _ | with_reducible assumption | with_reducible refine Ext.alloc ?_ _ | with_reducible refine Ext.drew ?_ | with_reducible refine Ext.drewN ?_ _ | with_reducible refine Ext.later ?_ _ | (with_reducible refine Ext.setCell ?_ _ ?hp; case hp => first | (simp; done) | (simp; omega) | omega)))⟩
set_option maxHeartbeats 4000000 in
theorem law_trimtells (l : List Sd) (a b : Vx) (A : Option Addr) (n cap : Nat) (w : World) (hr : Rd w 5 A n cap (srow l)) (hl : l.length = n) :
    Calls Try.prog 4 #[a.v, b.v, .slice A n cap] w fun e w' => e = .returned (.bool true) ∧ Ext w w' := by
  by_cases h : MayT a b l
  · have HR := Lib.hid hr; clear hr
    have HL := Lib.hid hl; clear hl
    have HM := Lib.hid h; clear h
    have HE0 := Lib.hid (((Ext.refl w).alloc (.cells a.row 25)).alloc (.cells b.row 25))
    go_enter Try.func4, Try.ntmps4
    go_wp2_with fail
    refine (may_yes l a b A n cap _ (HR.out.ext HE0.out) HL.out HM.out).mono ?_
    rintro e w1 ⟨rfl, hE⟩
    obtain ⟨x1, rfl⟩ := Later.mk' hE
    clear hE
    have HE1 := Lib.hid (HE0.out.later x1); clear HE0
    have HB1 := Lib.hid (boxes2t (a := a) (b := b) x1.ext)
    obtain ⟨a0, a1, a2, a3, a4, a5, a6, a7⟩ := cells8 (v := a) HB1.out.1
    obtain ⟨b0, b1, b2, b3, b4, b5, b6, b7⟩ := cells8 (v := b) HB1.out.2
    go_wp2_with fail
    clear a0 a1 a2 a3 a4 a5 a6 a7 b0 b1 b2 b3 b4 b5 b6 b7
    refine (trim_val l a b A n cap _ (HR.out.ext HE1.out) HL.out HM.out.2.2.2 HM.out.2.1 HM.out.2.2.1).mono ?_
    rintro e w1 ⟨u, v, ok, HV, rfl, hE⟩
    obtain ⟨x2, rfl⟩ := Later.mk' hE
    clear hE
    have HE2 := Lib.hid (((HE1.out.later x2).alloc (.cells u.row 25)).alloc (.cells v.row 25)); clear HE1
    obtain ⟨a0, a1, a2, a3, a4, a5, a6, a7⟩ := cells8 (v := a) (HB1.out.1.later x2)
    obtain ⟨b0, b1, b2, b3, b4, b5, b6, b7⟩ := cells8 (v := b) (HB1.out.2.later x2)
    have z1 := (HB1.out.1.later x2).lt
    have z2 := (HB1.out.2.later x2).lt
    go_wp2_with fail
    clear a0 a1 a2 a3 a4 a5 a6 a7 b0 b1 b2 b3 b4 b5 b6 b7
    refine (rtrim_val l a b A n cap _ (HR.out.ext HE2.out) HL.out HM.out.1 HM.out.2.2.2 HM.out.2.1 HM.out.2.2.1).mono ?_
    rintro e w1 ⟨u', v', ok', HV', rfl, hE⟩
    obtain ⟨x3, rfl⟩ := Later.mk' hE
    clear hE
    obtain ⟨e1, e2, e3⟩ := trim_order (fun _ => Iff.rfl) HV.out HV'.out
    subst e1; subst e2; subst e3
    clear HV HV'
    have HU := Lib.hid ((Blk.alloc (Blk.new x2.w 25 u'.row) (.cells v'.row 25)).later x3)
    have HV := Lib.hid ((Blk.new' (x2.w.alloc (.cells u'.row 25)) 25 v'.row (g := x2.w.heap.size + 1) (by simp)).later x3)
    have q1 := fun W => eq_vx u' u' W
    have q2 := fun W => eq_vx v' v' W
    rw [Vx.same_refl] at q1 q2
    have q3 : (ok' == ok') = true := by simp
    obtain ⟨a0, a1, a2, a3, a4, a5, a6, a7⟩ := cells8 HU.out
    obtain ⟨b0, b1, b2, b3, b4, b5, b6, b7⟩ := cells8 HV.out
    go_wp2_with fail
    clear a0 a1 a2 a3 a4 a5 a6 a7 b0 b1 b2 b3 b4 b5 b6 b7
    refine (awake9 _).mono ?_
    rintro e w1 ⟨rfl, hE⟩
    obtain ⟨x4, rfl⟩ := Later.mk' hE
    clear hE
    obtain ⟨a0, a1, a2, a3, a4, a5, a6, a7⟩ := cells8 (((HU.out.alloc (.cells u'.row 25)).alloc (.cells v'.row 25)).later x4)
    obtain ⟨b0, b1, b2, b3, b4, b5, b6, b7⟩ := cells8 (((HV.out.alloc (.cells u'.row 25)).alloc (.cells v'.row 25)).later x4)
    obtain ⟨c0, c1, c2, c3, c4, c5, c6, c7⟩ := cells8 ((Blk.alloc (Blk.new x3.w 25 u'.row) (.cells v'.row 25)).later x4)
    obtain ⟨d0, d1, d2, d3, d4, d5, d6, d7⟩ := cells8 ((Blk.new' (x3.w.alloc (.cells u'.row 25)) 25 v'.row (g := x3.w.heap.size + 1) (by simp)).later x4)
    go_wp2_with fail
    go_ret
    exact ⟨rfl, by have := HE2.out; (repeat (first | with_reducible exact Ext.refl _ | with_reducible assumption | with_reducible refine Ext.alloc ?_ _ | with_reducible refine Ext.drew ?_ | with_reducible refine Ext.drewN ?_ _ | with_reducible refine Ext.later ?_ _ | (with_reducible refine Ext.setCell ?_ _ ?hp; case hp => first | (simp; done) | (simp; omega) | omega)))⟩
  · exact not_may9t 0 l a b A n cap w hr hl h
end Go.Proofs.Ytibhfclkdbmmoaa
