/- Proof text: the vertex on the way between two, the document's answer (rastrumref08.At), where it is one. By an AI agent. No condition beyond what each theorem states. -/
import Derived.Test.YtibhfclkdbmmoaaNS
set_option linter.unusedVariables false
set_option linter.unusedSimpArgs false
namespace Go.Proofs.Ytibhfclkdbmmoaa
open Go.RowKit
/-- The first four numbers alone. -/
def Vx.low (v : Vx) : Vx := ⟨v.x, v.y, v.z, v.w, 0, 0, 0, 0⟩
/-- In the loop of the colors: k are done. -/
def wrow (u : Vx) (k : Nat) : Array Value := #[.int .i64 u.x, .int .i64 u.y, .int .i64 u.z, .int .i64 u.w, .int .i64 (if 0 < k then u.c0 else 0), .int .i64 (if 1 < k then u.c1 else 0), .int .i64 (if 2 < k then u.c2 else 0), .int .i64 (if 3 < k then u.c3 else 0)]
theorem wrow_zero (a b : Vx) (n d : Int) : wrow (at_ a b n d) 0 = (⟨mid a.x b.x n d, mid a.y b.y n d, mid a.z b.z n d, mid a.w b.w n d, 0, 0, 0, 0⟩ : Vx).row := rfl
theorem cell_w {w : World} {g : Nat} {t : TypeId} {u : Vx} {j : Nat} (h : Blk w g t (wrow u j)) : ∀ k : Nat, k < 4 → ∃ z, w.cell? ⟨g, 4 + k, none⟩ = some (.int .i64 z) :=
  four_cases ⟨⟨_, h.cell 4⟩, ⟨_, h.cell 5⟩, ⟨_, h.cell 6⟩, ⟨_, h.cell 7⟩⟩
theorem set_w {w : World} {g : Nat} {t : TypeId} {u : Vx} {k : Nat} (h : Blk w g t (wrow u k)) (hk : k < 4) : Blk (w.setCell ⟨g, 4 + k, none⟩ (.int .i64 (u.c k))) g t (wrow u (k + 1)) := by
  have := h.set_ (4 + k) (.int .i64 (u.c k))
  have hk4 : k = 0 ∨ k = 1 ∨ k = 2 ∨ k = 3 := by omega
  rcases hk4 with rfl | rfl | rfl | rfl <;> exact this
/-- Three boxes, in a world that comes later. -/
structure At3 (a b : Vx) (w wx : World) : Prop where
  b1 : Blk wx w.heap.size 25 a.row
  b2 : Blk wx (w.heap.size + 1) 25 b.row
  b3 : Blk wx (w.heap.size + 1 + 1) 25 V0.row
  ex : Ext w wx
theorem At3.ext {a b : Vx} {w wx wy : World} (h : At3 a b w wx) (e : Ext wx wy) : At3 a b w wy := ⟨h.b1.ext e, h.b2.ext e, h.b3.ext e, h.ex.trans e⟩
theorem At3.far {a b : Vx} {w wx : World} (h : At3 a b w wx) {p : Addr} (hp : w.heap.size + 2 < p.block) (u : Value) : At3 a b w (wx.setCell p u) :=
  ⟨h.b1.far (by omega) u, h.b2.far (by omega) u, h.b3.far (by omega) u, h.ex.setCell u (by omega)⟩
theorem At3.far8 {a b : Vx} {w wx : World} (h : At3 a b w wx) {g : Nat} (hp : w.heap.size + 2 < g) (u : Vx) :
    At3 a b w ((((((((wx.setCell ⟨g, 0, none⟩ (.int .i64 u.x)).setCell ⟨g, 1, none⟩ (.int .i64 u.y)).setCell ⟨g, 2, none⟩ (.int .i64 u.z)).setCell ⟨g, 3, none⟩ (.int .i64 u.w)).setCell ⟨g, 4, none⟩ (.int .i64 u.c0)).setCell ⟨g, 5, none⟩ (.int .i64 u.c1)).setCell ⟨g, 6, none⟩ (.int .i64 u.c2)).setCell ⟨g, 7, none⟩ (.int .i64 u.c3)) :=
  (((((((h.far (p := ⟨g, 0, none⟩) hp _).far (p := ⟨g, 1, none⟩) hp _).far (p := ⟨g, 2, none⟩) hp _).far (p := ⟨g, 3, none⟩) hp _).far (p := ⟨g, 4, none⟩) hp _).far (p := ⟨g, 5, none⟩) hp _).far (p := ⟨g, 6, none⟩) hp _).far (p := ⟨g, 7, none⟩) hp _
set_option maxRecDepth 100000 in
set_option maxHeartbeats 4000000 in
theorem rat_yes (a b : Vx) (n : Int) (d : Nat) (w : World) (ha : a.Fit) (hb : b.Fit) (n0 : 0 ≤ n) (nd : n ≤ d) (d1 : 1 ≤ d) (d2 : d < 9223372036854775808) :
    Calls Try.prog 8 #[a.v, b.v, .int .i64 n, .int .i64 (d : Int)] w fun e w' => e = .returned (.tuple #[(at_ a b n d).v, .int .i64 0]) ∧ Ext w w' := by
  have HA := Lib.hid ha; clear ha
  have HB := Lib.hid hb; clear hb
  have t1 : decide ((d : Int) < 1) = false := by simp; omega
  have t2 : decide (n < 0) = false := by simp; omega
  have t3 : decide (n > (d : Int)) = false := by simp; omega
  have CE := Lib.hid (fun (k : Nat) (hk : k < 4) W => mid8_any (a.e k) (b.e k) n d W (HA.out.1 k hk).1 (HA.out.1 k hk).2 (HB.out.1 k hk).1 (HB.out.1 k hk).2 n0 nd d1 d2)
  have CC := Lib.hid (fun (k : Nat) (hk : k < 4) W => mid8_any (a.c k) (b.c k) n d W (Int.le_trans (by decide) (HA.out.2 k hk).1) (Int.le_trans (HA.out.2 k hk).2 (by decide)) (Int.le_trans (by decide) (HB.out.2 k hk).1) (Int.le_trans (HB.out.2 k hk).2 (by decide)) n0 nd d1 d2)
  clear n0 nd d1 d2
  have C0 : Hid (∀ W, Calls Try.prog 25 #[.int .i64 a.x, .int .i64 b.x, .int .i64 n, .int .i64 (d : Int)] W fun e w' => e = .returned (.int .i64 (mid a.x b.x n d)) ∧ Ext W w') := Lib.hid (CE.out 0 (by decide))
  have C1 : Hid (∀ W, Calls Try.prog 25 #[.int .i64 a.y, .int .i64 b.y, .int .i64 n, .int .i64 (d : Int)] W fun e w' => e = .returned (.int .i64 (mid a.y b.y n d)) ∧ Ext W w') := Lib.hid (CE.out 1 (by decide))
  have C2 : Hid (∀ W, Calls Try.prog 25 #[.int .i64 a.z, .int .i64 b.z, .int .i64 n, .int .i64 (d : Int)] W fun e w' => e = .returned (.int .i64 (mid a.z b.z n d)) ∧ Ext W w') := Lib.hid (CE.out 2 (by decide))
  have C3 : Hid (∀ W, Calls Try.prog 25 #[.int .i64 a.w, .int .i64 b.w, .int .i64 n, .int .i64 (d : Int)] W fun e w' => e = .returned (.int .i64 (mid a.w b.w n d)) ∧ Ext W w') := Lib.hid (CE.out 3 (by decide))
  go_enter Try.func8, Try.ntmps8
  go_wp2_with fail
  refine (rfits_yes a _ HA.out).mono ?_
  rintro e w1 ⟨rfl, hE⟩
  obtain ⟨x1, rfl⟩ := Later.mk' hE
  clear hE
  go_wp2_with fail
  refine (rfits_yes b _ HB.out).mono ?_
  rintro e w1 ⟨rfl, hE⟩
  obtain ⟨x2, rfl⟩ := Later.mk' hE
  clear hE
  have h3 : At3 a b w x2.w := by
    refine ⟨?_, ?_, ?_, by (repeat (first | with_reducible exact Ext.refl _ | with_reducible assumption | with_reducible refine Ext.alloc ?_ _ | with_reducible refine Ext.drew ?_ | with_reducible refine Ext.drewN ?_ _ | with_reducible refine Ext.later ?_ _ | (with_reducible refine Ext.setCell ?_ _ ?hp; case hp => first | (simp; done) | (simp; omega) | omega)))⟩
    · exact Blk.later (Blk.later (Blk.alloc (Blk.alloc (Blk.new w _ _) _) _) x1) x2
    · exact Blk.later (Blk.later (Blk.alloc (by have := Blk.new (w.alloc (.cells a.row 25)) 25 b.row; simpa using this) _) x1) x2
    · exact Blk.later (Blk.later (Blk.new' _ _ _ (by simp)) x1) x2
  have hL : w.heap.size + 2 < x2.w.heap.size := h3.b3.lt
  obtain ⟨W, hW⟩ : ∃ W, W = x2.w := ⟨_, rfl⟩
  rw [← hW] at h3 hL ⊢
  have J0 := Lib.hid h3
  have HLT := Lib.hid hL
  clear h3 hW
  clear x2
  clear x1
  go_upto_region 3 with fail
  go_cut [10] from 33 to 63 (fun p wx => ∃ L : Nat, p = .pointer (some ⟨L, 0, none⟩) ∧ Hid (w.heap.size + 2 < L) ∧ Hid (At3 a b w wx) ∧ Hid (Blk wx L 25 (wrow (at_ a b n d) 0)))
  case first =>
    have g1 := J0.out.b1; have g2 := J0.out.b2
    go_region_held3 (fun w' => w'.cell? ⟨w.heap.size, 0, none⟩ = some (.int .i64 a.x) ∧ w'.cell? ⟨w.heap.size, 1, none⟩ = some (.int .i64 a.y) ∧ w'.cell? ⟨w.heap.size, 2, none⟩ = some (.int .i64 a.z) ∧ w'.cell? ⟨w.heap.size, 3, none⟩ = some (.int .i64 a.w) ∧ w'.cell? ⟨w.heap.size, 4, none⟩ = some (.int .i64 a.c0) ∧ w'.cell? ⟨w.heap.size, 5, none⟩ = some (.int .i64 a.c1) ∧ w'.cell? ⟨w.heap.size, 6, none⟩ = some (.int .i64 a.c2) ∧ w'.cell? ⟨w.heap.size, 7, none⟩ = some (.int .i64 a.c3) ∧ w'.cell? ⟨w.heap.size + 1, 0, none⟩ = some (.int .i64 b.x) ∧ w'.cell? ⟨w.heap.size + 1, 1, none⟩ = some (.int .i64 b.y) ∧ w'.cell? ⟨w.heap.size + 1, 2, none⟩ = some (.int .i64 b.z) ∧ w'.cell? ⟨w.heap.size + 1, 3, none⟩ = some (.int .i64 b.w) ∧ w'.cell? ⟨w.heap.size + 1, 4, none⟩ = some (.int .i64 b.c0) ∧ w'.cell? ⟨w.heap.size + 1, 5, none⟩ = some (.int .i64 b.c1) ∧ w'.cell? ⟨w.heap.size + 1, 6, none⟩ = some (.int .i64 b.c2) ∧ w'.cell? ⟨w.heap.size + 1, 7, none⟩ = some (.int .i64 b.c3)) ((refine vcells (t := 25) ?_ ?_ <;> (repeat (first | with_reducible assumption | with_reducible refine Blk.alloc ?_ _ | with_reducible refine Blk.drew ?_ | with_reducible refine Blk.far ?_ ?_ _ | (dsimp only; omega)))))
      ((first
        | (go_at_call 25; (with_reducible refine (C0.out _).mono ?_); rintro e w1 ⟨rfl, hE⟩; have e0 : Ext W w1 := Ext.trans (by (repeat (first | with_reducible exact Ext.refl _ | with_reducible assumption | with_reducible refine Ext.alloc ?_ _ | with_reducible refine Ext.drew ?_ | with_reducible refine Ext.drewN ?_ _ | with_reducible refine Ext.later ?_ _ | (with_reducible refine Ext.setCell ?_ _ ?hp; case hp => first | (simp; done) | (simp; omega) | omega)))) hE; have J1 := Lib.hid (J0.out.ext e0); have l1 := e0.size; have g1 := J1.out.b1; have g2 := J1.out.b2; (first | (have bn := Lib.hid (bn.out.ext e0)) | (have bn : Hid (Blk w1 W.heap.size 25 (⟨0, 0, 0, 0, 0, 0, 0, 0⟩ : Vx).row) := Lib.hid (Blk.ext (by first | with_reducible exact Blk.new' _ _ _ rfl | with_reducible exact Blk.drew (Blk.new' _ _ _ rfl)) hE)) | skip))
        | (go_at_call 25; (with_reducible refine (C1.out _).mono ?_); rintro e w2 ⟨rfl, hE⟩; have e0 : Ext w1 w2 := Ext.trans (by (repeat (first | with_reducible exact Ext.refl _ | with_reducible assumption | with_reducible refine Ext.alloc ?_ _ | with_reducible refine Ext.drew ?_ | with_reducible refine Ext.drewN ?_ _ | with_reducible refine Ext.later ?_ _ | (with_reducible refine Ext.setCell ?_ _ ?hp; case hp => first | (simp; done) | (simp; omega) | omega)))) hE; have J2 := Lib.hid (J1.out.ext e0); have l2 := e0.size; have g1 := J2.out.b1; have g2 := J2.out.b2; (first | (have bn := Lib.hid (bn.out.ext e0)) | (have bn : Hid (Blk w2 w1.heap.size 25 (⟨0, 0, 0, 0, 0, 0, 0, 0⟩ : Vx).row) := Lib.hid (Blk.ext (by first | with_reducible exact Blk.new' _ _ _ rfl | with_reducible exact Blk.drew (Blk.new' _ _ _ rfl)) hE)) | skip))
        | (go_at_call 25; (with_reducible refine (C2.out _).mono ?_); rintro e w3 ⟨rfl, hE⟩; have e0 : Ext w2 w3 := Ext.trans (by (repeat (first | with_reducible exact Ext.refl _ | with_reducible assumption | with_reducible refine Ext.alloc ?_ _ | with_reducible refine Ext.drew ?_ | with_reducible refine Ext.drewN ?_ _ | with_reducible refine Ext.later ?_ _ | (with_reducible refine Ext.setCell ?_ _ ?hp; case hp => first | (simp; done) | (simp; omega) | omega)))) hE; have J3 := Lib.hid (J2.out.ext e0); have l3 := e0.size; have g1 := J3.out.b1; have g2 := J3.out.b2; (first | (have bn := Lib.hid (bn.out.ext e0)) | (have bn : Hid (Blk w3 w2.heap.size 25 (⟨0, 0, 0, 0, 0, 0, 0, 0⟩ : Vx).row) := Lib.hid (Blk.ext (by first | with_reducible exact Blk.new' _ _ _ rfl | with_reducible exact Blk.drew (Blk.new' _ _ _ rfl)) hE)) | skip))
        | (go_at_call 25; (with_reducible refine (C3.out _).mono ?_); rintro e w4 ⟨rfl, hE⟩; have e0 : Ext w3 w4 := Ext.trans (by (repeat (first | with_reducible exact Ext.refl _ | with_reducible assumption | with_reducible refine Ext.alloc ?_ _ | with_reducible refine Ext.drew ?_ | with_reducible refine Ext.drewN ?_ _ | with_reducible refine Ext.later ?_ _ | (with_reducible refine Ext.setCell ?_ _ ?hp; case hp => first | (simp; done) | (simp; omega) | omega)))) hE; have J4 := Lib.hid (J3.out.ext e0); have l4 := e0.size; have g1 := J4.out.b1; have g2 := J4.out.b2; (first | (have bn := Lib.hid (bn.out.ext e0)) | (have bn : Hid (Blk w4 w3.heap.size 25 (⟨0, 0, 0, 0, 0, 0, 0, 0⟩ : Vx).row) := Lib.hid (Blk.ext (by first | with_reducible exact Blk.new' _ _ _ rfl | with_reducible exact Blk.drew (Blk.new' _ _ _ rfl)) hE)) | skip); (first | (have cb := cells8 (v := (⟨0, 0, 0, 0, 0, 0, 0, 0⟩ : Vx)) bn.out; have fb := frees8 bn.out; obtain ⟨y0, y1, y2, y3, y4, y5, y6, y7⟩ := cb; obtain ⟨f0, f1, f2, f3, f4, f5, f6, f7⟩ := fb) | skip))))
    all_goals
      have bz : Hid (Blk _ _ 25 (⟨0, 0, 0, 0, 0, 0, 0, 0⟩ : Vx).row) := Lib.hid (by first | with_reducible exact bn.out | with_reducible exact Blk.new' w4 25 _ rfl)
      have lt9 := bz.out.lt
      go_wp2_with fail
      go_meet
      refine ⟨_, rfl, Lib.hid ?_, Lib.hid ?_, Lib.hid ?_⟩
      · omega
      · first | (refine At3.ext J4.out ?_; with_reducible refine Ext.alloc ?_ _; exact Ext.refl _) | (with_reducible refine At3.far8 J4.out ?_ (⟨mid a.x b.x n d, mid a.y b.y n d, mid a.z b.z n d, mid a.w b.w n d, 0, 0, 0, 0⟩ : Vx); omega)
      · rw [wrow_zero]
        first | with_reducible exact bn.out.set8 (⟨mid a.x b.x n d, mid a.y b.y n d, mid a.z b.z n d, mid a.w b.w n d, 0, 0, 0, 0⟩ : Vx) | (with_reducible refine Blk.new' _ _ _ ?_; rfl)
  case rest =>
    obtain ⟨L, rfl, HL, HJ, HB0⟩ := hcut
    clear J0 HLT C0 C1 C2 C3 CE
    obtain ⟨W0, rfl⟩ : ∃ W0 : World, W0 = wc := ⟨_, rfl⟩
    go_wp2_with fail
    go_loopg [11] 4 (fun g i wx => ∃ k : Nat, k ≤ 4 ∧ g = 4 - k ∧ i = .int .i64 k ∧ Hid (At3 a b w wx) ∧ Hid (Blk wx L 25 (wrow (at_ a b n d) k)))
    case atStart => exact ⟨0, by omega, rfl, rfl, HJ, HB0⟩
    case round =>
      clear HJ HB0
      obtain ⟨k, hk, rfl, rfl, HJ, HI⟩ := hrel
      by_cases hlt : k < 4
      · have cp := cell_c HJ.out.b1 k hlt
        have cq := cell_c HJ.out.b2 k hlt
        obtain ⟨z, cl⟩ := cell_w HI.out k hlt
        have fl := HI.out.frozen (4 + k)
        go_upto_region 7 with fail
        refine wp_region_later_tail 14 (by kernel_rfl) (by kernel_rfl) ?_
        simp only [List.take_succ_cons, List.take_zero, List.drop_succ_cons, List.drop_zero]
        repeat (go_big_quiet_step ((go_at_call 25; exact Calls.later _ (CC.out k hlt _))))
        refine wpQuiet_nil ?_
        intro x
        go_wp2_with fail
        go_roundg (4 - (k + 1))
        case measure => omega
        case rel =>
          rw [at_c a b n d k hlt]
          exact ⟨k + 1, by omega, rfl, by go_num, Lib.hid ((HJ.out.ext x.ext).far HL.out _), Lib.hid (set_w (HI.out.later x) hlt)⟩
      · obtain rfl : k = 4 := by omega
        have hB : Blk wr L 25 (at_ a b n d).row := HI.out
        obtain ⟨u, hu⟩ : ∃ u, at_ a b n d = u := ⟨_, rfl⟩
        rw [hu] at hB
        have HU := Lib.hid hu
        clear hu
        have H3 := Lib.hid HJ.out.b3
        have EX := Lib.hid HJ.out.ex
        obtain ⟨q0, q1, q2, q3, q4, q5, q6, q7⟩ := cells8 hB
        obtain ⟨r0, r1, r2, r3, r4, r5, r6, r7⟩ := cells8 H3.out
        obtain ⟨f0, f1, f2, f3, f4, f5, f6, f7⟩ := frees8 H3.out
        clear hB HI HJ
        go_wp2_with fail
        clear q0 q1 q2 q3 q4 q5 q6 q7 r0 r1 r2 r3 r4 r5 r6 r7 f0 f1 f2 f3 f4 f5 f6 f7
        obtain ⟨q0, q1, q2, q3, q4, q5, q6, q7⟩ := cells8 (H3.out.set8 u)
        have E := EX.out
        refine bodyPost_ret (v := .tuple #[u.v, .int .i64 0]) (by simp [results, Try.results8, q0, q1, q2, q3, q4, q5, q6, q7, go_sem]) rfl ⟨by rw [HU.out], by (repeat (first | with_reducible exact Ext.refl _ | with_reducible assumption | with_reducible refine Ext.alloc ?_ _ | with_reducible refine Ext.drew ?_ | with_reducible refine Ext.drewN ?_ _ | with_reducible refine Ext.later ?_ _ | (with_reducible refine Ext.setCell ?_ _ ?hp; case hp => first | (simp; done) | (simp; omega) | omega)))⟩
theorem rat_may (a b : Vx) (n d : Int) (w : World) (h : May a b n d) (hd : d < 9223372036854775808) :
    Calls Try.prog 8 #[a.v, b.v, .int .i64 n, .int .i64 d] w fun e w' => e = .returned (.tuple #[(at_ a b n d).v, .int .i64 0]) ∧ Ext w w' := by
  obtain ⟨ha, hb, h1, h2, h3⟩ := h
  obtain ⟨D, rfl⟩ := Int.eq_ofNat_of_zero_le (show 0 ≤ d by omega)
  exact rat_yes a b n D w ha hb h2 h3 (by omega) (by omega)
end Go.Proofs.Ytibhfclkdbmmoaa
