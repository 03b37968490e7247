/- Proof text: what stands on the way from one vertex to another. By an AI agent. No condition beyond what each theorem states. -/
import Derived.Test.YtplljnfjkkloeaaGreatDoorSH
import Derived.Test.YtplljnfjkkloeaaGreatDoorLC
import Derived.Test.YtplljnfjkkloeaaGreatDoorGM
import Derived.Deep.RegionHeld3
import Derived.Deep.CutRange
import Derived.Laws.MakeOwn
import Derived.Deep.LoopGhost
set_option linter.unusedVariables false
set_option linter.unusedSimpArgs false
namespace Go.Proofs.YtplljnfjkkloeaaGreatDoor
open Go.RowKit
def at_ (a b : Vx) (n d : Int) : Vx := ⟨mid a.x b.x n d, mid a.y b.y n d, mid a.z b.z n d, mid a.w b.w n d, mid a.c0 b.c0 n d, mid a.c1 b.c1 n d, mid a.c2 b.c2 n d, mid a.c3 b.c3 n d⟩
@[reducible] def Vx.row (v : Vx) : Array Value := #[.int .i64 v.x, .int .i64 v.y, .int .i64 v.z, .int .i64 v.w, .int .i64 v.c0, .int .i64 v.c1, .int .i64 v.c2, .int .i64 v.c3]
@[reducible] def Vx.row4 (v : Vx) : Array Value := #[.int .i64 v.x, .int .i64 v.y, .int .i64 v.z, .int .i64 v.w]
section
variable {w w' : World} {g : Nat} {t : TypeId} {cs : Array Value}
end
theorem four_exact (v : Vx) (w : World) : Calls Tryz.prog 119 #[v.v] w fun e w' => e = .returned (.agg v.row4) ∧ (w.alloc (.cells v.row 149)).alloc (.cells v.row4 29) = w' := by
  go_enter Tryz.func119, Tryz.ntmps119
  go_wp2
  go_returns
  exact ⟨rfl, rfl⟩
theorem vcells {w : World} {g h : Nat} {t : TypeId} {a b : Vx} (ha : Blk w g t a.row) (hb : Blk w h t b.row) :
    w.cell? ⟨g, 0, none⟩ = some (.int .i64 a.x) ∧ w.cell? ⟨g, 1, none⟩ = some (.int .i64 a.y) ∧ w.cell? ⟨g, 2, none⟩ = some (.int .i64 a.z) ∧ w.cell? ⟨g, 3, none⟩ = some (.int .i64 a.w) ∧ w.cell? ⟨g, 4, none⟩ = some (.int .i64 a.c0) ∧ w.cell? ⟨g, 5, none⟩ = some (.int .i64 a.c1) ∧ w.cell? ⟨g, 6, none⟩ = some (.int .i64 a.c2) ∧ w.cell? ⟨g, 7, none⟩ = some (.int .i64 a.c3) ∧ w.cell? ⟨h, 0, none⟩ = some (.int .i64 b.x) ∧ w.cell? ⟨h, 1, none⟩ = some (.int .i64 b.y) ∧ w.cell? ⟨h, 2, none⟩ = some (.int .i64 b.z) ∧ w.cell? ⟨h, 3, none⟩ = some (.int .i64 b.w) ∧ w.cell? ⟨h, 4, none⟩ = some (.int .i64 b.c0) ∧ w.cell? ⟨h, 5, none⟩ = some (.int .i64 b.c1) ∧ w.cell? ⟨h, 6, none⟩ = some (.int .i64 b.c2) ∧ w.cell? ⟨h, 7, none⟩ = some (.int .i64 b.c3) :=
  ⟨ha.cell 0, ha.cell 1, ha.cell 2, ha.cell 3, ha.cell 4, ha.cell 5, ha.cell 6, ha.cell 7, hb.cell 0, hb.cell 1, hb.cell 2, hb.cell 3, hb.cell 4, hb.cell 5, hb.cell 6, hb.cell 7⟩
def AtPre (a b : Vx) (w wx : World) (P Q : Nat) : Prop :=
  w.heap.size + 2 < P ∧ w.heap.size + 2 < Q ∧ P ≠ Q ∧ Blk wx P 29 a.row4 ∧ Blk wx Q 29 b.row4 ∧ Blk wx w.heap.size 149 a.row ∧ Blk wx (w.heap.size + 1) 149 b.row ∧
    Blk wx (w.heap.size + 1 + 1) 149 (⟨0, 0, 0, 0, 0, 0, 0, 0⟩ : Vx).row ∧ Ext w wx
def lrow (u : Vx) (k : Nat) : Array Value := #[.int .i64 (if 0 < k then u.x else 0), .int .i64 (if 1 < k then u.y else 0), .int .i64 (if 2 < k then u.z else 0), .int .i64 (if 3 < k then u.w else 0)]
def vrow (u : Vx) (k : Nat) : Array Value := #[.int .i64 0, .int .i64 0, .int .i64 0, .int .i64 0, .int .i64 (if 0 < k then u.c0 else 0), .int .i64 (if 1 < k then u.c1 else 0), .int .i64 (if 2 < k then u.c2 else 0), .int .i64 (if 3 < k then u.c3 else 0)]
def AtInv (a b u : Vx) (w : World) (P Q L j k : Nat) (wr : World) : Prop :=
  AtPre a b w wr P Q ∧ P < L ∧ Q < L ∧ Blk wr L 29 (lrow u j) ∧ Blk wr (L + 1) 149 (vrow u k)
theorem cell_e {w : World} {g : Nat} {t : TypeId} {v : Vx} (h : Blk w g t v.row4) : ∀ k : Nat, k < 4 → w.cell? ⟨g, k, none⟩ = some (.int .i64 (v.e k)) :=
  four_cases ⟨h.cell 0, h.cell 1, h.cell 2, h.cell 3⟩
theorem cell_c {w : World} {g : Nat} {t : TypeId} {v : Vx} (h : Blk w g t v.row) : ∀ k : Nat, k < 4 → w.cell? ⟨g, 4 + k, none⟩ = some (.int .i64 (v.c k)) :=
  four_cases ⟨h.cell 4, h.cell 5, h.cell 6, h.cell 7⟩
theorem cell_l {w : World} {g : Nat} {t : TypeId} {u : Vx} {j : Nat} (h : Blk w g t (lrow u j)) : ∀ k : Nat, k < 4 → ∃ z, w.cell? ⟨g, k, none⟩ = some (.int .i64 z) :=
  four_cases ⟨⟨_, h.cell 0⟩, ⟨_, h.cell 1⟩, ⟨_, h.cell 2⟩, ⟨_, h.cell 3⟩⟩
theorem cell_v {w : World} {g : Nat} {t : TypeId} {u : Vx} {j : Nat} (h : Blk w g t (vrow u j)) : ∀ k : Nat, k < 4 → ∃ z, w.cell? ⟨g, 4 + k, none⟩ = some (.int .i64 z) :=
  four_cases ⟨⟨_, h.cell 4⟩, ⟨_, h.cell 5⟩, ⟨_, h.cell 6⟩, ⟨_, h.cell 7⟩⟩
theorem set_l {w : World} {g : Nat} {t : TypeId} {u : Vx} {k : Nat} (h : Blk w g t (lrow u k)) (hk : k < 4) : Blk (w.setCell ⟨g, k, none⟩ (.int .i64 (u.e k))) g t (lrow u (k + 1)) := by
  have := h.set_ k (.int .i64 (u.e k))
  have hk4 : k = 0 ∨ k = 1 ∨ k = 2 ∨ k = 3 := by omega
  rcases hk4 with rfl | rfl | rfl | rfl <;> exact this
theorem set_v {w : World} {g : Nat} {t : TypeId} {u : Vx} {k : Nat} (h : Blk w g t (vrow u k)) (hk : k < 4) : Blk (w.setCell ⟨g, 4 + k, none⟩ (.int .i64 (u.c k))) g t (vrow u (k + 1)) := by
  have := h.set_ (4 + k) (.int .i64 (u.c k))
  have hk4 : k = 0 ∨ k = 1 ∨ k = 2 ∨ k = 3 := by omega
  rcases hk4 with rfl | rfl | rfl | rfl <;> exact this
theorem AtPre.later {a b : Vx} {w wx : World} {P Q : Nat} (h : AtPre a b w wx P Q) (x : Later wx) : AtPre a b w x.w P Q := by
  obtain ⟨h1, h2, h3, h4, h5, h6, h7, h8, h9⟩ := h
  exact ⟨h1, h2, h3, h4.later x, h5.later x, h6.later x, h7.later x, h8.later x, h9.later x⟩
theorem AtPre.far {a b : Vx} {w wx : World} {P Q : Nat} (h : AtPre a b w wx P Q) {L i : Nat} (hP : P < L) (hQ : Q < L) (u : Value) : AtPre a b w (wx.setCell ⟨L, i, none⟩ u) P Q := by
  obtain ⟨h1, h2, h3, h4, h5, h6, h7, h8, h9⟩ := h
  exact ⟨h1, h2, h3, h4.far (by simp; omega) _, h5.far (by simp; omega) _, h6.far (by simp; omega) _, h7.far (by simp; omega) _, h8.far (by simp; omega) _, h9.setCell _ (by simp; omega)⟩
theorem AtPre.alloc {a b : Vx} {w wx : World} {P Q : Nat} (h : AtPre a b w wx P Q) (o : Obj) : AtPre a b w (wx.alloc o) P Q := by
  obtain ⟨h1, h2, h3, h4, h5, h6, h7, h8, h9⟩ := h
  exact ⟨h1, h2, h3, h4.alloc _, h5.alloc _, h6.alloc _, h7.alloc _, h8.alloc _, h9.alloc _⟩
theorem AtPre.drew {a b : Vx} {w wx : World} {P Q : Nat} (h : AtPre a b w wx P Q) : AtPre a b w wx.drew P Q := by
  obtain ⟨h1, h2, h3, h4, h5, h6, h7, h8, h9⟩ := h
  exact ⟨h1, h2, h3, h4, h5, h6, h7, h8, h9.drew⟩
theorem AtInv.num {a b u : Vx} {w wr : World} {P Q L k : Nat} (h : AtInv a b u w P Q L k k wr) (hk : k < 4) (x : Later wr) : AtInv a b u w P Q L (k + 1) k (x.w.setCell ⟨L, k, none⟩ (.int .i64 (u.e k))) := by
  obtain ⟨h1, h2, h3, h4, h5⟩ := h
  exact ⟨(h1.later x).far h2 h3 _, h2, h3, set_l (h4.later x) hk, (h5.later x).far (by simp) _⟩
theorem AtInv.col {a b u : Vx} {w wr : World} {P Q L k : Nat} (h : AtInv a b u w P Q L (k + 1) k wr) (hk : k < 4) (x : Later wr) : AtInv a b u w P Q L (k + 1) (k + 1) (x.w.setCell ⟨L + 1, 4 + k, none⟩ (.int .i64 (u.c k))) := by
  obtain ⟨h1, h2, h3, h4, h5⟩ := h
  exact ⟨(h1.later x).far (by omega) (by omega) _, h2, h3, (h4.later x).far (by simp) _, set_v (h5.later x) hk⟩
theorem at_e (a b : Vx) (n d : Int) : ∀ k : Nat, k < 4 → mid (a.e k) (b.e k) n d = (at_ a b n d).e k := four_cases ⟨rfl, rfl, rfl, rfl⟩
theorem at_c (a b : Vx) (n d : Int) : ∀ k : Nat, k < 4 → mid (a.c k) (b.c k) n d = (at_ a b n d).c k := four_cases ⟨rfl, rfl, rfl, rfl⟩
set_option maxRecDepth 100000 in
set_option maxHeartbeats 2000000 in
theorem at_yes (a b : Vx) (n : Int) (d : Nat) (w : World) (ha : a.Fit) (hb : b.Fit) (n0 : 0 ≤ n) (nd : n ≤ d) (d1 : 1 ≤ d) (d2 : d < 9223372036854775808) :
    Calls Tryz.prog 129 #[a.v, b.v, .int .i64 n, .int .i64 (d : Int)] w fun e w' => e = .returned (.tuple #[(at_ a b n d).v, .int .i64 0]) ∧ Ext w w' := by
  have HA := Lib.hid ha; clear ha
  have HB := Lib.hid hb; clear hb
  have t1 : decide ((d : Int) < 1) = false := by simp; omega
  have t2 : decide (n < 0) = false := by simp; omega
  have t3 : decide (n > (d : Int)) = false := by simp; omega
  have HN : Hid (0 ≤ n ∧ n ≤ d ∧ 1 ≤ d ∧ d < 9223372036854775808) := Lib.hid ⟨n0, nd, d1, d2⟩
  clear n0 nd d1 d2
  go_enter Tryz.func129, Tryz.ntmps129
  go_wp2_with fail
  refine (fits_yes a _ HA.out).mono ?_
  rintro e w1 ⟨rfl, hE⟩
  obtain ⟨x1, rfl⟩ := Later.mk' hE
  clear hE
  go_wp2_with fail
  refine (fits_yes b _ HB.out).mono ?_
  rintro e w1 ⟨rfl, hE⟩
  obtain ⟨x2, rfl⟩ := Later.mk' hE
  clear hE
  have B1 : Blk x2.w w.heap.size 149 a.row := Blk.later (Blk.later (Blk.alloc (Blk.alloc (Blk.new w _ _) _) _) x1) x2
  have B2 : Blk x2.w (w.heap.size + 1) 149 b.row := Blk.later (Blk.later (Blk.alloc (by have := Blk.new (w.alloc (.cells a.row 149)) 149 b.row; simpa using this) _) x1) x2
  have B3 : Blk x2.w (w.heap.size + 1 + 1) 149 (⟨0, 0, 0, 0, 0, 0, 0, 0⟩ : Vx).row := Blk.later (Blk.later (Blk.new' _ _ _ (by simp)) x1) x2
  have E0 : Ext w x2.w := by (repeat (first | with_reducible exact Ext.refl _ | with_reducible assumption | with_reducible refine Ext.alloc ?_ _ | with_reducible refine Ext.drew ?_ | with_reducible refine Ext.drewN ?_ _ | with_reducible refine Ext.later ?_ _ | (with_reducible refine Ext.setCell ?_ _ ?hp; case hp => first | (simp; done) | (simp; omega) | omega)))
  have z0 := x2.le; (try simp at z0)
  have z9 := x1.le; (try simp at z9)
  go_upto_region 3 with fail
  go_cut [10, 11] from 37 to 40 (fun p q wx => ∃ P Q : Nat, p = .pointer (some ⟨P, 0, none⟩) ∧ q = .pointer (some ⟨Q, 0, none⟩) ∧ AtPre a b w wx P Q)
  case first =>
    go_region_held3 (fun w' => w'.cell? ⟨w.heap.size, 0, none⟩ = some (.int .i64 a.x) ∧ w'.cell? ⟨w.heap.size, 1, none⟩ = some (.int .i64 a.y) ∧ w'.cell? ⟨w.heap.size, 2, none⟩ = some (.int .i64 a.z) ∧ w'.cell? ⟨w.heap.size, 3, none⟩ = some (.int .i64 a.w) ∧ w'.cell? ⟨w.heap.size, 4, none⟩ = some (.int .i64 a.c0) ∧ w'.cell? ⟨w.heap.size, 5, none⟩ = some (.int .i64 a.c1) ∧ w'.cell? ⟨w.heap.size, 6, none⟩ = some (.int .i64 a.c2) ∧ w'.cell? ⟨w.heap.size, 7, none⟩ = some (.int .i64 a.c3) ∧ w'.cell? ⟨w.heap.size + 1, 0, none⟩ = some (.int .i64 b.x) ∧ w'.cell? ⟨w.heap.size + 1, 1, none⟩ = some (.int .i64 b.y) ∧ w'.cell? ⟨w.heap.size + 1, 2, none⟩ = some (.int .i64 b.z) ∧ w'.cell? ⟨w.heap.size + 1, 3, none⟩ = some (.int .i64 b.w) ∧ w'.cell? ⟨w.heap.size + 1, 4, none⟩ = some (.int .i64 b.c0) ∧ w'.cell? ⟨w.heap.size + 1, 5, none⟩ = some (.int .i64 b.c1) ∧ w'.cell? ⟨w.heap.size + 1, 6, none⟩ = some (.int .i64 b.c2) ∧ w'.cell? ⟨w.heap.size + 1, 7, none⟩ = some (.int .i64 b.c3)) ((refine vcells (t := 149) ?_ ?_ <;> (repeat (first | with_reducible assumption | with_reducible refine Blk.later ?_ _ | with_reducible refine Blk.alloc ?_ _ | with_reducible refine Blk.drew ?_ | with_reducible refine Blk.far ?_ ?_ _ | (dsimp only; omega))))) ((first | (go_at_call 119; refine (four_exact _ _).mono ?_; rintro e w1 ⟨rfl, rfl⟩)))
    all_goals
      go_wp2_with fail
      go_meet
      refine ⟨_, _, rfl, rfl, ?_, ?_, ?_, ?_, ?_, ?_, ?_, ?_, ?_⟩
      · omega
      · omega
      · omega
      all_goals (repeat (first | with_reducible assumption | with_reducible refine Blk.drew ?_ | with_reducible refine Ext.drew ?_ | with_reducible refine Ext.alloc ?_ _ | (with_reducible refine Blk.new' _ _ _ ?_; (simp; done)) | with_reducible refine Blk.alloc ?_ _))
  case rest =>
    obtain ⟨P, Q, rfl, rfl, hpre⟩ := hcut
    have H := Lib.hid hpre; clear hpre
    clear B1 B2 B3 E0 z0 z9
    obtain ⟨W0, rfl⟩ : ∃ W0 : World, W0 = wc := ⟨_, rfl⟩
    go_wp2_with fail
    go_loopg [14, 42] 4 (fun g _ i wx => ∃ k : Nat, k ≤ 4 ∧ g = 4 - k ∧ i = .int .i64 k ∧ AtInv a b (at_ a b n d) w P Q W0.heap.size k k wx)
    case atStart =>
      have hpre := H.out
      exact ⟨0, by omega, rfl, rfl, (hpre.alloc _).alloc _, hpre.2.2.2.1.lt, hpre.2.2.2.2.1.lt, Blk.alloc (Blk.new _ _ _) _, Blk.new' _ _ _ (by simp)⟩
    case round =>
      clear H
      obtain ⟨k, hk, rfl, rfl, hI⟩ := hrel
      have HI := Lib.hid hI; clear hI
      by_cases hlt : k < 4
      · have cp := cell_e HI.out.1.2.2.2.1 k hlt
        have cq := cell_e HI.out.1.2.2.2.2.1 k hlt
        obtain ⟨z, cl⟩ := cell_l HI.out.2.2.2.1 k hlt
        have fl := HI.out.2.2.2.1.frozen k
        have ba := HA.out.1 k hlt
        have bb := HB.out.1 k hlt
        have BA := Lib.hid ba; clear ba
        have BB := Lib.hid bb; clear bb
        go_upto_region 9 with fail
        go_cut [14] from 45 to 55 (fun s14 wx => s14 = .int .i64 k ∧ AtInv a b (at_ a b n d) w P Q W0.heap.size (k + 1) k wx)
        case first =>
          refine wp_region_later_tail 11 (by kernel_rfl) (by kernel_rfl) ?_
          simp only [List.take_succ_cons, List.take_zero, List.drop_succ_cons, List.drop_zero]
          repeat (go_big_quiet_step ((go_at_call 176; exact Calls.later _ (mid_any (a.e k) (b.e k) n d _ BA.out.1 BA.out.2 BB.out.1 BB.out.2 HN.out.1 HN.out.2.1 HN.out.2.2.1 HN.out.2.2.2))))
          refine wpQuiet_nil ?_
          intro x
          go_wp2_with fail
          go_meet
          rw [at_e a b n d k hlt]
          exact ⟨rfl, AtInv.num HI.out hlt x⟩
        case rest =>
          clear cp cq cl fl BA BB HI
          obtain ⟨rfl, hI⟩ := hcut
          have HI := Lib.hid hI; clear hI
          have cp := cell_c HI.out.1.2.2.2.2.2.1 k hlt
          have cq := cell_c HI.out.1.2.2.2.2.2.2.1 k hlt
          obtain ⟨z', cl⟩ := cell_v HI.out.2.2.2.2 k hlt
          have fl := HI.out.2.2.2.2.frozen (4 + k)
          have BA := Lib.hid (HA.out.2 k hlt)
          have BB := Lib.hid (HB.out.2 k hlt)
          go_upto_region 10 with fail
          refine wp_region_later_tail 14 (by kernel_rfl) (by kernel_rfl) ?_
          simp only [List.take_succ_cons, List.take_zero, List.drop_succ_cons, List.drop_zero]
          repeat (go_big_quiet_step ((go_at_call 176; exact Calls.later _ (mid_any (a.c k) (b.c k) n d _ (Int.le_trans (by decide) BA.out.1) (Int.le_trans BA.out.2 (by decide)) (Int.le_trans (by decide) BB.out.1) (Int.le_trans BB.out.2 (by decide)) HN.out.1 HN.out.2.1 HN.out.2.2.1 HN.out.2.2.2))))
          refine wpQuiet_nil ?_
          intro x
          go_wp2_with fail
          go_roundg (4 - (k + 1))
          case measure => omega
          case rel =>
            rw [at_c a b n d k hlt]
            exact ⟨k + 1, by omega, rfl, by go_num, AtInv.col HI.out hlt x⟩
      · obtain rfl : k = 4 := by omega
        have L0 := HI.out.2.2.2.1.cell 0
        have L1 := HI.out.2.2.2.1.cell 1
        have L2 := HI.out.2.2.2.1.cell 2
        have L3 := HI.out.2.2.2.1.cell 3
        have V0 := HI.out.2.2.2.2.cell 0
        have V1 := HI.out.2.2.2.2.cell 1
        have V2 := HI.out.2.2.2.2.cell 2
        have V3 := HI.out.2.2.2.2.cell 3
        have F0 := HI.out.2.2.2.2.frozen 0
        have F1 := HI.out.2.2.2.2.frozen 1
        have F2 := HI.out.2.2.2.2.frozen 2
        have F3 := HI.out.2.2.2.2.frozen 3
        simp [lrow, vrow] at L0 L1 L2 L3 V0 V1 V2 V3
        go_upto_region 12 with fail
        go_cut [14] from 71 to 82 (fun _ wx => AtPre a b w wx P Q ∧ P < W0.heap.size ∧ Q < W0.heap.size ∧ Blk wx (W0.heap.size + 1) 149 (at_ a b n d).row)
        case first =>
          go_region_held3 (fun w' => w'.cell? ⟨W0.heap.size, 0, none⟩ = some (.int .i64 (at_ a b n d).x) ∧ w'.cell? ⟨W0.heap.size, 1, none⟩ = some (.int .i64 (at_ a b n d).y) ∧ w'.cell? ⟨W0.heap.size, 2, none⟩ = some (.int .i64 (at_ a b n d).z) ∧ w'.cell? ⟨W0.heap.size, 3, none⟩ = some (.int .i64 (at_ a b n d).w)) (go_keep) (fail)
          go_wp2_with fail
          go_meet
          refine ⟨?_, HI.out.2.1, HI.out.2.2.1, ?_⟩
          · have hP := HI.out.2.1
            have hQ := HI.out.2.2.1
            exact ((((HI.out.1.far (by omega) (by omega) _).far (by omega) (by omega) _).far (by omega) (by omega) _).far (by omega) (by omega) _).drew
          · exact ((((HI.out.2.2.2.2.set_ 0 _).set_ 1 _).set_ 2 _).set_ 3 _)
        case rest =>
          clear HI L0 L1 L2 L3 V0 V1 V2 V3 F0 F1 F2 F3
          obtain ⟨hp, hP, hQ, hV⟩ := hcut
          have HR := Lib.hid hp; clear hp
          have HV := Lib.hid hV; clear hV
          have V0 := HV.out.cell 0
          have V1 := HV.out.cell 1
          have V2 := HV.out.cell 2
          have V3 := HV.out.cell 3
          have V4 := HV.out.cell 4
          have V5 := HV.out.cell 5
          have V6 := HV.out.cell 6
          have V7 := HV.out.cell 7
          have R := HR.out.2.2.2.2.2.2.2.1
          have RB := Lib.hid R
          have R0 := R.cell 0
          have R1 := R.cell 1
          have R2 := R.cell 2
          have R3 := R.cell 3
          have R4 := R.cell 4
          have R5 := R.cell 5
          have R6 := R.cell 6
          have R7 := R.cell 7
          have F0 := R.frozen 0
          have F1 := R.frozen 1
          have F2 := R.frozen 2
          have F3 := R.frozen 3
          have F4 := R.frozen 4
          have F5 := R.frozen 5
          have F6 := R.frozen 6
          have F7 := R.frozen 7
          clear R
          simp at V0 V1 V2 V3 V4 V5 V6 V7 R0 R1 R2 R3 R4 R5 R6 R7
          go_wp2_with fail
          have RB8 := (((((((RB.out.set_ 0 (.int .i64 (at_ a b n d).x)).set_ 1 (.int .i64 (at_ a b n d).y)).set_ 2 (.int .i64 (at_ a b n d).z)).set_ 3 (.int .i64 (at_ a b n d).w)).set_ 4 (.int .i64 (at_ a b n d).c0)).set_ 5 (.int .i64 (at_ a b n d).c1)).set_ 6 (.int .i64 (at_ a b n d).c2)).set_ 7 (.int .i64 (at_ a b n d).c3)
          have q0 := RB8.cell 0
          have q1 := RB8.cell 1
          have q2 := RB8.cell 2
          have q3 := RB8.cell 3
          have q4 := RB8.cell 4
          have q5 := RB8.cell 5
          have q6 := RB8.cell 6
          have q7 := RB8.cell 7
          clear R0 R1 R2 R3 R4 R5 R6 R7 F0 F1 F2 F3 F4 F5 F6 F7 V0 V1 V2 V3 V4 V5 V6 V7
          simp at q0 q1 q2 q3 q4 q5 q6 q7
          have HE := HR.out.2.2.2.2.2.2.2.2
          refine bodyPost_ret (v := .tuple #[(at_ a b n d).v, .int .i64 0]) (by simp [results, Tryz.results129, q0, q1, q2, q3, q4, q5, q6, q7, go_sem]) rfl ⟨rfl, ?_⟩
          repeat (first | with_reducible exact HE | (with_reducible refine Ext.setCell ?_ _ ?hp; case hp => simp; omega))
end Go.Proofs.YtplljnfjkkloeaaGreatDoor
set_option linter.unusedVariables false
set_option linter.unusedSimpArgs false
namespace Go.Proofs.YtplljnfjkkloeaaGreatDoor
open Go.RowKit
def V0 : Vx := ⟨0, 0, 0, 0, 0, 0, 0, 0⟩
theorem cells8 {w : World} {g : Nat} {t : TypeId} {v : Vx} (h : Blk w g t v.row) : w.cell? ⟨g, 0, none⟩ = some (.int .i64 v.x) ∧ w.cell? ⟨g, 1, none⟩ = some (.int .i64 v.y) ∧ w.cell? ⟨g, 2, none⟩ = some (.int .i64 v.z) ∧ w.cell? ⟨g, 3, none⟩ = some (.int .i64 v.w) ∧
    w.cell? ⟨g, 4, none⟩ = some (.int .i64 v.c0) ∧ w.cell? ⟨g, 5, none⟩ = some (.int .i64 v.c1) ∧ w.cell? ⟨g, 6, none⟩ = some (.int .i64 v.c2) ∧ w.cell? ⟨g, 7, none⟩ = some (.int .i64 v.c3) :=
  ⟨h.cell 0, h.cell 1, h.cell 2, h.cell 3, h.cell 4, h.cell 5, h.cell 6, h.cell 7⟩
theorem frees8 {w : World} {g : Nat} {t : TypeId} {cs : Array Value} (h : Blk w g t cs) : w.frozen? ⟨g, 0, none⟩ = false ∧ w.frozen? ⟨g, 1, none⟩ = false ∧ w.frozen? ⟨g, 2, none⟩ = false ∧ w.frozen? ⟨g, 3, none⟩ = false ∧
    w.frozen? ⟨g, 4, none⟩ = false ∧ w.frozen? ⟨g, 5, none⟩ = false ∧ w.frozen? ⟨g, 6, none⟩ = false ∧ w.frozen? ⟨g, 7, none⟩ = false :=
  ⟨h.frozen 0, h.frozen 1, h.frozen 2, h.frozen 3, h.frozen 4, h.frozen 5, h.frozen 6, h.frozen 7⟩
theorem Blk.set8 {w : World} {g : Nat} {t : TypeId} {v : Vx} (h : Blk w g t v.row) (u : Vx) :
    Blk ((((((((w.setCell ⟨g, 0, none⟩ (.int .i64 u.x)).setCell ⟨g, 1, none⟩ (.int .i64 u.y)).setCell ⟨g, 2, none⟩ (.int .i64 u.z)).setCell ⟨g, 3, none⟩ (.int .i64 u.w)).setCell ⟨g, 4, none⟩ (.int .i64 u.c0)).setCell ⟨g, 5, none⟩ (.int .i64 u.c1)).setCell ⟨g, 6, none⟩ (.int .i64 u.c2)).setCell ⟨g, 7, none⟩ (.int .i64 u.c3)) g t u.row := by
  have h8 := (((((((h.set_ 0 (.int .i64 u.x)).set_ 1 (.int .i64 u.y)).set_ 2 (.int .i64 u.z)).set_ 3 (.int .i64 u.w)).set_ 4 (.int .i64 u.c0)).set_ 5 (.int .i64 u.c1)).set_ 6 (.int .i64 u.c2)).set_ 7 (.int .i64 u.c3)
  simpa using h8
def May (a b : Vx) (n d : Int) : Prop := a.Fit ∧ b.Fit ∧ 1 ≤ d ∧ 0 ≤ n ∧ n ≤ d
theorem at_may (a b : Vx) (n d : Int) (w : World) (h : May a b n d) (hd : d < 9223372036854775808) :
    Calls Tryz.prog 129 #[a.v, b.v, .int .i64 n, .int .i64 d] w fun e w' => e = .returned (.tuple #[(at_ a b n d).v, .int .i64 0]) ∧ Ext w w' := by
  obtain ⟨ha, hb, h1, h2, h3⟩ := h
  obtain ⟨D, rfl⟩ := Int.eq_ofNat_of_zero_le (show 0 ≤ d by omega)
  exact at_yes a b n D w ha hb h2 h3 (by omega) (by omega)
end Go.Proofs.YtplljnfjkkloeaaGreatDoor
set_option linter.unusedVariables false
set_option linter.unusedSimpArgs false
namespace Go.Proofs.YtplljnfjkkloeaaGreatDoor
open Go.RowKit
@[reducible] def Sd.row (s : Sd) : List Value := [.int .i64 s.k, .int .i64 s.p0, .int .i64 s.p1, .int .i64 s.p2, .int .i64 s.p3]
def srow (l : List Sd) : List Value := l.flatMap Sd.row
theorem srow_append (l m : List Sd) : srow (l ++ m) = srow l ++ srow m := by simp [srow]
theorem srow_one (l : List Sd) : ∀ u ∈ srow l, u.oneCell' = true := by
  intro u hu
  obtain ⟨s, _, hs⟩ := List.mem_flatMap.1 hu
  simp only [Sd.row, List.mem_cons, List.not_mem_nil, or_false] at hs
  rcases hs with rfl | rfl | rfl | rfl | rfl <;> rfl
theorem srow_get {l : List Sd} {j : Nat} {s : Sd} (h : l[j]? = some s) (i : Nat) (hi : i < 5) : (srow l)[j * 5 + i]? = s.row[i]? := by
  induction l generalizing j with
  | nil => simp at h
  | cons t l ih =>
    simp only [srow, List.flatMap_cons]
    cases j with
    | zero =>
      obtain rfl : t = s := by simpa using h
      rw [Nat.zero_mul, Nat.zero_add, List.getElem?_append_left (by simpa using hi)]
    | succ j =>
      rw [List.getElem?_append_right (by simp; omega), show (j + 1) * 5 + i - t.row.length = j * 5 + i by simp; omega]
      exact ih (by simpa using h)
theorem side_at {w : World} {b off n cap j : Nat} {l : List Sd} {s : Sd} (h : Rd w 5 (some ⟨b, off, none⟩) n cap (srow l)) (hs : l[j]? = some s) :
    w.cell? ⟨b, off + j * 5, none⟩ = some (.int .i64 s.k) ∧ w.cell? ⟨b, off + j * 5 + 1, none⟩ = some (.int .i64 s.p0) ∧ w.cell? ⟨b, off + j * 5 + 2, none⟩ = some (.int .i64 s.p1) ∧ w.cell? ⟨b, off + j * 5 + 3, none⟩ = some (.int .i64 s.p2) ∧ w.cell? ⟨b, off + j * 5 + 4, none⟩ = some (.int .i64 s.p3) :=
  ⟨h.get rfl ((srow_get hs 0 (by omega)).trans rfl), h.get rfl ((srow_get hs 1 (by omega)).trans rfl), h.get rfl ((srow_get hs 2 (by omega)).trans rfl), h.get rfl ((srow_get hs 3 (by omega)).trans rfl), h.get rfl ((srow_get hs 4 (by omega)).trans rfl)⟩
theorem cells5 {w : World} {g : Nat} {t : TypeId} {s : Sd} (h : Blk w g t s.row.toArray) : w.cell? ⟨g, 0, none⟩ = some (.int .i64 s.k) ∧ w.cell? ⟨g, 1, none⟩ = some (.int .i64 s.p0) ∧ w.cell? ⟨g, 2, none⟩ = some (.int .i64 s.p1) ∧ w.cell? ⟨g, 3, none⟩ = some (.int .i64 s.p2) ∧ w.cell? ⟨g, 4, none⟩ = some (.int .i64 s.p3) :=
  ⟨h.cell 0, h.cell 1, h.cell 2, h.cell 3, h.cell 4⟩
theorem srow_take {l : List Sd} {j : Nat} {s : Sd} (h : l[j]? = some s) (m : List Sd) : srow (m ++ l.take j) ++ s.row = srow (m ++ l.take (j + 1)) := by
  have hj := (List.getElem?_eq_some_iff.1 h).1
  have hs := (List.getElem?_eq_some_iff.1 h).2
  rw [List.take_succ_eq_append_getElem hj, hs, ← List.append_assoc, srow_append (m ++ l.take j)]
  simp [srow]
theorem info_side : (Tryz.prog.info? 38).map (fun i => (i.zero, i.size, i.bytes)) = some (some (.agg #[.int .i64 0, .int .i64 0, .int .i64 0, .int .i64 0, .int .i64 0]), 5, 40) := by kernel_rfl
def base3 (k : Nat) : List Sd := [⟨0, 0, 0, 0, 0⟩, ⟨if 1 < k then 1 else 0, 0, 0, 0, 0⟩, ⟨if 2 < k then 2 else 0, 0, 0, 0, 0⟩]
theorem made15 : ∀ n, n < 7 → (madeCells #[.int .i64 0, .int .i64 0, .int .i64 0, .int .i64 0, .int .i64 0] ((3 + n) * 5)).toList.take 15 = srow (base3 0)
  | 0, _ => by kernel_rfl
  | 1, _ => by kernel_rfl
  | 2, _ => by kernel_rfl
  | 3, _ => by kernel_rfl
  | 4, _ => by kernel_rfl
  | 5, _ => by kernel_rfl
  | 6, _ => by kernel_rfl
  | n + 7, h => by omega
theorem make_sides (n : Nat) (hn : n < 7) : ∃ cur : Array Value, ∀ w : World, (Instr.makeSlice 108 (.int .i64 3) (.int .i64 (3 + (n : Int)))).run Tryz.prog w = .ok (.slice (some ⟨w.heap.size, 0, none⟩) 3 (3 + n)) (w.alloc (.cells cur 38)) ∧
    (w.alloc (.cells cur 38)).ownsRow w.heap.size 38 5 (.slice (some ⟨w.heap.size, 0, none⟩) 3 (3 + n)) 3 (srow (base3 0)) := by
  obtain ⟨i0, hi, hz0, hz1, hz2⟩ := info_parts info_side
  refine ⟨madeCells #[.int .i64 0, .int .i64 0, .int .i64 0, .int .i64 0, .int .i64 0] ((3 + n) * 5), fun w => ⟨?_, ?_, .inr ⟨w.heap.size, 3 + n, _, rfl, Nat.le_refl _, heap_alloc_new w _, by omega, by unfold maxLen; omega, size_madeCells _ _, made15 n hn⟩⟩⟩
  · have h := run_make (P := Tryz.prog) w 108 38 i0 _ Tryz.underlying108 hi hz0 .i64 .i64 3 (3 + (n : Int)) (by omega) (by omega) (by rw [hz2]; omega) (by omega)
    rw [hz1, show (3 + (n : Int)).toNat = 3 + n by omega] at h
    exact h
  · rfl
theorem base_step (k : Nat) (hk : k < 3) : (srow (base3 k)).take (k * 5) ++ Value.int .i64 (k : Int) :: (srow (base3 k)).drop (k * 5 + 1) = srow (base3 (k + 1)) := by
  have : k = 0 ∨ k = 1 ∨ k = 2 := by omega
  rcases this with rfl | rfl | rfl <;> rfl
end Go.Proofs.YtplljnfjkkloeaaGreatDoor
set_option linter.unusedVariables false
set_option linter.unusedSimpArgs false
namespace Go.Proofs.YtplljnfjkkloeaaGreatDoor
open Go.RowKit
structure Ps where
  err : Int
  W : Int
  H : Int
  f0 : Int
  f1 : Int
  f2 : Int
  f3 : Int
  far : Int
  port : Rc
  mm : Int
  s0 : Sd
  s1 : Sd
  s2 : Sd
  s3 : Sd
  s4 : Sd
  s5 : Sd
  o0 : Bool
  o1 : Bool
  o2 : Bool
  o3 : Bool
  o4 : Bool
  o5 : Bool
  c0 : Int
  c1 : Int
  c2 : Int
  c3 : Int
  flag : Bool
  op : Bool
  mode : Int
  width : Int
  soft : Bool
  dashed : Bool
  dash : Da
  size : Int
  kind : Int
  front : Int
  back : Int
  ccw : Bool
  cull : Int
  offset : Bool
  factor : Int
  units : Int
  flat : Bool
  first : Bool
  cut : Bool
  box : Rc
  deep : Bool
  func : Int
  keep : Bool
  mix : Bool
  sf : Int
  df : Int
  k0 : Bool
  k1 : Bool
  k2 : Bool
  k3 : Bool
def Ps.row (s : Ps) (C Z M0 M1 V F : Value) : Array Value := #[.int .i64 s.err, .int .i64 s.W, .int .i64 s.H, C, Z, .int .i64 s.f0, .int .i64 s.f1, .int .i64 s.f2, .int .i64 s.f3, .int .i64 s.far, .int .i64 s.port.x0, .int .i64 s.port.y0, .int .i64 s.port.x1, .int .i64 s.port.y1, .int .i64 s.mm, M0, M1, .int .i64 s.s0.k, .int .i64 s.s0.p0, .int .i64 s.s0.p1, .int .i64 s.s0.p2, .int .i64 s.s0.p3, .int .i64 s.s1.k, .int .i64 s.s1.p0, .int .i64 s.s1.p1, .int .i64 s.s1.p2, .int .i64 s.s1.p3, .int .i64 s.s2.k, .int .i64 s.s2.p0, .int .i64 s.s2.p1, .int .i64 s.s2.p2, .int .i64 s.s2.p3, .int .i64 s.s3.k, .int .i64 s.s3.p0, .int .i64 s.s3.p1, .int .i64 s.s3.p2, .int .i64 s.s3.p3, .int .i64 s.s4.k, .int .i64 s.s4.p0, .int .i64 s.s4.p1, .int .i64 s.s4.p2, .int .i64 s.s4.p3, .int .i64 s.s5.k, .int .i64 s.s5.p0, .int .i64 s.s5.p1, .int .i64 s.s5.p2, .int .i64 s.s5.p3, .bool s.o0, .bool s.o1, .bool s.o2, .bool s.o3, .bool s.o4, .bool s.o5, .int .i64 s.c0, .int .i64 s.c1, .int .i64 s.c2, .int .i64 s.c3, .bool s.flag, .bool s.op, .int .i64 s.mode, V, F, .int .i64 s.width, .bool s.soft, .bool s.dashed, .int .i64 s.dash.bits, .int .i64 s.dash.every, .int .i64 s.dash.done, .int .i64 s.size, .int .i64 s.kind, .int .i64 s.front, .int .i64 s.back, .bool s.ccw, .int .i64 s.cull, .bool s.offset, .int .i64 s.factor, .int .i64 s.units, .bool s.flat, .bool s.first, .bool s.cut, .int .i64 s.box.x0, .int .i64 s.box.y0, .int .i64 s.box.x1, .int .i64 s.box.y1, .bool s.deep, .int .i64 s.func, .bool s.keep, .bool s.mix, .int .i64 s.sf, .int .i64 s.df, .bool s.k0, .bool s.k1, .bool s.k2, .bool s.k3]
structure Hp where
  C : List Int
  Z : List Int
  M : List Int
  N : List Int
  V : List Vx
  F : List Bool
structure Sl where
  c : Option Addr
  cc : Nat
  z : Option Addr
  cz : Nat
  a : Option Addr
  ca : Nat
  b : Option Addr
  cb : Nat
  v : Option Addr
  cv : Nat
  f : Option Addr
  cf : Nat
def Ps.cs (s : Ps) (p : Hp) (l : Sl) : Array Value := s.row (.slice l.c p.C.length l.cc) (.slice l.z p.Z.length l.cz) (.slice l.a 1 l.ca) (.slice l.b 1 l.cb) (.slice l.v p.V.length l.cv) (.slice l.f p.F.length l.cf)
@[reducible] def Vx.l8 (v : Vx) : List Value := [.int .i64 v.x, .int .i64 v.y, .int .i64 v.z, .int .i64 v.w, .int .i64 v.c0, .int .i64 v.c1, .int .i64 v.c2, .int .i64 v.c3]
def vxs (l : List Vx) : List Value := l.flatMap Vx.l8
def bos (l : List Bool) : List Value := l.map Value.bool
theorem vxs_get {l : List Vx} {j : Nat} {v : Vx} (h : l[j]? = some v) (i : Nat) (hi : i < 8) : (vxs l)[j * 8 + i]? = v.l8[i]? := frow_get (f := Vx.l8) (K := 8) (fun _ => rfl) h i hi
theorem vxs_at {w : World} {b off n cap j : Nat} {l : List Vx} {v : Vx} (h : Rd w 8 (some ⟨b, off, none⟩) n cap (vxs l)) (hs : l[j]? = some v) :
    w.cell? ⟨b, off + j * 8, none⟩ = some (.int .i64 v.x) ∧ w.cell? ⟨b, off + j * 8 + 1, none⟩ = some (.int .i64 v.y) ∧ w.cell? ⟨b, off + j * 8 + 2, none⟩ = some (.int .i64 v.z) ∧ w.cell? ⟨b, off + j * 8 + 3, none⟩ = some (.int .i64 v.w) ∧
    w.cell? ⟨b, off + j * 8 + 4, none⟩ = some (.int .i64 v.c0) ∧ w.cell? ⟨b, off + j * 8 + 5, none⟩ = some (.int .i64 v.c1) ∧ w.cell? ⟨b, off + j * 8 + 6, none⟩ = some (.int .i64 v.c2) ∧ w.cell? ⟨b, off + j * 8 + 7, none⟩ = some (.int .i64 v.c3) :=
  ⟨h.get rfl ((vxs_get hs 0 (by omega)).trans rfl), h.get rfl ((vxs_get hs 1 (by omega)).trans rfl), h.get rfl ((vxs_get hs 2 (by omega)).trans rfl), h.get rfl ((vxs_get hs 3 (by omega)).trans rfl),
   h.get rfl ((vxs_get hs 4 (by omega)).trans rfl), h.get rfl ((vxs_get hs 5 (by omega)).trans rfl), h.get rfl ((vxs_get hs 6 (by omega)).trans rfl), h.get rfl ((vxs_get hs 7 (by omega)).trans rfl)⟩
structure Lies (s : Ps) (p : Hp) (l : Sl) (w : World) : Prop where
  c : Rd w 1 l.c p.C.length l.cc (ivs p.C)
  z : Rd w 1 l.z p.Z.length l.cz (ivs p.Z)
  k : Stk w s.mm l.a l.b l.ca l.cb p.M p.N
  v : Rd w 8 l.v p.V.length l.cv (vxs p.V)
  f : Rd w 1 l.f p.F.length l.cf (bos p.F)
theorem Lies.ext {s : Ps} {p : Hp} {l : Sl} {w w' : World} (h : Lies s p l w) (e : Ext w w') : Lies s p l w' := ⟨h.c.ext e, h.z.ext e, h.k.ext e, h.v.ext e, h.f.ext e⟩
theorem Ps.cs_one (s : Ps) (p : Hp) (l : Sl) : ∀ u ∈ (s.cs p l).toList, u.oneCell' = true := by
  intro u hu
  simp only [Ps.cs, Ps.row, List.mem_cons, List.not_mem_nil, or_false] at hu
  repeat (first | (rcases hu with rfl | hu; · rfl) | (subst hu; rfl))
theorem agg_pipe (W : World) : (isAgg 53).run Tryz.prog W = .ok true W := by kernel_rfl
theorem size_pipe : (Tryz.prog.info? 53).map (·.size) = some 94 := by kernel_rfl
end Go.Proofs.YtplljnfjkkloeaaGreatDoor
