/- Proof text: an image cleared (store.Clear), all of it. By an AI agent. No condition beyond what each theorem states. -/
import Derived.Test.YtplljnfjkkloeaaGreatDoorGF
set_option linter.unusedVariables false
set_option linter.unusedSimpArgs false
set_option maxHeartbeats 8000000
namespace Go.Proofs.YtplljnfjkkloeaaGreatDoor
attribute [local go_sem] Go.Oper.semAt_some
open Go.RowKit
def front (C : List Int) (v : Int) (j : Nat) : List Int := List.replicate j v ++ C.drop j
theorem front_len {C : List Int} {v : Int} {j : Nat} (h : j ≤ C.length) : (front C v j).length = C.length := by
 unfold front
 rw [List.length_append, List.length_replicate, List.length_drop]
 omega
theorem front_set {C : List Int} {v : Int} {j : Nat} (h : j < C.length) : (front C v j).set j v = front C v (j + 1) := by
 unfold front
 rw [List.set_append_right _ _ (by simp), List.length_replicate, Nat.sub_self, List.replicate_succ', List.append_assoc]
 rw [List.drop_eq_getElem_cons h, List.set_cons_zero]
 rfl
theorem front_get {C : List Int} {v : Int} {j : Nat} (h : j < C.length) : (front C v j).getD j 0 = C.getD j 0 := by
 unfold front
 simp only [List.getD_eq_getElem?_getD]
 rw [List.getElem?_append_right (by simp), List.length_replicate, Nat.sub_self, List.getElem?_drop, Nat.add_zero]
theorem front_zero (C : List Int) (v : Int) : front C v 0 = C := by simp [front]
theorem front_all (C : List Int) (v : Int) : front C v C.length = List.replicate C.length v := by simp [front]
structure Cle (w wx : World) (W H n O X Y : Nat) (m : Array Value) (r : Rc) (c : C4) (C Z : List Int) : Prop where
 m : Blk wx w.heap.size 28 m
 r : Blk wx (w.heap.size + 1) 48 r.row
 c : Blk wx (w.heap.size + 2) 30 #[.int .i64 c.a, .int .i64 c.b, .int .i64 c.c, .int .i64 c.d]
 k : Blk wx (w.heap.size + 3) 49 #[.bool true, .bool true, .bool true, .bool true]
 q : Blk wx (w.heap.size + 4) 28 #[.int .i64 0, .int .i64 0, .slice none 0 0, .slice none 0 0]
 o : Blk wx O 28 #[.int .i64 (W : Int), .int .i64 (H : Int), .slice (some ⟨X, 0, none⟩) n n, .slice (some ⟨Y, 0, none⟩) n n]
 x : Blk wx X 3 (irow C)
 y : Blk wx Y 3 (irow Z)
 e : Ext w wx
 ne : X ≠ Y ∧ O ≠ X ∧ O ≠ Y
 lt : w.heap.size + 4 < X ∧ w.heap.size + 4 < Y ∧ w.heap.size + 4 < O
section
variable {w wx wy : World} {W H n O X Y : Nat} {m : Array Value} {r : Rc} {c : C4} {C Z : List Int}
theorem Cle.ext (h : Cle w wx W H n O X Y m r c C Z) (e : Ext wx wy) : Cle w wy W H n O X Y m r c C Z :=
 ⟨h.m.ext e, h.r.ext e, h.c.ext e, h.k.ext e, h.q.ext e, h.o.ext e, h.x.ext e, h.y.ext e, h.e.trans e, h.ne, h.lt⟩
theorem Cle.setX (h : Cle w wx W H n O X Y m r c C Z) (i : Nat) (v : Int) : Cle w (wx.setCell ⟨X, i, none⟩ (.int .i64 v)) W H n O X Y m r c (C.set i v) Z := by
 obtain ⟨n1, n2, n3⟩ := h.ne
 obtain ⟨l1, l2, l3⟩ := h.lt
 have hx := h.x.set_ i (.int .i64 v)
 rw [irow_set] at hx
 exact ⟨h.m.far (by simp; omega) _, h.r.far (by simp; omega) _, h.c.far (by simp; omega) _, h.k.far (by simp; omega) _, h.q.far (by simp; omega) _, h.o.far n2 _, hx, h.y.far n1.symm _, h.e.setCell _ (by simp; omega), h.ne, h.lt⟩
theorem Cle.setY (h : Cle w wx W H n O X Y m r c C Z) (i : Nat) (v : Int) : Cle w (wx.setCell ⟨Y, i, none⟩ (.int .i64 v)) W H n O X Y m r c C (Z.set i v) := by
 obtain ⟨n1, n2, n3⟩ := h.ne
 obtain ⟨l1, l2, l3⟩ := h.lt
 have hx := h.y.set_ i (.int .i64 v)
 rw [irow_set] at hx
 exact ⟨h.m.far (by simp; omega) _, h.r.far (by simp; omega) _, h.c.far (by simp; omega) _, h.k.far (by simp; omega) _, h.q.far (by simp; omega) _, h.o.far n3 _, h.x.far n1 _, hx, h.e.setCell _ (by simp; omega), h.ne, h.lt⟩
end
set_option maxRecDepth 100000 in
theorem clear_all (W H : Nat) (c : C4) (z : Int) (C Z : List Int) (n : Nat) (A B : Option Addr) (ca cb : Nat) (w : World) (hn : W * H = n) (hC : C.length = n) (hZ : Z.length = n) (w0 : 1 ≤ W) (h0 : 1 ≤ H) (w1 : W ≤ 1024) (h1 : H ≤ 1024) (hc : c.Ok) (hr : ∀ v ∈ C, 0 ≤ v ∧ v < 4294967296)
  (ra : Rd w 1 A n ca (ivs C)) (rb : Rd w 1 B n cb (ivs Z)) :
  Calls Tryz.prog 103 #[.agg #[.int .i64 (W : Int), .int .i64 (H : Int), .slice A n ca, .slice B n cb], Rc.v ⟨0, 0, W, H⟩, .int .i64 3, c.v, .int .i64 z, .agg #[.bool true, .bool true, .bool true, .bool true]] w
   (CopyP w W H n (List.replicate n (pk c.a c.b c.c c.d)) (List.replicate n z)) := by
 have hn1 : n ≤ 1048576 := by rw [← hn]; exact mul_le W H w1 h1
 have hn0 : 0 < n := by rw [← hn]; exact Nat.mul_pos w0 h0
 have hR : (Rc.mk 0 0 W H).Ok := by unfold Rc.Ok; simp only; omega
 have HCP := Lib.hid (fun wz e => copy_any W H C Z n A B ca cb wz hC hZ hn0 hn1 (ra.ext (w' := wz) e) (rb.ext e))
 have HBX := Lib.hid (fun wz => box_any W H (.slice A n ca) (.slice B n cb) wz)
 have HAN : Hid (∀ wz, Calls Tryz.prog 35 #[Rc.v ⟨0, 0, W, H⟩, Rc.v ⟨0, 0, W, H⟩] wz fun e w' => e = .returned (Rc.v ⟨0, 0, W, H⟩) ∧ Ext wz w') := Lib.hid (fun wz => by
  have := and_yes ⟨0, 0, W, H⟩ ⟨0, 0, W, H⟩ wz hR hR (by have := hR; unfold Rc.and; simpa using this)
  have e : (Rc.mk 0 0 W H).and ⟨0, 0, W, H⟩ = ⟨0, 0, W, H⟩ := by unfold Rc.and; simp
  rwa [e] at this)
 obtain ⟨pk0, pk1⟩ := pk_range hc
 obtain ⟨q, hq⟩ := Int.eq_ofNat_of_zero_le pk0
 rw [hq] at pk1
 have HPK : Hid (∀ wz, Calls Tryz.prog 155 #[.agg #[.int .i64 c.a, .int .i64 c.b, .int .i64 c.c, .int .i64 c.d]] wz fun e w' => e = .returned (.int .i64 (q : Int)) ∧ Ext wz w') := Lib.hid (fun wz => by rw [← hq]; exact pack_int c wz hc)
 rw [hq]
 have HBI := Lib.hid bits_all
 have hmod : ((q : Nat) : Int) % 4294967296 = q := by omega
 have HLC := Lib.hid hC
 have HLZ := Lib.hid hZ
 have HRN := Lib.hid hr
 have HN := Lib.hid hn
 clear hC hZ hr hn ra rb hc hq hR pk0
 go_enter Tryz.func103, Tryz.ntmps103
 go_upto_region 1 with fail
 go_wp2_with fail
 refine (HCP.out _ (by (repeat (first | with_reducible (first | exact eR_ _ | assumption | refine eA_ ?_ _ | refine eD_ ?_ | refine eN_ ?_ _ | refine eL_ ?_ _) | (with_reducible refine eS_ ?_ _ ?hp; case hp => first | (simp; done) | (simp; omega) | omega))))).mono ?_
 rintro e w1 ⟨X, Y, rfl, hx, hy, hxy, lx, ly, hE⟩
 obtain ⟨x1, rfl⟩ := Later.mk' hE
 clear hE
 simp at lx ly
 have hs1 := x1.le
 simp at hs1
 have HL0 : Hid (Cle w (x1.w.alloc (.cells #[.int .i64 (W : Int), .int .i64 (H : Int), .slice (some ⟨X, 0, none⟩) n n, .slice (some ⟨Y, 0, none⟩) n n] 28)) W H n x1.w.heap.size X Y #[.int .i64 (W : Int), .int .i64 (H : Int), .slice A n ca, .slice B n cb] ⟨0, 0, W, H⟩ c C Z) :=
  Lib.hid ⟨by (repeat (first | with_reducible exact Hid.out (by assumption) | (with_reducible refine Blk.new' _ _ _ ?_; (simp; done)) | with_reducible (first | refine Blk.alloc ?_ _ | refine Blk.drew ?_ | refine Blk.drewN ?_ _ | refine Blk.later ?_ _) | (with_reducible refine Blk.far ?_ ?hp _; case hp => first | (simp; done) | (simp; omega) | omega))), by (repeat (first | with_reducible exact Hid.out (by assumption) | (with_reducible refine Blk.new' _ _ _ ?_; (simp; done)) | with_reducible (first | refine Blk.alloc ?_ _ | refine Blk.drew ?_ | refine Blk.drewN ?_ _ | refine Blk.later ?_ _) | (with_reducible refine Blk.far ?_ ?hp _; case hp => first | (simp; done) | (simp; omega) | omega))), by (repeat (first | with_reducible exact Hid.out (by assumption) | (with_reducible refine Blk.new' _ _ _ ?_; (simp; done)) | with_reducible (first | refine Blk.alloc ?_ _ | refine Blk.drew ?_ | refine Blk.drewN ?_ _ | refine Blk.later ?_ _) | (with_reducible refine Blk.far ?_ ?hp _; case hp => first | (simp; done) | (simp; omega) | omega))), by (repeat (first | with_reducible exact Hid.out (by assumption) | (with_reducible refine Blk.new' _ _ _ ?_; (simp; done)) | with_reducible (first | refine Blk.alloc ?_ _ | refine Blk.drew ?_ | refine Blk.drewN ?_ _ | refine Blk.later ?_ _) | (with_reducible refine Blk.far ?_ ?hp _; case hp => first | (simp; done) | (simp; omega) | omega))), by (repeat (first | with_reducible exact Hid.out (by assumption) | (with_reducible refine Blk.new' _ _ _ ?_; (simp; done)) | with_reducible (first | refine Blk.alloc ?_ _ | refine Blk.drew ?_ | refine Blk.drewN ?_ _ | refine Blk.later ?_ _) | (with_reducible refine Blk.far ?_ ?hp _; case hp => first | (simp; done) | (simp; omega) | omega))), by (repeat (first | with_reducible exact Hid.out (by assumption) | (with_reducible refine Blk.new' _ _ _ ?_; (simp; done)) | with_reducible (first | refine Blk.alloc ?_ _ | refine Blk.drew ?_ | refine Blk.drewN ?_ _ | refine Blk.later ?_ _) | (with_reducible refine Blk.far ?_ ?hp _; case hp => first | (simp; done) | (simp; omega) | omega))), hx.alloc _, hy.alloc _, by (repeat (first | with_reducible (first | exact eR_ _ | assumption | refine eA_ ?_ _ | refine eD_ ?_ | refine eN_ ?_ _ | refine eL_ ?_ _) | (with_reducible refine eS_ ?_ _ ?hp; case hp => first | (simp; done) | (simp; omega) | omega))), ⟨hxy, fun h => by have := hx.lt; omega, fun h => by have := hy.lt; omega⟩, ⟨by omega, by omega, by omega⟩⟩
 clear hx hy hxy lx ly hs1
 go_upto_region 2 with fail
 generalize x1.w.alloc (.cells #[.int .i64 (W : Int), .int .i64 (H : Int), .slice (some ⟨X, 0, none⟩) n n, .slice (some ⟨Y, 0, none⟩) n n] 28) = W1 at *
 generalize x1.w.heap.size = O at *
 have cm := HL0.out.m.c4
 have cr := HL0.out.r.c4
 refine wp_region_later_tail 4 (by kernel_rfl) (by kernel_rfl) ?_
 simp only [List.take_succ_cons, List.take_zero, List.drop_succ_cons, List.drop_zero]
 repeat (go_big_quiet_step ((first | (first | (go_at_call 34; with_reducible exact Calls.later _ (HBX.out _)) | (go_at_call 35; with_reducible exact Calls.later _ (HAN.out _))) | fail)))
 refine wpQuiet_nil ?_
 intro y1
 have HL1 := Lib.hid (HL0.out.ext y1.ext)
 clear HL0 HCP HBX HAN cm cr
 generalize y1.w = W2 at *
 have fr := HL1.out.r.f4
 have cr := HL1.out.r.c4
 go_upto_region 3 with fail
 have HL2 : Hid (Cle w ((((W2.setCell ⟨w.heap.size + 1, 0, none⟩ (.int .i64 0)).setCell ⟨w.heap.size + 1, 1, none⟩ (.int .i64 0)).setCell ⟨w.heap.size + 1, 2, none⟩ (.int .i64 (W : Int))).setCell ⟨w.heap.size + 1, 3, none⟩ (.int .i64 (H : Int))) W H n O X Y #[.int .i64 (W : Int), .int .i64 (H : Int), .slice A n ca, .slice B n cb] ⟨0, 0, W, H⟩ c C Z) := Lib.hid (by
  have h := HL1.out
  obtain ⟨l1, l2, l3⟩ := h.lt
  have kk : Kp (· ≠ w.heap.size + 1) W2 ((((W2.setCell ⟨w.heap.size + 1, 0, none⟩ (.int .i64 0)).setCell ⟨w.heap.size + 1, 1, none⟩ (.int .i64 0)).setCell ⟨w.heap.size + 1, 2, none⟩ (.int .i64 (W : Int))).setCell ⟨w.heap.size + 1, 3, none⟩ (.int .i64 (H : Int))) :=
   ((((Kp.refl _ _).setCell (p := ⟨w.heap.size + 1, 0, none⟩) _ (fun h => h rfl)).setCell (p := ⟨w.heap.size + 1, 1, none⟩) _ (fun h => h rfl)).setCell (p := ⟨w.heap.size + 1, 2, none⟩) _ (fun h => h rfl)).setCell (p := ⟨w.heap.size + 1, 3, none⟩) _ (fun h => h rfl)
  exact ⟨h.m.kp kk (by omega), h.r.s4 _ _ _ _, h.c.kp kk (by omega), h.k.kp kk (by omega), h.q.kp kk (by omega), h.o.kp kk (by omega), h.x.kp kk (by omega), h.y.kp kk (by omega), kk.ext h.e (fun j hj => by omega), h.ne, h.lt⟩)
 clear HL1 cr fr
 generalize (((W2.setCell ⟨w.heap.size + 1, 0, none⟩ (.int .i64 0)).setCell ⟨w.heap.size + 1, 1, none⟩ (.int .i64 0)).setCell ⟨w.heap.size + 1, 2, none⟩ (.int .i64 (W : Int))).setCell ⟨w.heap.size + 1, 3, none⟩ (.int .i64 (H : Int)) = W3 at *
 have ck := HL2.out.k.c4
 go_wp2_with fail
 refine (HBI.out _).mono ?_
 rintro e w1 ⟨rfl, hE⟩
 obtain ⟨a1, rfl⟩ := Later.mk' hE
 clear hE
 have HL3 := Lib.hid (HL2.out.ext a1.ext)
 clear HL2 ck HBI
 generalize a1.w = W4 at *
 have cc := HL3.out.c.c4
 go_wp2_with fail
 refine (HPK.out _).mono ?_
 rintro e w1 ⟨rfl, hE⟩
 obtain ⟨a2, rfl⟩ := Later.mk' hE
 clear hE
 have HL4 := Lib.hid (HL3.out.ext a2.ext)
 clear HL3 cc HPK
 generalize a2.w = W5 at *
 have cr := HL4.out.r.c4
 go_upto_region 6 with fail
 have HL5 : Hid (Cle w W5 W H n O X Y #[.int .i64 (W : Int), .int .i64 (H : Int), .slice A n ca, .slice B n cb] ⟨0, 0, W, H⟩ c (front C q (0 * W)) (front Z z (0 * W))) := Lib.hid (by rw [Nat.zero_mul, front_zero, front_zero]; exact HL4.out)
 clear HL4 cr
 go_wp2_with fail
 go_loopg [16] H (fun g i wx => ∃ k : Nat, k ≤ H ∧ g = H - k ∧ i = .int .i64 k ∧ Hid (Cle w wx W H n O X Y #[.int .i64 (W : Int), .int .i64 (H : Int), .slice A n ca, .slice B n cb] ⟨0, 0, W, H⟩ c (front C q (k * W)) (front Z z (k * W))))
 case atStart => exact ⟨0, by omega, rfl, rfl, HL5⟩
 case round =>
  clear HL5
  obtain ⟨k, hk, rfl, rfl, HL⟩ := hrel
  have cr := HL.out.r.c4
  by_cases hlt : k < H
  ·obtain ⟨p, hp⟩ : ∃ p, p = k * W := ⟨_, rfl⟩
   have hpn : p + W ≤ n := by rw [hp, ← HN.out, ← Nat.succ_mul, Nat.mul_comm W H]; exact Nat.mul_le_mul_right _ hlt
   rw [← hp] at HL
   have HP := Lib.hid hp
   have hmul : IntKind.i64.wrap ((k : Int) * (W : Int)) = (p : Int) := by
    rw [show (k : Int) * (W : Int) = (p : Int) by rw [hp]; simp]
    exact IntWalk.i64_in _ (by omega)
   have hp0 : IntKind.i64.wrap ((p : Int)) = (p : Int) := IntWalk.i64_in _ (by omega)
   have hpw : IntKind.i64.wrap ((p : Int) + (W : Int)) = ((p + W : Nat) : Int) := by
    rw [show (p : Int) + (W : Int) = ((p + W : Nat) : Int) by simp]
    exact IntWalk.i64_in _ (by omega)
   clear hp
   have cm := HL.out.m.c4
   have co := HL.out.o.c4
   go_upto_region 8 with fail
   refine wp_region_later (by kernel_rfl) (by kernel_rfl) ?_
   repeat (go_big_quiet_step ((first | fail | fail)))
   refine wpQuiet_nil ?_
   intro y1
   have HL1 := Lib.hid (HL.out.ext y1.ext)
   clear HL cm co cr hmul hp0 hpw
   generalize y1.w = V1 at *
   simp only [Nat.add_sub_cancel_left]
   go_wp2_with fail
   go_loopg [76] W (fun g i wx => ∃ j : Nat, j ≤ W ∧ g = W - j ∧ i = .int .i64 j ∧ Hid (Cle w wx W H n O X Y #[.int .i64 (W : Int), .int .i64 (H : Int), .slice A n ca, .slice B n cb] ⟨0, 0, W, H⟩ c (front C q (p + j)) (front Z z (p + j))))
   case atStart => exact ⟨0, by omega, rfl, rfl, HL1⟩
   case round =>
    clear HL1
    obtain ⟨j, hj, rfl, rfl, HL⟩ := hrel
    by_cases hlt2 : j < W
    ·have hpj : p + j < n := by omega
     have hlc := HLC.out
     have hlz := HLZ.out
     have hcm : C.getD (p + j) 0 ∈ C := by
      rw [List.getD_eq_getElem?_getD, List.getElem?_eq_getElem (by omega)]
      exact List.getElem_mem _
     have hcr := HRN.out _ hcm
     obtain ⟨old, hold, hold2⟩ : ∃ old : Nat, C.getD (p + j) 0 = old ∧ old < 4294967296 := ⟨(C.getD (p + j) 0).toNat, by omega, by omega⟩
     have cX : wr.cell? ⟨X, p + j, none⟩ = some (.int .i64 (old : Int)) := by
      rw [← hold, ← front_get (v := (q : Int)) (show p + j < C.length by omega)]
      exact (HL.out.x.cell _).trans (irow_get (by rw [front_len (by omega)]; omega))
     have cY : wr.cell? ⟨Y, p + j, none⟩ = some (.int .i64 (Z.getD (p + j) 0)) := by
      rw [← front_get (v := z) (show p + j < Z.length by omega)]
      exact (HL.out.y.cell _).trans (irow_get (by rw [front_len (by omega)]; omega))
     have fX := HL.out.x.frozen (p + j)
     have fY := HL.out.y.frozen (p + j)
     have hnot := andNot32 old hold2
     have hor := or0 q (by omega)
     have nxy : ¬ (X = Y) := HL.out.ne.1
     have nyx : ¬ (Y = X) := fun h => nxy h.symm
     clear hlc hlz hcm hcr hold
     go_wp2_with fail
     go_roundg (W - (j + 1))
     case measure => omega
     case rel =>
      have h1 := HL.out.setX (p + j) q
      have h2 := h1.setY (p + j) z
      rw [front_set (by have := HLC.out; omega), front_set (by have := HLZ.out; omega)] at h2
      exact ⟨j + 1, by omega, rfl, by go_num, Lib.hid h2⟩
    ·obtain rfl : j = W := by omega
     go_wp2_with fail
     go_roundg (H - (k + 1))
     case measure => omega
     case rel =>
      exact ⟨k + 1, by omega, rfl, by go_num, by rw [Nat.succ_mul, ← HP.out]; exact HL⟩
  ·obtain rfl : k = H := by omega
   have hkn : k * W = n := by rw [← HN.out, Nat.mul_comm]
   have hlc := HLC.out
   have hlz := HLZ.out
   have HLF : Hid (Cle w wr W k n O X Y #[.int .i64 (W : Int), .int .i64 (k : Int), .slice A n ca, .slice B n cb] ⟨0, 0, W, k⟩ c (List.replicate n q) (List.replicate n z)) := Lib.hid (by
    have h := HL.out
    rw [hkn] at h
    have e1 := front_all C (q : Int)
    have e2 := front_all Z z
    rw [hlc] at e1
    rw [hlz] at e2
    rwa [e1, e2] at h)
   clear HL hkn hlc hlz
   have co := HLF.out.o.c4
   have cq := HLF.out.q.c4
   have fq := HLF.out.q.f4
   go_wp2_with fail
   obtain ⟨l1, l2, l3⟩ := HLF.out.lt
   have HS := HLF.out.q.s4 (.int .i64 (W : Int)) (.int .i64 (k : Int)) (.slice (some ⟨X, 0, none⟩) n n) (.slice (some ⟨Y, 0, none⟩) n n)
   obtain ⟨s0, s1, s2, s3⟩ := HS.c4
   have kk : Kp (· ≠ w.heap.size + 4) wr ((((wr.setCell ⟨w.heap.size + 4, 0, none⟩ (.int .i64 (W : Int))).setCell ⟨w.heap.size + 4, 1, none⟩ (.int .i64 (k : Int))).setCell ⟨w.heap.size + 4, 2, none⟩ (.slice (some ⟨X, 0, none⟩) n n)).setCell ⟨w.heap.size + 4, 3, none⟩ (.slice (some ⟨Y, 0, none⟩) n n)) :=
    ((((Kp.refl _ _).setCell (p := ⟨w.heap.size + 4, 0, none⟩) _ (fun h => h rfl)).setCell (p := ⟨w.heap.size + 4, 1, none⟩) _ (fun h => h rfl)).setCell (p := ⟨w.heap.size + 4, 2, none⟩) _ (fun h => h rfl)).setCell (p := ⟨w.heap.size + 4, 3, none⟩) _ (fun h => h rfl)
   refine bodyPost_ret (v := .agg #[.int .i64 (W : Int), .int .i64 (k : Int), .slice (some ⟨X, 0, none⟩) n n, .slice (some ⟨Y, 0, none⟩) n n]) (by simp [results, Tryz.results103, go_sem, s0, s1, s2, s3]) rfl ⟨X, Y, rfl, HLF.out.x.kp kk (by omega), HLF.out.y.kp kk (by omega), HLF.out.ne.1, by omega, by omega, kk.ext HLF.out.e (fun j hj => by omega)⟩
end Go.Proofs.YtplljnfjkkloeaaGreatDoor
set_option linter.unusedVariables false
set_option linter.unusedSimpArgs false
namespace Go.Proofs.YtplljnfjkkloeaaGreatDoor
attribute [local go_sem] Go.Oper.semAt_some
open Go.RowKit
def unitM : List Int := [65536, 0, 0, 0, 0, 65536, 0, 0, 0, 0, 65536, 0, 0, 0, 0, 65536]
theorem agg_mat (W : World) : (isAgg 188).run Tryz.prog W = .ok true W := by kernel_rfl
theorem size_mat : (Tryz.prog.info? 188).map (·.size) = some 16 := by kernel_rfl
theorem extract_mat {M : List Int} (h : M.length = 16) : (irow M).extract 0 (0 + 16) = irow M := by
 have := irow_size M
 rw [show 0 + 16 = (irow M).size by omega, Array.extract_size]
theorem load_mat {w : World} {g : Nat} {M : List Int} (hb : Blk w g 188 (irow M)) (h : M.length = 16) : (loadVar 188 ⟨g, 0, none⟩).run Tryz.prog w = .ok (.agg (irow M)) w := by
 have := run_load_blk (P := Tryz.prog) hb 188 0 16 agg_mat size_mat (by rw [irow_size, h]; exact Nat.le_refl _)
 rwa [extract_mat h] at this
set_option maxRecDepth 100000 in
theorem unit_any (w : World) : Calls Tryz.prog 92 #[] w fun e w' => e = .returned (.agg (irow unitM)) ∧ Ext w w' := by
 go_enter Tryz.func92, Tryz.ntmps92
 go_wp2_with fail
 refine wp_loop_rounds 5 ?_
 rw [rounds_succ]
 go_wp2_with fail
 rw [rounds_succ]
 go_wp2_with fail
 rw [rounds_succ]
 go_wp2_with fail
 rw [rounds_succ]
 go_wp2_with fail
 rw [rounds_succ]
 go_wp2_with fail
 have hb : Blk ((w.alloc (.cells (irow unitM) 188)).alloc (.cells (irow unitM) 188)) w.heap.size 188 (irow unitM) := (Blk.new _ _ _).alloc _
 have hl := load_mat hb rfl
 refine bodyPost_ret (v := .agg (irow unitM)) ?_ rfl ⟨rfl, ((Ext.refl w).alloc _).alloc _⟩
 simp only [results, Tryz.results92]
 simp [asAddr, Result.andThen]
 exact hl
theorem far_any (n m : Int) (w : World) (n0 : -4611686018427387904 ≤ n) (n1 : n ≤ 4611686018427387904) (m0 : 0 ≤ m) (m1 : m ≤ 4611686018427387904) (h : -m ≤ n ∧ n ≤ m) : Calls Tryz.prog 205 #[.int .i64 n, .int .i64 m] w fun e w' => e = .returned (.bool false) ∧ w = w' := by
 obtain ⟨h0, h1⟩ := h
 have d1 : decide (n > m) = false := by simp; omega
 have d2 : decide (n < -m) = false := by simp; omega
 go_enter Tryz.func205, Tryz.ntmps205
 go_wp2_with fail
 go_ret
 exact ⟨rfl, rfl⟩
theorem run_index_mat (M : List Int) (hM : M.length = 16) (w : World) {k : Nat} (hk : k < 16) : (Instr.index 188 (.agg (irow M)) (.int .i64 (k : Int))).run Tryz.prog w = .ok (.int .i64 (M.getD k 0)) w := by
 have hg := irow_get (C := M) (i := k) (by omega)
 have hk2 : (k : Int) < 16 := by omega
 simp [Instr.index, asIntOf, run_underlying Tryz.underlying188, hk2, part, go_sem, Tryz.sizeOf3, Tryz.isAgg3, hg]
 intro h
 omega
structure MatOk (M : List Int) : Prop where
 len : M.length = 16
 in_ : ∀ k, k < 16 → -268435456 ≤ M.getD k 0 ∧ M.getD k 0 ≤ 268435456
set_option maxRecDepth 100000 in
theorem mright_any (M : List Int) (w : World) (h : MatOk M) : Calls Tryz.prog 161 #[.agg (irow M)] w fun e w' => e = .returned (.bool true) ∧ Ext w w' := by
 have HM := Lib.hid h
 clear h
 go_enter Tryz.func161, Tryz.ntmps161
 go_upto_region 1 with fail
 have HB : Hid (Blk (w.alloc (.cells (irow M) 188)) w.heap.size 188 (irow M)) := Lib.hid (Blk.new _ _ _)
 have HE : Hid (Ext w (w.alloc (.cells (irow M) 188))) := Lib.hid ((Ext.refl w).alloc _)
 generalize w.alloc (.cells (irow M) 188) = W1 at *
 go_wp2_with (refine wpList_load_blk rfl (.tmp 1) 188 rfl 0 rfl HB.out 16 agg_mat size_mat (by rw [irow_size, HM.out.len]; exact Nat.le_refl _) (irow M) (extract_mat HM.out.len) ?_)
 go_loopg [6] 16 (fun g i wx => ∃ k : Nat, k ≤ 16 ∧ g = 16 - k ∧ i = .int .i64 k ∧ Hid (wx = W1))
 case atStart => exact ⟨0, by omega, rfl, rfl, Lib.hid rfl⟩
 case round =>
  obtain ⟨k, hk, rfl, rfl, HW⟩ := hrel
  have hw := HW.out
  subst hw
  by_cases hlt : k < 16
  ·have hx := fun w => run_index_mat M HM.out.len w hlt
   obtain ⟨b0, b1⟩ := HM.out.in_ k hlt
   have hlt' : (k : Int) < 16 := by omega
   generalize M.getD k 0 = x at hx b0 b1
   go_wp2_with (go_at_call 205; refine (far_any x 268435456 _ (by omega) (by omega) (by omega) (by omega) (by omega)).mono ?_; rintro e w1 ⟨rfl, rfl⟩)
   go_roundg (16 - (k + 1))
   case measure => omega
   case rel => exact ⟨k + 1, by omega, rfl, by go_num, Lib.hid rfl⟩
  ·obtain rfl : k = 16 := by omega
   go_wp2_with fail
   go_ret
   exact ⟨rfl, HE.out⟩
def rowT (M : List Int) (i : Nat) (v : C4) : Int := (M.getD (4 * i) 0 * v.a + M.getD (4 * i + 1) 0 * v.b + M.getD (4 * i + 2) 0 * v.c + M.getD (4 * i + 3) 0 * v.d) / 65536
def C4.In (v : C4) : Prop := (-268435456 ≤ v.a ∧ v.a ≤ 268435456) ∧ (-268435456 ≤ v.b ∧ v.b ≤ 268435456) ∧ (-268435456 ≤ v.c ∧ v.c ≤ 268435456) ∧ (-268435456 ≤ v.d ∧ v.d ≤ 268435456)
theorem mul28 {a b : Int} (h1 : -268435456 ≤ a) (h2 : a ≤ 268435456) (h3 : -268435456 ≤ b) (h4 : b ≤ 268435456) : -72057594037927936 ≤ a * b ∧ a * b ≤ 72057594037927936 := by
 have := mul_pl (m := 268435456) (n := 268435456) h1 h2 h3 h4 (by omega) (by omega)
 omega
set_option maxRecDepth 100000 in
theorem row_any (M : List Int) (i : Nat) (v : C4) (G E : Nat) (w : World) (h : MatOk M) (hv : v.In) (hi : i < 4) (hg : Blk w G 188 (irow M)) (he : Blk w E 29 #[.int .i64 v.a, .int .i64 v.b, .int .i64 v.c, .int .i64 v.d]) :
  Calls Tryz.prog 206 #[.pointer (some ⟨G, 0, none⟩), .int .i64 (i : Int), .pointer (some ⟨E, 0, none⟩)] w fun e w' => e = .returned (.int .i64 (rowT M i v)) ∧ Ext w w' := by
 have hl := h.len
 have c0 := (hg.cell (4 * i)).trans (irow_get (by omega))
 have c1 := (hg.cell (4 * i + 1)).trans (irow_get (by omega))
 have c2 := (hg.cell (4 * i + 2)).trans (irow_get (by omega))
 have c3 := (hg.cell (4 * i + 3)).trans (irow_get (by omega))
 have ce := he.c4
 obtain ⟨b0, b1⟩ := h.in_ (4 * i) (by omega)
 obtain ⟨b2, b3⟩ := h.in_ (4 * i + 1) (by omega)
 obtain ⟨b4, b5⟩ := h.in_ (4 * i + 2) (by omega)
 obtain ⟨b6, b7⟩ := h.in_ (4 * i + 3) (by omega)
 obtain ⟨⟨a0, a1⟩, ⟨a2, a3⟩, ⟨a4, a5⟩, ⟨a6, a7⟩⟩ := hv
 unfold rowT
 clear h hg he hl
 generalize M.getD (4 * i) 0 = m0 at *
 generalize M.getD (4 * i + 1) 0 = m1 at *
 generalize M.getD (4 * i + 2) 0 = m2 at *
 generalize M.getD (4 * i + 3) 0 = m3 at *
 obtain ⟨p0, p1⟩ := mul28 b0 b1 a0 a1
 obtain ⟨p2, p3⟩ := mul28 b2 b3 a2 a3
 obtain ⟨p4, p5⟩ := mul28 b4 b5 a4 a5
 obtain ⟨p6, p7⟩ := mul28 b6 b7 a6 a7
 have hi2 : i = 0 ∨ i = 1 ∨ i = 2 ∨ i = 3 := by omega
 rcases hi2 with rfl | rfl | rfl | rfl
 all_goals
  simp only [Nat.mul_zero, Nat.mul_one, Nat.zero_add, Nat.reduceMul, Nat.reduceAdd] at c0 c1 c2 c3
  go_enter Tryz.func206, Tryz.ntmps206
  go_upto_region 1 with fail
  refine wp_region_later (by kernel_rfl) (by kernel_rfl) ?_
  repeat (go_big_quiet_step ((first | fail | fail)))
  refine wpQuiet_nil ?_
  intro y
  go_wp2_with fail
  go_ret
  exact ⟨rfl, y.ext⟩
end Go.Proofs.YtplljnfjkkloeaaGreatDoor
