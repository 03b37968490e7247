/- Proof text: what a way's ends add and take away ((*way).in, (*way).ends), a line's way (walk.newWay), how many pixels it has (walk.Count). By an AI agent. No condition beyond what each theorem states. -/
import Derived.Test.YtplljnfjkkloeaaGreatDoorQC
import Derived.Test.YtplljnfjkkloeaaGreatDoorXI
import Derived.Test.YtplljnfjkkloeaaGreatDoorWD
import Derived.BigRegion
set_option linter.unusedVariables false
set_option linter.unusedSimpArgs false
set_option maxHeartbeats 4000000
namespace Go.Proofs.YtplljnfjkkloeaaGreatDoor
open Go.RowKit
theorem win_any (W : Way) (g : Nat) (fs ls : Int) (ex op : Bool) (pu pv px py : Int) (w : World) (hB : Blk w g 341 (wrow W fs ls ex op pu pv)) (hx : Pl px) (hy : Pl py) :
  Calls Tryz.prog 286 #[.pointer (some ⟨g, 0, none⟩), .agg #[.int .i64 px, .int .i64 py]] w fun e w' =>
   e = .returned (optV (if W.turned = true then (dIn px py).map (fun p => (p.2, p.1)) else dIn px py)) ∧ Ext w w' := by
 have HC := Lib.hid (fun W' => in_any px py W' hx hy)
 have HB := Lib.hid hB
 clear hB hx hy
 obtain ⟨o, ho⟩ : ∃ o, o = dIn px py := ⟨_, rfl⟩
 rw [← ho] at HC ⊢
 clear ho
 cases ht : W.turned
 ·have HT := Lib.hid ht; clear ht
  go_enter Tryz.func286, Tryz.ntmps286
  go_wp2_with fail
  refine (HC.out _).mono ?_
  rintro e w1 ⟨rfl, hE⟩
  obtain ⟨x1, rfl⟩ := Later.mk' hE
  clear hE
  have B1 : Hid (Blk x1.w g 341 (wrow W fs ls ex op pu pv)) := Lib.hid ((HB.out.alloc _).later x1)
  obtain ⟨q0, q1, q2, q3, q4, q5, q6, q7, q8, q9, q10, q11⟩ := B1.out.c12
  clear q0 q1 q2 q3 q5 q6 q7 q8 q9 q10 q11
  rw [HT.out] at q4
  unfold optV
  go_wp2_with fail
  go_ret3
  exact ⟨rfl, by (repeat (first | with_reducible (first | exact eR_ _ | assumption | refine eA_ ?_ _ | refine eD_ ?_ | refine eN_ ?_ _ | refine eL_ ?_ _) | (with_reducible refine eS_ ?_ _ ?hp; case hp => first | (simp; done) | (simp; omega) | omega)))⟩
 ·have HT := Lib.hid ht; clear ht
  go_enter Tryz.func286, Tryz.ntmps286
  go_wp2_with fail
  refine (HC.out _).mono ?_
  rintro e w1 ⟨rfl, hE⟩
  obtain ⟨x1, rfl⟩ := Later.mk' hE
  clear hE
  have B1 : Hid (Blk x1.w g 341 (wrow W fs ls ex op pu pv)) := Lib.hid ((HB.out.alloc _).later x1)
  obtain ⟨q0, q1, q2, q3, q4, q5, q6, q7, q8, q9, q10, q11⟩ := B1.out.c12
  clear q0 q1 q2 q3 q5 q6 q7 q8 q9 q10 q11
  rw [HT.out] at q4
  unfold optV
  go_wp2_with fail
  go_ret3
  refine ⟨?_, by (repeat (first | with_reducible (first | exact eR_ _ | assumption | refine eA_ ?_ _ | refine eD_ ?_ | refine eN_ ?_ _ | refine eL_ ?_ _) | (with_reducible refine eS_ ?_ _ ?hp; case hp => first | (simp; done) | (simp; omega) | omega)))⟩
  cases o <;> rfl
def Way.xu (W : Way) : Int := if W.extra = true then (W.pa.getD (0, 0)).1 else 0
def Way.xv (W : Way) : Int := if W.extra = true then (W.pa.getD (0, 0)).2 else 0
def Way.px (W : Way) (u v : Int) : Int := if W.turned = true then v else u
def Way.py (W : Way) (u v : Int) : Int := if W.turned = true then u else v
theorem Way.in_pa (W : Way) : (if W.turned = true then (dIn (W.px W.au W.av) (W.py W.au W.av)).map (fun p => (p.2, p.1)) else dIn (W.px W.au W.av) (W.py W.au W.av)) = W.pa := by
 unfold Way.pa dInW Way.px Way.py
 by_cases h : W.turned = true
 ·simp only [if_pos h]
 ·simp only [if_neg h]
theorem Way.in_pb (W : Way) : (if W.turned = true then (dIn (W.px W.bu W.bv) (W.py W.bu W.bv)).map (fun p => (p.2, p.1)) else dIn (W.px W.bu W.bv) (W.py W.bu W.bv)) = W.pb := by
 unfold Way.pb dInW Way.px Way.py
 by_cases h : W.turned = true
 ·simp only [if_pos h]
 ·simp only [if_neg h]
theorem Way.In.first {W : Way} (h : W.In) : Pl W.first ∧ Pl W.last := by
 obtain ⟨⟨a1, a2⟩, -, ⟨c1, c2⟩, -⟩ := h
 unfold Way.first Way.last lst Pl
 split <;> omega
theorem Way.In.pp {W : Way} (h : W.In) : Pl (W.px W.au W.av) ∧ Pl (W.py W.au W.av) ∧ Pl (W.px W.bu W.bv) ∧ Pl (W.py W.bu W.bv) := by
 unfold Way.px Way.py
 by_cases ht : W.turned = true
 ·simp only [if_pos ht]; exact ⟨h.av, h.au, h.bv, h.bu⟩
 ·simp only [if_neg ht]; exact ⟨h.au, h.av, h.bu, h.bv⟩
theorem tree_ex (a b c d e f : Bool) : (a = false ∧ (a && (b || c) && !(d && e && f)) = false) ∨
  (a = true ∧ b = false ∧ c = false ∧ (a && (b || c) && !(d && e && f)) = false) ∨
  (a = true ∧ (b = true ∨ (b = false ∧ c = true)) ∧ ((d = false ∧ (a && (b || c) && !(d && e && f)) = true) ∨ (d = true ∧ e = false ∧ (a && (b || c) && !(d && e && f)) = true) ∨
   (d = true ∧ e = true ∧ f = false ∧ (a && (b || c) && !(d && e && f)) = true) ∨ (d = true ∧ e = true ∧ f = true ∧ (a && (b || c) && !(d && e && f)) = false))) := by
 cases a <;> cases b <;> cases c <;> cases d <;> cases e <;> cases f <;> simp
theorem Way.extra_bool (W : Way) : W.extra = (W.pa.isSome && ((((W.last - W.first).natAbs : Int) == 0) || ((W.pa.getD (0, 0)).1 != W.first)) &&
  !(W.pb.isSome && ((W.pa.getD (0, 0)).1 == (W.pb.getD (0, 0)).1) && ((W.pa.getD (0, 0)).2 == (W.pb.getD (0, 0)).2))) := by
 unfold Way.extra Way.size
 cases ha : W.pa with
 | none => simp
 | some p =>
  obtain ⟨u, v⟩ := p
  cases hb : W.pb with
  | none =>
   rw [Bool.eq_iff_iff]
   simp
  | some q =>
   obtain ⟨i, k⟩ := q
   rw [Bool.eq_iff_iff]
   simp
   intro _
   omega
theorem Way.open_bool (W : Way) : W.open_ = (decide (((W.last - W.first).natAbs : Int) > 0) && W.pb.isSome && ((W.pb.getD (0, 0)).1 == W.last - W.step) && (W.across (W.pb.getD (0, 0)).1 == (W.pb.getD (0, 0)).2)) := by
 unfold Way.open_ Way.size
 cases hb : W.pb with
 | none => simp
 | some q =>
  obtain ⟨i, k⟩ := q
  rw [Bool.eq_iff_iff]
  simp
  omega
theorem Way.nigh_mid {W : Way} (h : W.In) {u : Int} (hc : W.crossed u) : W.Nigh u := by
 obtain ⟨⟨a1, a2⟩, -, ⟨c1, c2⟩, -⟩ := h
 obtain ⟨k1, k2⟩ := hc
 constructor <;> omega
theorem Way.nigh_last {W : Way} (h : W.In) (hs : 0 < W.size) : W.Nigh (W.last - W.step) := by
 rw [W.last_is hs]
 exact Way.nigh_mid h ((W.crossed_is _).2 ⟨_, by omega, rfl⟩)
theorem Kp.new {F : Nat → Prop} {w wr w' : World} (h : Kp F w wr) (k : Kp F wr w') : Kp F w w' := h.trans k
set_option maxRecDepth 100000 in
theorem ends_any (W : Way) (g : Nat) (w : World) (hB : Blk w g 341 (wrow W W.first W.last false false 0 0)) (hi : W.In) (hd : 0 < W.du) :
  Calls Tryz.prog 266 #[.pointer (some ⟨g, 0, none⟩), .agg #[.int .i64 (W.px W.au W.av), .int .i64 (W.py W.au W.av)], .agg #[.int .i64 (W.px W.bu W.bv), .int .i64 (W.py W.bu W.bv)]] w fun e w' =>
   e = .returned (.tuple #[]) ∧ Blk w' g 341 (wrow W W.first W.last W.extra W.open_ W.xu W.xv) ∧ Kp (· ≠ g) w w' := by
 have HB := Lib.hid hB
 obtain ⟨p1, p2, p3, p4⟩ := hi.pp
 have HC1 := Lib.hid (fun W' (x : Blk W' g 341 (wrow W W.first W.last false false 0 0)) => win_any W g W.first W.last false false 0 0 (W.px W.au W.av) (W.py W.au W.av) W' x p1 p2)
 have HC2 := Lib.hid (fun W' (x : Blk W' g 341 (wrow W W.first W.last false false 0 0)) => win_any W g W.first W.last false false 0 0 (W.px W.bu W.bv) (W.py W.bu W.bv) W' x p3 p4)
 have HC0 := Lib.hid (fun W' (x : Blk W' g 341 (wrow W W.first W.last false false 0 0)) => size_any W g W.first W.last false false 0 0 W' x hi.first.1 hi.first.2)
 rw [W.in_pa] at HC1
 rw [W.in_pb] at HC2
 have HI := Lib.hid hi
 have HDu := Lib.hid hd
 clear hB p1 p2 p3 p4 hi hd
 generalize W.px W.au W.av = ax at *
 generalize W.py W.au W.av = ay at *
 generalize W.px W.bu W.bv = bx at *
 generalize W.py W.bu W.bv = by_ at *
 go_enter Tryz.func266, Tryz.ntmps266
 go_wp2_with fail
 have B0 : Hid (Blk ((w.alloc (.cells #[.int .i64 ax, .int .i64 ay] 79)).alloc (.cells #[.int .i64 bx, .int .i64 by_] 79)) g 341 (wrow W W.first W.last false false 0 0)) := Lib.hid (by (repeat (first | with_reducible exact Hid.out (by assumption) | (with_reducible refine Blk.new' _ _ _ ?_; (simp; done)) | with_reducible (first | refine Blk.alloc ?_ _ | refine Blk.drew ?_ | refine Blk.drewN ?_ _ | refine Blk.later ?_ _) | (with_reducible refine Blk.far ?_ ?hp _; case hp => first | (simp; done) | (simp; omega) | omega))))
 refine (HC0.out _ B0.out).mono ?_
 rintro e w1 ⟨rfl, hE⟩
 obtain ⟨x1, rfl⟩ := Later.mk' hE
 clear hE
 have B1 : Hid (Blk x1.w g 341 (wrow W W.first W.last false false 0 0)) := Lib.hid (by (repeat (first | with_reducible exact Hid.out (by assumption) | (with_reducible refine Blk.new' _ _ _ ?_; (simp; done)) | with_reducible (first | refine Blk.alloc ?_ _ | refine Blk.drew ?_ | refine Blk.drewN ?_ _ | refine Blk.later ?_ _) | (with_reducible refine Blk.far ?_ ?hp _; case hp => first | (simp; done) | (simp; omega) | omega))))
 have P1 : Hid (Blk x1.w w.heap.size 79 #[.int .i64 ax, .int .i64 ay]) := Lib.hid (by (repeat (first | with_reducible exact Hid.out (by assumption) | (with_reducible refine Blk.new' _ _ _ ?_; (simp; done)) | with_reducible (first | refine Blk.alloc ?_ _ | refine Blk.drew ?_ | refine Blk.drewN ?_ _ | refine Blk.later ?_ _) | (with_reducible refine Blk.far ?_ ?hp _; case hp => first | (simp; done) | (simp; omega) | omega))))
 have P2 : Hid (Blk x1.w (w.heap.size + 1) 79 #[.int .i64 bx, .int .i64 by_]) := Lib.hid (by (repeat (first | with_reducible exact Hid.out (by assumption) | (with_reducible refine Blk.new' _ _ _ ?_; (simp; done)) | with_reducible (first | refine Blk.alloc ?_ _ | refine Blk.drew ?_ | refine Blk.drewN ?_ _ | refine Blk.later ?_ _) | (with_reducible refine Blk.far ?_ ?hp _; case hp => first | (simp; done) | (simp; omega) | omega))))
 obtain ⟨a0, a1⟩ := P1.out.c2
 go_wp2_with fail
 clear a0 a1
 refine (HC1.out _ B1.out).mono ?_
 rintro e w1 ⟨rfl, hE⟩
 obtain ⟨x2, rfl⟩ := Later.mk' hE
 clear hE
 have B2 : Hid (Blk x2.w g 341 (wrow W W.first W.last false false 0 0)) := Lib.hid (by (repeat (first | with_reducible exact Hid.out (by assumption) | (with_reducible refine Blk.new' _ _ _ ?_; (simp; done)) | with_reducible (first | refine Blk.alloc ?_ _ | refine Blk.drew ?_ | refine Blk.drewN ?_ _ | refine Blk.later ?_ _) | (with_reducible refine Blk.far ?_ ?hp _; case hp => first | (simp; done) | (simp; omega) | omega))))
 have P3 : Hid (Blk x2.w (w.heap.size + 1) 79 #[.int .i64 bx, .int .i64 by_]) := Lib.hid (by (repeat (first | with_reducible exact Hid.out (by assumption) | (with_reducible refine Blk.new' _ _ _ ?_; (simp; done)) | with_reducible (first | refine Blk.alloc ?_ _ | refine Blk.drew ?_ | refine Blk.drewN ?_ _ | refine Blk.later ?_ _) | (with_reducible refine Blk.far ?_ ?hp _; case hp => first | (simp; done) | (simp; omega) | omega))))
 obtain ⟨a0, a1⟩ := P3.out.c2
 unfold optV
 go_wp2_with fail
 clear a0 a1
 refine (HC2.out _ B2.out).mono ?_
 rintro e w1 ⟨rfl, hE⟩
 obtain ⟨x3, rfl⟩ := Later.mk' hE
 clear hE
 have B3 : Hid (Blk x3.w g 341 (wrow W W.first W.last false false 0 0)) := Lib.hid (by (repeat (first | with_reducible exact Hid.out (by assumption) | (with_reducible refine Blk.new' _ _ _ ?_; (simp; done)) | with_reducible (first | refine Blk.alloc ?_ _ | refine Blk.drew ?_ | refine Blk.drewN ?_ _ | refine Blk.later ?_ _) | (with_reducible refine Blk.far ?_ ?hp _; case hp => first | (simp; done) | (simp; omega) | omega))))
 have E3 : Hid (Ext w x3.w) := Lib.hid (by (repeat (first | with_reducible (first | exact eR_ _ | assumption | refine eA_ ?_ _ | refine eD_ ?_ | refine eN_ ?_ _ | refine eL_ ?_ _) | (with_reducible refine eS_ ?_ _ ?hp; case hp => first | (simp; done) | (simp; omega) | omega))))
 unfold optV
 go_upto_region 4 with fail
 clear B0 B1 B2 P1 P2 P3 HC0 HC1 HC2 HB
 have HEX := Lib.hid W.extra_bool
 have HOP := Lib.hid W.open_bool
 have HXU := Lib.hid (show W.xu = if W.extra = true then (W.pa.getD (0, 0)).1 else 0 from rfl)
 have HXV := Lib.hid (show W.xv = if W.extra = true then (W.pa.getD (0, 0)).2 else 0 from rfl)
 have HF := Lib.hid HI.out.first
 have HN : Hid (0 ≤ ((W.last - W.first).natAbs : Int) ∧ ((W.last - W.first).natAbs : Int) ≤ 536900000) := Lib.hid (by
  obtain ⟨⟨f1, f2⟩, l1, l2⟩ := HI.out.first
  omega)
 have HST : Hid (∀ W', Blk W' g 341 (wrow W W.first W.last W.extra false W.xu W.xv) → Calls Tryz.prog 229 #[.pointer (some ⟨g, 0, none⟩)] W' fun e w' => e = .returned (.int .i64 W.step) ∧ Ext W' w') :=
  Lib.hid (fun W' x => step_any W g W.first W.last W.extra false W.xu W.xv W' x)
 have HAC : Hid (∀ W', 0 < W.size → Blk W' g 341 (wrow W W.first W.last W.extra false W.xu W.xv) → Calls Tryz.prog 269 #[.pointer (some ⟨g, 0, none⟩), .int .i64 (W.last - W.step)] W' fun e w' => e = .returned (.int .i64 (W.across (W.last - W.step))) ∧ Ext W' w') :=
  Lib.hid (fun W' hs x => across_any W g W.first W.last W.extra false W.xu W.xv _ W' x HI.out (Way.nigh_last HI.out hs) HDu.out)
 generalize (W.pa.getD (0, 0)).1 = u at *
 generalize (W.pa.getD (0, 0)).2 = v at *
 generalize (W.pb.getD (0, 0)).1 = i at *
 generalize (W.pb.getD (0, 0)).2 = k at *
 generalize W.pa.isSome = ok at *
 generalize W.pb.isSome = is at *
 have hsz : W.size = (W.last - W.first).natAbs := rfl
 have HSZ : Hid (0 < ((W.last - W.first).natAbs : Int) → 0 < W.size) := Lib.hid (by rw [hsz]; omega)
 have hstep : W.step = 1 ∨ W.step = -1 := by unfold Way.step; split <;> simp
 have HSTEP := Lib.hid hstep
 clear hsz hstep
 generalize ((W.last - W.first).natAbs : Int) = n at *
 obtain ⟨n1, n2⟩ := HN.out
 go_cut [55] from 29 to 54 (fun s wx => s = .bool W.extra ∧ Hid (wx = x3.w))
 case first =>
  have q6 : x3.w.cell? ⟨g, 6, none⟩ = some (.int .i64 W.first) := B3.out.cell 6
  clear HOP HAC HST
  rcases tree_ex ok (n == 0) (u != W.first) is (u == i) (v == k) with ⟨t1, hx⟩ | ⟨t1, t2, t3, hx⟩ | ⟨t1, t2 | ⟨t2, t3⟩, ⟨t4, hx⟩ | ⟨t4, t5, hx⟩ | ⟨t4, t5, t6, hx⟩ | ⟨t4, t5, t6, hx⟩⟩
  all_goals
   have HX := Lib.hid (HEX.out.trans hx)
   clear hx HEX
   subst t1
   try subst t4
   go_wp2_with fail
   go_meet
   rw [HX.out]
   exact ⟨rfl, Lib.hid rfl⟩
 case rest =>
 obtain ⟨rfl, hw⟩ := hcut
 have hw := hw.out
 subst hw
 go_upto_if 55 with (fail)
 go_cut [] from 55 to 66 (fun wx => Hid (Blk wx g 341 (wrow W W.first W.last W.extra false W.xu W.xv)) ∧ Hid (Kp (· ≠ g) w wx))
 case first =>
  clear HOP HAC HST HEX
  cases hEx : W.extra
  ·have HEX := Lib.hid hEx
   clear hEx
   go_wp2_with fail
   go_meet
   rw [HXU.out, HXV.out, HEX.out]
   exact ⟨B3, Lib.hid (by (repeat (first | with_reducible exact Kp.refl _ _ | with_reducible assumption | with_reducible exact Hid.out (by assumption) | with_reducible exact Kp.of_ext (Hid.out (by assumption)) | with_reducible refine Kp.alloc ?_ _ | with_reducible refine Kp.drew ?_ | with_reducible refine Kp.drewN ?_ _ | with_reducible refine Kp.later ?_ _ | (with_reducible refine Kp.setCell ?_ _ ?hp; case hp => first | (simp; done) | (simp; omega) | omega))))⟩
  ·have HEX := Lib.hid hEx
   clear hEx
   obtain ⟨q0, q1, q2, q3, q4, q5, q6, q7, q8, q9, q10, q11⟩ := B3.out.c12
   have z8 := B3.out.frozen 8
   have z10 := B3.out.frozen 10
   have z11 := B3.out.frozen 11
   clear q0 q1 q2 q3 q4 q5 q6 q7 q9
   go_wp2_with fail
   go_meet
   rw [HXU.out, HXV.out, HEX.out]
   refine ⟨Lib.hid ?_, Lib.hid (by (repeat (first | with_reducible exact Kp.refl _ _ | with_reducible assumption | with_reducible exact Hid.out (by assumption) | with_reducible exact Kp.of_ext (Hid.out (by assumption)) | with_reducible refine Kp.alloc ?_ _ | with_reducible refine Kp.drew ?_ | with_reducible refine Kp.drewN ?_ _ | with_reducible refine Kp.later ?_ _ | (with_reducible refine Kp.setCell ?_ _ ?hp; case hp => first | (simp; done) | (simp; omega) | omega))))⟩
   have := ((B3.out.set_ 8 (.bool true)).set_ 10 (.int .i64 u)).set_ 11 (.int .i64 v)
   simpa using this
 case rest =>
  obtain ⟨HB4, HK4⟩ := hcut
  clear B3 E3 HEX HXU HXV
  obtain ⟨W4, hW4⟩ : ∃ W4, W4 = wc := ⟨_, rfl⟩
  rw [← hW4] at HB4 HK4 ⊢
  clear hW4
  obtain ⟨⟨f1, f2⟩, l1, l2⟩ := HF.out
  have hopen : (decide (n > 0) = false ∧ Hid (W.open_ = false)) ∨ (decide (n > 0) = true ∧ is = false ∧ Hid (W.open_ = false)) ∨ (decide (n > 0) = true ∧ is = true ∧ (i == W.last - W.step) = false ∧ Hid (W.open_ = false)) ∨
    (decide (n > 0) = true ∧ is = true ∧ (i == W.last - W.step) = true ∧ Hid (W.open_ = (W.across (W.last - W.step) == k))) := by
   have h := HOP.out
   cases c1 : decide (n > 0)
   ·exact .inl ⟨rfl, Lib.hid (by rw [h, c1]; rfl)⟩
   ·cases c2 : is
    ·exact .inr (.inl ⟨rfl, rfl, Lib.hid (by rw [h, c1, c2]; rfl)⟩)
    ·cases c3 : (i == W.last - W.step)
     ·exact .inr (.inr (.inl ⟨rfl, rfl, rfl, Lib.hid (by rw [h, c1, c2, c3]; rfl)⟩))
     ·refine .inr (.inr (.inr ⟨rfl, rfl, rfl, Lib.hid ?_⟩))
      rw [h, c1, c2, c3]
      rw [beq_iff_eq] at c3
      rw [c3]
      rfl
  have ws : IntKind.i64.wrap (W.last - W.step) = W.last - W.step := by
   rw [IntKind.wrap_i64]
   have := HSTEP.out
   omega
  clear HOP
  rcases hopen with ⟨t1, HO⟩ | ⟨t1, t2, HO⟩ | ⟨t1, t2, t3, HO⟩ | ⟨t1, t2, t3, HO⟩
  ·clear HF f1 f2 l1 l2 ws HAC HST HSZ HSTEP HN
   go_upto_region 6 with fail
   refine wp_region_later (by kernel_rfl) (by kernel_rfl) ?_
   repeat (go_big_quiet_step ((first | fail | fail)))
   refine wpQuiet_nil ?_
   intro y
   go_wp2_with fail
   go_end0
   rw [HO.out]
   exact ⟨rfl, HB4.out.later y, by (repeat (first | with_reducible exact Kp.refl _ _ | with_reducible assumption | with_reducible exact Hid.out (by assumption) | with_reducible exact Kp.of_ext (Hid.out (by assumption)) | with_reducible refine Kp.alloc ?_ _ | with_reducible refine Kp.drew ?_ | with_reducible refine Kp.drewN ?_ _ | with_reducible refine Kp.later ?_ _ | (with_reducible refine Kp.setCell ?_ _ ?hp; case hp => first | (simp; done) | (simp; omega) | omega)))⟩
  ·subst t2
   clear HF f1 f2 l1 l2 ws HAC HST HSZ HSTEP HN
   go_upto_region 6 with fail
   refine wp_region_later (by kernel_rfl) (by kernel_rfl) ?_
   repeat (go_big_quiet_step ((first | fail | fail)))
   refine wpQuiet_nil ?_
   intro y
   go_wp2_with fail
   go_end0
   rw [HO.out]
   exact ⟨rfl, HB4.out.later y, by (repeat (first | with_reducible exact Kp.refl _ _ | with_reducible assumption | with_reducible exact Hid.out (by assumption) | with_reducible exact Kp.of_ext (Hid.out (by assumption)) | with_reducible refine Kp.alloc ?_ _ | with_reducible refine Kp.drew ?_ | with_reducible refine Kp.drewN ?_ _ | with_reducible refine Kp.later ?_ _ | (with_reducible refine Kp.setCell ?_ _ ?hp; case hp => first | (simp; done) | (simp; omega) | omega)))⟩
  ·subst t2
   have hq7 := HB4.out.cell 7
   have q7 : W4.cell? ⟨g, 7, none⟩ = some (.int .i64 W.last) := hq7
   clear hq7
   clear HF f1 f2 l1 l2 HAC HSZ HSTEP HN
   go_upto_region 6 with fail
   refine wp_region_later (by kernel_rfl) (by kernel_rfl) ?_
   repeat (go_big_quiet_step ((first | (go_at_call 229; with_reducible exact Calls.later _ (HST.out _ (HB4.out.later _))) | fail)))
   refine wpQuiet_nil ?_
   intro y
   clear q7
   go_wp2_with fail
   go_end0
   rw [HO.out]
   exact ⟨rfl, HB4.out.later y, by (repeat (first | with_reducible exact Kp.refl _ _ | with_reducible assumption | with_reducible exact Hid.out (by assumption) | with_reducible exact Kp.of_ext (Hid.out (by assumption)) | with_reducible refine Kp.alloc ?_ _ | with_reducible refine Kp.drew ?_ | with_reducible refine Kp.drewN ?_ _ | with_reducible refine Kp.later ?_ _ | (with_reducible refine Kp.setCell ?_ _ ?hp; case hp => first | (simp; done) | (simp; omega) | omega)))⟩
  ·subst t2
   have HSZ2 := Lib.hid (HSZ.out (by simpa using t1))
   have hq7 := HB4.out.cell 7
   have q7 : W4.cell? ⟨g, 7, none⟩ = some (.int .i64 W.last) := hq7
   clear hq7
   have HI2 : Hid (i = W.last - W.step) := Lib.hid (by simpa using t3)
   clear HF f1 f2 l1 l2 HSZ HSTEP HN
   go_upto_region 6 with fail
   refine wp_region_later (by kernel_rfl) (by kernel_rfl) ?_
   repeat (go_big_quiet_step ((first | (go_at_call 229; with_reducible exact Calls.later _ (HST.out _ (HB4.out.later _))) | fail)))
   refine wpQuiet_nil ?_
   intro y
   clear q7
   go_wp2_with fail
   clear t3 ws
   have hi2 := HI2.out
   subst hi2
   refine (HAC.out _ HSZ2.out (HB4.out.later _)).mono ?_
   rintro e w1 ⟨rfl, hE⟩
   obtain ⟨z, rfl⟩ := Later.mk' hE
   clear hE
   have B6 := Lib.hid ((HB4.out.later y).later z)
   have z9 := B6.out.frozen 9
   have c9 : z.w.cell? ⟨g, 9, none⟩ = some (.bool false) := B6.out.cell 9
   go_wp2_with fail
   go_end0
   rw [HO.out]
   refine ⟨rfl, ?_, by (repeat (first | with_reducible exact Kp.refl _ _ | with_reducible assumption | with_reducible exact Hid.out (by assumption) | with_reducible exact Kp.of_ext (Hid.out (by assumption)) | with_reducible refine Kp.alloc ?_ _ | with_reducible refine Kp.drew ?_ | with_reducible refine Kp.drewN ?_ _ | with_reducible refine Kp.later ?_ _ | (with_reducible refine Kp.setCell ?_ _ ?hp; case hp => first | (simp; done) | (simp; omega) | omega)))⟩
   have := B6.out.set_ 9 (.bool (W.across (W.last - W.step) == k))
   simpa using this
end Go.Proofs.YtplljnfjkkloeaaGreatDoor
set_option linter.unusedVariables false
set_option linter.unusedSimpArgs false
namespace Go.Proofs.YtplljnfjkkloeaaGreatDoor
open Go.RowKit
theorem wayOf_pos (ax ay bx by_ : Int) : (wayOf ax ay bx by_).px (wayOf ax ay bx by_).au (wayOf ax ay bx by_).av = ax ∧ (wayOf ax ay bx by_).py (wayOf ax ay bx by_).au (wayOf ax ay bx by_).av = ay ∧
  (wayOf ax ay bx by_).px (wayOf ax ay bx by_).bu (wayOf ax ay bx by_).bv = bx ∧ (wayOf ax ay bx by_).py (wayOf ax ay bx by_).bu (wayOf ax ay bx by_).bv = by_ := by
 unfold wayOf Way.px Way.py
 by_cases h : max (bx - ax) (-(bx - ax)) < max (by_ - ay) (-(by_ - ay))
 ·rw [if_pos h]; exact ⟨rfl, rfl, rfl, rfl⟩
 ·rw [if_neg h]; exact ⟨rfl, rfl, rfl, rfl⟩
theorem wayOf_in {ax ay bx by_ : Int} (h1 : Pl ax) (h2 : Pl ay) (h3 : Pl bx) (h4 : Pl by_) : (wayOf ax ay bx by_).In := by
 unfold wayOf
 split
 ·exact ⟨h2, h1, h4, h3, .inr rfl⟩
 ·exact ⟨h1, h2, h3, h4, by dsimp only; split <;> simp⟩
theorem least_ext (u : Int) (w : World) (h : Pl u) : Calls Tryz.prog 265 #[.int .i64 u] w fun e w' => e = .returned (.int .i64 (lst u)) ∧ Ext w w' :=
 (least_any u w h).mono fun _ _ h => ⟨h.1, h.2 ▸ Ext.refl _⟩
def NewWay (W : Way) (w : World) (e : Ending) (w' : World) : Prop :=
 ∃ g : Nat, e = .returned (.pointer (some ⟨g, 0, none⟩)) ∧ w.heap.size ≤ g ∧ Blk w' g 341 (wrow W W.first W.last W.extra W.open_ W.xu W.xv) ∧ Ext w w'
set_option maxRecDepth 100000 in
theorem newWay_any (ax ay bx by_ : Int) (w : World) (h1 : Pl ax) (h2 : Pl ay) (h3 : Pl bx) (h4 : Pl by_) (hne : ¬ (ax = bx ∧ ay = by_)) :
  Calls Tryz.prog 225 #[.agg #[.int .i64 ax, .int .i64 ay], .agg #[.int .i64 bx, .int .i64 by_]] w (NewWay (wayOf ax ay bx by_) w) := by
 have HIN := Lib.hid (wayOf_in h1 h2 h3 h4)
 have HOK := Lib.hid (wayOf_ok hne)
 have HPP := Lib.hid (wayOf_pos ax ay bx by_)
 have HWD := Lib.hid (show wayOf ax ay bx by_ = if max (bx - ax) (-(bx - ax)) < max (by_ - ay) (-(by_ - ay)) then ⟨ay, ax, by_, bx, true, 1⟩
  else ⟨ax, ay, bx, by_, false, if (0 < bx - ax ∧ 0 < by_ - ay) ∨ (bx - ax < 0 ∧ by_ - ay < 0) then 0 else 1⟩ from rfl)
 generalize wayOf ax ay bx by_ = W at *
 obtain ⟨a1, a2⟩ := h1
 obtain ⟨b1, b2⟩ := h2
 obtain ⟨c1, c2⟩ := h3
 obtain ⟨d1, d2⟩ := h4
 clear hne
 go_enter Tryz.func225, Tryz.ntmps225
 go_wp2_with fail
 go_quiet (fail)
 go_upto_if 36 with (fail)
 generalize max (bx - ax) (-(bx - ax)) = m1 at *
 generalize max (by_ - ay) (-(by_ - ay)) = m2 at *
 go_cut [7] from 36 to 63 (fun s wx => ∃ g : Nat, s = .pointer (some ⟨g, 0, none⟩) ∧ Hid (w.heap.size + 1 < g) ∧ Hid (Blk wx g 341 (wrow W 0 0 false false 0 0)) ∧ Hid (Blk wx w.heap.size 79 #[.int .i64 ax, .int .i64 ay]) ∧ Hid (Blk wx (w.heap.size + 1) 79 #[.int .i64 bx, .int .i64 by_]) ∧ Hid (Ext w wx))
 case first =>
  have hc : (decide (m1 < m2) = true ∧ Hid (W = ⟨ay, ax, by_, bx, true, 1⟩)) ∨
    (decide (m1 < m2) = false ∧
     ((decide (bx - ax > 0) = true ∧ decide (by_ - ay > 0) = true ∧ Hid (W = ⟨ax, ay, bx, by_, false, 0⟩)) ∨
      (decide (bx - ax > 0) = true ∧ decide (by_ - ay > 0) = false ∧ decide (bx - ax < 0) = false ∧ Hid (W = ⟨ax, ay, bx, by_, false, 1⟩)) ∨
      (decide (bx - ax > 0) = false ∧ decide (bx - ax < 0) = true ∧ decide (by_ - ay < 0) = true ∧ Hid (W = ⟨ax, ay, bx, by_, false, 0⟩)) ∨
      (decide (bx - ax > 0) = false ∧ decide (bx - ax < 0) = true ∧ decide (by_ - ay < 0) = false ∧ Hid (W = ⟨ax, ay, bx, by_, false, 1⟩)) ∨
      (decide (bx - ax > 0) = false ∧ decide (bx - ax < 0) = false ∧ Hid (W = ⟨ax, ay, bx, by_, false, 1⟩)))) := by
   have hw := HWD.out
   simp only [decide_eq_true_eq, decide_eq_false_iff_not]
   by_cases k1 : m1 < m2
   ·rw [if_pos k1] at hw
    exact .inl ⟨k1, Lib.hid hw⟩
   ·rw [if_neg k1] at hw
    refine .inr ⟨k1, ?_⟩
    by_cases k2 : bx - ax > 0
    ·by_cases k3 : by_ - ay > 0
     ·rw [if_pos (.inl ⟨k2, k3⟩)] at hw
      exact .inl ⟨k2, k3, Lib.hid hw⟩
     ·rw [if_neg (by omega)] at hw
      exact .inr (.inl ⟨k2, k3, by omega, Lib.hid hw⟩)
    ·by_cases k3 : bx - ax < 0
     ·by_cases k4 : by_ - ay < 0
      ·rw [if_pos (.inr ⟨k3, k4⟩)] at hw
       exact .inr (.inr (.inl ⟨k2, k3, k4, Lib.hid hw⟩))
      ·rw [if_neg (by omega)] at hw
       exact .inr (.inr (.inr (.inl ⟨k2, k3, k4, Lib.hid hw⟩)))
     ·rw [if_neg (by omega)] at hw
      exact .inr (.inr (.inr (.inr ⟨k2, k3, Lib.hid hw⟩)))
  rcases hc with ⟨t1, HW⟩ | ⟨t1, ⟨t2, t3, HW⟩ | ⟨t2, t3, t4, HW⟩ | ⟨t2, t3, t4, HW⟩ | ⟨t2, t3, t4, HW⟩ | ⟨t2, t3, HW⟩⟩
  all_goals
   clear HWD HIN HOK HPP
   rw [t1]
   clear t1
   (try simp only [decide_eq_true_eq, decide_eq_false_iff_not] at t2)
   (try simp only [decide_eq_true_eq, decide_eq_false_iff_not] at t3)
   (try simp only [decide_eq_true_eq, decide_eq_false_iff_not] at t4)
   try have u2 : ax < bx := by omega
   try have u3 : ay < by_ := by omega
   try have u4 : bx < ax := by omega
   try have u5 : by_ < ay := by omega
   try have v2 : bx ≤ ax := by omega
   try have v3 : by_ ≤ ay := by omega
   try have v4 : ax ≤ bx := by omega
   try have v5 : ay ≤ by_ := by omega
   try clear t2
   try clear t3
   try clear t4
   go_wp2_with fail
   go_meet
   rw [HW.out]
   refine ⟨_, rfl, Lib.hid (by simp), Lib.hid ?_, Lib.hid (by (repeat (first | with_reducible exact Hid.out (by assumption) | (with_reducible refine Blk.new' _ _ _ ?_; (simp; done)) | with_reducible (first | refine Blk.alloc ?_ _ | refine Blk.drew ?_ | refine Blk.drewN ?_ _ | refine Blk.later ?_ _) | (with_reducible refine Blk.far ?_ ?hp _; case hp => first | (simp; done) | (simp; omega) | omega)))), Lib.hid (by (repeat (first | with_reducible exact Hid.out (by assumption) | (with_reducible refine Blk.new' _ _ _ ?_; (simp; done)) | with_reducible (first | refine Blk.alloc ?_ _ | refine Blk.drew ?_ | refine Blk.drewN ?_ _ | refine Blk.later ?_ _) | (with_reducible refine Blk.far ?_ ?hp _; case hp => first | (simp; done) | (simp; omega) | omega)))), Lib.hid (by (repeat (first | with_reducible (first | exact eR_ _ | assumption | refine eA_ ?_ _ | refine eD_ ?_ | refine eN_ ?_ _ | refine eL_ ?_ _) | (with_reducible refine eS_ ?_ _ ?hp; case hp => first | (simp; done) | (simp; omega) | omega))))⟩
   first
    | (dsimp only [wrow]; (repeat (first | with_reducible exact Hid.out (by assumption) | (with_reducible refine Blk.new' _ _ _ ?_; (simp; done)) | with_reducible (first | refine Blk.alloc ?_ _ | refine Blk.drew ?_ | refine Blk.drewN ?_ _ | refine Blk.later ?_ _) | (with_reducible refine Blk.far ?_ ?hp _; case hp => first | (simp; done) | (simp; omega) | omega))); done)
    | (have := (Blk.new (((w.alloc (.cells #[.int .i64 ax, .int .i64 ay] 79)).alloc (.cells #[.int .i64 bx, .int .i64 by_] 79)).drewN nq) 341 #[.int .i64 ax, .int .i64 ay, .int .i64 bx, .int .i64 by_, .bool false, .int .i64 1, .int .i64 0, .int .i64 0, .bool false, .bool false, .int .i64 0, .int .i64 0]).set_ 5 (.int .i64 0)
       simpa using this)
 case rest =>
  obtain ⟨g, rfl, HG, HB, HP, HQ, HE⟩ := hcut
  have HL := Lib.hid least_ext
  obtain ⟨q0, q1, q2, q3, q4, q5, q6, q7, q8, q9, q10, q11⟩ := HB.out.c12
  clear q1 q3 q4 q5 q8 q9 q10 q11
  have z6 := HB.out.frozen 6
  have z7 := HB.out.frozen 7
  have HAU := Lib.hid HIN.out.au
  have HBU := Lib.hid HIN.out.bu
  have hfb : -1048750 ≤ lst W.au ∧ lst W.au ≤ 1048750 ∧ -1048750 ≤ lst W.bu ∧ lst W.bu ≤ 1048750 := by
   obtain ⟨k1, k2⟩ := HAU.out
   obtain ⟨k3, k4⟩ := HBU.out
   unfold lst
   omega
  obtain ⟨o1, o2, o3, o4⟩ := hfb
  clear HWD
  go_upto_region 7 with fail
  go_cut [] from 64 to 79 (fun wx => Hid (wx = ((wc.setCell ⟨g, 6, none⟩ (.int .i64 (lst W.au))).setCell ⟨g, 7, none⟩ (.int .i64 (lst W.bu))).drew))
  case first =>
   go_region_with (first | (go_at_call 265; with_reducible refine (least_any W.au _ HAU.out).mono ?_; rintro e w1 ⟨rfl, rfl⟩) | (go_at_call 265; with_reducible refine (least_any W.bu _ HBU.out).mono ?_; rintro e w1 ⟨rfl, rfl⟩))
   all_goals
    go_wp2_with fail
    go_meet
    exact Lib.hid rfl
  case rest =>
  have hw := hcut.out
  subst hw
  clear q0 q2 q6 q7 z6 z7
  have HB2 : Hid (Blk ((wc.setCell ⟨g, 6, none⟩ (.int .i64 (lst W.au))).setCell ⟨g, 7, none⟩ (.int .i64 (lst W.bu))).drew g 341 (wrow W (lst W.au) (lst W.bu) false false 0 0)) :=
   Lib.hid (by have := ((HB.out.set_ 6 (.int .i64 (lst W.au))).set_ 7 (.int .i64 (lst W.bu))).drew; simpa using this)
  have HP2 : Hid (Blk ((wc.setCell ⟨g, 6, none⟩ (.int .i64 (lst W.au))).setCell ⟨g, 7, none⟩ (.int .i64 (lst W.bu))).drew w.heap.size 79 #[.int .i64 ax, .int .i64 ay]) :=
   Lib.hid (by have hg := HG.out; exact ((HP.out.far (by simp; omega) _).far (by simp; omega) _).drew)
  have HQ2 : Hid (Blk ((wc.setCell ⟨g, 6, none⟩ (.int .i64 (lst W.au))).setCell ⟨g, 7, none⟩ (.int .i64 (lst W.bu))).drew (w.heap.size + 1) 79 #[.int .i64 bx, .int .i64 by_]) :=
   Lib.hid (by have hg := HG.out; exact ((HQ.out.far (by simp; omega) _).far (by simp; omega) _).drew)
  have HE2 : Hid (Ext w ((wc.setCell ⟨g, 6, none⟩ (.int .i64 (lst W.au))).setCell ⟨g, 7, none⟩ (.int .i64 (lst W.bu))).drew) :=
   Lib.hid (by have hg := HG.out; exact ((HE.out.setCell _ (by simp; omega)).setCell _ (by simp; omega)).drew)
  generalize ((wc.setCell ⟨g, 6, none⟩ (.int .i64 (lst W.au))).setCell ⟨g, 7, none⟩ (.int .i64 (lst W.bu))).drew = W1 at *
  clear HB HP HQ HE
  obtain ⟨q0, q1, q2, q3, q4, q5, q6, q7, q8, q9, q10, q11⟩ := HB2.out.c12
  clear q0 q1 q2 q3 q4 q5 q8 q9 q10 q11
  have z6 := HB2.out.frozen 6
  have z7 := HB2.out.frozen 7
  go_upto_region 8 with fail
  go_quiet (fail)
  go_upto_if 88 with (fail)
  have HB5 := Lib.hid (HB2.out.drewN nq)
  have HP5 := Lib.hid (HP2.out.drewN nq)
  have HQ5 := Lib.hid (HQ2.out.drewN nq)
  have HE5 := Lib.hid (HE2.out.drewN nq)
  clear HB2 HP2 HQ2 HE2
  go_cut [] from 80 to 104 (fun wx => Hid (Blk wx g 341 (wrow W W.first W.last false false 0 0)) ∧ Hid (Blk wx w.heap.size 79 #[.int .i64 ax, .int .i64 ay]) ∧ Hid (Blk wx (w.heap.size + 1) 79 #[.int .i64 bx, .int .i64 by_]) ∧ Hid (Ext w wx))
  case first =>
   by_cases k : lst W.bu < lst W.au
   ·have t1 : decide (lst W.bu < lst W.au) = true := by simpa using k
    have HF : Hid (W.first = lst W.au - 1 ∧ W.last = lst W.bu - 1) := Lib.hid (by unfold Way.first Way.last; rw [if_pos k, if_pos k]; exact ⟨rfl, rfl⟩)
    clear k
    rw [t1]
    clear t1
    go_upto_region 9 with fail
    go_region
    go_wp2_with fail
    go_meet
    rw [HF.out.1, HF.out.2]
    have hg := HG.out
    refine ⟨Lib.hid ?_, Lib.hid ?_, Lib.hid ?_, Lib.hid ?_⟩
    ·have h5 : Blk (W1.drewN (nq + 1)) g 341 (wrow W (lst W.au) (lst W.bu) false false 0 0) := HB5.out
     have := (h5.set_ 6 (.int .i64 (lst W.au - 1))).set_ 7 (.int .i64 (lst W.bu - 1))
     simpa using this
    ·have h5 : Blk (W1.drewN (nq + 1)) w.heap.size 79 #[.int .i64 ax, .int .i64 ay] := HP5.out
     exact (h5.far (by simp; omega) _).far (by simp; omega) _
    ·have h5 : Blk (W1.drewN (nq + 1)) (w.heap.size + 1) 79 #[.int .i64 bx, .int .i64 by_] := HQ5.out
     exact (h5.far (by simp; omega) _).far (by simp; omega) _
    ·have h5 : Ext w (W1.drewN (nq + 1)) := HE5.out.drew
     exact (h5.setCell _ (by simp; omega)).setCell _ (by simp; omega)
   ·have t1 : decide (lst W.bu < lst W.au) = false := by simpa using k
    have HF : Hid (W.first = lst W.au ∧ W.last = lst W.bu) := Lib.hid (by unfold Way.first Way.last; rw [if_neg k, if_neg k]; exact ⟨rfl, rfl⟩)
    clear k
    rw [t1]
    clear t1
    go_wp2_with fail
    go_meet
    rw [HF.out.1, HF.out.2]
    exact ⟨HB5, HP5, HQ5, HE5⟩
  case rest =>
   clear HB5 HP5 HQ5 HE5 q6 q7 z6 z7
   obtain ⟨HB3, HP3, HQ3, HE3⟩ := hcut
   obtain ⟨p0, p1⟩ := HP3.out.c2
   obtain ⟨r0, r1⟩ := HQ3.out.c2
   have HEN := Lib.hid (ends_any W g)
   go_wp2_with fail
   clear p0 p1 r0 r1
   have hpp := HPP.out
   obtain ⟨pp1, pp2, pp3, pp4⟩ := hpp
   have hen := HEN.out wc HB3.out HIN.out HOK.out.pos
   rw [pp1, pp2, pp3, pp4] at hen
   clear pp1 pp2 pp3 pp4
   refine hen.mono ?_
   rintro e w2 ⟨rfl, hb, hk⟩
   have HB4 := Lib.hid hb
   have HK := Lib.hid hk
   clear hb hk hen
   go_wp2_with fail
   go_ret
   have hg := HG.out
   exact ⟨g, rfl, by omega, HB4.out, HK.out.ext HE3.out (fun k hk => by omega)⟩
def lcount (ax ay bx by_ : Int) : Nat := if ax = bx ∧ ay = by_ then 0 else (wayOf ax ay bx by_).count
theorem lpix_len (ax ay bx by_ : Int) : (lpix ax ay bx by_).length = lcount ax ay bx by_ := by
 unfold lpix lcount
 split
 ·rfl
 ·rw [List.length_map, Way.pix_len]
end Go.Proofs.YtplljnfjkkloeaaGreatDoor
