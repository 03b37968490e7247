/- Proof text: view.Map, where it does not refuse. By an AI agent. No condition beyond what each theorem states. -/
import Derived.Test.YtplljnfjkkloeaaGreatDoorSL
import Derived.Test.YtplljnfjkkloeaaGreatDoorWF
import Derived.Test.YtplljnfjkkloeaaGreatDoorQR
set_option linter.unusedVariables false
set_option linter.unusedSimpArgs false
set_option maxHeartbeats 8000000
namespace Go.Proofs.YtplljnfjkkloeaaGreatDoor
attribute [local go_sem] Go.Oper.semAt_some
open Go.RowKit
def vmap (v : Vx) (p : Rc) : Wv := ⟨p.x0 * 256 + p.x1 * 128 * (v.x + v.w) / v.w, p.y0 * 256 + p.y1 * 128 * (v.y + v.w) / v.w, min (max (16777215 * (v.z + v.w) / (2 * v.w)) 0) 16777215, v.c0, v.c1, v.c2, v.c3⟩
structure Rc.Port (p : Rc) : Prop where
 x : -8192 ≤ p.x0 ∧ p.x0 ≤ 8192
 y : -8192 ≤ p.y0 ∧ p.y0 ≤ 8192
 w : 0 ≤ p.x1 ∧ p.x1 ≤ 4096
 h : 0 ≤ p.y1 ∧ p.y1 ≤ 4096
theorem port_mul {p s : Int} (p0 : 0 ≤ p) (p1 : p ≤ 4096) (s0 : -137438953472 ≤ s) (s1 : s ≤ 137438953472) : -72057594037927936 ≤ p * 128 * s ∧ p * 128 * s ≤ 72057594037927936 := by
 have h := mul_pl (a := p * 128) (b := s) (m := 524288) (n := 137438953472) (by omega) (by omega) s0 s1 (by omega) (by omega)
 omega
structure Vm (v : Vx) (p : Rc) (w : World) (E : Nat) (f : Wv) (wx : World) : Prop where
 v : Blk wx w.heap.size 149 #[.int .i64 v.x, .int .i64 v.y, .int .i64 v.z, .int .i64 v.w, .int .i64 v.c0, .int .i64 v.c1, .int .i64 v.c2, .int .i64 v.c3]
 p : Blk wx (w.heap.size + 1) 32 #[.int .i64 p.x0, .int .i64 p.y0, .int .i64 p.x1, .int .i64 p.y1]
 z : Blk wx (w.heap.size + 1 + 1) 177 #[.int .i64 0, .int .i64 0, .int .i64 0, .int .i64 0, .int .i64 0, .int .i64 0, .int .i64 0]
 f : Blk wx E 177 f.row
 e : Ext w wx
 n : w.heap.size + 1 + 1 < E
theorem Vm.set {v : Vx} {p : Rc} {w : World} {E : Nat} {f : Wv} {wx : World} (h : Vm v p w E f wx) (y : Later wx) (i : Nat) (u : Value) (f' : Wv) (hf : f.row.setIfInBounds i u = f'.row) : Vm v p w E f' (y.w.setCell ⟨E, i, none⟩ u) := by
 have hn := h.n
 exact ⟨(h.v.ext y.ext).far (by simp; omega) _, (h.p.ext y.ext).far (by simp; omega) _, (h.z.ext y.ext).far (by simp; omega) _, hf ▸ (h.f.ext y.ext).set_ i u, (h.e.trans y.ext).setCell _ (by simp; omega), h.n⟩
set_option maxRecDepth 100000 in
theorem map_any (v : Vx) (p : Rc) (w : World) (h : v.Seen) (hp : p.Port) (hx : -268435456 ≤ (vmap v p).x ∧ (vmap v p).x ≤ 268435456) (hy : -268435456 ≤ (vmap v p).y ∧ (vmap v p).y ≤ 268435456) :
  Calls Tryz.prog 126 #[v.v, p.v] w fun e w' => e = .returned (.tuple #[(vmap v p).v, .int .i64 0]) ∧ Ext w w' := by
 have HVR := Lib.hid (fun w => vright_any p.x0 p.y0 p.x1 p.y1 w hp.x.1 hp.x.2 hp.y.1 hp.y.2 hp.w.1 hp.w.2 hp.h.1 hp.h.2)
 have HVF := Lib.hid (fun w => vfits_any v w h)
 obtain ⟨⟨w0, w1⟩, ⟨x0, x1⟩, ⟨y0, y1⟩, ⟨z0, z1⟩, -⟩ := h
 obtain ⟨⟨p0, p1⟩, ⟨p2, p3⟩, ⟨p4, p5⟩, ⟨p6, p7⟩⟩ := hp
 obtain ⟨m1, m2⟩ := port_mul p4 p5 (s := v.x + v.w) (by omega) (by omega)
 obtain ⟨m3, m4⟩ := port_mul p6 p7 (s := v.y + v.w) (by omega) (by omega)
 have HFX := Lib.hid (fun w => floor_any (p.x1 * 128 * (v.x + v.w)) v.w w (by omega) (by omega) (by omega) (by omega))
 have HFY := Lib.hid (fun w => floor_any (p.y1 * 128 * (v.y + v.w)) v.w w (by omega) (by omega) (by omega) (by omega))
 have HFZ := Lib.hid (fun w => floor_any (16777215 * (v.z + v.w)) (2 * v.w) w (by omega) (by omega) (by omega) (by omega))
 go_enter Tryz.func126, Tryz.ntmps126
 go_wp2_with fail
 refine (HVR.out _).mono ?_
 rintro e w1 ⟨rfl, hE⟩
 obtain ⟨x1, rfl⟩ := Later.mk' hE
 clear hE
 have ca : Blk x1.w w.heap.size 149 #[.int .i64 v.x, .int .i64 v.y, .int .i64 v.z, .int .i64 v.w, .int .i64 v.c0, .int .i64 v.c1, .int .i64 v.c2, .int .i64 v.c3] := by (repeat (first | with_reducible exact Hid.out (by assumption) | (with_reducible refine Blk.new' _ _ _ ?_; (simp; done)) | with_reducible (first | refine Blk.alloc ?_ _ | refine Blk.drew ?_ | refine Blk.drewN ?_ _ | refine Blk.later ?_ _) | (with_reducible refine Blk.far ?_ ?hp _; case hp => first | (simp; done) | (simp; omega) | omega)))
 have ca := ca.c8
 go_wp2_with fail
 refine (HVF.out _).mono ?_
 rintro e w1 ⟨rfl, hE⟩
 obtain ⟨x2, rfl⟩ := Later.mk' hE
 clear hE
 have HV2 : Hid (Blk x2.w w.heap.size 149 #[.int .i64 v.x, .int .i64 v.y, .int .i64 v.z, .int .i64 v.w, .int .i64 v.c0, .int .i64 v.c1, .int .i64 v.c2, .int .i64 v.c3]) := Lib.hid (by (repeat (first | with_reducible exact Hid.out (by assumption) | (with_reducible refine Blk.new' _ _ _ ?_; (simp; done)) | with_reducible (first | refine Blk.alloc ?_ _ | refine Blk.drew ?_ | refine Blk.drewN ?_ _ | refine Blk.later ?_ _) | (with_reducible refine Blk.far ?_ ?hp _; case hp => first | (simp; done) | (simp; omega) | omega))))
 have HP2 : Hid (Blk x2.w (w.heap.size + 1) 32 #[.int .i64 p.x0, .int .i64 p.y0, .int .i64 p.x1, .int .i64 p.y1]) := Lib.hid (by (repeat (first | with_reducible exact Hid.out (by assumption) | (with_reducible refine Blk.new' _ _ _ ?_; (simp; done)) | with_reducible (first | refine Blk.alloc ?_ _ | refine Blk.drew ?_ | refine Blk.drewN ?_ _ | refine Blk.later ?_ _) | (with_reducible refine Blk.far ?_ ?hp _; case hp => first | (simp; done) | (simp; omega) | omega))))
 have HZ2 : Hid (Blk x2.w (w.heap.size + 1 + 1) 177 #[.int .i64 0, .int .i64 0, .int .i64 0, .int .i64 0, .int .i64 0, .int .i64 0, .int .i64 0]) := Lib.hid (by (repeat (first | with_reducible exact Hid.out (by assumption) | (with_reducible refine Blk.new' _ _ _ ?_; (simp; done)) | with_reducible (first | refine Blk.alloc ?_ _ | refine Blk.drew ?_ | refine Blk.drewN ?_ _ | refine Blk.later ?_ _) | (with_reducible refine Blk.far ?_ ?hp _; case hp => first | (simp; done) | (simp; omega) | omega))))
 have HE2 : Hid (Ext w x2.w) := Lib.hid (by (repeat (first | with_reducible (first | exact eR_ _ | assumption | refine eA_ ?_ _ | refine eD_ ?_ | refine eN_ ?_ _ | refine eL_ ?_ _) | (with_reducible refine eS_ ?_ _ ?hp; case hp => first | (simp; done) | (simp; omega) | omega))))
 clear ca
 generalize x2.w = w2 at *
 have ca := HV2.out.c8
 go_upto_region 4 with fail
 clear ca
 have HM3 : Hid (Vm v p w w2.heap.size ⟨0, 0, 0, v.c0, v.c1, v.c2, v.c3⟩ (w2.alloc (.cells #[.int .i64 0, .int .i64 0, .int .i64 0, .int .i64 v.c0, .int .i64 v.c1, .int .i64 v.c2, .int .i64 v.c3] 177))) := Lib.hid ⟨HV2.out.alloc _, HP2.out.alloc _, HZ2.out.alloc _, Blk.new _ _ _, HE2.out.alloc _, HZ2.out.lt⟩
 clear HV2 HP2 HZ2 HE2
 generalize w2.alloc (.cells #[.int .i64 0, .int .i64 0, .int .i64 0, .int .i64 v.c0, .int .i64 v.c1, .int .i64 v.c2, .int .i64 v.c3] 177) = w3 at *
 generalize w2.heap.size = E at *
 unfold vmap at *
 simp only at hx hy
 generalize hfx : p.x1 * 128 * (v.x + v.w) / v.w = fx at *
 generalize hfy : p.y1 * 128 * (v.y + v.w) / v.w = fy at *
 have ca := HM3.out.v.c8
 have cp := HM3.out.p.c4
 have cf := HM3.out.f.c7
 have ff := HM3.out.f.f7
 refine wp_region_later_tail 17 (by kernel_rfl) (by kernel_rfl) ?_
 simp only [List.take_succ_cons, List.take_zero, List.drop_succ_cons, List.drop_zero]
 repeat (go_big_quiet_step ((first | (go_at_call 172; exact Calls.later _ (HFX.out _)) | fail)))
 refine wpQuiet_nil ?_
 intro y
 go_upto_region 5 with fail
 have HM4 := Lib.hid (HM3.out.set y 0 (.int .i64 (p.x0 * 256 + fx)) ⟨p.x0 * 256 + fx, 0, 0, v.c0, v.c1, v.c2, v.c3⟩ rfl)
 clear ca cp cf ff HM3
 generalize y.w.setCell ⟨E, 0, none⟩ (.int .i64 (p.x0 * 256 + fx)) = w4 at *
 have ca := HM4.out.v.c8
 have cp := HM4.out.p.c4
 have cf := HM4.out.f.c7
 have ff := HM4.out.f.f7
 refine wp_region_later_tail 17 (by kernel_rfl) (by kernel_rfl) ?_
 simp only [List.take_succ_cons, List.take_zero, List.drop_succ_cons, List.drop_zero]
 repeat (go_big_quiet_step ((first | (go_at_call 172; exact Calls.later _ (HFY.out _)) | fail)))
 refine wpQuiet_nil ?_
 intro y2
 go_upto_region 6 with fail
 have HM5 := Lib.hid (HM4.out.set y2 1 (.int .i64 (p.y0 * 256 + fy)) ⟨p.x0 * 256 + fx, p.y0 * 256 + fy, 0, v.c0, v.c1, v.c2, v.c3⟩ rfl)
 clear ca cp cf ff HM4
 generalize y2.w.setCell ⟨E, 1, none⟩ (.int .i64 (p.y0 * 256 + fy)) = w5 at *
 have ca := HM5.out.v.c8
 have cf := HM5.out.f.c7
 have ff := HM5.out.f.f7
 obtain ⟨hx1, hx2⟩ := hx
 obtain ⟨hy1, hy2⟩ := hy
 generalize hX : p.x0 * 256 + fx = X at *
 generalize hY : p.y0 * 256 + fy = Y at *
 go_wp2_with fail
 refine (HFZ.out _).mono ?_
 rintro e w1 ⟨rfl, hE⟩
 obtain ⟨y3, rfl⟩ := Later.mk' hE
 clear hE
 go_upto_region 9 with fail
 have HM6 := Lib.hid (HM5.out.set y3 2 (.int .i64 (min (max (16777215 * (v.z + v.w) / (2 * v.w)) 0) 16777215)) ⟨X, Y, min (max (16777215 * (v.z + v.w) / (2 * v.w)) 0) 16777215, v.c0, v.c1, v.c2, v.c3⟩ rfl)
 have HVM : Hid (vmap v p = ⟨X, Y, min (max (16777215 * (v.z + v.w) / (2 * v.w)) 0) 16777215, v.c0, v.c1, v.c2, v.c3⟩) := Lib.hid (by unfold vmap; rw [hfx, hfy, hX, hY])
 clear ca cf ff HM5
 generalize y3.w.setCell ⟨E, 2, none⟩ (.int .i64 (min (max (16777215 * (v.z + v.w) / (2 * v.w)) 0) 16777215)) = w6 at *
 generalize min (max (16777215 * (v.z + v.w) / (2 * v.w)) 0) 16777215 = Z at *
 have cf := HM6.out.f.c7
 have cz := HM6.out.z.c7
 have fz := HM6.out.z.f7
 go_wp2_with fail
 have HR := Lib.hid (HM6.out.z.s7 (.int .i64 X) (.int .i64 Y) (.int .i64 Z) (.int .i64 v.c0) (.int .i64 v.c1) (.int .i64 v.c2) (.int .i64 v.c3))
 have HE : Hid (Ext w (((((((w6.setCell ⟨w.heap.size + 1 + 1, 0, none⟩ (.int .i64 X)).setCell ⟨w.heap.size + 1 + 1, 1, none⟩ (.int .i64 Y)).setCell ⟨w.heap.size + 1 + 1, 2, none⟩ (.int .i64 Z)).setCell ⟨w.heap.size + 1 + 1, 3, none⟩ (.int .i64 v.c0)).setCell ⟨w.heap.size + 1 + 1, 4, none⟩ (.int .i64 v.c1)).setCell ⟨w.heap.size + 1 + 1, 5, none⟩ (.int .i64 v.c2)).setCell ⟨w.heap.size + 1 + 1, 6, none⟩ (.int .i64 v.c3))) := Lib.hid (((((((HM6.out.e.setCell (p := ⟨w.heap.size + 1 + 1, 0, none⟩) (.int .i64 X) (by simp; omega)).setCell (p := ⟨w.heap.size + 1 + 1, 1, none⟩) (.int .i64 Y) (by simp; omega)).setCell (p := ⟨w.heap.size + 1 + 1, 2, none⟩) (.int .i64 Z) (by simp; omega)).setCell (p := ⟨w.heap.size + 1 + 1, 3, none⟩) (.int .i64 v.c0) (by simp; omega)).setCell (p := ⟨w.heap.size + 1 + 1, 4, none⟩) (.int .i64 v.c1) (by simp; omega)).setCell (p := ⟨w.heap.size + 1 + 1, 5, none⟩) (.int .i64 v.c2) (by simp; omega)).setCell (p := ⟨w.heap.size + 1 + 1, 6, none⟩) (.int .i64 v.c3) (by simp; omega))
 generalize (((((((w6.setCell ⟨w.heap.size + 1 + 1, 0, none⟩ (.int .i64 X)).setCell ⟨w.heap.size + 1 + 1, 1, none⟩ (.int .i64 Y)).setCell ⟨w.heap.size + 1 + 1, 2, none⟩ (.int .i64 Z)).setCell ⟨w.heap.size + 1 + 1, 3, none⟩ (.int .i64 v.c0)).setCell ⟨w.heap.size + 1 + 1, 4, none⟩ (.int .i64 v.c1)).setCell ⟨w.heap.size + 1 + 1, 5, none⟩ (.int .i64 v.c2)).setCell ⟨w.heap.size + 1 + 1, 6, none⟩ (.int .i64 v.c3)) = w7 at *
 refine bodyPost_ret (v := .tuple #[(Wv.mk X Y Z v.c0 v.c1 v.c2 v.c3).v, .int .i64 0]) ?_ rfl ⟨by rw [HVM.out], HE.out⟩
 rw [results_cell_tmp Tryz.results126]
 have hl := run_load_blk (P := Tryz.prog) HR.out 177 0 7 agg_win (by kernel_rfl) (by simp)
 simp [asAddr, Result.andThen, hl]
end Go.Proofs.YtplljnfjkkloeaaGreatDoor
set_option linter.unusedVariables false
set_option linter.unusedSimpArgs false
namespace Go.Proofs.YtplljnfjkkloeaaGreatDoor
attribute [local go_sem] Go.Oper.semAt_some
open Go.RowKit
set_option maxRecDepth 100000 in
theorem place_any {T : TypeId} {D : Nat} {ds : Array Value} (v : Vx) (p : Rc) (w : World) (hD : Blk w D T ds) (e0 : ds[10]? = some (.int .i64 p.x0)) (e1 : ds[11]? = some (.int .i64 p.y0)) (e2 : ds[12]? = some (.int .i64 p.x1)) (e3 : ds[13]? = some (.int .i64 p.y1))
  (hv : v.Seen) (hp : p.Port) (hx : -268435456 ≤ (vmap v p).x ∧ (vmap v p).x ≤ 268435456) (hy : -268435456 ≤ (vmap v p).y ∧ (vmap v p).y ≤ 268435456) :
  Calls Tryz.prog 87 #[.pointer (some ⟨D, 0, none⟩), v.v] w fun e w' => e = .returned (vmap v p).v ∧ Ext w w' := by
 have HMA := Lib.hid (fun wz => map_any v p wz hv hp hx hy)
 generalize vmap v p = r at *
 have HPC : Hid (∀ wz, Ext w wz → wz.cell? ⟨D, 10, none⟩ = some (.int .i64 p.x0) ∧ wz.cell? ⟨D, 11, none⟩ = some (.int .i64 p.y0) ∧ wz.cell? ⟨D, 12, none⟩ = some (.int .i64 p.x1) ∧ wz.cell? ⟨D, 13, none⟩ = some (.int .i64 p.y1)) :=
  Lib.hid (fun wz e => ⟨((hD.ext e).cell 10).trans e0, ((hD.ext e).cell 11).trans e1, ((hD.ext e).cell 12).trans e2, ((hD.ext e).cell 13).trans e3⟩)
 have HV0 : Hid (Blk ((w.alloc (.cells #[.int .i64 v.x, .int .i64 v.y, .int .i64 v.z, .int .i64 v.w, .int .i64 v.c0, .int .i64 v.c1, .int .i64 v.c2, .int .i64 v.c3] 149)).alloc (.cells #[.int .i64 0, .int .i64 0, .int .i64 0, .int .i64 0, .int .i64 0, .int .i64 0, .int .i64 0] 177)) w.heap.size 149 #[.int .i64 v.x, .int .i64 v.y, .int .i64 v.z, .int .i64 v.w, .int .i64 v.c0, .int .i64 v.c1, .int .i64 v.c2, .int .i64 v.c3]) := Lib.hid (by (repeat (first | with_reducible exact Hid.out (by assumption) | (with_reducible refine Blk.new' _ _ _ ?_; (simp; done)) | with_reducible (first | refine Blk.alloc ?_ _ | refine Blk.drew ?_ | refine Blk.drewN ?_ _ | refine Blk.later ?_ _) | (with_reducible refine Blk.far ?_ ?hp _; case hp => first | (simp; done) | (simp; omega) | omega))))
 have HR0 : Hid (Blk ((w.alloc (.cells #[.int .i64 v.x, .int .i64 v.y, .int .i64 v.z, .int .i64 v.w, .int .i64 v.c0, .int .i64 v.c1, .int .i64 v.c2, .int .i64 v.c3] 149)).alloc (.cells #[.int .i64 0, .int .i64 0, .int .i64 0, .int .i64 0, .int .i64 0, .int .i64 0, .int .i64 0] 177)) (w.heap.size + 1) 177 #[.int .i64 0, .int .i64 0, .int .i64 0, .int .i64 0, .int .i64 0, .int .i64 0, .int .i64 0]) := Lib.hid (by (repeat (first | with_reducible exact Hid.out (by assumption) | (with_reducible refine Blk.new' _ _ _ ?_; (simp; done)) | with_reducible (first | refine Blk.alloc ?_ _ | refine Blk.drew ?_ | refine Blk.drewN ?_ _ | refine Blk.later ?_ _) | (with_reducible refine Blk.far ?_ ?hp _; case hp => first | (simp; done) | (simp; omega) | omega))))
 have HE0 : Hid (Ext w ((w.alloc (.cells #[.int .i64 v.x, .int .i64 v.y, .int .i64 v.z, .int .i64 v.w, .int .i64 v.c0, .int .i64 v.c1, .int .i64 v.c2, .int .i64 v.c3] 149)).alloc (.cells #[.int .i64 0, .int .i64 0, .int .i64 0, .int .i64 0, .int .i64 0, .int .i64 0, .int .i64 0] 177))) := Lib.hid (by (repeat (first | with_reducible (first | exact eR_ _ | assumption | refine eA_ ?_ _ | refine eD_ ?_ | refine eN_ ?_ _ | refine eL_ ?_ _) | (with_reducible refine eS_ ?_ _ ?hp; case hp => first | (simp; done) | (simp; omega) | omega))))
 clear hD e0 e1 e2 e3 hv hp hx hy
 go_enter Tryz.func87, Tryz.ntmps87
 go_upto_region 1 with fail
 generalize (w.alloc (.cells #[.int .i64 v.x, .int .i64 v.y, .int .i64 v.z, .int .i64 v.w, .int .i64 v.c0, .int .i64 v.c1, .int .i64 v.c2, .int .i64 v.c3] 149)).alloc (.cells #[.int .i64 0, .int .i64 0, .int .i64 0, .int .i64 0, .int .i64 0, .int .i64 0, .int .i64 0] 177) = W0 at *
 have HSS : Hid (∀ w', Ext W0 w' → (w'.cell? ⟨w.heap.size, 0, none⟩ = some (.int .i64 v.x) ∧ w'.cell? ⟨w.heap.size, 1, none⟩ = some (.int .i64 v.y) ∧ w'.cell? ⟨w.heap.size, 2, none⟩ = some (.int .i64 v.z) ∧ w'.cell? ⟨w.heap.size, 3, none⟩ = some (.int .i64 v.w) ∧ w'.cell? ⟨w.heap.size, 4, none⟩ = some (.int .i64 v.c0) ∧ w'.cell? ⟨w.heap.size, 5, none⟩ = some (.int .i64 v.c1) ∧ w'.cell? ⟨w.heap.size, 6, none⟩ = some (.int .i64 v.c2) ∧ w'.cell? ⟨w.heap.size, 7, none⟩ = some (.int .i64 v.c3)) ∧
   w'.cell? ⟨D, 10, none⟩ = some (.int .i64 p.x0) ∧ w'.cell? ⟨D, 11, none⟩ = some (.int .i64 p.y0) ∧ w'.cell? ⟨D, 12, none⟩ = some (.int .i64 p.x1) ∧ w'.cell? ⟨D, 13, none⟩ = some (.int .i64 p.y1)) := Lib.hid (fun w' e => ⟨(HV0.out.ext e).c8, HPC.out _ (HE0.out.trans e)⟩)
 go_region_held3 (fun w' => (w'.cell? ⟨w.heap.size, 0, none⟩ = some (.int .i64 v.x) ∧ w'.cell? ⟨w.heap.size, 1, none⟩ = some (.int .i64 v.y) ∧ w'.cell? ⟨w.heap.size, 2, none⟩ = some (.int .i64 v.z) ∧ w'.cell? ⟨w.heap.size, 3, none⟩ = some (.int .i64 v.w) ∧ w'.cell? ⟨w.heap.size, 4, none⟩ = some (.int .i64 v.c0) ∧ w'.cell? ⟨w.heap.size, 5, none⟩ = some (.int .i64 v.c1) ∧ w'.cell? ⟨w.heap.size, 6, none⟩ = some (.int .i64 v.c2) ∧ w'.cell? ⟨w.heap.size, 7, none⟩ = some (.int .i64 v.c3)) ∧
   w'.cell? ⟨D, 10, none⟩ = some (.int .i64 p.x0) ∧ w'.cell? ⟨D, 11, none⟩ = some (.int .i64 p.y0) ∧ w'.cell? ⟨D, 12, none⟩ = some (.int .i64 p.x1) ∧ w'.cell? ⟨D, 13, none⟩ = some (.int .i64 p.y1))
  (exact HSS.out _ (by (repeat (first | with_reducible (first | exact eR_ _ | assumption | refine eA_ ?_ _ | refine eD_ ?_ | refine eN_ ?_ _ | refine eL_ ?_ _) | (with_reducible refine eS_ ?_ _ ?hp; case hp => first | (simp; done) | (simp; omega) | omega)))))
  (first
   | (go_at_call 126; refine (HMA.out _).mono ?_; rintro e w1 ⟨rfl, hE⟩; obtain ⟨y1, rfl⟩ := Later.mk' hE; clear hE))
 ·have HYE : Hid (Ext W0 y1.w) := Lib.hid (by (repeat (first | with_reducible (first | exact eR_ _ | assumption | refine eA_ ?_ _ | refine eD_ ?_ | refine eN_ ?_ _ | refine eL_ ?_ _) | (with_reducible refine eS_ ?_ _ ?hp; case hp => first | (simp; done) | (simp; omega) | omega))))
  have HF3 : Hid (Blk (y1.w.alloc (.cells #[.int .i64 r.x, .int .i64 r.y, .int .i64 r.z, .int .i64 r.c0, .int .i64 r.c1, .int .i64 r.c2, .int .i64 r.c3] 177)) y1.w.heap.size 177 #[.int .i64 r.x, .int .i64 r.y, .int .i64 r.z, .int .i64 r.c0, .int .i64 r.c1, .int .i64 r.c2, .int .i64 r.c3]) := Lib.hid (Blk.new _ _ _)
  have HR3 : Hid (Blk (y1.w.alloc (.cells #[.int .i64 r.x, .int .i64 r.y, .int .i64 r.z, .int .i64 r.c0, .int .i64 r.c1, .int .i64 r.c2, .int .i64 r.c3] 177)) (w.heap.size + 1) 177 #[.int .i64 0, .int .i64 0, .int .i64 0, .int .i64 0, .int .i64 0, .int .i64 0, .int .i64 0]) := Lib.hid ((HR0.out.ext HYE.out).alloc _)
  have HE3 : Hid (Ext w (y1.w.alloc (.cells #[.int .i64 r.x, .int .i64 r.y, .int .i64 r.z, .int .i64 r.c0, .int .i64 r.c1, .int .i64 r.c2, .int .i64 r.c3] 177))) := Lib.hid ((HE0.out.trans HYE.out).alloc _)
  clear HSS HMA HPC HV0 HR0 HE0 HYE
  generalize (y1.w.alloc (.cells #[.int .i64 r.x, .int .i64 r.y, .int .i64 r.z, .int .i64 r.c0, .int .i64 r.c1, .int .i64 r.c2, .int .i64 r.c3] 177)) = W3 at *
  generalize y1.w.heap.size = E at *
  have cf := HF3.out.c7
  have cr := HR3.out.c7
  have fr := HR3.out.f7
  go_wp2_with (go_at_call 77; refine (need_yes 9 _).mono ?_; rintro e w1 ⟨rfl, rfl⟩)
  have HZ := HR3.out.s7 (.int .i64 r.x) (.int .i64 r.y) (.int .i64 r.z) (.int .i64 r.c0) (.int .i64 r.c1) (.int .i64 r.c2) (.int .i64 r.c3)
  have HE := HE3.out
  obtain ⟨z0, z1, z2, z3, z4, z5, z6⟩ := HZ.c7
  refine bodyPost_ret (v := r.v) (by simp [results, Tryz.results87, go_sem, z0, z1, z2, z3, z4, z5, z6]) rfl ⟨rfl, by (repeat (first | with_reducible (first | exact eR_ _ | assumption | refine eA_ ?_ _ | refine eD_ ?_ | refine eN_ ?_ _ | refine eL_ ?_ _) | (with_reducible refine eS_ ?_ _ ?hp; case hp => first | (simp; done) | (simp; omega) | omega)))⟩
 ·have HYE : Hid (Ext (W0.alloc (.cells #[.int .i64 0, .int .i64 0, .int .i64 0, .int .i64 0, .int .i64 0, .int .i64 0, .int .i64 0] 177)) y1.w) := Lib.hid (by (repeat (first | with_reducible (first | exact eR_ _ | assumption | refine eA_ ?_ _ | refine eD_ ?_ | refine eN_ ?_ _ | refine eL_ ?_ _) | (with_reducible refine eS_ ?_ _ ?hp; case hp => first | (simp; done) | (simp; omega) | omega))))
  have HB1 := (Blk.new W0 177 #[.int .i64 0, .int .i64 0, .int .i64 0, .int .i64 0, .int .i64 0, .int .i64 0, .int .i64 0]).ext HYE.out
  have HF3 : Hid (Blk (((((((y1.w.setCell ⟨W0.heap.size, 0, none⟩ (.int .i64 r.x)).setCell ⟨W0.heap.size, 1, none⟩ (.int .i64 r.y)).setCell ⟨W0.heap.size, 2, none⟩ (.int .i64 r.z)).setCell ⟨W0.heap.size, 3, none⟩ (.int .i64 r.c0)).setCell ⟨W0.heap.size, 4, none⟩ (.int .i64 r.c1)).setCell ⟨W0.heap.size, 5, none⟩ (.int .i64 r.c2)).setCell ⟨W0.heap.size, 6, none⟩ (.int .i64 r.c3)) W0.heap.size 177 #[.int .i64 r.x, .int .i64 r.y, .int .i64 r.z, .int .i64 r.c0, .int .i64 r.c1, .int .i64 r.c2, .int .i64 r.c3]) := Lib.hid (HB1.s7 _ _ _ _ _ _ _)
  have hlt := HR0.out.lt
  have HR2 := (HR0.out.alloc (.cells #[.int .i64 0, .int .i64 0, .int .i64 0, .int .i64 0, .int .i64 0, .int .i64 0, .int .i64 0] 177)).ext HYE.out
  have kk : Kp (· ≠ W0.heap.size) y1.w (((((((y1.w.setCell ⟨W0.heap.size, 0, none⟩ (.int .i64 r.x)).setCell ⟨W0.heap.size, 1, none⟩ (.int .i64 r.y)).setCell ⟨W0.heap.size, 2, none⟩ (.int .i64 r.z)).setCell ⟨W0.heap.size, 3, none⟩ (.int .i64 r.c0)).setCell ⟨W0.heap.size, 4, none⟩ (.int .i64 r.c1)).setCell ⟨W0.heap.size, 5, none⟩ (.int .i64 r.c2)).setCell ⟨W0.heap.size, 6, none⟩ (.int .i64 r.c3)) := (((((((Kp.refl _ _).setCell (p := ⟨W0.heap.size, 0, none⟩) _ (fun h => h rfl)).setCell (p := ⟨W0.heap.size, 1, none⟩) _ (fun h => h rfl)).setCell (p := ⟨W0.heap.size, 2, none⟩) _ (fun h => h rfl)).setCell (p := ⟨W0.heap.size, 3, none⟩) _ (fun h => h rfl)).setCell (p := ⟨W0.heap.size, 4, none⟩) _ (fun h => h rfl)).setCell (p := ⟨W0.heap.size, 5, none⟩) _ (fun h => h rfl)).setCell (p := ⟨W0.heap.size, 6, none⟩) _ (fun h => h rfl)
  have HR3 : Hid (Blk (((((((y1.w.setCell ⟨W0.heap.size, 0, none⟩ (.int .i64 r.x)).setCell ⟨W0.heap.size, 1, none⟩ (.int .i64 r.y)).setCell ⟨W0.heap.size, 2, none⟩ (.int .i64 r.z)).setCell ⟨W0.heap.size, 3, none⟩ (.int .i64 r.c0)).setCell ⟨W0.heap.size, 4, none⟩ (.int .i64 r.c1)).setCell ⟨W0.heap.size, 5, none⟩ (.int .i64 r.c2)).setCell ⟨W0.heap.size, 6, none⟩ (.int .i64 r.c3)) (w.heap.size + 1) 177 #[.int .i64 0, .int .i64 0, .int .i64 0, .int .i64 0, .int .i64 0, .int .i64 0, .int .i64 0]) := Lib.hid (HR2.kp kk (by omega))
  have hs0 := HE0.out.size
  have HE3 : Hid (Ext w (((((((y1.w.setCell ⟨W0.heap.size, 0, none⟩ (.int .i64 r.x)).setCell ⟨W0.heap.size, 1, none⟩ (.int .i64 r.y)).setCell ⟨W0.heap.size, 2, none⟩ (.int .i64 r.z)).setCell ⟨W0.heap.size, 3, none⟩ (.int .i64 r.c0)).setCell ⟨W0.heap.size, 4, none⟩ (.int .i64 r.c1)).setCell ⟨W0.heap.size, 5, none⟩ (.int .i64 r.c2)).setCell ⟨W0.heap.size, 6, none⟩ (.int .i64 r.c3))) := Lib.hid (kk.ext ((HE0.out.alloc _).trans HYE.out) (fun j hj => by omega))
  clear HSS HMA HPC HV0 HR0 HE0 HYE HR2 HB1 kk
  generalize (((((((y1.w.setCell ⟨W0.heap.size, 0, none⟩ (.int .i64 r.x)).setCell ⟨W0.heap.size, 1, none⟩ (.int .i64 r.y)).setCell ⟨W0.heap.size, 2, none⟩ (.int .i64 r.z)).setCell ⟨W0.heap.size, 3, none⟩ (.int .i64 r.c0)).setCell ⟨W0.heap.size, 4, none⟩ (.int .i64 r.c1)).setCell ⟨W0.heap.size, 5, none⟩ (.int .i64 r.c2)).setCell ⟨W0.heap.size, 6, none⟩ (.int .i64 r.c3)) = W3 at *
  generalize W0.heap.size = E at *
  clear hlt hs0
  have cf := HF3.out.c7
  have cr := HR3.out.c7
  have fr := HR3.out.f7
  go_wp2_with (go_at_call 77; refine (need_yes 9 _).mono ?_; rintro e w1 ⟨rfl, rfl⟩)
  have HZ := HR3.out.s7 (.int .i64 r.x) (.int .i64 r.y) (.int .i64 r.z) (.int .i64 r.c0) (.int .i64 r.c1) (.int .i64 r.c2) (.int .i64 r.c3)
  have HE := HE3.out
  obtain ⟨z0, z1, z2, z3, z4, z5, z6⟩ := HZ.c7
  refine bodyPost_ret (v := r.v) (by simp [results, Tryz.results87, go_sem, z0, z1, z2, z3, z4, z5, z6]) rfl ⟨rfl, by (repeat (first | with_reducible (first | exact eR_ _ | assumption | refine eA_ ?_ _ | refine eD_ ?_ | refine eN_ ?_ _ | refine eL_ ?_ _) | (with_reducible refine eS_ ?_ _ ?hp; case hp => first | (simp; done) | (simp; omega) | omega)))⟩
end Go.Proofs.YtplljnfjkkloeaaGreatDoor
set_option linter.unusedVariables false
set_option linter.unusedSimpArgs false
namespace Go.Proofs.YtplljnfjkkloeaaGreatDoor
attribute [local go_sem] Go.Oper.semAt_some
open Go.RowKit
set_option maxRecDepth 100000 in
theorem fline_look (a b : Wv) (n : Nat) (dashed : Bool) (d : Da) (r : Rc) (ks : Array Value) (w : World) (ha : a.Fits) (hb : b.Fits) (hd : d.Ok) (hr : r.Ok) (n0 : 1 ≤ n) (n1 : n ≤ 64) (k0 : ks[0]? = some (.int .i64 (n : Int))) (k1 : ks[1]? = some (.bool false)) (k2 : ks[2]? = some (.bool dashed)) :
  Calls Tryz.prog 89 #[a.v, b.v, .agg ks, d.v, r.v] w fun e w' =>
   ∃ v, e = .returned (.tuple #[v, (wnext dashed d (wcount a b n)).v]) ∧ w'.ownsRow w.heap.size 68 8 v (wlist a b n dashed d r).length ((wlist a b n dashed d r).flatMap Fr.cells) ∧ Ext w w' := by
 have HWL := Lib.hid (fun w => wline_any a b n dashed d r w ha hb hd hr n0 n1)
 have K0 := Lib.hid k0
 have K1 := Lib.hid k1
 have K2 := Lib.hid k2
 clear ha hb hd hr n0 n1 k0 k1 k2
 go_enter Tryz.func89, Tryz.ntmps89
 go_upto_region 1 with fail
 have HKB : Hid (Blk ((((((w.alloc (.cells a.row 177)).alloc (.cells b.row 177)).alloc (.cells ks 46)).alloc (.cells #[.int .i64 d.bits, .int .i64 d.every, .int .i64 d.done] 44)).alloc (.cells r.row 48)).alloc (.cells #[.int .i64 0, .int .i64 0, .int .i64 0] 44)) (w.heap.size + 1 + 1) 46 ks) := Lib.hid (by (repeat (first | with_reducible exact Hid.out (by assumption) | (with_reducible refine Blk.new' _ _ _ ?_; (simp; done)) | with_reducible (first | refine Blk.alloc ?_ _ | refine Blk.drew ?_ | refine Blk.drewN ?_ _ | refine Blk.later ?_ _) | (with_reducible refine Blk.far ?_ ?hp _; case hp => first | (simp; done) | (simp; omega) | omega))))
 have c0 := (HKB.out.cell 0).trans K0.out
 have c1 := (HKB.out.cell 1).trans K1.out
 have c2 := (HKB.out.cell 2).trans K2.out
 go_wp2_with fail
 refine (HWL.out _).mono ?_
 rintro e w1 ⟨v, rfl, ho, hE⟩
 obtain ⟨x, rfl⟩ := Later.mk' hE
 clear hE c0 c1 c2
 have HEX : Hid (Ext w x.w) := Lib.hid (by (repeat (first | with_reducible (first | exact eR_ _ | assumption | refine eA_ ?_ _ | refine eD_ ?_ | refine eN_ ?_ _ | refine eL_ ?_ _) | (with_reducible refine eS_ ?_ _ ?hp; case hp => first | (simp; done) | (simp; omega) | omega))))
 have HB : Hid (Blk x.w (w.heap.size + 1 + 1 + 1 + 1 + 1) 44 #[.int .i64 0, .int .i64 0, .int .i64 0]) := Lib.hid (by (repeat (first | with_reducible exact Hid.out (by assumption) | (with_reducible refine Blk.new' _ _ _ ?_; (simp; done)) | with_reducible (first | refine Blk.alloc ?_ _ | refine Blk.drew ?_ | refine Blk.drewN ?_ _ | refine Blk.later ?_ _) | (with_reducible refine Blk.far ?_ ?hp _; case hp => first | (simp; done) | (simp; omega) | omega))))
 have HO := Lib.hid (ownsRow_base (base' := w.heap.size) ho (by simp; omega))
 obtain ⟨sa, sc, rfl, -⟩ := ownsRow_rd ho
 clear ho
 have cz := HB.out.c3
 have fz := HB.out.f3
 generalize x.w = w2 at *
 generalize hq : wnext dashed d (wcount a b n) = q at *
 have HQ := Lib.hid hq
 clear hq HKB
 go_wp2_with fail
 have HZ := Lib.hid (HB.out.s3 (.int .i64 q.bits) (.int .i64 q.every) (.int .i64 q.done))
 have hOW := own_kp HO.out ((((Kp.refl (· ≠ w.heap.size + 1 + 1 + 1 + 1 + 1) w2).setCell (p := ⟨w.heap.size + 1 + 1 + 1 + 1 + 1, 0, none⟩) (.int .i64 q.bits) (fun h => h rfl)).setCell (p := ⟨w.heap.size + 1 + 1 + 1 + 1 + 1, 1, none⟩) (.int .i64 q.every) (fun h => h rfl)).setCell (p := ⟨w.heap.size + 1 + 1 + 1 + 1 + 1, 2, none⟩) (.int .i64 q.done) (fun h => h rfl)) (fun k hk e => own_ne_blk HO.out HB.out (by decide) (by rw [hk, e]))
 have HE : Ext w (((w2.setCell ⟨w.heap.size + 1 + 1 + 1 + 1 + 1, 0, none⟩ (.int .i64 q.bits)).setCell ⟨w.heap.size + 1 + 1 + 1 + 1 + 1, 1, none⟩ (.int .i64 q.every)).setCell ⟨w.heap.size + 1 + 1 + 1 + 1 + 1, 2, none⟩ (.int .i64 q.done)) :=
  ((HEX.out.setCell _ (by simp; omega)).setCell _ (by simp; omega)).setCell _ (by simp; omega)
 refine bodyPost_ret (results_tmp_cell rfl _ _ _ (ad := ⟨w.heap.size + 1 + 1 + 1 + 1 + 1, 0, none⟩) rfl (run_load_blk HZ.out 44 0 3 agg_dash (by kernel_rfl) (by simp))) rfl ⟨.slice sa (wlist a b n dashed d r).length sc, ?_, hOW, HE⟩
 first | rfl | (rw [HQ.out]; rfl)
end Go.Proofs.YtplljnfjkkloeaaGreatDoor
set_option linter.unusedVariables false
set_option linter.unusedSimpArgs false
namespace Go.Proofs.YtplljnfjkkloeaaGreatDoor
attribute [local go_sem] Go.Oper.semAt_some
open Go.RowKit
theorem fcells_one (L : List Fr) : ∀ u ∈ L.flatMap Fr.cells, u.oneCell' = true := by
 intro u hu
 obtain ⟨f, -, hf⟩ := List.mem_flatMap.1 hu
 simp only [Fr.cells, List.mem_cons, List.not_mem_nil, or_false] at hf
 rcases hf with rfl | rfl | rfl | rfl | rfl | rfl | rfl | rfl <;> rfl
set_option maxRecDepth 100000 in
theorem add_any {T : TypeId} {D : Nat} {ds : Array Value} {base : Nat} {v : Value} (L M : List Fr) (a : Option Addr) (cap : Nat) (w : World) (hD : Blk w D T ds) (hT : T ≠ 68) (e : ds[102]? = some v) (ho : w.ownsRow base 68 8 v L.length (L.flatMap Fr.cells)) (hb : base ≤ w.heap.size)
  (hr : Rd w 8 a M.length cap (M.flatMap Fr.cells)) (hL : L.length + M.length ≤ 1000000000000) :
  Calls Tryz.prog 85 #[.pointer (some ⟨D, 0, none⟩), .slice a M.length cap] w fun e w' =>
   e = .returned (.tuple #[]) ∧ (∃ v', Blk w' D T (ds.setIfInBounds 102 v') ∧ w'.ownsRow base 68 8 v' (L ++ M).length ((L ++ M).flatMap Fr.cells)) ∧ Kept base D 68 w w' := by
 have HD := Lib.hid hD
 have HO := Lib.hid ho
 have HR := Lib.hid hr
 have HT := Lib.hid hT
 have c0 := (hD.cell 102).trans e
 obtain ⟨va, vc, rfl, -⟩ := ownsRow_rd ho
 have HEQ := Lib.hid e
 clear hD ho hr e hT
 go_enter Tryz.func85, Tryz.ntmps85
 go_wp2_with (refine wpList_append_rd rfl (.tmp 8) (.tmp 9) 63 rfl base 68 _ 8 64 Tryz.underlying63 info_frag rfl (by decide) (.slice va L.length vc) L.length (L.flatMap Fr.cells) rfl HO.out a M.length cap (M.flatMap Fr.cells) rfl HR.out (fcells_one M) (by omega) (by decide) hb ?_)
 intro v' w1 ho1 hg
 obtain ⟨va', vc', rfl, -⟩ := ownsRow_rd ho1
 have hne := own_ne_blk HO.out HD.out HT.out
 have HD1 := Lib.hid (HD.out.grown' hg hne)
 have HO1 := Lib.hid ho1
 have HG := Lib.hid hg
 clear ho1 hg hne c0
 have c1 := (HD1.out.cell 102).trans HEQ.out
 have f1 := HD1.out.frozen 102
 go_wp2_with fail
 have kk : Kp (· ≠ D) w1 (w1.setCell ⟨D, 102, none⟩ (.slice va' (L.length + M.length) vc')) := (Kp.refl _ _).setCell (p := ⟨D, 102, none⟩) _ (fun h => h rfl)
 refine bodyPost_end (results_none rfl _ _ _) rfl ⟨rfl, ⟨.slice va' (L.length + M.length) vc', HD1.out.set_ 102 _, ?_⟩, ⟨fun g t cs hb ht hg => ?_, fun w0 h1 h2 he => ?_, ?_⟩⟩
 ·have := own_kp HO1.out kk (fun g hg h => own_ne_blk HO1.out HD1.out HT.out (by rw [hg, h]))
  rw [List.length_append, List.flatMap_append]
  exact this
 ·exact (hb.grown' HG.out (own_ne_blk HO.out hb ht)).far (by simpa using hg) _
 ·refine (he.grown HG.out (fun k hk => ?_)).setCell _ (by simpa using h2)
  rcases HO.out.2 with ⟨h0, -⟩ | ⟨g, cap', cur, h0, hb', -⟩
  ·rw [h0] at hk; simp [Value.ownBlock] at hk
  ·rw [h0] at hk
   simp [Value.ownBlock] at hk
   omega
 ·have := HG.out.size
  simpa using this
end Go.Proofs.YtplljnfjkkloeaaGreatDoor
set_option linter.unusedVariables false
set_option linter.unusedSimpArgs false
namespace Go.Proofs.YtplljnfjkkloeaaGreatDoor
open Go.RowKit
end Go.Proofs.YtplljnfjkkloeaaGreatDoor
