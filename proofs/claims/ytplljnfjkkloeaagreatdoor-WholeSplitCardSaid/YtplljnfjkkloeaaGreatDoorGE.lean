/- Proof text: a fragment that comes (frag.refused, frag.One), where nothing is cut and no depth is asked. By an AI agent. No condition beyond what each theorem states. -/
import Derived.Test.YtplljnfjkkloeaaGreatDoorWH
set_option linter.unusedVariables false
set_option linter.unusedSimpArgs false
namespace Go.Proofs.YtplljnfjkkloeaaGreatDoor
attribute [local go_sem] Go.Oper.semAt_some
open Go.RowKit
structure Img (w : World) (T : TypeId) (J : Nat) (js : Array Value) (W H n X Y : Nat) (C Z : List Int) : Prop where
  j : Blk w J T js
  p : Pic js W H n X Y
  x : Blk w X 3 (irow C)
  y : Blk w Y 3 (irow Z)
  lc : C.length = n
  lz : Z.length = n
  jx : X ≠ J
  xy : X ≠ Y
  r : ∀ v ∈ C, 0 ≤ v ∧ v < 4294967296
section
variable {w w' : World} {T : TypeId} {J : Nat} {js : Array Value} {W H n X Y : Nat} {C Z : List Int}
theorem Img.ext (h : Img w T J js W H n X Y C Z) (e : Ext w w') : Img w' T J js W H n X Y C Z := ⟨h.j.ext e, h.p, h.x.ext e, h.y.ext e, h.lc, h.lz, h.jx, h.xy, h.r⟩
theorem Img.place (h : Img w T J js W H n X Y C Z) {x y : Int} (x0 : 0 ≤ x) (x1 : x < W) (y0 : 0 ≤ y) (y1 : y < H) : (y * W + x).toNat < n := by
  obtain ⟨p0, p1, p2⟩ := at_pix x0 x1 y0 y1 (by have := h.p.w1; omega) (by have := h.p.h1; omega)
  have : (W : Int) * H = n := by rw [← h.p.n]; simp
  omega
theorem Img.cells (h : Img w T J js W H n X Y C Z) : w.cell? ⟨J, 1, none⟩ = some (.int .i64 (W : Int)) ∧ w.cell? ⟨J, 2, none⟩ = some (.int .i64 (H : Int)) ∧ w.cell? ⟨J, 3, none⟩ = some (.slice (some ⟨X, 0, none⟩) n n) ∧ w.cell? ⟨J, 4, none⟩ = some (.slice (some ⟨Y, 0, none⟩) n n) :=
  ⟨(h.j.cell 1).trans h.p.w, (h.j.cell 2).trans h.p.h, (h.j.cell 3).trans h.p.c, (h.j.cell 4).trans h.p.z⟩
theorem Img.get (h : Img w T J js W H n X Y C Z) {x y : Int} (x0 : 0 ≤ x) (x1 : x < W) (y0 : 0 ≤ y) (y1 : y < H) :
    Calls Tryz.prog 254 #[.agg #[.int .i64 (W : Int), .int .i64 (H : Int), .slice (some ⟨X, 0, none⟩) n n, .slice (some ⟨Y, 0, none⟩) n n], .int .i64 x, .int .i64 y] w fun e w' =>
      e = .returned (.tuple #[.agg #[.int .i64 ((C.getD (y * W + x).toNat 0) / 16777216 % 256), .int .i64 ((C.getD (y * W + x).toNat 0) / 65536 % 256), .int .i64 ((C.getD (y * W + x).toNat 0) / 256 % 256), .int .i64 ((C.getD (y * W + x).toNat 0) % 256)], .int .i64 (Z.getD (y * W + x).toNat 0), .bool true]) ∧ Ext w w' := by
  have hi := h.place x0 x1 y0 y1
  have hr : C.getD (y * W + x).toNat 0 ∈ C := by
    rw [List.getD_eq_getElem?_getD, List.getElem?_eq_getElem (by rw [h.lc]; exact hi)]
    exact List.getElem_mem _
  have hr2 := h.r _ hr
  exact get_yes W H x y _ _ X Y n w x0 x1 y0 y1 (by have := h.p.w1; omega) (by have := h.p.h1; omega) (by rw [← h.p.n]; simp) ((h.x.cell _).trans (irow_get (by rw [h.lc]; exact hi))) ((h.y.cell _).trans (irow_get (by rw [h.lz]; exact hi))) hr2.1 hr2.2
end
set_option maxRecDepth 100000 in
set_option maxHeartbeats 4000000 in
theorem refused_no {T : TypeId} {J : Nat} {js : Array Value} {W H n X Y : Nat} {C Z : List Int} (o : Op3) (f : Fr) (w : World) (h : Img w T J js W H n X Y C Z) (x0 : 0 ≤ f.x) (x1 : f.x < W) (y0 : 0 ≤ f.y) (y1 : f.y < H) :
    Calls Tryz.prog 252 #[.pointer (some ⟨J, 1, none⟩), o.v, f.v] w fun e w' => e = .returned (.bool false) ∧ Ext w w' := by
  have HI := Lib.hid h
  have HX := Lib.hid (And.intro x0 (And.intro x1 (And.intro y0 y1)))
  clear h x0 x1 y0 y1
  go_enter Tryz.func252, Tryz.ntmps252
  go_upto_region 3 with fail
  have HO1 : Hid (Blk ((w.alloc (.cells o.row 51)).alloc (.cells #[.int .i64 f.x, .int .i64 f.y, .int .i64 f.z, .int .i64 f.c0, .int .i64 f.c1, .int .i64 f.c2, .int .i64 f.c3, .int .i64 f.m] 68)) w.heap.size 51 o.row) := Lib.hid (by (repeat (first | with_reducible exact Hid.out (by assumption) | (with_reducible refine Blk.new' _ _ _ ?_; (simp; done)) | with_reducible refine Blk.alloc ?_ _ | with_reducible refine Blk.drew ?_ | with_reducible refine Blk.drewN ?_ _ | with_reducible refine Blk.later ?_ _ | (with_reducible refine Blk.far ?_ ?hp _; case hp => first | (simp; done) | (simp; omega) | omega))))
  have HF1 : Hid (Blk ((w.alloc (.cells o.row 51)).alloc (.cells #[.int .i64 f.x, .int .i64 f.y, .int .i64 f.z, .int .i64 f.c0, .int .i64 f.c1, .int .i64 f.c2, .int .i64 f.c3, .int .i64 f.m] 68)) (w.heap.size + 1) 68 #[.int .i64 f.x, .int .i64 f.y, .int .i64 f.z, .int .i64 f.c0, .int .i64 f.c1, .int .i64 f.c2, .int .i64 f.c3, .int .i64 f.m]) := Lib.hid (by (repeat (first | with_reducible exact Hid.out (by assumption) | (with_reducible refine Blk.new' _ _ _ ?_; (simp; done)) | with_reducible refine Blk.alloc ?_ _ | with_reducible refine Blk.drew ?_ | with_reducible refine Blk.drewN ?_ _ | with_reducible refine Blk.later ?_ _ | (with_reducible refine Blk.far ?_ ?hp _; case hp => first | (simp; done) | (simp; omega) | omega))))
  have HE1 : Hid (Ext w ((w.alloc (.cells o.row 51)).alloc (.cells #[.int .i64 f.x, .int .i64 f.y, .int .i64 f.z, .int .i64 f.c0, .int .i64 f.c1, .int .i64 f.c2, .int .i64 f.c3, .int .i64 f.m] 68))) := Lib.hid (by (repeat (first | with_reducible exact Ext.refl _ | with_reducible assumption | with_reducible refine Ext.alloc ?_ _ | with_reducible refine Ext.drew ?_ | with_reducible refine Ext.drewN ?_ _ | with_reducible refine Ext.later ?_ _ | (with_reducible refine Ext.setCell ?_ _ ?hp; case hp => first | (simp; done) | (simp; omega) | omega))))
  generalize (w.alloc (.cells o.row 51)).alloc (.cells #[.int .i64 f.x, .int .i64 f.y, .int .i64 f.z, .int .i64 f.c0, .int .i64 f.c1, .int .i64 f.c2, .int .i64 f.c3, .int .i64 f.m] 68) = W1 at *
  have cf := HF1.out.c8
  have ci := (HI.out.ext HE1.out).cells
  have HG : Hid (∀ w1, Ext W1 w1 → Calls Tryz.prog 254 #[.agg #[.int .i64 (W : Int), .int .i64 (H : Int), .slice (some ⟨X, 0, none⟩) n n, .slice (some ⟨Y, 0, none⟩) n n], .int .i64 f.x, .int .i64 f.y] w1 fun e w' =>
      e = .returned (.tuple #[.agg #[.int .i64 ((C.getD (f.y * W + f.x).toNat 0) / 16777216 % 256), .int .i64 ((C.getD (f.y * W + f.x).toNat 0) / 65536 % 256), .int .i64 ((C.getD (f.y * W + f.x).toNat 0) / 256 % 256), .int .i64 ((C.getD (f.y * W + f.x).toNat 0) % 256)], .int .i64 (Z.getD (f.y * W + f.x).toNat 0), .bool true]) ∧ Ext w1 w') :=
    Lib.hid (fun w1 e => ((HI.out.ext HE1.out).ext e).get HX.out.1 HX.out.2.1 HX.out.2.2.1 HX.out.2.2.2)
  have HSS : Hid (∀ w', Ext W1 w' → (w'.cell? ⟨w.heap.size + 1, 0, none⟩ = some (.int .i64 f.x) ∧ w'.cell? ⟨w.heap.size + 1, 1, none⟩ = some (.int .i64 f.y)) ∧ w'.cell? ⟨J, 1, none⟩ = some (.int .i64 (W : Int)) ∧ w'.cell? ⟨J, 2, none⟩ = some (.int .i64 (H : Int)) ∧ w'.cell? ⟨J, 3, none⟩ = some (.slice (some ⟨X, 0, none⟩) n n) ∧ w'.cell? ⟨J, 4, none⟩ = some (.slice (some ⟨Y, 0, none⟩) n n)) :=
    Lib.hid fun w' e => ⟨⟨(HF1.out.ext e).c8.1, (HF1.out.ext e).c8.2.1⟩, ((HI.out.ext HE1.out).ext e).cells⟩
  go_region_held3 (fun w' => (w'.cell? ⟨w.heap.size + 1, 0, none⟩ = some (.int .i64 f.x) ∧ w'.cell? ⟨w.heap.size + 1, 1, none⟩ = some (.int .i64 f.y)) ∧ w'.cell? ⟨J, 1, none⟩ = some (.int .i64 (W : Int)) ∧ w'.cell? ⟨J, 2, none⟩ = some (.int .i64 (H : Int)) ∧ w'.cell? ⟨J, 3, none⟩ = some (.slice (some ⟨X, 0, none⟩) n n) ∧ w'.cell? ⟨J, 4, none⟩ = some (.slice (some ⟨Y, 0, none⟩) n n))
    (exact HSS.out _ (by (repeat (first | with_reducible exact Ext.refl _ | with_reducible assumption | with_reducible refine Ext.alloc ?_ _ | with_reducible refine Ext.drew ?_ | with_reducible refine Ext.drewN ?_ _ | with_reducible refine Ext.later ?_ _ | (with_reducible refine Ext.setCell ?_ _ ?hp; case hp => first | (simp; done) | (simp; omega) | omega)))))
    (first
      | (go_at_call 254; refine (HG.out _ (by (repeat (first | with_reducible exact Ext.refl _ | with_reducible assumption | with_reducible refine Ext.alloc ?_ _ | with_reducible refine Ext.drew ?_ | with_reducible refine Ext.drewN ?_ _ | with_reducible refine Ext.later ?_ _ | (with_reducible refine Ext.setCell ?_ _ ?hp; case hp => first | (simp; done) | (simp; omega) | omega))))).mono ?_; rintro e w1 ⟨rfl, hE⟩; obtain ⟨y1, rfl⟩ := Later.mk' hE; clear hE))
  all_goals
    have HEZ : Hid (Ext W1 y1.w) := Lib.hid (by (repeat (first | with_reducible exact Ext.refl _ | with_reducible assumption | with_reducible refine Ext.alloc ?_ _ | with_reducible refine Ext.drew ?_ | with_reducible refine Ext.drewN ?_ _ | with_reducible refine Ext.later ?_ _ | (with_reducible refine Ext.setCell ?_ _ ?hp; case hp => first | (simp; done) | (simp; omega) | omega))))
    have HO2 := HO1.out.ext HEZ.out
    have c0 := HO2.c15
    have HE3 := HE1.out.trans HEZ.out
    have hlt := HO1.out.lt
    go_wp2_with fail
    go_ret
    exact ⟨rfl, by (repeat (first | with_reducible exact Ext.refl _ | with_reducible assumption | with_reducible refine Ext.alloc ?_ _ | with_reducible refine Ext.drew ?_ | with_reducible refine Ext.drewN ?_ _ | with_reducible refine Ext.later ?_ _ | (with_reducible refine Ext.setCell ?_ _ ?hp; case hp => first | (simp; done) | (simp; omega) | omega)))⟩
theorem cov_ok {f : Fr} (h : f.Fits) : C4.Ok ⟨f.c0, f.c1, f.c2, f.c3 * f.m / 64⟩ := by
  obtain ⟨h0, h1, h2, ⟨a, b⟩, -, ⟨m0, m1⟩⟩ := h
  have p0 : 0 ≤ f.c3 * f.m := Int.mul_nonneg a (by omega)
  have p1 : f.c3 * f.m ≤ 255 * 64 := Int.mul_le_mul b m1 (by omega) (by omega)
  exact ⟨h0, h1, h2, by unfold byte; constructor <;> simp only <;> omega⟩
theorem bl1_byte {sf df si di s3 : Int} (h1 : byte si) (h2 : byte di) (h3 : byte s3) : byte (bl1 sf df si di s3) := by
  obtain ⟨a0, a1⟩ := byte_mul h1 (fac_byte (k := sf) h1 h2 h3)
  obtain ⟨b0, b1⟩ := byte_mul h2 (fac_byte (k := df) h1 h2 h3)
  unfold byte bl1
  omega
theorem blend4_ok {sf df : Int} {s d : C4} (hs : s.Ok) (hd : d.Ok) : (blend4 sf df s d).Ok :=
  ⟨bl1_byte hs.ha hd.ha hs.hd, bl1_byte hs.hb hd.hb hs.hd, bl1_byte hs.hc hd.hc hs.hd, bl1_byte hs.hd hd.hd hs.hd⟩
theorem unp_ok (v : Int) : C4.Ok ⟨v / 16777216 % 256, v / 65536 % 256, v / 256 % 256, v % 256⟩ := by
  refine ⟨?_, ?_, ?_, ?_⟩ <;> unfold byte <;> simp only <;> omega
theorem fcol_range {f : Fr} (h : f.Fits) (mix : Bool) (sf df old : Int) : 0 ≤ fcol mix sf df old f ∧ fcol mix sf df old f < 4294967296 := by
  cases mix
  · have := pk_range (cov_ok h)
    unfold fcol
    simp only [Bool.false_eq_true, if_false]
    simp only at this
    omega
  · have := pk_range (blend4_ok (sf := sf) (df := df) (cov_ok h) (unp_ok old))
    unfold fcol
    unfold blend4 at this
    simp only [if_true]
    simp only at this
    omega
theorem Img.put {w w' : World} {T : TypeId} {J : Nat} {js : Array Value} {W H n X Y : Nat} {C Z : List Int} (h : Img w T J js W H n X Y C Z) (k : Kp (· ≠ X) w w') (C' : List Int) (hx : Blk w' X 3 (irow C')) (hl : C'.length = C.length) (hr : ∀ v ∈ C', 0 ≤ v ∧ v < 4294967296) : Img w' T J js W H n X Y C' Z :=
  ⟨h.j.kp k h.jx.symm, h.p, hx, h.y.kp k h.xy.symm, by rw [hl]; exact h.lc, h.lz, h.jx, h.xy, hr⟩
theorem fput_range {W : Int} {mix : Bool} {sf df : Int} {C : List Int} {f : Fr} (h : f.Fits) (hr : ∀ v ∈ C, 0 ≤ v ∧ v < 4294967296) : ∀ v ∈ fput W mix sf df C f, 0 ≤ v ∧ v < 4294967296 := by
  intro v hv
  unfold fput at hv
  rcases List.mem_or_eq_of_mem_set hv with h1 | h1
  · exact hr v h1
  · rw [h1]; exact fcol_range h _ _ _ _
end Go.Proofs.YtplljnfjkkloeaaGreatDoor
set_option linter.unusedVariables false
set_option linter.unusedSimpArgs false
namespace Go.Proofs.YtplljnfjkkloeaaGreatDoor
attribute [local go_sem] Go.Oper.semAt_some
open Go.RowKit
set_option maxRecDepth 100000 in
set_option maxHeartbeats 8000000 in
theorem one_true {T : TypeId} {J : Nat} {js : Array Value} {W H n X Y : Nat} {C Z : List Int} (b : Rc) (func : Int) (keep : Bool) (sf df : Int) (f : Fr) (w : World) (h : Img w T J js W H n X Y C Z) (ho : (Op3.mk b func keep true sf df).Ok) (hf : f.Fits) (x0 : 0 ≤ f.x) (x1 : f.x < W) (y0 : 0 ≤ f.y) (y1 : f.y < H) :
    Calls Tryz.prog 212 #[.pointer (some ⟨J, 1, none⟩), (Op3.mk b func keep true sf df).v, f.v] w fun e w' => e = .returned (.bool true) ∧ Img w' T J js W H n X Y (fput W true sf df C f) Z ∧ Kp (· ≠ X) w w' := by
  have HFR := Lib.hid (fun w => fright_any _ w ho)
  have HFF := Lib.hid (fun w => ffits_any f w hf)
  have HRE := Lib.hid (fun w (hi : Img w T J js W H n X Y C Z) => refused_no (Op3.mk b func keep true sf df) f w hi x0 x1 y0 y1)
  have HCV := Lib.hid (fun w => cover_any ⟨f.c0, f.c1, f.c2, f.c3⟩ f.m w hf.c3 hf.m.1 hf.m.2)
  simp only [C4.v] at HCV
  have HCO := Lib.hid (cov_ok hf)
  have HFC := Lib.hid (fun old => fcol_range hf true sf df old)
  have HFP := Lib.hid (fput_range (W := W) (mix := true) (sf := sf) (df := df) hf h.r)
  have HOO := Lib.hid ho
  have HI := Lib.hid h
  have HX := Lib.hid (And.intro x0 (And.intro x1 (And.intro y0 y1)))
  have HXL := Lib.hid h.x.lt
  clear h x0 x1 y0 y1 ho hf
  go_enter Tryz.func212, Tryz.ntmps212
  go_upto_region 1 with fail
  have HO1 : Hid (Blk ((w.alloc (.cells (Op3.mk b func keep true sf df).row 51)).alloc (.cells #[.int .i64 f.x, .int .i64 f.y, .int .i64 f.z, .int .i64 f.c0, .int .i64 f.c1, .int .i64 f.c2, .int .i64 f.c3, .int .i64 f.m] 68)) w.heap.size 51 (Op3.mk b func keep true sf df).row) := Lib.hid (by (repeat (first | with_reducible exact Hid.out (by assumption) | (with_reducible refine Blk.new' _ _ _ ?_; (simp; done)) | with_reducible refine Blk.alloc ?_ _ | with_reducible refine Blk.drew ?_ | with_reducible refine Blk.drewN ?_ _ | with_reducible refine Blk.later ?_ _ | (with_reducible refine Blk.far ?_ ?hp _; case hp => first | (simp; done) | (simp; omega) | omega))))
  have HF1 : Hid (Blk ((w.alloc (.cells (Op3.mk b func keep true sf df).row 51)).alloc (.cells #[.int .i64 f.x, .int .i64 f.y, .int .i64 f.z, .int .i64 f.c0, .int .i64 f.c1, .int .i64 f.c2, .int .i64 f.c3, .int .i64 f.m] 68)) (w.heap.size + 1) 68 #[.int .i64 f.x, .int .i64 f.y, .int .i64 f.z, .int .i64 f.c0, .int .i64 f.c1, .int .i64 f.c2, .int .i64 f.c3, .int .i64 f.m]) := Lib.hid (by (repeat (first | with_reducible exact Hid.out (by assumption) | (with_reducible refine Blk.new' _ _ _ ?_; (simp; done)) | with_reducible refine Blk.alloc ?_ _ | with_reducible refine Blk.drew ?_ | with_reducible refine Blk.drewN ?_ _ | with_reducible refine Blk.later ?_ _ | (with_reducible refine Blk.far ?_ ?hp _; case hp => first | (simp; done) | (simp; omega) | omega))))
  have HE1 : Hid (Ext w ((w.alloc (.cells (Op3.mk b func keep true sf df).row 51)).alloc (.cells #[.int .i64 f.x, .int .i64 f.y, .int .i64 f.z, .int .i64 f.c0, .int .i64 f.c1, .int .i64 f.c2, .int .i64 f.c3, .int .i64 f.m] 68))) := Lib.hid (by (repeat (first | with_reducible exact Ext.refl _ | with_reducible assumption | with_reducible refine Ext.alloc ?_ _ | with_reducible refine Ext.drew ?_ | with_reducible refine Ext.drewN ?_ _ | with_reducible refine Ext.later ?_ _ | (with_reducible refine Ext.setCell ?_ _ ?hp; case hp => first | (simp; done) | (simp; omega) | omega))))
  generalize (w.alloc (.cells (Op3.mk b func keep true sf df).row 51)).alloc (.cells #[.int .i64 f.x, .int .i64 f.y, .int .i64 f.z, .int .i64 f.c0, .int .i64 f.c1, .int .i64 f.c2, .int .i64 f.c3, .int .i64 f.m] 68) = W1 at *
  have c0 := HO1.out.c15
  go_wp2_with fail
  refine (HFR.out _).mono ?_
  rintro e w1 ⟨rfl, hE⟩
  obtain ⟨a1, rfl⟩ := Later.mk' hE
  clear hE
  have cf := (HF1.out.ext a1.ext).c8
  clear c0
  go_wp2_with fail
  refine (HFF.out _).mono ?_
  rintro e w1 ⟨rfl, hE⟩
  obtain ⟨a2, rfl⟩ := Later.mk' hE
  clear hE
  have HE2 : Hid (Ext W1 a2.w) := Lib.hid (by (repeat (first | with_reducible exact Ext.refl _ | with_reducible assumption | with_reducible refine Ext.alloc ?_ _ | with_reducible refine Ext.drew ?_ | with_reducible refine Ext.drewN ?_ _ | with_reducible refine Ext.later ?_ _ | (with_reducible refine Ext.setCell ?_ _ ?hp; case hp => first | (simp; done) | (simp; omega) | omega))))
  have c0 := (HO1.out.ext HE2.out).c15
  have cf2 := (HF1.out.ext HE2.out).c8
  clear cf
  generalize a2.w = W2 at *
  go_wp2_with fail
  refine (HRE.out _ (HI.out.ext (HE1.out.trans HE2.out))).mono ?_
  rintro e w1 ⟨rfl, hE⟩
  obtain ⟨a3, rfl⟩ := Later.mk' hE
  clear hE
  have HE3 : Hid (Ext W1 a3.w) := Lib.hid (HE2.out.trans a3.ext)
  have cf := (HF1.out.ext HE3.out).c8
  clear c0 cf2 HE2
  generalize a3.w = W3 at *
  go_wp2_with fail
  refine (HCV.out _).mono ?_
  rintro e w1 ⟨rfl, hE⟩
  obtain ⟨a4, rfl⟩ := Later.mk' hE
  clear hE
  have HE4 : Hid (Ext W1 a4.w) := Lib.hid (HE3.out.trans a4.ext)
  clear cf HE3
  generalize a4.w = W4 at *
  have c0 := (HO1.out.ext HE4.out).c15
  go_upto_region 5 with fail
  clear c0
  have HE5 : Hid (Ext W1 (W4.alloc (.cells #[.int .i64 f.c0, .int .i64 f.c1, .int .i64 f.c2, .int .i64 (f.c3 * f.m / 64)] 30))) := Lib.hid (HE4.out.alloc _)
  have HCB : Hid (Blk (W4.alloc (.cells #[.int .i64 f.c0, .int .i64 f.c1, .int .i64 f.c2, .int .i64 (f.c3 * f.m / 64)] 30)) W4.heap.size 30 #[.int .i64 f.c0, .int .i64 f.c1, .int .i64 f.c2, .int .i64 (f.c3 * f.m / 64)]) := Lib.hid (Blk.new _ _ _)
  have HLT : Hid (W1.heap.size ≤ W4.heap.size) := Lib.hid HE4.out.size
  clear HE4 HFR HFF HRE HCV
  generalize W4.alloc (.cells #[.int .i64 f.c0, .int .i64 f.c1, .int .i64 f.c2, .int .i64 (f.c3 * f.m / 64)] 30) = W5 at *
  generalize W4.heap.size = D at *
  have hx := HX.out
  obtain ⟨old, hold⟩ : ∃ old, old = C.getD (f.y * W + f.x).toNat 0 := ⟨_, rfl⟩
  obtain ⟨oz, hoz⟩ : ∃ oz, oz = Z.getD (f.y * W + f.x).toNat 0 := ⟨_, rfl⟩
  have HG : Hid (∀ w1, Ext W5 w1 → Calls Tryz.prog 254 #[.agg #[.int .i64 (W : Int), .int .i64 (H : Int), .slice (some ⟨X, 0, none⟩) n n, .slice (some ⟨Y, 0, none⟩) n n], .int .i64 f.x, .int .i64 f.y] w1 fun e w' =>
      e = .returned (.tuple #[.agg #[.int .i64 (old / 16777216 % 256), .int .i64 (old / 65536 % 256), .int .i64 (old / 256 % 256), .int .i64 (old % 256)], .int .i64 oz, .bool true]) ∧ Ext w1 w') :=
    Lib.hid (fun w1 e => by rw [hold, hoz]; exact ((HI.out.ext (HE1.out.trans HE5.out)).ext e).get hx.1 hx.2.1 hx.2.2.1 hx.2.2.2)
  have HOLD := Lib.hid hold
  clear hold hoz
  have HSS : Hid (∀ w', Ext W5 w' → (w'.cell? ⟨w.heap.size + 1, 0, none⟩ = some (.int .i64 f.x) ∧ w'.cell? ⟨w.heap.size + 1, 1, none⟩ = some (.int .i64 f.y)) ∧ w'.cell? ⟨J, 1, none⟩ = some (.int .i64 (W : Int)) ∧ w'.cell? ⟨J, 2, none⟩ = some (.int .i64 (H : Int)) ∧ w'.cell? ⟨J, 3, none⟩ = some (.slice (some ⟨X, 0, none⟩) n n) ∧ w'.cell? ⟨J, 4, none⟩ = some (.slice (some ⟨Y, 0, none⟩) n n)) :=
    Lib.hid fun w' e => ⟨⟨(HF1.out.ext (HE5.out.trans e)).c8.1, (HF1.out.ext (HE5.out.trans e)).c8.2.1⟩, ((HI.out.ext (HE1.out.trans HE5.out)).ext e).cells⟩
  go_region_held3 (fun w' => (w'.cell? ⟨w.heap.size + 1, 0, none⟩ = some (.int .i64 f.x) ∧ w'.cell? ⟨w.heap.size + 1, 1, none⟩ = some (.int .i64 f.y)) ∧ w'.cell? ⟨J, 1, none⟩ = some (.int .i64 (W : Int)) ∧ w'.cell? ⟨J, 2, none⟩ = some (.int .i64 (H : Int)) ∧ w'.cell? ⟨J, 3, none⟩ = some (.slice (some ⟨X, 0, none⟩) n n) ∧ w'.cell? ⟨J, 4, none⟩ = some (.slice (some ⟨Y, 0, none⟩) n n))
    (exact HSS.out _ (by (repeat (first | with_reducible exact Ext.refl _ | with_reducible assumption | with_reducible refine Ext.alloc ?_ _ | with_reducible refine Ext.drew ?_ | with_reducible refine Ext.drewN ?_ _ | with_reducible refine Ext.later ?_ _ | (with_reducible refine Ext.setCell ?_ _ ?hp; case hp => first | (simp; done) | (simp; omega) | omega)))))
    (first
      | (go_at_call 254; refine (HG.out _ (by (repeat (first | with_reducible exact Ext.refl _ | with_reducible assumption | with_reducible refine Ext.alloc ?_ _ | with_reducible refine Ext.drew ?_ | with_reducible refine Ext.drewN ?_ _ | with_reducible refine Ext.later ?_ _ | (with_reducible refine Ext.setCell ?_ _ ?hp; case hp => first | (simp; done) | (simp; omega) | omega))))).mono ?_; rintro e w1 ⟨rfl, hE⟩; obtain ⟨y1, rfl⟩ := Later.mk' hE; clear hE))
  all_goals
    have HBL := Lib.hid (fun wz => blend_any ⟨f.c0, f.c1, f.c2, f.c3 * f.m / 64⟩ ⟨old / 16777216 % 256, old / 65536 % 256, old / 256 % 256, old % 256⟩ sf df wz HCO.out (unp_ok _) HOO.out.s0 HOO.out.s1 HOO.out.d0 HOO.out.d1)
    simp only [C4.v] at HBL
    have HQO : Hid ((blend4 sf df ⟨f.c0, f.c1, f.c2, f.c3 * f.m / 64⟩ ⟨old / 16777216 % 256, old / 65536 % 256, old / 256 % 256, old % 256⟩).Ok) := Lib.hid (blend4_ok HCO.out (unp_ok _))
    have HQP : Hid (C.set (f.y * W + f.x).toNat (pk (blend4 sf df ⟨f.c0, f.c1, f.c2, f.c3 * f.m / 64⟩ ⟨old / 16777216 % 256, old / 65536 % 256, old / 256 % 256, old % 256⟩).a (blend4 sf df ⟨f.c0, f.c1, f.c2, f.c3 * f.m / 64⟩ ⟨old / 16777216 % 256, old / 65536 % 256, old / 256 % 256, old % 256⟩).b (blend4 sf df ⟨f.c0, f.c1, f.c2, f.c3 * f.m / 64⟩ ⟨old / 16777216 % 256, old / 65536 % 256, old / 256 % 256, old % 256⟩).c (blend4 sf df ⟨f.c0, f.c1, f.c2, f.c3 * f.m / 64⟩ ⟨old / 16777216 % 256, old / 65536 % 256, old / 256 % 256, old % 256⟩).d) = fput W true sf df C f) := Lib.hid (by rw [HOLD.out]; rfl)
    generalize blend4 sf df ⟨f.c0, f.c1, f.c2, f.c3 * f.m / 64⟩ ⟨old / 16777216 % 256, old / 65536 % 256, old / 256 % 256, old % 256⟩ = q at *
    have HYE : Hid (Ext W5 y1.w) := Lib.hid (by (repeat (first | with_reducible exact Ext.refl _ | with_reducible assumption | with_reducible refine Ext.alloc ?_ _ | with_reducible refine Ext.drew ?_ | with_reducible refine Ext.drewN ?_ _ | with_reducible refine Ext.later ?_ _ | (with_reducible refine Ext.setCell ?_ _ ?hp; case hp => first | (simp; done) | (simp; omega) | omega))))
    have cc := (HCB.out.ext HYE.out).c4
    have fc := (HCB.out.ext HYE.out).f4
    have c0 := (HO1.out.ext (HE5.out.trans HYE.out)).c15
    have he5 := HE5.out
    have dl := HCB.out.lt
    have hs5 := HE5.out.size
    have dn : ¬ (D = W5.heap.size) := by omega
    have dn' : ¬ (W5.heap.size = D) := by omega
    go_wp2_with fail
    refine (HBL.out _).mono ?_
    rintro e w1 ⟨rfl, hE⟩
    obtain ⟨a6, rfl⟩ := Later.mk' hE
    clear hE
    have HCB6 : Hid (Blk a6.w D 30 #[.int .i64 f.c0, .int .i64 f.c1, .int .i64 f.c2, .int .i64 (f.c3 * f.m / 64)]) := Lib.hid (by (repeat (first | with_reducible exact Hid.out (by assumption) | (with_reducible refine Blk.new' _ _ _ ?_; (simp; done)) | with_reducible refine Blk.alloc ?_ _ | with_reducible refine Blk.drew ?_ | with_reducible refine Blk.drewN ?_ _ | with_reducible refine Blk.later ?_ _ | (with_reducible refine Blk.far ?_ ?hp _; case hp => first | (simp; done) | (simp; omega) | omega))))
    have HE6 : Hid (Ext W1 a6.w) := Lib.hid (by (repeat (first | with_reducible exact Ext.refl _ | with_reducible assumption | with_reducible refine Ext.alloc ?_ _ | with_reducible refine Ext.drew ?_ | with_reducible refine Ext.drewN ?_ _ | with_reducible refine Ext.later ?_ _ | (with_reducible refine Ext.setCell ?_ _ ?hp; case hp => first | (simp; done) | (simp; omega) | omega))))
    clear HSS HG HBL cc fc c0 he5 HYE
    generalize a6.w = W6 at *
    have cc := HCB6.out.c4
    have fc := HCB6.out.f4
    go_upto_region 7 with fail
    clear cc fc
    have HCB7 := Lib.hid (HCB6.out.s4 (.int .i64 q.a) (.int .i64 q.b) (.int .i64 q.c) (.int .i64 q.d))
    have HE7 : Hid (Ext W1 ((((W6.setCell ⟨D, 0, none⟩ (.int .i64 q.a)).setCell ⟨D, 1, none⟩ (.int .i64 q.b)).setCell ⟨D, 2, none⟩ (.int .i64 q.c)).setCell ⟨D, 3, none⟩ (.int .i64 q.d))) := Lib.hid (by have := HE6.out; have := HLT.out; (repeat (first | with_reducible exact Ext.refl _ | with_reducible assumption | with_reducible refine Ext.alloc ?_ _ | with_reducible refine Ext.drew ?_ | with_reducible refine Ext.drewN ?_ _ | with_reducible refine Ext.later ?_ _ | (with_reducible refine Ext.setCell ?_ _ ?hp; case hp => first | (simp; done) | (simp; omega) | omega))))
    generalize ((((W6.setCell ⟨D, 0, none⟩ (.int .i64 q.a)).setCell ⟨D, 1, none⟩ (.int .i64 q.b)).setCell ⟨D, 2, none⟩ (.int .i64 q.c)).setCell ⟨D, 3, none⟩ (.int .i64 q.d)) = W7 at *
    have cc := HCB7.out.c4
    have c0 := (HO1.out.ext HE7.out).c15
    have cf := (HF1.out.ext HE7.out).c8
    have HI7 := Lib.hid (HI.out.ext (HE1.out.trans HE7.out))
    have HPT := Lib.hid (put_yes f.x f.y q C W7 HI7.out.j HI7.out.p HI7.out.x HI7.out.lc HI7.out.jx hx.1 hx.2.1 hx.2.2.1 hx.2.2.2 HQO.out HI7.out.r)
    rw [HQP.out] at HPT
    simp only [C4.v] at HPT
    go_wp2_with fail
    refine HPT.out.mono ?_
    rintro e w8 ⟨rfl, hb, hk⟩
    have HB8 := Lib.hid hb
    have HK8 := Lib.hid hk
    have hxl := HXL.out
    have c9 := ((HO1.out.ext HE7.out).kp hk (by omega)).c15
    clear hb hk c0 cf cc
    go_wp2_with fail
    go_ret
    exact ⟨rfl, HI7.out.put HK8.out _ HB8.out (fput_len _ _ _ _ _ _) HFP.out, (Kp.of_ext (HE1.out.trans HE7.out)).trans HK8.out⟩
set_option maxRecDepth 100000 in
set_option maxHeartbeats 8000000 in
theorem one_false {T : TypeId} {J : Nat} {js : Array Value} {W H n X Y : Nat} {C Z : List Int} (b : Rc) (func : Int) (keep : Bool) (sf df : Int) (f : Fr) (w : World) (h : Img w T J js W H n X Y C Z) (ho : (Op3.mk b func keep false sf df).Ok) (hf : f.Fits) (x0 : 0 ≤ f.x) (x1 : f.x < W) (y0 : 0 ≤ f.y) (y1 : f.y < H) :
    Calls Tryz.prog 212 #[.pointer (some ⟨J, 1, none⟩), (Op3.mk b func keep false sf df).v, f.v] w fun e w' => e = .returned (.bool true) ∧ Img w' T J js W H n X Y (fput W false sf df C f) Z ∧ Kp (· ≠ X) w w' := by
  have HFR := Lib.hid (fun w => fright_any _ w ho)
  have HFF := Lib.hid (fun w => ffits_any f w hf)
  have HRE := Lib.hid (fun w (hi : Img w T J js W H n X Y C Z) => refused_no (Op3.mk b func keep false sf df) f w hi x0 x1 y0 y1)
  have HCV := Lib.hid (fun w => cover_any ⟨f.c0, f.c1, f.c2, f.c3⟩ f.m w hf.c3 hf.m.1 hf.m.2)
  simp only [C4.v] at HCV
  have HCO := Lib.hid (cov_ok hf)
  have HFC := Lib.hid (fun old => fcol_range hf false sf df old)
  have HFP := Lib.hid (fput_range (W := W) (mix := false) (sf := sf) (df := df) hf h.r)
  have HOO := Lib.hid ho
  have HI := Lib.hid h
  have HX := Lib.hid (And.intro x0 (And.intro x1 (And.intro y0 y1)))
  have HXL := Lib.hid h.x.lt
  clear h x0 x1 y0 y1 ho hf
  go_enter Tryz.func212, Tryz.ntmps212
  go_upto_region 1 with fail
  have HO1 : Hid (Blk ((w.alloc (.cells (Op3.mk b func keep false sf df).row 51)).alloc (.cells #[.int .i64 f.x, .int .i64 f.y, .int .i64 f.z, .int .i64 f.c0, .int .i64 f.c1, .int .i64 f.c2, .int .i64 f.c3, .int .i64 f.m] 68)) w.heap.size 51 (Op3.mk b func keep false sf df).row) := Lib.hid (by (repeat (first | with_reducible exact Hid.out (by assumption) | (with_reducible refine Blk.new' _ _ _ ?_; (simp; done)) | with_reducible refine Blk.alloc ?_ _ | with_reducible refine Blk.drew ?_ | with_reducible refine Blk.drewN ?_ _ | with_reducible refine Blk.later ?_ _ | (with_reducible refine Blk.far ?_ ?hp _; case hp => first | (simp; done) | (simp; omega) | omega))))
  have HF1 : Hid (Blk ((w.alloc (.cells (Op3.mk b func keep false sf df).row 51)).alloc (.cells #[.int .i64 f.x, .int .i64 f.y, .int .i64 f.z, .int .i64 f.c0, .int .i64 f.c1, .int .i64 f.c2, .int .i64 f.c3, .int .i64 f.m] 68)) (w.heap.size + 1) 68 #[.int .i64 f.x, .int .i64 f.y, .int .i64 f.z, .int .i64 f.c0, .int .i64 f.c1, .int .i64 f.c2, .int .i64 f.c3, .int .i64 f.m]) := Lib.hid (by (repeat (first | with_reducible exact Hid.out (by assumption) | (with_reducible refine Blk.new' _ _ _ ?_; (simp; done)) | with_reducible refine Blk.alloc ?_ _ | with_reducible refine Blk.drew ?_ | with_reducible refine Blk.drewN ?_ _ | with_reducible refine Blk.later ?_ _ | (with_reducible refine Blk.far ?_ ?hp _; case hp => first | (simp; done) | (simp; omega) | omega))))
  have HE1 : Hid (Ext w ((w.alloc (.cells (Op3.mk b func keep false sf df).row 51)).alloc (.cells #[.int .i64 f.x, .int .i64 f.y, .int .i64 f.z, .int .i64 f.c0, .int .i64 f.c1, .int .i64 f.c2, .int .i64 f.c3, .int .i64 f.m] 68))) := Lib.hid (by (repeat (first | with_reducible exact Ext.refl _ | with_reducible assumption | with_reducible refine Ext.alloc ?_ _ | with_reducible refine Ext.drew ?_ | with_reducible refine Ext.drewN ?_ _ | with_reducible refine Ext.later ?_ _ | (with_reducible refine Ext.setCell ?_ _ ?hp; case hp => first | (simp; done) | (simp; omega) | omega))))
  generalize (w.alloc (.cells (Op3.mk b func keep false sf df).row 51)).alloc (.cells #[.int .i64 f.x, .int .i64 f.y, .int .i64 f.z, .int .i64 f.c0, .int .i64 f.c1, .int .i64 f.c2, .int .i64 f.c3, .int .i64 f.m] 68) = W1 at *
  have c0 := HO1.out.c15
  go_wp2_with fail
  refine (HFR.out _).mono ?_
  rintro e w1 ⟨rfl, hE⟩
  obtain ⟨a1, rfl⟩ := Later.mk' hE
  clear hE
  have cf := (HF1.out.ext a1.ext).c8
  clear c0
  go_wp2_with fail
  refine (HFF.out _).mono ?_
  rintro e w1 ⟨rfl, hE⟩
  obtain ⟨a2, rfl⟩ := Later.mk' hE
  clear hE
  have HE2 : Hid (Ext W1 a2.w) := Lib.hid (by (repeat (first | with_reducible exact Ext.refl _ | with_reducible assumption | with_reducible refine Ext.alloc ?_ _ | with_reducible refine Ext.drew ?_ | with_reducible refine Ext.drewN ?_ _ | with_reducible refine Ext.later ?_ _ | (with_reducible refine Ext.setCell ?_ _ ?hp; case hp => first | (simp; done) | (simp; omega) | omega))))
  have c0 := (HO1.out.ext HE2.out).c15
  have cf2 := (HF1.out.ext HE2.out).c8
  clear cf
  generalize a2.w = W2 at *
  go_wp2_with fail
  refine (HRE.out _ (HI.out.ext (HE1.out.trans HE2.out))).mono ?_
  rintro e w1 ⟨rfl, hE⟩
  obtain ⟨a3, rfl⟩ := Later.mk' hE
  clear hE
  have HE3 : Hid (Ext W1 a3.w) := Lib.hid (HE2.out.trans a3.ext)
  have cf := (HF1.out.ext HE3.out).c8
  clear c0 cf2 HE2
  generalize a3.w = W3 at *
  go_wp2_with fail
  refine (HCV.out _).mono ?_
  rintro e w1 ⟨rfl, hE⟩
  obtain ⟨a4, rfl⟩ := Later.mk' hE
  clear hE
  have HE4 : Hid (Ext W1 a4.w) := Lib.hid (HE3.out.trans a4.ext)
  clear cf HE3
  generalize a4.w = W4 at *
  have c0 := (HO1.out.ext HE4.out).c15
  go_upto_region 7 with fail
  have HE7 : Hid (Ext W1 (W4.alloc (.cells #[.int .i64 f.c0, .int .i64 f.c1, .int .i64 f.c2, .int .i64 (f.c3 * f.m / 64)] 30))) := Lib.hid (HE4.out.alloc _)
  have HCB7 : Hid (Blk (W4.alloc (.cells #[.int .i64 f.c0, .int .i64 f.c1, .int .i64 f.c2, .int .i64 (f.c3 * f.m / 64)] 30)) W4.heap.size 30 #[.int .i64 f.c0, .int .i64 f.c1, .int .i64 f.c2, .int .i64 (f.c3 * f.m / 64)]) := Lib.hid (Blk.new _ _ _)
  clear HE4 HFR HFF HRE HCV c0
  generalize W4.alloc (.cells #[.int .i64 f.c0, .int .i64 f.c1, .int .i64 f.c2, .int .i64 (f.c3 * f.m / 64)] 30) = W7 at *
  generalize W4.heap.size = D at *
  have hx := HX.out
  have HQP : Hid (C.set (f.y * W + f.x).toNat (pk f.c0 f.c1 f.c2 (f.c3 * f.m / 64)) = fput W false sf df C f) := Lib.hid rfl
  have cc := HCB7.out.c4
  have c0 := (HO1.out.ext HE7.out).c15
  have cf := (HF1.out.ext HE7.out).c8
  have HI7 := Lib.hid (HI.out.ext (HE1.out.trans HE7.out))
  have HPT := Lib.hid (put_yes f.x f.y ⟨f.c0, f.c1, f.c2, f.c3 * f.m / 64⟩ C W7 HI7.out.j HI7.out.p HI7.out.x HI7.out.lc HI7.out.jx hx.1 hx.2.1 hx.2.2.1 hx.2.2.2 HCO.out HI7.out.r)
  simp only [C4.v] at HPT
  rw [HQP.out] at HPT
  go_wp2_with fail
  refine HPT.out.mono ?_
  rintro e w8 ⟨rfl, hb, hk⟩
  have HB8 := Lib.hid hb
  have HK8 := Lib.hid hk
  have hxl := HXL.out
  have c9 := ((HO1.out.ext HE7.out).kp hk (by omega)).c15
  clear hb hk c0 cf cc
  go_wp2_with fail
  go_ret
  exact ⟨rfl, HI7.out.put HK8.out _ HB8.out (fput_len _ _ _ _ _ _) HFP.out, (Kp.of_ext (HE1.out.trans HE7.out)).trans HK8.out⟩
theorem one_any {T : TypeId} {J : Nat} {js : Array Value} {W H n X Y : Nat} {C Z : List Int} (o : Op3) (f : Fr) (w : World) (h : Img w T J js W H n X Y C Z) (ho : o.Ok) (hf : f.Fits) (x0 : 0 ≤ f.x) (x1 : f.x < W) (y0 : 0 ≤ f.y) (y1 : f.y < H) :
    Calls Tryz.prog 212 #[.pointer (some ⟨J, 1, none⟩), o.v, f.v] w fun e w' => e = .returned (.bool true) ∧ Img w' T J js W H n X Y (fput W o.mix o.sf o.df C f) Z ∧ Kp (· ≠ X) w w' := by
  obtain ⟨b, func, keep, mix, sf, df⟩ := o
  cases mix
  · exact one_false b func keep sf df f w h ho hf x0 x1 y0 y1
  · exact one_true b func keep sf df f w h ho hf x0 x1 y0 y1
end Go.Proofs.YtplljnfjkkloeaaGreatDoor
