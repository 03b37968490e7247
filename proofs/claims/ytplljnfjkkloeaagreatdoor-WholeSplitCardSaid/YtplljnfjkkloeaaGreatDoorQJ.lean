/- Proof text: lerp.Mid, its mixer, both, Along. By an AI agent. No condition beyond what each theorem states. -/
import Derived.Test.YtplljnfjkkloeaaGreatDoorXG
import Derived.Test.YtplljnfjkkloeaaGreatDoorLC
set_option linter.unusedVariables false
set_option linter.unusedSimpArgs false
namespace Go.Proofs.YtplljnfjkkloeaaGreatDoor
attribute [local go_sem] Go.Oper.semAt_some
open Go.RowKit
def lmid (p q n d : Int) : Int := if d < 1 ∨ n ≤ 0 then p else if d ≤ n then q else mid p q n d
theorem lmid_same (p n d : Int) : lmid p p n d = p := by
  unfold lmid mid
  split
  · rfl
  · split
    · rfl
    · rw [show (p - p) * n = 0 by rw [Int.sub_self, Int.zero_mul], Int.zero_ediv, Int.add_zero]
set_option maxRecDepth 100000 in
set_option maxHeartbeats 1000000 in
theorem lmid_cells (p q n d x a b c f g y r r' : Int) (w : World) (e0 : IntKind.i64.wrap (q - p) = x) (e1 : IntKind.i64.wrap (p + y) = r) (n0 : 0 < n) (nd : n < d) (d1 : 1 ≤ d)
    (c1 : ∀ W, Calls Tryz.prog 174 #[.int .i64 x, .int .i64 n] W fun e w' => e = .returned (.agg #[.int .i64 a, .int .u64 b]) ∧ Ext W w')
    (c2 : ∀ W, Calls Tryz.prog 216 #[.agg #[.int .i64 a, .int .u64 b], .int .i64 d] W fun e w' => e = .returned (.tuple #[.agg #[.int .i64 f, .int .u64 g], .int .i64 r', .bool true]) ∧ Ext W w')
    (c3 : ∀ W, Calls Tryz.prog 217 #[.agg #[.int .i64 f, .int .u64 g]] W fun e w' => e = .returned (.tuple #[.int .i64 y, .bool true]) ∧ Ext W w') :
    Calls Tryz.prog 264 #[.int .i64 p, .int .i64 q, .int .i64 n, .int .i64 d] w fun e w' => e = .returned (.int .i64 r) ∧ Ext w w' := by
  have C1 := Lib.hid c1; clear c1
  have C2 := Lib.hid c2; clear c2
  have C3 := Lib.hid c3; clear c3
  have t1 : decide (d < 1) = false := by simp; omega
  have t2 : decide (n ≤ 0) = false := by simp; omega
  have t3 : decide (n ≥ d) = false := by simp; omega
  go_enter Tryz.func264, Tryz.ntmps264
  go_wp2_with fail
  refine (C1.out _).mono ?_
  rintro e w1 ⟨rfl, hE⟩
  obtain ⟨x1, rfl⟩ := Later.mk' hE
  clear hE
  go_wp2_with fail
  refine (C2.out _).mono ?_
  rintro e w1 ⟨rfl, hE⟩
  obtain ⟨x2, rfl⟩ := Later.mk' hE
  clear hE
  go_wp2_with fail
  refine (C3.out _).mono ?_
  rintro e w1 ⟨rfl, hE⟩
  obtain ⟨x3, rfl⟩ := Later.mk' hE
  clear hE
  go_wp2_with fail
  go_ret
  exact ⟨rfl, by (repeat (first | with_reducible exact Ext.refl _ | with_reducible assumption | with_reducible refine Ext.alloc ?_ _ | with_reducible refine Ext.drew ?_ | with_reducible refine Ext.drewN ?_ _ | with_reducible refine Ext.later ?_ _ | (with_reducible refine Ext.setCell ?_ _ ?hp; case hp => first | (simp; done) | (simp; omega) | omega)))⟩
set_option maxRecDepth 100000 in
set_option maxHeartbeats 1000000 in
theorem lmid_any (p q n d : Int) (w : World) (p1 : -68719476736 ≤ p) (p2 : p ≤ 68719476736) (q1 : -68719476736 ≤ q) (q2 : q ≤ 68719476736) (d2 : d < 9223372036854775808) :
    Calls Tryz.prog 264 #[.int .i64 p, .int .i64 q, .int .i64 n, .int .i64 d] w fun e w' => e = .returned (.int .i64 (lmid p q n d)) ∧ Ext w w' := by
  by_cases hs : d < 1 ∨ n ≤ 0
  · have e : lmid p q n d = p := by unfold lmid; rw [if_pos hs]
    rw [e]
    by_cases hd : d < 1
    · have t1 : decide (d < 1) = true := by simp; omega
      go_enter Tryz.func264, Tryz.ntmps264
      go_wp2_with fail
      go_ret
      exact ⟨rfl, Ext.refl _⟩
    · have t1 : decide (d < 1) = false := by simp; omega
      have t2 : decide (n ≤ 0) = true := by simp; omega
      go_enter Tryz.func264, Tryz.ntmps264
      go_wp2_with fail
      go_ret
      exact ⟨rfl, Ext.refl _⟩
  by_cases hn : d ≤ n
  · have e : lmid p q n d = q := by unfold lmid; rw [if_neg hs, if_pos hn]
    rw [e]
    have t1 : decide (d < 1) = false := by simp; omega
    have t2 : decide (n ≤ 0) = false := by simp; omega
    have t3 : decide (n ≥ d) = true := by simp; omega
    go_enter Tryz.func264, Tryz.ntmps264
    go_wp2_with fail
    go_ret
    exact ⟨rfl, Ext.refl _⟩
  have e : lmid p q n d = mid p q n d := by unfold lmid; rw [if_neg hs, if_neg hn]
  rw [e]
  clear e
  obtain ⟨d, rfl⟩ : ∃ k : Nat, d = (k : Int) := ⟨d.toNat, by omega⟩
  have hm := mid_between (p := p) (q := q) (n := n) (d := d) (by omega) (by omega) (by omega)
  unfold mid at hm ⊢
  have b1 : (q - p) * n ≤ 137438953472 * 9223372036854775808 := by
    rcases Int.le_total 0 (q - p) with h | h
    · exact Int.mul_le_mul (by omega) (by omega) (by omega) (by omega)
    · have := Int.mul_nonpos_of_nonpos_of_nonneg h (by omega : 0 ≤ n); omega
  have b2 : -(137438953472 * 9223372036854775808) ≤ (q - p) * n := by
    rcases Int.le_total 0 (q - p) with h | h
    · have := Int.mul_nonneg h (by omega : 0 ≤ n); omega
    · have := Int.mul_le_mul (a := p - q) (b := n) (c := 137438953472) (d := 9223372036854775808) (by omega) (by omega) (by omega) (by omega)
      have e : (q - p) * n = -((p - q) * n) := by rw [← Int.neg_mul]; congr 1; omega
      omega
  generalize hN : (q - p) * n = N at *
  have d3 : d < 9223372036854775808 := by omega
  exact lmid_cells p q n d (q - p) _ _ 0 _ _ (N / d) _ _ w (by rw [IntKind.wrap_i64]; omega) (by rw [IntKind.wrap_i64]; generalize N / (d : Int) = k at hm ⊢; omega) (by omega) (by omega) (by omega)
    (fun W => by have := mul_any (q - p) n W (by omega) (by omega) (by omega) (by omega); rw [hN] at this; exact this)
    (fun W => div_any N d W (by omega) (by omega) (by omega) d3)
    (fun W => small_any (N / d) W (by generalize N / (d : Int) = k at hm ⊢; omega) (by generalize N / (d : Int) = k at hm ⊢; omega))
set_option maxHeartbeats 1000000 in
theorem mixes_any (B C : Nat) (p q n d : Int) (w : World) (hB : Blk w B 3 #[.int .i64 n]) (hC : Blk w C 3 #[.int .i64 d]) (p1 : -68719476736 ≤ p) (p2 : p ≤ 68719476736) (q1 : -68719476736 ≤ q) (q2 : q ≤ 68719476736) (d2 : d < 9223372036854775808) :
    Calls Tryz.prog 263 #[.int .i64 p, .int .i64 q, .pointer (some ⟨B, 0, none⟩), .pointer (some ⟨C, 0, none⟩)] w fun e w' => e = .returned (.int .i64 (lmid p q n d)) ∧ Ext w w' := by
  have HM := Lib.hid (fun w => lmid_any p q n d w p1 p2 q1 q2 d2)
  have cB := hB.c1
  have cC := hC.c1
  clear p1 p2 q1 q2 d2
  go_enter Tryz.func263, Tryz.ntmps263
  go_wp2_with fail
  refine (HM.out _).mono ?_
  rintro e w1 ⟨rfl, hE⟩
  obtain ⟨x, rfl⟩ := Later.mk' hE
  clear hE
  go_wp2_with fail
  go_ret
  exact ⟨rfl, by (repeat (first | with_reducible exact Ext.refl _ | with_reducible assumption | with_reducible refine Ext.alloc ?_ _ | with_reducible refine Ext.drew ?_ | with_reducible refine Ext.drewN ?_ _ | with_reducible refine Ext.later ?_ _ | (with_reducible refine Ext.setCell ?_ _ ?hp; case hp => first | (simp; done) | (simp; omega) | omega)))⟩
theorem mixer_any (n d : Int) (w : World) : Calls Tryz.prog 224 #[.int .i64 n, .int .i64 d] w fun e w' =>
    e = .returned (.func (.func 263) #[] #[.pointer (some ⟨w.heap.size, 0, none⟩), .pointer (some ⟨w.heap.size + 1, 0, none⟩)]) ∧ (w.alloc (.cells #[.int .i64 n] 3)).alloc (.cells #[.int .i64 d] 3) = w' := by
  have hmf : ∀ (fn : Fn) (first cap : Array Value) (w : World), (Instr.makeFunc fn first cap).run Tryz.prog w = .ok (.func fn first cap) w := fun _ _ _ _ => rfl
  go_enter Tryz.func224, Tryz.ntmps224
  go_wp2_with fail
  go_ret
  exact ⟨rfl, rfl⟩
structure Wv where
  x : Int
  y : Int
  z : Int
  c0 : Int
  c1 : Int
  c2 : Int
  c3 : Int
@[reducible] def Wv.row (v : Wv) : Array Value := #[.int .i64 v.x, .int .i64 v.y, .int .i64 v.z, .int .i64 v.c0, .int .i64 v.c1, .int .i64 v.c2, .int .i64 v.c3]
@[reducible] def Wv.v (v : Wv) : Value := .agg #[.int .i64 v.x, .int .i64 v.y, .int .i64 v.z, .int .i64 v.c0, .int .i64 v.c1, .int .i64 v.c2, .int .i64 v.c3]
def okc (c : Int) : Prop := -68719476736 ≤ c ∧ c ≤ 68719476736
structure Wv.Ok (v : Wv) : Prop where
  z : okc v.z
  c0 : okc v.c0
  c1 : okc v.c1
  c2 : okc v.c2
  c3 : okc v.c3
theorem agg_color (W : World) : (isAgg 30).run Tryz.prog W = .ok true W := by kernel_rfl
theorem results_tmp_cell {fn : Func} {p u : Tmp} {ty : TypeId} (h : fn.results = #[.tmp u, .cell p ty]) (tmps : Array Value) (P : Program) (w : World) {ad : Addr} {v : Value}
    (hp : tmps.getD p undef = .pointer (some ad)) (hl : (loadVar ty ad).run P w = .ok v w) : (results fn tmps).run P w = .ok (.tuple #[tmps.getD u undef, v]) w := by
  simp only [results, h]
  have hp' : tmps[p]?.getD undef = .pointer (some ad) := by simpa using hp
  simp [Sem.run_bind, asAddr, hp', hl, Result.andThen]
structure Bo (a b : Wv) (w : World) (wx : World) : Prop where
  a : Blk wx w.heap.size 177 a.row
  b : Blk wx (w.heap.size + 1) 177 b.row
  r : Blk wx (w.heap.size + 1 + 1) 30 #[.int .i64 0, .int .i64 0, .int .i64 0, .int .i64 0]
  e : Ext w wx
theorem Bo.step {a b : Wv} {w wx : World} (h : Bo a b w wx) (y : Later wx) (k : Nat) (u : Value) : Bo a b w (y.w.setCell ⟨w.heap.size + 1 + 1 + 1, k, none⟩ u) :=
  ⟨(h.a.ext y.ext).far (by first | (simp; done) | (simp; omega)) _, (h.b.ext y.ext).far (by first | (simp; done) | (simp; omega)) _, (h.r.ext y.ext).far (by first | (simp; done) | (simp; omega)) _, (h.e.trans y.ext).setCell _ (by first | (simp; done) | (simp; omega))⟩
set_option maxRecDepth 100000 in
set_option maxHeartbeats 4000000 in
theorem both_any (B C : Nat) (a b : Wv) (n d : Int) (w : World) (hB : Blk w B 3 #[.int .i64 n]) (hC : Blk w C 3 #[.int .i64 d]) (ha : a.Ok) (hb : b.Ok) (d2 : d < 9223372036854775808) :
    Calls Tryz.prog 223 #[a.v, b.v, .func (.func 263) #[] #[.pointer (some ⟨B, 0, none⟩), .pointer (some ⟨C, 0, none⟩)]] w fun e w' =>
      e = .returned (.tuple #[.int .i64 (lmid a.z b.z n d), .agg #[.int .i64 (lmid a.c0 b.c0 n d), .int .i64 (lmid a.c1 b.c1 n d), .int .i64 (lmid a.c2 b.c2 n d), .int .i64 (lmid a.c3 b.c3 n d)]]) ∧ Ext w w' := by
  have HM : Hid (∀ (p q : Int) w', okc p → okc q → Ext w w' → Calls Tryz.prog 263 #[.int .i64 p, .int .i64 q, .pointer (some ⟨B, 0, none⟩), .pointer (some ⟨C, 0, none⟩)] w' fun e w'' => e = .returned (.int .i64 (lmid p q n d)) ∧ Ext w' w'') :=
    Lib.hid (fun p q w' hp hq hE => mixes_any B C p q n d w' (hB.ext hE) (hC.ext hE) hp.1 hp.2 hq.1 hq.2 d2)
  have HA := Lib.hid ha
  have HB := Lib.hid hb
  clear hB hC ha hb d2
  go_enter Tryz.func223, Tryz.ntmps223
  go_wp2_with fail
  have HO : Hid (Bo a b w ((((w.alloc (.cells #[.int .i64 a.x, .int .i64 a.y, .int .i64 a.z, .int .i64 a.c0, .int .i64 a.c1, .int .i64 a.c2, .int .i64 a.c3] 177)).alloc (.cells #[.int .i64 b.x, .int .i64 b.y, .int .i64 b.z, .int .i64 b.c0, .int .i64 b.c1, .int .i64 b.c2, .int .i64 b.c3] 177)).alloc (.cells #[.int .i64 0, .int .i64 0, .int .i64 0, .int .i64 0] 30)).alloc (.cells #[.int .i64 0, .int .i64 0, .int .i64 0, .int .i64 0] 30))) := Lib.hid ⟨by (repeat (first | with_reducible exact Hid.out (by assumption) | (with_reducible refine Blk.new' _ _ _ ?_; (simp; done)) | with_reducible refine Blk.alloc ?_ _ | with_reducible refine Blk.drew ?_ | with_reducible refine Blk.drewN ?_ _ | with_reducible refine Blk.later ?_ _ | (with_reducible refine Blk.far ?_ ?hp _; case hp => first | (simp; done) | (simp; omega) | omega))), by (repeat (first | with_reducible exact Hid.out (by assumption) | (with_reducible refine Blk.new' _ _ _ ?_; (simp; done)) | with_reducible refine Blk.alloc ?_ _ | with_reducible refine Blk.drew ?_ | with_reducible refine Blk.drewN ?_ _ | with_reducible refine Blk.later ?_ _ | (with_reducible refine Blk.far ?_ ?hp _; case hp => first | (simp; done) | (simp; omega) | omega))), by (repeat (first | with_reducible exact Hid.out (by assumption) | (with_reducible refine Blk.new' _ _ _ ?_; (simp; done)) | with_reducible refine Blk.alloc ?_ _ | with_reducible refine Blk.drew ?_ | with_reducible refine Blk.drewN ?_ _ | with_reducible refine Blk.later ?_ _ | (with_reducible refine Blk.far ?_ ?hp _; case hp => first | (simp; done) | (simp; omega) | omega))), by (repeat (first | with_reducible exact Ext.refl _ | with_reducible assumption | with_reducible refine Ext.alloc ?_ _ | with_reducible refine Ext.drew ?_ | with_reducible refine Ext.drewN ?_ _ | with_reducible refine Ext.later ?_ _ | (with_reducible refine Ext.setCell ?_ _ ?hp; case hp => first | (simp; done) | (simp; omega) | omega)))⟩
  have HT : Hid (Blk ((((w.alloc (.cells #[.int .i64 a.x, .int .i64 a.y, .int .i64 a.z, .int .i64 a.c0, .int .i64 a.c1, .int .i64 a.c2, .int .i64 a.c3] 177)).alloc (.cells #[.int .i64 b.x, .int .i64 b.y, .int .i64 b.z, .int .i64 b.c0, .int .i64 b.c1, .int .i64 b.c2, .int .i64 b.c3] 177)).alloc (.cells #[.int .i64 0, .int .i64 0, .int .i64 0, .int .i64 0] 30)).alloc (.cells #[.int .i64 0, .int .i64 0, .int .i64 0, .int .i64 0] 30)) (w.heap.size + 1 + 1 + 1) 30 #[.int .i64 0, .int .i64 0, .int .i64 0, .int .i64 0]) := Lib.hid (by (repeat (first | with_reducible exact Hid.out (by assumption) | (with_reducible refine Blk.new' _ _ _ ?_; (simp; done)) | with_reducible refine Blk.alloc ?_ _ | with_reducible refine Blk.drew ?_ | with_reducible refine Blk.drewN ?_ _ | with_reducible refine Blk.later ?_ _ | (with_reducible refine Blk.far ?_ ?hp _; case hp => first | (simp; done) | (simp; omega) | omega))))
  generalize (((w.alloc (.cells #[.int .i64 a.x, .int .i64 a.y, .int .i64 a.z, .int .i64 a.c0, .int .i64 a.c1, .int .i64 a.c2, .int .i64 a.c3] 177)).alloc (.cells #[.int .i64 b.x, .int .i64 b.y, .int .i64 b.z, .int .i64 b.c0, .int .i64 b.c1, .int .i64 b.c2, .int .i64 b.c3] 177)).alloc (.cells #[.int .i64 0, .int .i64 0, .int .i64 0, .int .i64 0] 30)).alloc (.cells #[.int .i64 0, .int .i64 0, .int .i64 0, .int .i64 0] 30) = W0 at *
  refine wp_loop_rounds 5 ?_
  rw [rounds_succ]
  have ca := HO.out.a.c7
  have cb := HO.out.b.c7
  have ct := HT.out.c4
  have ft := HT.out.f4
  go_wp2_with fail
  refine wp_region_later_tail 12 (by kernel_rfl) (by kernel_rfl) ?_
  simp only [List.take_succ_cons, List.take_zero, List.drop_succ_cons, List.drop_zero]
  repeat (go_big_quiet_step ((first | (go_at_call 263; exact Calls.later _ (HM.out _ _ _ HA.out.c0 HB.out.c0 (HO.out.e.later _))) | fail)))
  refine wpQuiet_nil ?_
  intro y0
  go_wp2_with fail
  clear ca cb ct ft
  have HO0 := Lib.hid (HO.out.step y0 0 (.int .i64 (lmid a.c0 b.c0 n d)))
  have HT0 : Hid (Blk (y0.w.setCell ⟨w.heap.size + 1 + 1 + 1, 0, none⟩ (.int .i64 (lmid a.c0 b.c0 n d))) (w.heap.size + 1 + 1 + 1) 30 #[.int .i64 (lmid a.c0 b.c0 n d), .int .i64 0, .int .i64 0, .int .i64 0]) := Lib.hid ((HT.out.ext y0.ext).set_ 0 _)
  generalize y0.w.setCell ⟨w.heap.size + 1 + 1 + 1, 0, none⟩ (.int .i64 (lmid a.c0 b.c0 n d)) = W1 at *
  clear HO HT
  have HO := HO0
  have HT := HT0
  clear HO0 HT0
  rw [rounds_succ]
  have ca := HO.out.a.c7
  have cb := HO.out.b.c7
  have ct := HT.out.c4
  have ft := HT.out.f4
  go_wp2_with fail
  refine wp_region_later_tail 12 (by kernel_rfl) (by kernel_rfl) ?_
  simp only [List.take_succ_cons, List.take_zero, List.drop_succ_cons, List.drop_zero]
  repeat (go_big_quiet_step ((first | (go_at_call 263; exact Calls.later _ (HM.out _ _ _ HA.out.c1 HB.out.c1 (HO.out.e.later _))) | fail)))
  refine wpQuiet_nil ?_
  intro y1
  go_wp2_with fail
  clear ca cb ct ft
  have HO1 := Lib.hid (HO.out.step y1 1 (.int .i64 (lmid a.c1 b.c1 n d)))
  have HT1 : Hid (Blk (y1.w.setCell ⟨w.heap.size + 1 + 1 + 1, 1, none⟩ (.int .i64 (lmid a.c1 b.c1 n d))) (w.heap.size + 1 + 1 + 1) 30 #[.int .i64 (lmid a.c0 b.c0 n d), .int .i64 (lmid a.c1 b.c1 n d), .int .i64 0, .int .i64 0]) := Lib.hid ((HT.out.ext y1.ext).set_ 1 _)
  generalize y1.w.setCell ⟨w.heap.size + 1 + 1 + 1, 1, none⟩ (.int .i64 (lmid a.c1 b.c1 n d)) = W2 at *
  clear HO HT
  have HO := HO1
  have HT := HT1
  clear HO1 HT1
  rw [rounds_succ]
  have ca := HO.out.a.c7
  have cb := HO.out.b.c7
  have ct := HT.out.c4
  have ft := HT.out.f4
  go_wp2_with fail
  refine wp_region_later_tail 12 (by kernel_rfl) (by kernel_rfl) ?_
  simp only [List.take_succ_cons, List.take_zero, List.drop_succ_cons, List.drop_zero]
  repeat (go_big_quiet_step ((first | (go_at_call 263; exact Calls.later _ (HM.out _ _ _ HA.out.c2 HB.out.c2 (HO.out.e.later _))) | fail)))
  refine wpQuiet_nil ?_
  intro y2
  go_wp2_with fail
  clear ca cb ct ft
  have HO2 := Lib.hid (HO.out.step y2 2 (.int .i64 (lmid a.c2 b.c2 n d)))
  have HT2 : Hid (Blk (y2.w.setCell ⟨w.heap.size + 1 + 1 + 1, 2, none⟩ (.int .i64 (lmid a.c2 b.c2 n d))) (w.heap.size + 1 + 1 + 1) 30 #[.int .i64 (lmid a.c0 b.c0 n d), .int .i64 (lmid a.c1 b.c1 n d), .int .i64 (lmid a.c2 b.c2 n d), .int .i64 0]) := Lib.hid ((HT.out.ext y2.ext).set_ 2 _)
  generalize y2.w.setCell ⟨w.heap.size + 1 + 1 + 1, 2, none⟩ (.int .i64 (lmid a.c2 b.c2 n d)) = W3 at *
  clear HO HT
  have HO := HO2
  have HT := HT2
  clear HO2 HT2
  rw [rounds_succ]
  have ca := HO.out.a.c7
  have cb := HO.out.b.c7
  have ct := HT.out.c4
  have ft := HT.out.f4
  go_wp2_with fail
  refine wp_region_later_tail 12 (by kernel_rfl) (by kernel_rfl) ?_
  simp only [List.take_succ_cons, List.take_zero, List.drop_succ_cons, List.drop_zero]
  repeat (go_big_quiet_step ((first | (go_at_call 263; exact Calls.later _ (HM.out _ _ _ HA.out.c3 HB.out.c3 (HO.out.e.later _))) | fail)))
  refine wpQuiet_nil ?_
  intro y3
  go_wp2_with fail
  clear ca cb ct ft
  have HO3 := Lib.hid (HO.out.step y3 3 (.int .i64 (lmid a.c3 b.c3 n d)))
  have HT3 : Hid (Blk (y3.w.setCell ⟨w.heap.size + 1 + 1 + 1, 3, none⟩ (.int .i64 (lmid a.c3 b.c3 n d))) (w.heap.size + 1 + 1 + 1) 30 #[.int .i64 (lmid a.c0 b.c0 n d), .int .i64 (lmid a.c1 b.c1 n d), .int .i64 (lmid a.c2 b.c2 n d), .int .i64 (lmid a.c3 b.c3 n d)]) := Lib.hid ((HT.out.ext y3.ext).set_ 3 _)
  generalize y3.w.setCell ⟨w.heap.size + 1 + 1 + 1, 3, none⟩ (.int .i64 (lmid a.c3 b.c3 n d)) = W4 at *
  clear HO HT
  have HO := HO3
  have HT := HT3
  clear HO3 HT3
  rw [rounds_succ]
  go_wp2_with fail
  have ca := HO.out.a.c7
  have cb := HO.out.b.c7
  have ct := HT.out.c4
  have cr := HO.out.r.c4
  have fr := HO.out.r.f4
  refine wp_region_later_tail 8 (by kernel_rfl) (by kernel_rfl) ?_
  simp only [List.take_succ_cons, List.take_zero, List.drop_succ_cons, List.drop_zero]
  repeat (go_big_quiet_step ((first | (go_at_call 263; exact Calls.later _ (HM.out _ _ _ HA.out.z HB.out.z (HO.out.e.later _))) | fail)))
  refine wpQuiet_nil ?_
  intro z
  go_wp2_with fail
  clear ca cb ct cr fr
  have HZ := Lib.hid ((HO.out.r.ext z.ext).s4 (.int .i64 (lmid a.c0 b.c0 n d)) (.int .i64 (lmid a.c1 b.c1 n d)) (.int .i64 (lmid a.c2 b.c2 n d)) (.int .i64 (lmid a.c3 b.c3 n d)))
  have HE : Hid (Ext w ((((z.w.setCell ⟨w.heap.size + 1 + 1, 0, none⟩ (.int .i64 (lmid a.c0 b.c0 n d))).setCell ⟨w.heap.size + 1 + 1, 1, none⟩ (.int .i64 (lmid a.c1 b.c1 n d))).setCell ⟨w.heap.size + 1 + 1, 2, none⟩ (.int .i64 (lmid a.c2 b.c2 n d))).setCell ⟨w.heap.size + 1 + 1, 3, none⟩ (.int .i64 (lmid a.c3 b.c3 n d)))) :=
    Lib.hid (((((HO.out.e.trans z.ext).setCell _ (by simp; omega)).setCell _ (by simp; omega)).setCell _ (by simp; omega)).setCell _ (by simp; omega))
  generalize (((z.w.setCell ⟨w.heap.size + 1 + 1, 0, none⟩ (.int .i64 (lmid a.c0 b.c0 n d))).setCell ⟨w.heap.size + 1 + 1, 1, none⟩ (.int .i64 (lmid a.c1 b.c1 n d))).setCell ⟨w.heap.size + 1 + 1, 2, none⟩ (.int .i64 (lmid a.c2 b.c2 n d))).setCell ⟨w.heap.size + 1 + 1, 3, none⟩ (.int .i64 (lmid a.c3 b.c3 n d)) = WF at *
  have cz := HZ.out.c4
  go_wp2_with fail
  refine bodyPost_ret (results_tmp_cell rfl _ _ _ (ad := ⟨w.heap.size + 1 + 1, 0, none⟩) rfl (run_load_blk HZ.out 30 0 4 agg_color (by kernel_rfl) (by simp))) rfl ⟨rfl, HE.out⟩
end Go.Proofs.YtplljnfjkkloeaaGreatDoor
set_option linter.unusedVariables false
set_option linter.unusedSimpArgs false
namespace Go.Proofs.YtplljnfjkkloeaaGreatDoor
attribute [local go_sem] Go.Oper.semAt_some
open Go.RowKit
structure Da where
  bits : Int
  every : Int
  done : Int
@[reducible] def Da.v (d : Da) : Value := .agg #[.int .i64 d.bits, .int .i64 d.every, .int .i64 d.done]
structure Da.Ok (d : Da) : Prop where
  b0 : 0 ≤ d.bits
  b1 : d.bits < 65536
  e0 : 1 ≤ d.every
  e1 : d.every ≤ 256
  d0 : 0 ≤ d.done
  d1 : d.done ≤ 1099511627776
def Da.lit (d : Da) (n : Int) : Bool := (d.bits / 2 ^ (((d.done + n) / d.every) % 16).toNat % 2 == 1)
def Da.next (d : Da) (n : Int) : Da := ⟨d.bits, d.every, (d.done + n) % (d.every * 16)⟩
set_option maxHeartbeats 1000000 in
theorem bit_any (b i : Int) (w : World) (h0 : 0 ≤ i) (b0 : 0 ≤ b) : Calls Tryz.prog 231 #[.int .i64 b, .int .i64 i] w fun e w' => e = .returned (.bool (b / 2 ^ (i % 16).toNat % 2 == 1)) ∧ w = w' := by
  go_enter Tryz.func231, Tryz.ntmps231
  go_wp2_with fail
  go_ret
  exact ⟨rfl, rfl⟩
set_option maxHeartbeats 1000000 in
theorem dright_any (d : Da) (w : World) (h : d.Ok) : Calls Tryz.prog 192 #[d.v] w fun e w' => e = .returned (.bool true) ∧ Ext w w' := by
  obtain ⟨b0, b1, e0, e1, d0, d1⟩ := h
  go_enter Tryz.func192, Tryz.ntmps192
  go_wp2_with fail
  go_ret
  exact ⟨rfl, by (repeat (first | with_reducible exact Ext.refl _ | with_reducible assumption | with_reducible refine Ext.alloc ?_ _ | with_reducible refine Ext.drew ?_ | with_reducible refine Ext.drewN ?_ _ | with_reducible refine Ext.later ?_ _ | (with_reducible refine Ext.setCell ?_ _ ?hp; case hp => first | (simp; done) | (simp; omega) | omega)))⟩
set_option maxHeartbeats 1000000 in
theorem dnext_any (d : Da) (n : Int) (w : World) (h : d.Ok) (n0 : 0 ≤ n) (n1 : n ≤ 1099511627776) : Calls Tryz.prog 183 #[d.v, .int .i64 n] w fun e w' => e = .returned (d.next n).v ∧ Ext w w' := by
  obtain ⟨b0, b1, e0, e1, d0, d1⟩ := h
  go_enter Tryz.func183, Tryz.ntmps183
  go_wp2_with fail
  refine bodyPost_ret (v := (d.next n).v) (by simp [results, Tryz.results183, go_sem, Da.next]) rfl ⟨rfl, by (repeat (first | with_reducible exact Ext.refl _ | with_reducible assumption | with_reducible refine Ext.alloc ?_ _ | with_reducible refine Ext.drew ?_ | with_reducible refine Ext.drewN ?_ _ | with_reducible refine Ext.later ?_ _ | (with_reducible refine Ext.setCell ?_ _ ?hp; case hp => first | (simp; done) | (simp; omega) | omega)))⟩
set_option maxHeartbeats 1000000 in
theorem lit_any (d : Da) (n : Int) (w : World) (h : d.Ok) (n0 : 0 ≤ n) (n1 : n ≤ 1099511627776) : Calls Tryz.prog 189 #[d.v, .int .i64 n] w fun e w' => e = .returned (.bool (d.lit n)) ∧ Ext w w' := by
  obtain ⟨b0, b1, e0, e1, d0, d1⟩ := h
  have HBT : Hid (∀ w', Calls Tryz.prog 231 #[.int .i64 d.bits, .int .i64 ((d.done + n) / d.every)] w' fun e w'' => e = .returned (.bool (d.lit n)) ∧ Ext w' w'') :=
    Lib.hid fun w' => (bit_any d.bits ((d.done + n) / d.every) w' (Int.ediv_nonneg (by omega) (by omega)) b0).mono fun _ _ h => ⟨h.1, h.2 ▸ Ext.refl _⟩
  have q1 : 0 ≤ (d.done + n) / d.every := Int.ediv_nonneg (by omega) (by omega)
  have q2 : (d.done + n) / d.every ≤ d.done + n := Int.ediv_le_self _ (by omega)
  have hz : d.every ≠ 0 := by omega
  go_enter Tryz.func189, Tryz.ntmps189
  go_wp2_with fail
  refine wp_region_later (by kernel_rfl) (by kernel_rfl) ?_
  repeat (go_big_quiet_step ((first | (go_at_call 231; with_reducible exact Calls.later _ (HBT.out _)) | fail)))
  refine wpQuiet_nil ?_
  intro y
  go_wp2_with fail
  go_ret
  exact ⟨rfl, by (repeat (first | with_reducible exact Ext.refl _ | with_reducible assumption | with_reducible refine Ext.alloc ?_ _ | with_reducible refine Ext.drew ?_ | with_reducible refine Ext.drewN ?_ _ | with_reducible refine Ext.later ?_ _ | (with_reducible refine Ext.setCell ?_ _ ?hp; case hp => first | (simp; done) | (simp; omega) | omega)))⟩
end Go.Proofs.YtplljnfjkkloeaaGreatDoor
