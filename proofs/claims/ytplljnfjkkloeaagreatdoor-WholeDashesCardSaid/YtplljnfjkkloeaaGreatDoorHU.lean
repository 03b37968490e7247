/- Proof text: primitives of fewer than two vertices; pipe.Emit of lines. By an AI agent. No condition beyond what each theorem states. -/
import Derived.Test.YtplljnfjkkloeaaGreatDoorHQ
import Derived.Test.YtplljnfjkkloeaaGreatDoorJE
import Derived.Test.YtplljnfjkkloeaaGreatDoorB
import Derived.Test.YtplljnfjkkloeaaGreatDoorJG
set_option linter.unusedVariables false
set_option linter.unusedSimpArgs false
set_option maxHeartbeats 16000000
namespace Go.Proofs.YtplljnfjkkloeaaGreatDoor
attribute [local go_sem] Go.Oper.semAt_some
open Go.RowKit
set_option maxRecDepth 100000 in
theorem count_0 (w : World) : Calls Tryz.prog 60 #[.int .i64 2, .int .i64 0] w fun e w' => e = .returned (.int .i64 0) ∧ Ext w w' := by
 go_enter Tryz.func60, Tryz.ntmps60
 go_wp2_with fail
 go_ret
 exact ⟨rfl, by (repeat (first | with_reducible (first | exact eR_ _ | assumption | refine eA_ ?_ _ | refine eD_ ?_ | refine eN_ ?_ _ | refine eL_ ?_ _) | (with_reducible refine eS_ ?_ _ ?hp; case hp => first | (simp; done) | (simp; omega) | omega)))⟩
set_option maxRecDepth 100000 in
theorem count_1 (w : World) : Calls Tryz.prog 60 #[.int .i64 2, .int .i64 1] w fun e w' => e = .returned (.int .i64 0) ∧ Ext w w' := by
 go_enter Tryz.func60, Tryz.ntmps60
 go_wp2_with (go_at_call 59; refine (plans_two _).mono ?_; rintro e w1 ⟨V, rfl, hB, hE⟩; obtain ⟨y1, rfl⟩ := Later.mk' hE; clear hE)
 go_ret
 exact ⟨rfl, by (repeat (first | with_reducible (first | exact eR_ _ | assumption | refine eA_ ?_ _ | refine eD_ ?_ | refine eN_ ?_ _ | refine eL_ ?_ _) | (with_reducible refine eS_ ?_ _ ?hp; case hp => first | (simp; done) | (simp; omega) | omega)))⟩
set_option maxRecDepth 100000 in
theorem prims_few (n : Nat) (A : Option Addr) (c : Nat) (w : World) (h : n < 2) : Calls Tryz.prog 38 #[.int .i64 2, .slice A n c, .bool false] w (PrimsQ 2 0 w) := by
 have HCO : Hid (∀ w, Calls Tryz.prog 60 #[.int .i64 2, .int .i64 (n : Int)] w fun e w' => e = .returned (.int .i64 0) ∧ Ext w w') := Lib.hid (fun w => by
  rcases (by omega : n = 0 ∨ n = 1) with rfl | rfl
  ·exact count_0 w
  ·exact count_1 w)
 have m3 : decide ((256 : Int) < n) = false := by simp; omega
 clear h
 go_enter Tryz.func38, Tryz.ntmps38
 go_wp2_with (go_at_call 59; refine (plans_two _).mono ?_; rintro e w1 ⟨V, rfl, hB, hE⟩; obtain ⟨y1, rfl⟩ := Later.mk' hE; clear hE hB)
 refine (HCO.out _).mono ?_
 rintro e w2 ⟨rfl, hE⟩
 obtain ⟨y2, rfl⟩ := Later.mk' hE
 clear hE
 go_wp2_with fail
 go_loopw [9, 10, 11, 12, 13, 14, 15, 35] (fun o _ _ _ _ _ _ i wr => o = .slice none 0 0 ∧ i = .int .i64 0 ∧ Hid (Ext w wr)) (fun _ _ _ _ _ _ _ i _ => 0)
 case atStart => exact ⟨rfl, rfl, Lib.hid (by (repeat (first | with_reducible (first | exact eR_ _ | assumption | refine eA_ ?_ _ | refine eD_ ?_ | refine eN_ ?_ _ | refine eL_ ?_ _) | (with_reducible refine eS_ ?_ _ ?hp; case hp => first | (simp; done) | (simp; omega) | omega))))⟩
 case round =>
  obtain ⟨rfl, rfl, HE⟩ := hrel
  go_wp2_with fail
  refine bodyPost_ret (v := .tuple #[.slice none 0 0, .int .i64 0]) (by simp [results, Tryz.results38, go_sem]) rfl ?_
  exact ⟨[], none, 0, rfl, rfl, ⟨Rd.empty _ _ _ _ (by unfold maxLen; omega), fun h => by omega⟩, fun j q h => by simp at h, HE.out⟩
theorem primsq_of {m n : Nat} {w : World} {e : Ending} {w' : World} (h : PrimsP m n w e w') (h2 : 2 ≤ n) : PrimsQ m (ncnt m n) w e w' := by
 unfold ncnt
 rw [if_neg (by omega)]
 exact h
theorem emit_any (s : Ps) (p : Hp) (l : Sl) (m n : Nat) (w : World) (hl : Lies s p l w) (hd : Drawn s p m n) (h2 : m = 1 → 2 ≤ p.V.length) :
  Calls Tryz.prog 15 #[.agg (s.cs p l)] w fun e w' => ∃ a c, e = .returned (.tuple #[.slice a (linesK m n s.dashed s.dash ⟨0, 0, s.W, s.H⟩ (p.V.map (vmap · s.port)) (ncnt m p.V.length)).2.length c, .bool true]) ∧
   Rd w' 8 a (linesK m n s.dashed s.dash ⟨0, 0, s.W, s.H⟩ (p.V.map (vmap · s.port)) (ncnt m p.V.length)).2.length c ((linesK m n s.dashed s.dash ⟨0, 0, s.W, s.H⟩ (p.V.map (vmap · s.port)) (ncnt m p.V.length)).2.flatMap Fr.cells) ∧ (∀ ad, a = some ad → w.heap.size ≤ ad.block ∧ ad.block < w'.heap.size) ∧ Ext w w' := by
 refine emit_core s p l m n _ w hl hd (ncnt_le _ _) (fun k hk => ncnt_idx hk) (fun wz => ?_)
 rw [hd.len]
 by_cases h : p.V.length < 2
 ·rcases hd.hm with rfl | rfl
  ·have := h2 rfl; omega
  ·unfold ncnt
   rw [if_pos h]
   exact prims_few _ _ _ wz h
 ·rcases hd.hm with rfl | rfl
  ·exact (prims_one _ _ _ wz (by omega) hd.le).mono fun e w' hh => primsq_of hh (by omega)
  ·exact (prims_two _ _ _ wz (by omega) hd.le).mono fun e w' hh => primsq_of hh (by omega)
end Go.Proofs.YtplljnfjkkloeaaGreatDoor
set_option linter.unusedVariables false
set_option linter.unusedSimpArgs false
namespace Go.Proofs.YtplljnfjkkloeaaGreatDoor
attribute [local go_sem] Go.Oper.semAt_some
open Go.RowKit
def Ps.lines (s : Ps) (p : Hp) (m k : Nat) : List Fr := (linesK m k s.dashed s.dash ⟨0, 0, s.W, s.H⟩ (p.V.map (vmap · s.port)) (ncnt m p.V.length)).2
structure Ready (s : Ps) (p : Hp) (W H : Nat) : Prop where
 sW : s.W = W
 sH : s.H = H
 lc : p.C.length = W * H
 lz : p.Z.length = W * H
 w0 : 1 ≤ W
 w1 : W ≤ 1024
 h0 : 1 ≤ H
 h1 : H ≤ 1024
 r : ∀ v ∈ p.C, 0 ≤ v ∧ v < 4294967296
 o : (Op3.mk s.box s.func s.keep s.mix s.sf s.df).Ok
 deep : s.deep = false
 k0 : s.k0 = true
 k1 : s.k1 = true
 k2 : s.k2 = true
 k3 : s.k3 = true
set_option maxRecDepth 100000 in
theorem js_pipe (s : Ps) (p : Hp) (l : Sl) (a : Value) : (s.js p l a).extract 0 (0 + 94) = s.cs p l := by kernel_rfl
theorem js_size (s : Ps) (p : Hp) (l : Sl) (a : Value) : (s.js p l a).size = 95 := rfl
theorem Rd.ptr {w : World} {size : Nat} {a : Option Addr} {n cap : Nat} {xs : List Value} (h : Rd w size a n cap xs) (h0 : 0 < n) : ∀ ad, a = some ad → ad.block < w.heap.size := by
 obtain ⟨b, off, rfl, hb, -⟩ := h.at_ h0
 rintro ad he
 obtain rfl := Option.some.inj he
 exact hb
end Go.Proofs.YtplljnfjkkloeaaGreatDoor
set_option linter.unusedVariables false
set_option linter.unusedSimpArgs false
namespace Go.Proofs.YtplljnfjkkloeaaGreatDoor
open Go.RowKit
theorem right_any (op : Int) (a : Option Addr) (n cap : Nat) (A : List Int) (w : World) (h : Glob w) (hA : Rd w 1 a n cap (ivs A)) :
  Calls Tryz.prog 76 #[.agg #[.int .i64 op, .slice a n cap]] w fun e w' => e = .returned (.int .i64 (rightT (askT op) A)) ∧ Ext w w' := by
 have H := fun w1 h1 => ask_rd op w1 h1
 have hAl : A.length = n := by simpa using hA.len
 have hn := hA.nat_le
 generalize ho : askT op = o at H
 have HA := Lib.hid hA
 have Hg := Lib.hid h
 have Hl := Lib.hid hAl
 have HH := Lib.hid H
 clear H hA h hAl ho
 cases o with
 | none =>
  go_enter Tryz.func76, Tryz.ntmps76
  go_wp2_with (go_at_call 99; refine (HH.out _ (Hg.out.ext ((Ext.refl _).alloc _))).mono ?_; rintro e w1 ⟨a1, cap1, rfl, hr, hE⟩; simp only [Option.isSome_none])
  go_ret
  exact ⟨rfl, ((Ext.refl w).alloc _).trans hE⟩
 | some l =>
  have hl63 : (l.length : Int) ≤ 9223372036854775807 ∨ True := Or.inr trivial
  clear hl63
  by_cases hlen : l.length = n
  ·have hne : ((l.length : Int) != (n : Int)) = false := by simp [hlen]
   go_enter Tryz.func76, Tryz.ntmps76
   go_wp2_with (go_at_call 99; refine (HH.out _ (Hg.out.ext ((Ext.refl _).alloc _))).mono ?_; rintro e w1 ⟨a1, cap1, rfl, hr, hE⟩; obtain ⟨x1, rfl⟩ := Later.mk' hE; simp only [Option.isSome_some, Option.getD_some] at hr ⊢)
   have hlA : l.length = A.length := by rw [hlen, Hl.out]
   have HlA := Lib.hid hlA
   have Hlen := Lib.hid hlen
   clear hlA hlen hne
   have HA1 := Lib.hid ((HA.out.ext ((Ext.refl w).alloc (.cells #[.int .i64 op, .slice a n cap] 88))).ext x1.ext)
   have HE := Lib.hid (((Ext.refl w).alloc _).trans x1.ext)
   have Hr := Lib.hid hr
   clear hr hE
   go_loop [24] (fun i => ∃ k : Nat, k ≤ n ∧ i = .int .i64 k ∧ Hid (∀ j, j < k → within (l.getD j (0, 0)) (A.getD j 0) = true)) (fun i => n - (intOf i).toNat)
   case atStart => exact ⟨0, Nat.zero_le _, rfl, fun j hj => by omega⟩
   case round =>
    obtain ⟨k, hk, rfl, hall⟩ := hrel
    by_cases hlt : k < n
    ·obtain ⟨b, off, rfl, hb, hc⟩ := HA1.out.at_ (by omega)
     obtain ⟨b1, off1, rfl, hb1, hc1⟩ := Hr.out.at_ (by rw [Hlen.out]; omega)
     have hkA : k < A.length := by rw [Hl.out]; omega
     have hkl : k < l.length := by rw [Hlen.out]; omega
     have ca : x1.w.cell? ⟨b, off + k, none⟩ = some (.int .i64 (A.getD k 0)) := (hc k (by omega)).trans (ivs_get A k hkA)
     obtain ⟨hp1, hp2⟩ := prs_get l k hkl
     have cp1 := (hc1 (k * 2) (by omega)).trans hp1
     have cp2 := (hc1 (k * 2 + 1) (by omega)).trans hp2
     have hw : within (l.getD k (0, 0)) (A.getD k 0) = (decide ((l.getD k (0, 0)).1 ≤ A.getD k 0) && decide (A.getD k 0 ≤ (l.getD k (0, 0)).2)) := rfl
     have HW := Lib.hid hw
     have HkA := Lib.hid hkA
     have Hkl := Lib.hid hkl
     have hz : (k : Int) < (l.length : Int) := by omega
     clear hc hc1 hp1 hp2 hw hkA hkl
     have cp2' : x1.w.cell? ⟨b1, off1 + k * 2 + 1, none⟩ = some (.int .i64 (l.getD k (0, 0)).2) := cp2
     clear cp2
     generalize hx : A.getD k 0 = x at ca HW
     generalize hp : l.getD k (0, 0) = p at cp1 cp2' HW
     have Hx := Lib.hid hx
     have Hp := Lib.hid hp
     clear hx hp
     by_cases h1 : x < p.1
     ·have hd1 : decide (x < p.1) = true := by simpa using h1
      go_wp2
      go_ret
      have e0 : rightT (some l) A = 4 := by
       have := allIn_bad l A k Hkl.out HkA.out (by rw [Hx.out, Hp.out, HW.out]; simp; omega)
       simp [rightT, HlA.out, this]
      exact ⟨by rw [e0]; rfl, HE.out⟩
     ·have hd1 : decide (x < p.1) = false := by simpa using h1
      by_cases h2 : p.2 < x
      ·have hd2 : decide (x > p.2) = true := by simpa using h2
       go_wp2
       go_ret
       have e0 : rightT (some l) A = 4 := by
        have := allIn_bad l A k Hkl.out HkA.out (by rw [Hx.out, Hp.out, HW.out]; simp; omega)
        simp [rightT, HlA.out, this]
       exact ⟨by rw [e0]; rfl, HE.out⟩
      ·have hd2 : decide (x > p.2) = false := by simpa using h2
       go_wp2
       go_round
       case rel =>
        refine ⟨k + 1, by omega, by go_num, fun j hj => ?_⟩
        by_cases hjk : j < k
        ·exact hall.out j hjk
        ·obtain rfl : j = k := by omega
         rw [Hx.out, Hp.out, HW.out]; simp; omega
       case measure => simp [intOf]; omega
    ·go_wp2
     all_goals go_ret
     obtain rfl : k = n := by omega
     have e0 : rightT (some l) A = 0 := by
      have := allIn_all l A HlA.out (fun j hj => hall.out j (by rw [Hl.out] at hj; exact hj))
      simp [rightT, HlA.out, this]
     exact ⟨by rw [e0]; rfl, HE.out⟩
  ·have hne : ((l.length : Int) != (n : Int)) = true := by simp; omega
   go_enter Tryz.func76, Tryz.ntmps76
   go_wp2_with (go_at_call 99; refine (HH.out _ (Hg.out.ext ((Ext.refl _).alloc _))).mono ?_; rintro e w1 ⟨a1, cap1, rfl, hr, hE⟩; obtain ⟨x1, rfl⟩ := Later.mk' hE; simp only [Option.isSome_some, Option.getD_some] at hr ⊢)
   go_ret
   have e0 : rightT (some l) A = 1 := by simp only [rightT]; rw [if_neg (by rw [Hl.out]; exact hlen)]
   exact ⟨by rw [e0]; rfl, ((Ext.refl w).alloc _).trans x1.ext⟩
end Go.Proofs.YtplljnfjkkloeaaGreatDoor
set_option linter.unusedVariables false
set_option linter.unusedSimpArgs false
namespace Go.Proofs.YtplljnfjkkloeaaGreatDoor
attribute [local go_sem] Go.Oper.semAt_some
open Go.RowKit
set_option maxRecDepth 100000 in
theorem verts_17 (w : World) (J : Nat) (R : Ending → World → Prop) (HC : Calls Tryz.prog 116 #[.pointer (some ⟨J, 0, none⟩), .int .i64 17] w fun e w' => e = .returned (.tuple #[]) ∧ R (.returned (.tuple #[])) w') :
  Calls Tryz.prog 81 #[.pointer (some ⟨J, 0, none⟩), .int .i64 17] w R := by
 have HS := Lib.hid HC
 clear HC
 go_enter Tryz.func81, Tryz.ntmps81
 go_wp2_with (go_at_call 116; refine HS.out.mono ?_; rintro e w1 ⟨rfl, hX⟩; have HX := Lib.hid hX; clear hX HS)
 exact bodyPost_end (results_none rfl _ _ _) rfl HX.out
section
variable (w : World) (J : Nat) (R : Ending → World → Prop) (op : Int) (a : Option Addr) (n c : Nat) (C : List Int) (open_ : Bool)
set_option maxRecDepth 100000 in
theorem do_look (hop : op = 19 ∨ op = 20 ∨ op = 27) (hg : Glob w) (hr : Rd w 1 a n c (ivs C)) (hR : rightT (askT op) C = 0) (hj : w.cell? ⟨J, 58, none⟩ = some (.bool false))
  (HC : ∀ wz, Ext w wz → Calls Tryz.prog 82 #[.pointer (some ⟨J, 0, none⟩), .int .i64 op] wz fun e w' => e = .returned (.tuple #[]) ∧ R (.returned (.tuple #[])) w') :
  Calls Tryz.prog 55 #[.pointer (some ⟨J, 0, none⟩), .agg #[.int .i64 op, .slice a n c]] w R := by
 have HS := Lib.hid HC
 have HRI : Hid (∀ wz, Ext w wz → Calls Tryz.prog 76 #[.agg #[.int .i64 op, .slice a n c]] wz fun e w' => e = .returned (.int .i64 0) ∧ Ext wz w') := Lib.hid (fun wz e => by have := right_any op a n c C wz (hg.ext e) (hr.ext e); rw [hR] at this; exact this)
 have HNE : Hid (∀ wz, Calls Tryz.prog 78 #[.bool false, .int .i64 op] wz fun e w' => e = .returned (.bool true) ∧ Ext wz w') := Lib.hid (fun wz => (nested_yes false op wz (by rcases hop with rfl | rfl | rfl <;> simp)).mono (by rintro e w' ⟨rfl, rfl⟩; exact ⟨rfl, Ext.refl _⟩))
 have HND : Hid (∀ wz, Calls Tryz.prog 77 #[.bool true, .int .i64 6] wz fun e w' => e = .returned (.tuple #[]) ∧ Ext wz w') := Lib.hid (fun wz => (need_yes 6 wz).mono (by rintro e w' ⟨rfl, rfl⟩; exact ⟨rfl, Ext.refl _⟩))
 have HCJ : Hid (∀ wz, Ext w wz → wz.cell? ⟨J, 58, none⟩ = some (.bool false)) := Lib.hid (fun wz e => e.cell_some hj)
 have HB : Hid (Blk (w.alloc (.cells #[.int .i64 op, .slice a n c] 88)) w.heap.size 88 #[.int .i64 op, .slice a n c]) := Lib.hid (Blk.new _ _ _)
 have HE0 : Hid (Ext w (w.alloc (.cells #[.int .i64 op, .slice a n c] 88))) := Lib.hid ((Ext.refl w).alloc _)
 clear HC hg hr hR hj
 rcases hop with rfl | rfl | rfl
 all_goals
  go_enter Tryz.func55, Tryz.ntmps55
  go_wp2_with (go_at_call 76; refine (HRI.out _ (by (repeat (first | with_reducible (first | exact eR_ _ | assumption | refine eA_ ?_ _ | refine eD_ ?_ | refine eN_ ?_ _ | refine eL_ ?_ _) | (with_reducible refine eS_ ?_ _ ?hp; case hp => first | (simp; done) | (simp; omega) | omega))))).mono ?_; rintro e w1 ⟨rfl, hE⟩; have HB1 := Lib.hid (HB.out.ext hE); have HE1 := Lib.hid (HE0.out.trans hE); clear hE HRI)
  refine (need_yes 0 _).mono ?_
  rintro e w2 ⟨rfl, rfl⟩
  have q0 := HB1.out.c2
  have j0 := HCJ.out _ HE1.out
  go_upto_region 3 with fail
  refine wp_region_later (by kernel_rfl) (by kernel_rfl) ?_
  repeat (go_big_quiet_step ((first | (first | (go_at_call 78; with_reducible exact Calls.later _ (HNE.out _)) | (go_at_call 77; with_reducible exact Calls.later _ (HND.out _))) | fail)))
  refine wpQuiet_nil ?_
  intro y
  have q1 := (HB1.out.ext y.ext).c2
  have HE2 := Lib.hid (HE1.out.trans y.ext)
  clear q0 j0
  generalize y.w = W2 at *
  go_wp2_with (go_at_call 82; refine (HS.out _ HE2.out).mono ?_; rintro e w4 ⟨rfl, hX⟩; have HX := Lib.hid hX; clear hX HS q1)
  exact bodyPost_end (results_none rfl _ _ _) rfl HX.out
set_option maxRecDepth 100000 in
theorem do_image (hop : op = 1 ∨ op = 5) (hg : Glob w) (hr : Rd w 1 a n c (ivs C)) (hR : rightT (askT op) C = 0) (hj : w.cell? ⟨J, 58, none⟩ = some (.bool false))
  (HC : ∀ wz, Ext w wz → Calls Tryz.prog 79 #[.pointer (some ⟨J, 0, none⟩), .int .i64 op] wz fun e w' => e = .returned (.tuple #[]) ∧ R (.returned (.tuple #[])) w') :
  Calls Tryz.prog 55 #[.pointer (some ⟨J, 0, none⟩), .agg #[.int .i64 op, .slice a n c]] w R := by
 have HS := Lib.hid HC
 have HRI : Hid (∀ wz, Ext w wz → Calls Tryz.prog 76 #[.agg #[.int .i64 op, .slice a n c]] wz fun e w' => e = .returned (.int .i64 0) ∧ Ext wz w') := Lib.hid (fun wz e => by have := right_any op a n c C wz (hg.ext e) (hr.ext e); rw [hR] at this; exact this)
 have HNE : Hid (∀ wz, Calls Tryz.prog 78 #[.bool false, .int .i64 op] wz fun e w' => e = .returned (.bool true) ∧ Ext wz w') := Lib.hid (fun wz => (nested_yes false op wz (by rcases hop with rfl | rfl <;> simp)).mono (by rintro e w' ⟨rfl, rfl⟩; exact ⟨rfl, Ext.refl _⟩))
 have HND : Hid (∀ wz, Calls Tryz.prog 77 #[.bool true, .int .i64 6] wz fun e w' => e = .returned (.tuple #[]) ∧ Ext wz w') := Lib.hid (fun wz => (need_yes 6 wz).mono (by rintro e w' ⟨rfl, rfl⟩; exact ⟨rfl, Ext.refl _⟩))
 have HCJ : Hid (∀ wz, Ext w wz → wz.cell? ⟨J, 58, none⟩ = some (.bool false)) := Lib.hid (fun wz e => e.cell_some hj)
 have HB : Hid (Blk (w.alloc (.cells #[.int .i64 op, .slice a n c] 88)) w.heap.size 88 #[.int .i64 op, .slice a n c]) := Lib.hid (Blk.new _ _ _)
 have HE0 : Hid (Ext w (w.alloc (.cells #[.int .i64 op, .slice a n c] 88))) := Lib.hid ((Ext.refl w).alloc _)
 clear HC hg hr hR hj
 rcases hop with rfl | rfl
 all_goals
  go_enter Tryz.func55, Tryz.ntmps55
  go_wp2_with (go_at_call 76; refine (HRI.out _ (by (repeat (first | with_reducible (first | exact eR_ _ | assumption | refine eA_ ?_ _ | refine eD_ ?_ | refine eN_ ?_ _ | refine eL_ ?_ _) | (with_reducible refine eS_ ?_ _ ?hp; case hp => first | (simp; done) | (simp; omega) | omega))))).mono ?_; rintro e w1 ⟨rfl, hE⟩; have HB1 := Lib.hid (HB.out.ext hE); have HE1 := Lib.hid (HE0.out.trans hE); clear hE HRI)
  refine (need_yes 0 _).mono ?_
  rintro e w2 ⟨rfl, rfl⟩
  have q0 := HB1.out.c2
  have j0 := HCJ.out _ HE1.out
  go_upto_region 3 with fail
  refine wp_region_later (by kernel_rfl) (by kernel_rfl) ?_
  repeat (go_big_quiet_step ((first | (first | (go_at_call 78; with_reducible exact Calls.later _ (HNE.out _)) | (go_at_call 77; with_reducible exact Calls.later _ (HND.out _))) | fail)))
  refine wpQuiet_nil ?_
  intro y
  have q1 := (HB1.out.ext y.ext).c2
  have HE2 := Lib.hid (HE1.out.trans y.ext)
  clear q0 j0
  generalize y.w = W2 at *
  go_wp2_with (go_at_call 79; refine (HS.out _ HE2.out).mono ?_; rintro e w4 ⟨rfl, hX⟩; have HX := Lib.hid hX; clear hX HS q1)
  exact bodyPost_end (results_none rfl _ _ _) rfl HX.out
set_option maxRecDepth 100000 in
theorem do_verts (hop : op = 14 ∨ (op = 16 ∧ open_ = false) ∨ ((op = 17 ∨ op = 18) ∧ open_ = true)) (hg : Glob w) (hr : Rd w 1 a n c (ivs C)) (hR : rightT (askT op) C = 0) (hj : w.cell? ⟨J, 58, none⟩ = some (.bool open_))
  (HC : ∀ wz, Ext w wz → Calls Tryz.prog 81 #[.pointer (some ⟨J, 0, none⟩), .int .i64 op] wz fun e w' => e = .returned (.tuple #[]) ∧ R (.returned (.tuple #[])) w') :
  Calls Tryz.prog 55 #[.pointer (some ⟨J, 0, none⟩), .agg #[.int .i64 op, .slice a n c]] w R := by
 have HS := Lib.hid HC
 have HRI : Hid (∀ wz, Ext w wz → Calls Tryz.prog 76 #[.agg #[.int .i64 op, .slice a n c]] wz fun e w' => e = .returned (.int .i64 0) ∧ Ext wz w') := Lib.hid (fun wz e => by have := right_any op a n c C wz (hg.ext e) (hr.ext e); rw [hR] at this; exact this)
 have HNE : Hid (∀ wz, Calls Tryz.prog 78 #[.bool open_, .int .i64 op] wz fun e w' => e = .returned (.bool true) ∧ Ext wz w') := Lib.hid (fun wz => (nested_yes open_ op wz (by rcases hop with rfl | ⟨rfl, rfl⟩ | ⟨rfl | rfl, rfl⟩ <;> simp)).mono (by rintro e w' ⟨rfl, rfl⟩; exact ⟨rfl, Ext.refl _⟩))
 have HND : Hid (∀ wz, Calls Tryz.prog 77 #[.bool true, .int .i64 6] wz fun e w' => e = .returned (.tuple #[]) ∧ Ext wz w') := Lib.hid (fun wz => (need_yes 6 wz).mono (by rintro e w' ⟨rfl, rfl⟩; exact ⟨rfl, Ext.refl _⟩))
 have HCJ : Hid (∀ wz, Ext w wz → wz.cell? ⟨J, 58, none⟩ = some (.bool open_)) := Lib.hid (fun wz e => e.cell_some hj)
 have HB : Hid (Blk (w.alloc (.cells #[.int .i64 op, .slice a n c] 88)) w.heap.size 88 #[.int .i64 op, .slice a n c]) := Lib.hid (Blk.new _ _ _)
 have HE0 : Hid (Ext w (w.alloc (.cells #[.int .i64 op, .slice a n c] 88))) := Lib.hid ((Ext.refl w).alloc _)
 clear HC hg hr hR hj
 rcases hop with rfl | ⟨rfl, rfl⟩ | ⟨rfl | rfl, rfl⟩
 all_goals
  go_enter Tryz.func55, Tryz.ntmps55
  go_wp2_with (go_at_call 76; refine (HRI.out _ (by (repeat (first | with_reducible (first | exact eR_ _ | assumption | refine eA_ ?_ _ | refine eD_ ?_ | refine eN_ ?_ _ | refine eL_ ?_ _) | (with_reducible refine eS_ ?_ _ ?hp; case hp => first | (simp; done) | (simp; omega) | omega))))).mono ?_; rintro e w1 ⟨rfl, hE⟩; have HB1 := Lib.hid (HB.out.ext hE); have HE1 := Lib.hid (HE0.out.trans hE); clear hE HRI)
  refine (need_yes 0 _).mono ?_
  rintro e w2 ⟨rfl, rfl⟩
  have q0 := HB1.out.c2
  have j0 := HCJ.out _ HE1.out
  go_upto_region 3 with fail
  refine wp_region_later (by kernel_rfl) (by kernel_rfl) ?_
  repeat (go_big_quiet_step ((first | (first | (go_at_call 78; with_reducible exact Calls.later _ (HNE.out _)) | (go_at_call 77; with_reducible exact Calls.later _ (HND.out _))) | fail)))
  refine wpQuiet_nil ?_
  intro y
  have q1 := (HB1.out.ext y.ext).c2
  have HE2 := Lib.hid (HE1.out.trans y.ext)
  clear q0 j0
  generalize y.w = W2 at *
  go_wp2_with (go_at_call 81; refine (HS.out _ HE2.out).mono ?_; rintro e w4 ⟨rfl, hX⟩; have HX := Lib.hid hX; clear hX HS q1)
  exact bodyPost_end (results_none rfl _ _ _) rfl HX.out
end
end Go.Proofs.YtplljnfjkkloeaaGreatDoor
set_option linter.unusedVariables false
set_option linter.unusedSimpArgs false
namespace Go.Proofs.YtplljnfjkkloeaaGreatDoor
attribute [local go_sem] Go.Oper.semAt_some
open Go.RowKit
theorem JobP.from {w0 w wz w' : World} {J : Nat} {s : Ps} {p : Hp} {a : Value} {e : Ending} (h : JobP w0 wz J s p a e w') (k : Ext w wz) : JobP w0 w J s p a e w' := by
 obtain ⟨he, l, h1, h2, h3, h4⟩ := h
 exact ⟨he, l, h1, h2, h3, (Kp.of_ext k).trans h4⟩
theorem built_job (s : Ps) (p : Hp) (l : Sl) (A : Option Addr) (n c : Nat) : Tryz.prog.built 136 [(0, Value.agg (s.cs p l)), (1, .slice A n c)] = some (s.js p l (.slice A n c)) := by kernel_rfl
set_option maxRecDepth 100000 in
theorem do1_any (V R J : Nat) (rec_ : Array Value) (op : Int) (a : Value) (w : World) (Q : Ending → World → Prop) (hV : Blk w V 134 #[.pointer (some ⟨J, 0, none⟩)]) (hR : Blk w R 88 #[.int .i64 op, a])
  (HD : Calls Tryz.prog 55 #[.pointer (some ⟨J, 0, none⟩), .agg #[.int .i64 op, a]] w fun e w' => e = .returned (.tuple #[]) ∧ Q (.returned (.tuple #[])) w') :
  Calls Tryz.prog 54 #[.pointer (some ⟨V, 0, none⟩), .pointer (some ⟨R, 0, none⟩)] w Q := by
 have HS := Lib.hid HD
 have v0 := hV.c1
 have r0 := hR.c2
 clear HD hV hR
 go_enter Tryz.func54, Tryz.ntmps54
 go_wp2_with (go_at_call 55; refine HS.out.mono ?_; rintro e w1 ⟨rfl, hX⟩; have HX := Lib.hid hX; clear hX HS v0 r0)
 exact bodyPost_end (results_none rfl _ _ _) rfl HX.out
end Go.Proofs.YtplljnfjkkloeaaGreatDoor
set_option linter.unusedVariables false
set_option linter.unusedSimpArgs false
namespace Go.Proofs.YtplljnfjkkloeaaGreatDoor
attribute [local go_sem] Go.Oper.semAt_some
open Go.RowKit
theorem set_same {w : World} {g : Nat} {t : TypeId} {v : Value} (h : Blk w g t #[v]) : Ext w (w.setCell ⟨g, 0, none⟩ v) := by
 refine ⟨rfl, rfl, rfl, by simp, fun k hk => ?_⟩
 by_cases hg : k = g
 ·subst hg
  have h2 := h.s1 v
  unfold Blk at h h2
  rw [h2, h]
 ·exact Below.heap_setCell w ⟨g, 0, none⟩ v k hg
structure DoP (w wx : World) (s : Ps) (p : Hp) (J V O : Nat) (a : Value) (z : Array Value) : Prop where
 g : ∃ l, Blk wx J 136 (s.js p l a) ∧ LiesB s p l wx
 v : Blk wx V 134 #[.pointer (some ⟨J, 0, none⟩)]
 o : Blk wx O 53 z
 e : Ext w wx
 lt : w.heap.size ≤ O
theorem DoP.ext {w wx wy : World} {s : Ps} {p : Hp} {J V O : Nat} {a : Value} {z : Array Value} (h : DoP w wx s p J V O a z) (e : Ext wx wy) : DoP w wy s p J V O a z :=
 ⟨let ⟨l, h1, h2⟩ := h.g; ⟨l, h1.ext e, h2.ext e⟩, h.v.ext e, h.o.ext e, h.e.trans e, h.lt⟩
set_option maxRecDepth 100000 in
theorem do_step (w : World) (s s' : Ps) (p p' : Hp) (l : Sl) (A : Option Addr) (n c : Nat) (op : Int) (hl : LiesB s p l w)
  (HD : ∀ w1 J, JobE w w1 J s p l (.slice A n c) → Calls Tryz.prog 55 #[.pointer (some ⟨J, 0, none⟩), .agg #[.int .i64 op, .slice A n c]] w1 (JobP w w1 J s' p' (.slice A n c))) :
  Calls Tryz.prog 31 #[.agg (s.cs p l), .agg #[.int .i64 op, .slice A n c]] w (GivesB s' p' w) := by
 have HDO := Lib.hid HD
 have HL := Lib.hid hl
 clear HD hl
 have HBJ := Lib.hid (built_job s p l A n c)
 have HJ94 := Lib.hid (js_size s p l (.slice A n c))
 obtain ⟨cs, hcs⟩ : ∃ cs, cs = s.cs p l := ⟨_, rfl⟩
 have HC94 : Hid (cs.size = 94) := Lib.hid (by rw [hcs]; rfl)
 have HC1 : Hid (∀ u ∈ cs.toList, u.oneCell' = true) := Lib.hid (by rw [hcs]; exact Ps.cs_one s p l)
 obtain ⟨js, hjs⟩ : ∃ js, js = s.js p l (.slice A n c) := ⟨_, rfl⟩
 rw [← hcs] at HBJ ⊢
 rw [← hjs] at HBJ
 have HJS := Lib.hid hjs
 clear hcs hjs
 have HP0 : Hid (Blk (((w.alloc (.cells cs 53)).alloc (.cells #[.int .i64 op, .slice A n c] 88)).alloc (.cells Tryz.zeroCells53 53)) w.heap.size 53 cs) := Lib.hid (((Blk.new _ _ _).alloc _).alloc _)
 have HR0 : Hid (Blk (((w.alloc (.cells cs 53)).alloc (.cells #[.int .i64 op, .slice A n c] 88)).alloc (.cells Tryz.zeroCells53 53)) (w.heap.size + 1) 88 #[.int .i64 op, .slice A n c]) := Lib.hid ((Blk.new' _ _ _ (by simp)).alloc _)
 have HO0 : Hid (Blk (((w.alloc (.cells cs 53)).alloc (.cells #[.int .i64 op, .slice A n c] 88)).alloc (.cells Tryz.zeroCells53 53)) (w.heap.size + 1 + 1) 53 Tryz.zeroCells53) := Lib.hid (Blk.new' _ _ _ (by simp))
 have HE0 : Hid (Ext w (((w.alloc (.cells cs 53)).alloc (.cells #[.int .i64 op, .slice A n c] 88)).alloc (.cells Tryz.zeroCells53 53))) := Lib.hid ((((Ext.refl w).alloc _).alloc _).alloc _)
 have HS0 : Hid ((((w.alloc (.cells cs 53)).alloc (.cells #[.int .i64 op, .slice A n c] 88)).alloc (.cells Tryz.zeroCells53 53)).heap.size = w.heap.size + 3) := Lib.hid (by simp)
 go_enter Tryz.func31, Tryz.ntmps31
 go_upto_region 1 with fail
 generalize (((w.alloc (.cells cs 53)).alloc (.cells #[.int .i64 op, .slice A n c] 88)).alloc (.cells Tryz.zeroCells53 53)) = W0 at *
 have r1 := HR0.out.c2.2
 go_wp2_with (first | (refine wpList_load_blk rfl (.tmp 2) 53 rfl 0 rfl HP0.out 94 agg_pipe size_pipe (by rw [HC94.out]; exact Nat.le_refl _) cs (by rw [show 0 + 94 = cs.size from HC94.out.symm, Array.extract_size]) ?_) | (refine wpList_build' rfl 136 _ rfl js (by rw [← HBJ.out]; simp only [List.map_toArray, List.map_cons, List.map_nil]; rfl) ?_))
 have HTRY : Hid (Calls Tryz.prog 39 #[.func (.func 54) #[] #[.pointer (some ⟨W0.heap.size + 1, 0, none⟩), .pointer (some ⟨w.heap.size + 1, 0, none⟩)]] ((W0.alloc (.cells js 136)).alloc (.cells #[.pointer (some ⟨W0.heap.size, 0, none⟩)] 134)) fun e w' => e = .returned (.int .i64 0) ∧ DoP w w' s' p' W0.heap.size (W0.heap.size + 1) (w.heap.size + 1 + 1) (.slice A n c) Tryz.zeroCells53) := Lib.hid (by
  have eA : Ext W0 ((W0.alloc (.cells js 136)).alloc (.cells #[.pointer (some ⟨W0.heap.size, 0, none⟩)] 134)) := ((Ext.refl W0).alloc _).alloc _
  have hJ : Blk ((W0.alloc (.cells js 136)).alloc (.cells #[.pointer (some ⟨W0.heap.size, 0, none⟩)] 134)) W0.heap.size 136 js := (Blk.new _ _ _).alloc _
  have hV : Blk ((W0.alloc (.cells js 136)).alloc (.cells #[.pointer (some ⟨W0.heap.size, 0, none⟩)] 134)) (W0.heap.size + 1) 134 #[.pointer (some ⟨W0.heap.size, 0, none⟩)] := Blk.new' _ _ _ (by simp)
  have hR := HR0.out.ext eA
  have hO := HO0.out.ext eA
  have hE := HE0.out.trans eA
  have hsz : ((W0.alloc (.cells js 136)).alloc (.cells #[.pointer (some ⟨W0.heap.size, 0, none⟩)] 134)).heap.size = W0.heap.size + 2 := by simp
  have h3 := HS0.out
  generalize ((W0.alloc (.cells js 136)).alloc (.cells #[.pointer (some ⟨W0.heap.size, 0, none⟩)] 134)) = W1 at *
  have e1 : Ext W1 (W1.alloc (.cells #[.int .i64 0] 25)) := (Ext.refl W1).alloc _
  have hD := HDO.out (W1.alloc (.cells #[.int .i64 0] 25)) W0.heap.size ⟨by rw [← HJS.out]; exact hJ.ext e1, HL.out, hE.trans e1, by omega⟩
  have h1 := do1_any (W0.heap.size + 1) (w.heap.size + 1) W0.heap.size js op (.slice A n c) (W1.alloc (.cells #[.int .i64 0] 25)) (JobP w (W1.alloc (.cells #[.int .i64 0] 25)) W0.heap.size s' p' (.slice A n c)) (hV.ext e1) (hR.ext e1) (hD.mono fun e w' h => ⟨h.1, by rw [h.1] at h; exact h⟩)
  refine try_ok W1 (fun _ _ => rfl) (h1.mono ?_)
  rintro e w' ⟨rfl, l', b1, b2, b3, b4⟩
  have hErr : Blk w' W1.heap.size 25 #[.int .i64 0] := (Blk.new W1 25 #[.int .i64 0]).kp b4 (by omega)
  refine ⟨rfl, hErr, DoP.ext ⟨⟨l', b1, b2⟩, (hV.ext e1).kp b4 (by omega), (hO.ext e1).kp b4 (by omega), b3, by omega⟩ (set_same hErr)⟩)
 refine HTRY.out.mono ?_
 rintro e w1 ⟨rfl, hX⟩
 have HX := Lib.hid hX
 clear hX HTRY HP0 HR0 HO0 HE0 HS0 r1 HDO HBJ HJ94 HC94 HC1 HJS HL
 generalize W0.heap.size = J at *
 generalize w.heap.size + 1 + 1 = O at *
 obtain ⟨l', g1, g2⟩ := HX.out.g
 have HG1 := Lib.hid g1
 have HG2 := Lib.hid g2
 clear g1 g2
 have v0 := HX.out.v.c1
 obtain ⟨cs', hcs'⟩ : ∃ c, c = s'.cs p' l' := ⟨_, rfl⟩
 have HCS' := Lib.hid hcs'
 have hsz' : cs'.size = 94 := by rw [hcs']; rfl
 clear hcs'
 go_wp2_with (first | (refine wpList_load_blk rfl (.tmp 18) 53 rfl 0 rfl HG1.out 94 agg_pipe size_pipe (by rw [js_size]; omega) cs' (by rw [HCS'.out]; exact js_pipe _ _ _ _) ?_) | (refine wpList_store_blk rfl (.tmp 4) (.tmp 19) 53 rfl 0 rfl (.agg cs') rfl HX.out.o (by show _ = some cs'.size; rw [hsz']; exact size_pipe) ?c1 ?c2 ?_))
 case c1 => exact fun u hu => Ps.cs_one _ p' l' u (by rw [← HCS'.out]; exact hu)
 case c2 => show 0 + cs'.size ≤ _; rw [hsz']; decide
 intro w3 hb hk
 rw [spl_all _ _ (by show cs'.size = _; rw [hsz']; rfl)] at hb
 have HB3 : Hid (Blk w3 O 53 cs') := Lib.hid hb
 have HE3 : Hid (Ext w w3) := Lib.hid (hk.ext HX.out.e (fun j hj => by have := HX.out.lt; omega))
 have HL3 : Hid (LiesB s' p' l' w3) := Lib.hid (HG2.out.keep (fun g t cs ht hg => hg.kp hk (hg.ne_type HX.out.o (by rcases ht with rfl | rfl | rfl | rfl <;> decide))))
 clear hb hk v0
 go_wp2_with fail
 have hld := run_load_blk (P := Tryz.prog) HB3.out 53 0 94 agg_pipe size_pipe (by rw [hsz']; exact Nat.le_refl _)
 rw [show 0 + 94 = cs'.size by omega, Array.extract_size] at hld
 refine bodyPost_ret (v := .agg cs') ?_ rfl ⟨l', by rw [HCS'.out], HL3.out, HE3.out⟩
 simp only [results, Tryz.results31]
 simp [asAddr, Result.andThen, hld]
end Go.Proofs.YtplljnfjkkloeaaGreatDoor
