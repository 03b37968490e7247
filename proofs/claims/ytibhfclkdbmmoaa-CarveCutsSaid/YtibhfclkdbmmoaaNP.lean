/- Proof text: quotients of the document's numbers (rastrumref02.Floor). By an AI agent. No condition beyond what each theorem states. -/
import Derived.Test.YtibhfclkdbmmoaaNQ
set_option linter.unusedVariables false
set_option linter.unusedSimpArgs false
namespace Go.Proofs.Ytibhfclkdbmmoaa
open Go.RowKit
theorem not_both {b : Bool} (h : b = true) (h' : b = false) {p : Prop} : p := by rw [h] at h'; cases h'
set_option maxRecDepth 10000 in
set_option maxHeartbeats 4000000 in
theorem floor_any (v1 v2 : Value) (z1 z2 : Int) (w : World) (h1 : NumV w v1 z1) (h2 : NumV w v2 z2) (b1 : z1.natAbs < 2 ^ 200) (b2 : z2.natAbs < 2 ^ 200) (hz : 0 < z2) : Calls Try.prog 45 #[v1, v2] w fun e w' => ∃ x m' a' n' c', e = .returned (.tuple #[x, .agg #[.bool m', .slice a' n' c']]) ∧ NumF w' w.heap.size x (z1 / z2) ∧ Ext w w' := by
  obtain ⟨m, a1, n1, c1, l1, rfl, r1, hn1, rfl, -⟩ := h1.opened b1
  obtain ⟨k, a2, n2, c2, l2, rfl, r2, hn2, rfl, hcan, -⟩ := h2.opened b2
  have HC2 := Lib.hid hcan
  clear hcan
  have H1 := Lib.hid r1; have H2 := Lib.hid r2
  have N1 := Lib.hid hn1; have N2 := Lib.hid hn2
  have L1 := Lib.hid (rd_len r1); have L2 := Lib.hid (rd_len r2)
  have i1 : (n1 : Int) ≤ 300 := by omega
  have HZ := Lib.hid hz
  have HD2 : Hid (bval l2 < 2 ^ 200) := Lib.hid (Nat.lt_of_le_of_lt (Nat.le_of_eq (by cases k <;> simp [sg])) b2)
  clear h1 h2 b1 b2 hn1 hn2 r1 r2 hz
  go_enter Try.func45, Try.ntmps45
  go_upto_region 3 with fail
  have hj : FJ w m k (.slice a1 n1 c1) (.slice a2 n2 c2) l1 l2 [] [] none 0 0 none 0 0 ((((((w.alloc (.cells #[.bool m, .slice a1 n1 c1] 78)).alloc (.cells #[.bool k, .slice a2 n2 c2] 78)).alloc (.cells #[.bool false, .slice none 0 0] 78)).alloc (.cells #[.bool false, .slice none 0 0] 78)).alloc (.cells #[.bool false, .slice none 0 0] 78)).alloc (.cells #[.bool false, .slice none 0 0] 78)) := by
    refine ⟨?_, ?_, ?_, ?_, ?_, ?_, ⟨Rd.empty _ _ _ _ (by decide), fun h => by omega⟩, ⟨Rd.empty _ _ _ _ (by decide), fun h => by omega⟩, canon_nil, by (repeat (first | with_reducible exact Ext.refl _ | with_reducible assumption | with_reducible refine Ext.alloc ?_ _ | with_reducible refine Ext.drew ?_ | with_reducible refine Ext.drewN ?_ _ | with_reducible refine Ext.later ?_ _ | (with_reducible refine Ext.setCell ?_ _ ?hp; case hp => first | (simp; done) | (simp; omega) | omega)))⟩
    · exact (((((Blk.new w _ _).alloc _).alloc _).alloc _).alloc _).alloc _
    · exact ((((Blk.new' _ _ _ (by simp)).alloc _).alloc _).alloc _).alloc _
    · exact (((Blk.new' _ _ _ (by simp)).alloc _).alloc _).alloc _
    · exact ((Blk.new' _ _ _ (by simp)).alloc _).alloc _
    · exact (Blk.new' _ _ _ (by simp)).alloc _
    · exact Blk.new' _ _ _ (by simp)
  generalize ((((((w.alloc (.cells #[.bool m, .slice a1 n1 c1] 78)).alloc (.cells #[.bool k, .slice a2 n2 c2] 78)).alloc (.cells #[.bool false, .slice none 0 0] 78)).alloc (.cells #[.bool false, .slice none 0 0] 78)).alloc (.cells #[.bool false, .slice none 0 0] 78)).alloc (.cells #[.bool false, .slice none 0 0] 78)) = W at hj ⊢
  have HJ0 := Lib.hid hj
  obtain ⟨p0, p1, -, -⟩ := num2 hj.b0
  clear hj
  go_wp2_with fail
  clear p0 p1
  go_loopw [8, 9] (fun iv ov wr => ∃ (j : Nat) (qb rb : List Bool) (aq : Option Addr) (nq cq : Nat) (ar : Option Addr) (nr cr : Nat), j ≤ n1 ∧ iv = .int .i64 ((j : Int) - 1) ∧ Hid (FJ w m k (.slice a1 n1 c1) (.slice a2 n2 c2) l1 l2 qb rb aq nq cq ar nr cr wr) ∧ Hid (bval (l1.drop j) = bval qb * bval l2 + bval rb) ∧ Hid (bval rb < bval l2) ∧ Hid (qb.length + j = n1)) (fun iv _ _ => (intOf iv + 1).toNat)
  case atStart => exact ⟨n1, [], [], none, 0, 0, none, 0, 0, Nat.le_refl _, rfl, HJ0, Lib.hid (by rw [List.drop_of_length_le (by rw [L1.out]; exact Nat.le_refl _)]; simp [bval]), Lib.hid (by have := HZ.out; cases k <;> simp [sg] at this <;> simp [bval] <;> omega), Lib.hid (by simp)⟩
  case round =>
    clear HJ0
    obtain ⟨j, qb, rb, aq, nq, cq, ar, nr, cr, hj, rfl, HJ, HV, HR, HQ⟩ := hrel
    rcases j with _ | i
    · rw [show (((0 : Nat) : Int) - 1) = -1 from rfl]
      have HE0 : Hid (bval l1 = bval qb * bval l2 + bval rb) := Lib.hid (by have := HV.out; rw [List.drop_zero] at this; exact this)
      have hk : k = false := by have := HZ.out; cases k <;> simp [sg] at this ⊢; omega
      subst hk
      have HQL : Hid (qb.length = n1) := Lib.hid (by have := HQ.out; omega)
      have HQ5 := Lib.hid (rd_len HJ.out.rq.1)
      have HRL := Lib.hid (rd_len HJ.out.rr.1)
      have HQB : Hid ((bval qb : Int).natAbs < 2 ^ 200) := Lib.hid (by
        have h1 := bval_lt qb
        have h2 := N1.out
        rw [HQL.out] at h1
        exact Nat.lt_of_lt_of_le (by simpa using h1) (Nat.pow_le_pow_right (by decide) h2))
      obtain ⟨q0, q1, -, -⟩ := num2 HJ.out.b4
      clear HV HQ hj
      go_wp2_with fail
      refine (ntrim_any false qb aq nq cq _ HJ.out.rq.1 (by have := HQ5.out; have := HQL.out; have := N1.out; omega)).mono ?_
      rintro e w4 ⟨v, rfl, hN, hE4⟩
      have HNQ : Hid (NumF w4 (w.heap.size + 6) v (sg false (bval qb))) := Lib.hid (hN.low (by have := HJ.out.b5.lt; omega))
      obtain ⟨a5, n5, c5, bs, rfl, g1, g2, g3⟩ := hN.plain
      have hJ := HJ.out.ext hE4
      obtain ⟨t2, t3, u0, u1⟩ := num2 hJ.b4
      have HJ4 := Lib.hid (hJ.setq2 (g1.to (by have := HJ.out.b5.lt; omega)))
      have HNQ2 : Hid (NumF ((w4.setCell ⟨w.heap.size + 1 + 1 + 1 + 1, 0, none⟩ (.bool false)).setCell ⟨w.heap.size + 1 + 1 + 1 + 1, 1, none⟩ (.slice a5 n5 c5)) (w.heap.size + 6) (.agg #[.bool false, .slice a5 n5 c5]) (bval qb)) := Lib.hid ((HNQ.out.far (by dsimp only; omega) _).far (by dsimp only; omega) _)
      clear hJ hN g1 g2 g3 q0 q1 HNQ
      go_upto_region 13 with fail
      generalize ((w4.setCell ⟨w.heap.size + 1 + 1 + 1 + 1, 0, none⟩ (.bool false)).setCell ⟨w.heap.size + 1 + 1 + 1 + 1, 1, none⟩ (.slice a5 n5 c5)) = W5 at HJ4 HNQ2 ⊢
      clear t2 t3 u0 u1 HJ HQ5 HQL
      obtain ⟨p0, p1, -, -⟩ := num2 HJ4.out.b0
      obtain ⟨d0, d1, -, -⟩ := num2 HJ4.out.b1
      obtain ⟨q0, q1, -, -⟩ := num2 HJ4.out.b4
      obtain ⟨r0, r1, -, -⟩ := num2 HJ4.out.b5
      obtain ⟨x0, x1, x2, x3⟩ := num2 HJ4.out.b2
      obtain ⟨y0, y1, y2, y3⟩ := num2 HJ4.out.b3
      cases m
      · go_wp2_with fail
        clear p0 p1 d0 d1
        go_region_held3 (fun w' => w'.cell? ⟨w.heap.size + 1 + 1 + 1 + 1, 0, none⟩ = some (.bool false) ∧ w'.cell? ⟨w.heap.size + 1 + 1 + 1 + 1, 1, none⟩ = some (.slice a5 n5 c5) ∧ w'.cell? ⟨w.heap.size + 1 + 1 + 1 + 1 + 1, 0, none⟩ = some (.bool false) ∧ w'.cell? ⟨w.heap.size + 1 + 1 + 1 + 1 + 1, 1, none⟩ = some (.slice ar nr cr)) ((first | with_reducible exact four_cells ⟨HJ4.out.b4.drew, HJ4.out.b5.drew⟩ | (let KK := keep_two (r := w.heap.size + 1 + 1) HJ4.out.b4 HJ4.out.b5 (by omega) (by omega) (.bool false) (.slice a5 n5 c5); with_reducible exact four_cells ⟨KK.1.drew, KK.2.drew⟩) | (let KK := keep_two (r := w.heap.size + 1 + 1) HJ4.out.b4 HJ4.out.b5 (by omega) (by omega) (.bool false) (.slice a5 n5 c5); let KL := keep_two (r := w.heap.size + 1 + 1 + 1) KK.1 KK.2 (by omega) (by omega) (.bool false) (.slice ar nr cr); with_reducible exact four_cells ⟨KL.1.drew, KL.2.drew⟩))) (fail)
        go_wp2_with fail
        obtain ⟨s0, s1⟩ := set2_same HJ4.out.b2
        obtain ⟨s2, s3⟩ := set2_same ((HJ4.out.b3.far (p := ⟨w.heap.size + 1 + 1, 0, none⟩) (by dsimp only; omega) (.bool false)).far (p := ⟨w.heap.size + 1 + 1, 1, none⟩) (by dsimp only; omega) (.slice a5 n5 c5))
        try simp only [Exit.inBlock, Exit.then]
        refine bodyPost_ret (by simp [results, Try.results45, go_sem, s0, s1, s2, s3]; try rfl) rfl ?_
        refine ⟨.agg #[.bool false, .slice a5 n5 c5], false, ar, nr, cr, rfl, ?_, ?_⟩
        · have e : sg false (bval l1) / sg false (bval l2) = (bval qb : Int) := floor_up HE0.out HR.out
          rw [e]
          exact (((((HNQ2.out.far (by dsimp only; omega) _).far (by dsimp only; omega) _).far (by dsimp only; omega) _).far (by dsimp only; omega) _).ext (Ext.drew (Ext.refl _))).low (by omega)
        · have E := HJ4.out.ex
          (repeat (first | with_reducible exact Ext.refl _ | with_reducible assumption | with_reducible refine Ext.alloc ?_ _ | with_reducible refine Ext.drew ?_ | with_reducible refine Ext.drewN ?_ _ | with_reducible refine Ext.later ?_ _ | (with_reducible refine Ext.setCell ?_ _ ?hp; case hp => first | (simp; done) | (simp; omega) | omega)))
      · by_cases hnr : nr = 0
        · subst hnr
          have HB0 : Hid (bval rb = 0) := Lib.hid (by have := HRL.out; rw [List.length_eq_zero_iff.1 this]; rfl)
          go_wp2_with fail
          clear p0 p1 d0 d1
          go_region_held3 (fun w' => w'.cell? ⟨w.heap.size + 1 + 1 + 1 + 1, 0, none⟩ = some (.bool false) ∧ w'.cell? ⟨w.heap.size + 1 + 1 + 1 + 1, 1, none⟩ = some (.slice a5 n5 c5) ∧ w'.cell? ⟨w.heap.size + 1 + 1 + 1 + 1 + 1, 0, none⟩ = some (.bool false) ∧ w'.cell? ⟨w.heap.size + 1 + 1 + 1 + 1 + 1, 1, none⟩ = some (.slice ar 0 cr)) ((first | with_reducible exact four_cells ⟨HJ4.out.b4.drew, HJ4.out.b5.drew⟩ | with_reducible exact four_cells ⟨B4.out, B5.out⟩ | (let KK := keep_two (r := w.heap.size + 1 + 1) B4.out B5.out (by omega) (by omega) (.bool mm) (.slice aa nn cc); with_reducible exact four_cells KK) | (let KK := keep_two (r := w.heap.size + 1 + 1) B4.out B5.out (by omega) (by omega) (.bool mm) (.slice aa nn cc); with_reducible exact four_cells (keep_two (r := w.heap.size + 1 + 1 + 1) KK.1 KK.2 (by omega) (by omega) _ _))))
            ((go_at_call 65; refine (turn_any _ (bval qb) _ (HNQ2.out.num.ext (by (repeat (first | with_reducible exact Ext.refl _ | with_reducible assumption | with_reducible refine Ext.alloc ?_ _ | with_reducible refine Ext.drew ?_ | with_reducible refine Ext.drewN ?_ _ | with_reducible refine Ext.later ?_ _ | (with_reducible refine Ext.setCell ?_ _ ?hp; case hp => first | (simp; done) | (simp; omega) | omega))))) HQB.out).mono ?_; rintro e w6 ⟨v, rfl, hN6, hE6⟩; have k0 := hE6.cell_some (by first | exact q0 | simp [go_sem, q0] : World.cell? _ ⟨w.heap.size + 1 + 1 + 1 + 1, 0, none⟩ = some (.bool false)); have k1 := hE6.cell_some (by first | exact q1 | simp [go_sem, q1] : World.cell? _ ⟨w.heap.size + 1 + 1 + 1 + 1, 1, none⟩ = some (.slice a5 n5 c5)); have k2 := hE6.cell_some (by first | exact r0 | simp [go_sem, r0] : World.cell? _ ⟨w.heap.size + 1 + 1 + 1 + 1 + 1, 0, none⟩ = some (.bool false)); have k3 := hE6.cell_some (by first | exact r1 | simp [go_sem, r1] : World.cell? _ ⟨w.heap.size + 1 + 1 + 1 + 1 + 1, 1, none⟩ = some (.slice ar 0 cr)); have B2 := Lib.hid (HJ4.out.b2.drew.ext hE6); have B3 := Lib.hid (HJ4.out.b3.drew.ext hE6); have B4 := Lib.hid (HJ4.out.b4.drew.ext hE6); have B5 := Lib.hid (HJ4.out.b5.drew.ext hE6); have NX := Lib.hid (hN6.low (by have := HJ4.out.b5.lt; show w.heap.size + 6 ≤ W5.drew.heap.size; simp; omega) : NumF w6 (w.heap.size + 6) v (-(bval qb : Int))); have EX := Lib.hid (HJ4.out.ex.drew.trans hE6); clear hN6; obtain ⟨z0, z1, z2, z3⟩ := num2 B2.out; obtain ⟨z4, z5, z6, z7⟩ := num2 B3.out; obtain ⟨mm, aa, nn, cc, bs6, rfl, hx⟩ := NX.out; clear hx))
          go_wp2_with fail
          obtain ⟨s0, s1⟩ := set2_same B2.out
          obtain ⟨s2, s3⟩ := set2_same ((B3.out.far (p := ⟨w.heap.size + 1 + 1, 0, none⟩) (by dsimp only; omega) (.bool mm)).far (p := ⟨w.heap.size + 1 + 1, 1, none⟩) (by dsimp only; omega) (.slice aa nn cc))
          try simp only [Exit.inBlock, Exit.then]
          refine bodyPost_ret (by simp [results, Try.results45, go_sem, s0, s1, s2, s3]; try rfl) rfl ?_
          refine ⟨_, _, _, _, _, rfl, ?_, ?_⟩
          · have e : sg true (bval l1) / sg false (bval l2) = -(bval qb : Int) := floor_even HE0.out HB0.out (by have := HR.out; omega)
            rw [e]
            exact ((((NX.out.far (by dsimp only; omega) _).far (by dsimp only; omega) _).far (by dsimp only; omega) _).far (by dsimp only; omega) _).low (by omega)
          · have E := EX.out
            (repeat (first | with_reducible exact Ext.refl _ | with_reducible assumption | with_reducible refine Ext.alloc ?_ _ | with_reducible refine Ext.drew ?_ | with_reducible refine Ext.drewN ?_ _ | with_reducible refine Ext.later ?_ _ | (with_reducible refine Ext.setCell ?_ _ ?hp; case hp => first | (simp; done) | (simp; omega) | omega)))
        · have hne : ((nr : Int) == 0) = false := by simpa using hnr
          have HB0 : Hid (0 < bval rb) := Lib.hid (by
            have h1 := canon_pos HJ4.out.cn (fun h => hnr (by rw [← HRL.out, h]; rfl))
            have h2 := Nat.two_pow_pos (rb.length - 1)
            omega)
          have HQ1 : Hid (((bval qb : Int) + 1).natAbs < 2 ^ 200) := Lib.hid (plus_one HE0.out HR.out HB0.out (Nat.lt_of_lt_of_le (by have := bval_lt l1; rw [L1.out] at this; exact this) (Nat.pow_le_pow_right (by decide) N1.out)))
          have HRV : Hid (NumV W5 (.agg #[.bool false, .slice ar nr cr]) (bval rb)) := Lib.hid ⟨false, ar, nr, cr, rb, rfl, HJ4.out.rr.1, HJ4.out.cn, fun h => (by cases h), rfl⟩
          have HDV : Hid (NumV W5 (.agg #[.bool false, .slice a2 n2 c2]) (bval l2)) := Lib.hid ⟨false, a2, n2, c2, l2, rfl, H2.out.ext HJ4.out.ex, HC2.out, fun h => (by cases h), rfl⟩
          have HRB : Hid ((bval rb : Int).natAbs < 2 ^ 200) := Lib.hid (Nat.lt_trans (by have := HR.out; simpa using this) HD2.out)
          have HRM : Hid ((-(bval rb : Int)).natAbs < 2 ^ 200) := Lib.hid (by rw [Int.natAbs_neg]; exact HRB.out)
          have HDB : Hid ((bval l2 : Int).natAbs < 2 ^ 200) := Lib.hid (by simpa using HD2.out)
          have B1 := Lib.hid HJ4.out.b1; have B2 := Lib.hid HJ4.out.b2; have B3 := Lib.hid HJ4.out.b3; have B4 := Lib.hid HJ4.out.b4; have B5 := Lib.hid HJ4.out.b5; have EX := Lib.hid HJ4.out.ex
          go_wp2_with fail
          clear p0 p1
          go_region_held3 (fun w' => w'.cell? ⟨w.heap.size + 1 + 1 + 1 + 1, 0, none⟩ = some (.bool false) ∧ w'.cell? ⟨w.heap.size + 1 + 1 + 1 + 1, 1, none⟩ = some (.slice a5 n5 c5) ∧ w'.cell? ⟨w.heap.size + 1 + 1 + 1 + 1 + 1, 0, none⟩ = some (.bool false) ∧ w'.cell? ⟨w.heap.size + 1 + 1 + 1 + 1 + 1, 1, none⟩ = some (.slice ar nr cr) ∧ w'.cell? ⟨w.heap.size + 1, 0, none⟩ = some (.bool false) ∧ w'.cell? ⟨w.heap.size + 1, 1, none⟩ = some (.slice a2 n2 c2)) ((first | with_reducible exact six_cells B4.out.drew B5.out.drew B1.out.drew | with_reducible exact six_cells (B4.out.alloc _).drew (B5.out.alloc _).drew (B1.out.alloc _).drew | with_reducible exact six_cells B4.out B5.out B1.out | (let K1 := keep_two (r := w.heap.size + 1 + 1) B4.out B5.out (by omega) (by omega) (.bool mm) (.slice aa nn cc); let K2 := keep_two (r := w.heap.size + 1 + 1) B1.out B1.out (by omega) (by omega) (.bool mm) (.slice aa nn cc); with_reducible exact six_cells K1.1 K1.2 K2.1) | (let K1 := keep_two (r := w.heap.size + 1 + 1) B4.out B5.out (by omega) (by omega) (.bool mm) (.slice aa nn cc); let K2 := keep_two (r := w.heap.size + 1 + 1) B1.out B1.out (by omega) (by omega) (.bool mm) (.slice aa nn cc); let K3 := keep_two (r := w.heap.size + 1 + 1 + 1) K1.1 K1.2 (by omega) (by omega) (.bool mz) (.slice az nz cz); let K4 := keep_two (r := w.heap.size + 1 + 1 + 1) K2.1 K2.1 (by omega) (by omega) (.bool mz) (.slice az nz cz); with_reducible exact six_cells K3.1 K3.2 K4.1)))
            ((first
              | (go_at_call 46; (with_reducible refine (sum_any (.agg #[.bool false, .slice a5 n5 c5]) (.agg #[.bool false, .slice (some ⟨_, 0, none⟩) 1 1]) (bval qb) 1 _ (HNQ2.out.num.ext ?_) ?_ HQB.out ?_).mono ?_); (repeat (first | with_reducible exact Ext.refl _ | with_reducible assumption | with_reducible refine Ext.alloc ?_ _ | with_reducible refine Ext.drew ?_ | with_reducible refine Ext.drewN ?_ _ | with_reducible refine Ext.later ?_ _ | (with_reducible refine Ext.setCell ?_ _ ?hp; case hp => first | (simp; done) | (simp; omega) | omega))); exact (one_num W5).ext (Ext.drew (Ext.refl _)); decide; rintro e w6 ⟨v6, rfl, hN, hE⟩; have e0 : Ext W5 w6 := Ext.trans (by (repeat (first | with_reducible exact Ext.refl _ | with_reducible assumption | with_reducible refine Ext.alloc ?_ _ | with_reducible refine Ext.drew ?_ | with_reducible refine Ext.drewN ?_ _ | with_reducible refine Ext.later ?_ _ | (with_reducible refine Ext.setCell ?_ _ ?hp; case hp => first | (simp; done) | (simp; omega) | omega)))) hE; have N6 := Lib.hid hN.num; have B1 := Lib.hid (B1.out.ext e0); have B2 := Lib.hid (B2.out.ext e0); have B3 := Lib.hid (B3.out.ext e0); have B4 := Lib.hid (B4.out.ext e0); have B5 := Lib.hid (B5.out.ext e0); have EX := Lib.hid (EX.out.trans e0); have HRV := Lib.hid (HRV.out.ext e0); have HDV := Lib.hid (HDV.out.ext e0); clear hN)
              | (go_at_call 65; (with_reducible refine (turn_any v6 (bval qb + 1) _ N6.out HQ1.out).mono ?_); rintro e w7 ⟨v7, rfl, hN, hE⟩; have NX := Lib.hid (hN.low (by have := B5.out.lt; omega) : NumF w7 (w.heap.size + 6) v7 (-((bval qb : Int) + 1))); have B1 := Lib.hid (B1.out.ext hE); have B2 := Lib.hid (B2.out.ext hE); have B3 := Lib.hid (B3.out.ext hE); have B4 := Lib.hid (B4.out.ext hE); have B5 := Lib.hid (B5.out.ext hE); have EX := Lib.hid (EX.out.trans hE); have HRV := Lib.hid (HRV.out.ext hE); have HDV := Lib.hid (HDV.out.ext hE); clear hN N6; obtain ⟨mm, aa, nn, cc, bs6, rfl, hx⟩ := NX.out; clear hx)
              | (go_at_call 65; (with_reducible refine (turn_any (.agg #[.bool false, .slice ar nr cr]) (bval rb) _ HRV.out HRB.out).mono ?_); rintro e w8 ⟨v8, rfl, hN, hE⟩; have N8 := Lib.hid hN.num; have NX := Lib.hid (NX.out.ext hE); have B1 := Lib.hid (B1.out.ext hE); have B2 := Lib.hid (B2.out.ext hE); have B3 := Lib.hid (B3.out.ext hE); have B4 := Lib.hid (B4.out.ext hE); have B5 := Lib.hid (B5.out.ext hE); have EX := Lib.hid (EX.out.trans hE); have HDV := Lib.hid (HDV.out.ext hE); clear hN)
              | (go_at_call 46; (with_reducible refine (sum_any (.agg #[.bool false, .slice a2 n2 c2]) v8 (bval l2) (-(bval rb : Int)) _ HDV.out N8.out HDB.out HRM.out).mono ?_); rintro e w9 ⟨v9, rfl, hN, hE⟩; have NX := Lib.hid (NX.out.ext hE); have B1 := Lib.hid (B1.out.ext hE); have B2 := Lib.hid (B2.out.ext hE); have B3 := Lib.hid (B3.out.ext hE); have B4 := Lib.hid (B4.out.ext hE); have B5 := Lib.hid (B5.out.ext hE); have EX := Lib.hid (EX.out.trans hE); obtain ⟨mz, az, nz, cz, bsz, rfl, hx⟩ := hN; clear hx; obtain ⟨z0, z1, z2, z3⟩ := num2 B2.out; obtain ⟨z4, z5, z6, z7⟩ := num2 B3.out)))
          go_wp2_with fail
          obtain ⟨s0, s1⟩ := set2_same B2.out
          obtain ⟨s2, s3⟩ := set2_same ((B3.out.far (p := ⟨w.heap.size + 1 + 1, 0, none⟩) (by dsimp only; omega) (.bool mm)).far (p := ⟨w.heap.size + 1 + 1, 1, none⟩) (by dsimp only; omega) (.slice aa nn cc))
          try simp only [Exit.inBlock, Exit.then]
          refine bodyPost_ret (by simp [results, Try.results45, go_sem, s0, s1, s2, s3]; try rfl) rfl ?_
          refine ⟨_, _, _, _, _, rfl, ?_, ?_⟩
          · have e : sg true (bval l1) / sg false (bval l2) = -((bval qb : Int) + 1) := floor_down HE0.out HR.out HB0.out
            rw [e]
            exact ((((NX.out.far (by dsimp only; omega) _).far (by dsimp only; omega) _).far (by dsimp only; omega) _).far (by dsimp only; omega) _).low (by omega)
          · have E := EX.out
            (repeat (first | with_reducible exact Ext.refl _ | with_reducible assumption | with_reducible refine Ext.alloc ?_ _ | with_reducible refine Ext.drew ?_ | with_reducible refine Ext.drewN ?_ _ | with_reducible refine Ext.later ?_ _ | (with_reducible refine Ext.setCell ?_ _ ?hp; case hp => first | (simp; done) | (simp; omega) | omega)))
    · obtain ⟨x, hx⟩ : ∃ x, l1[i]? = some x := ⟨_, List.getElem?_eq_getElem (by have := L1.out; omega)⟩
      have hbx : bt l1 i = x := bt_of hx
      obtain ⟨b, off, rfl, hb, -⟩ := H1.out.at_ (by omega)
      have hc0 := bit_at (H1.out.ext HJ.out.ex) hx
      have HX := Lib.hid (floor_step (a := 0) HV.out hbx)
      have e1 : ((i + 1 : Nat) : Int) - 1 = i := by omega
      have hi0 : (0 : Int) ≤ i := by omega
      have hi1 : (i : Int) < n1 := by omega
      obtain ⟨p0, p1, -, -⟩ := num2 HJ.out.b0
      obtain ⟨t0, t1, -, -⟩ := num2 HJ.out.b5
      have HB := Lib.hid hb
      have HNR : Hid (nr ≤ 200) := Lib.hid (by rw [← rd_len HJ.out.rr.1]; exact canon_len HJ.out.cn (Nat.lt_trans HR.out HD2.out))
      clear hb hx hbx
      rw [e1]
      go_upto_region 6 with fail
      go_cut [8] from 16 to 31 (fun s8 wx => ∃ (r2 : List Bool) (ar' : Option Addr) (nr' cr' : Nat), s8 = .int .i64 i ∧ Hid (FJ w m k (.slice (some ⟨b, off, none⟩) n1 c1) (.slice a2 n2 c2) l1 l2 qb r2 aq nq cq ar' nr' cr' wx) ∧ Hid (bval r2 = bval (x :: rb)))
      case first =>
        refine wp_region_fill DF (fun st u y => RF wr (.pointer (some ⟨w.heap.size, 1, none⟩)) (.slice (some ⟨b, off, none⟩) n1 c1) (.int .i64 i) (.pointer (some ⟨b, off + i, none⟩)) (.pointer (some ⟨w.heap.size + 1 + 1 + 1 + 1 + 1, 1, none⟩)) x rb ar nr cr (w.heap.size + 6) (fun z => ∃ (r2 : List Bool) (ar' : Option Addr) (nr' cr' : Nat), Hid (FJ w m k (.slice (some ⟨b, off, none⟩) n1 c1) (.slice a2 n2 c2) l1 l2 qb r2 aq nq cq ar' nr' cr' z) ∧ Hid (bval r2 = bval (x :: rb))) st u y) (by kernel_rfl) (by kernel_rfl) ?_ ?_ ?_
        · rintro y rfl
          exact RF.begin ((Ext.refl wr).drew)
        · intro A' hA' st u y ii o ho hst hdep hcl hR
          have hlen : A'.length = 73 := by rw [hA']; rfl
          have h2 : A'.getD 2 undef = .pointer (some ⟨w.heap.size, 0, none⟩) := by rw [hA']; rfl
          have h7 : A'.getD 7 undef = .pointer (some ⟨w.heap.size + 1 + 1 + 1 + 1 + 1, 0, none⟩) := by rw [hA']; rfl
          have h8 : A'.getD 8 undef = .int .i64 i := by rw [hA']; rfl
          clear hA'
          have n11 : ii ≠ 11 → st 11 = false := fun hne => by
            cases h11 : st 11 with
            | false => rfl
            | true =>
              have hii : ii < 12 := (Array.getElem?_eq_some_iff.1 ho).1
              rcases (by omega : ii = 0 ∨ ii = 1 ∨ ii = 2 ∨ ii = 3 ∨ ii = 4 ∨ ii = 5 ∨ ii = 6 ∨ ii = 7 ∨ ii = 8 ∨ ii = 9 ∨ ii = 10) with rfl | rfl | rfl | rfl | rfl | rfl | rfl | rfl | rfl | rfl | rfl
              all_goals exact not_both (hcl 11 _ rfl h11 ⟨_, .phase⟩ (by simp) rfl) hst
          have hii : ii < 12 := (Array.getElem?_eq_some_iff.1 ho).1
          rcases (by omega : ii = 0 ∨ ii = 1 ∨ ii = 2 ∨ ii = 3 ∨ ii = 4 ∨ ii = 5 ∨ ii = 6 ∨ ii = 7 ∨ ii = 8 ∨ ii = 9 ∨ ii = 10 ∨ ii = 11) with rfl | rfl | rfl | rfl | rfl | rfl | rfl | rfl | rfl | rfl | rfl | rfl
          · obtain rfl : (⟨_, _, _, _, _, _⟩ : Oper) = o := Option.some.inj ho
            refine wpOp_plain rfl rfl ?_
            have n11 := n11 (by decide)
            have v2_ : (⟨fillA A' DF u, []⟩ : Act).eval (.tmp 2) = _ := (fillA_out (by omega) rfl).trans h2
            refine wp_of_run (v := _) (w' := y) ?run ⟨_, fillA_put rfl, hR.s0⟩
            case run => have q := v2_; simp only [Act.eval, Array.getD_eq_getD_getElem?] at q; simp [execOp, q, Act.eval, go_sem]
          · obtain rfl : (⟨_, _, _, _, _, _⟩ : Oper) = o := Option.some.inj ho
            refine wpOp_plain rfl rfl ?_
            have n11 := n11 (by decide)
            have v20 : (⟨fillA A' DF u, []⟩ : Act).eval (.tmp 20) = _ := (fillA_in (by omega) rfl).trans (hR.e20 (hdep ⟨0, .data⟩ (by simp) rfl))
            have c1 := (hR.ext n11).cell_some p1
            refine wp_of_run (v := _) (w' := y) ?run ⟨_, fillA_put rfl, hR.s1⟩
            case run => have q := v20; simp only [Act.eval, Array.getD_eq_getD_getElem?] at q; simp [execOp, q, Act.eval, go_sem, c1]
          · obtain rfl : (⟨_, _, _, _, _, _⟩ : Oper) = o := Option.some.inj ho
            refine wpOp_plain rfl rfl ?_
            have n11 := n11 (by decide)
            have v8_ : (⟨fillA A' DF u, []⟩ : Act).eval (.tmp 8) = _ := (fillA_out (by omega) rfl).trans h8
            refine wp_of_run (v := _) (w' := y) ?run ⟨_, fillA_put rfl, hR.s2⟩
            case run => have q := v8_; simp only [Act.eval, Array.getD_eq_getD_getElem?] at q; simp [execOp, q, Act.eval]
          · obtain rfl : (⟨_, _, _, _, _, _⟩ : Oper) = o := Option.some.inj ho
            refine wpOp_plain rfl rfl ?_
            have n11 := n11 (by decide)
            have v21 : (⟨fillA A' DF u, []⟩ : Act).eval (.tmp 21) = _ := (fillA_in (by omega) rfl).trans (hR.e21 (hdep ⟨1, .data⟩ (by simp) rfl))
            have v22 : (⟨fillA A' DF u, []⟩ : Act).eval (.tmp 22) = _ := (fillA_in (by omega) rfl).trans (hR.e22 (hdep ⟨2, .data⟩ (by simp) rfl))
            refine wp_of_run (v := _) (w' := y) ?run ⟨_, fillA_put rfl, hR.s3⟩
            case run => have q := v21; simp only [Act.eval, Array.getD_eq_getD_getElem?] at q; have q2 := v22; simp only [Act.eval, Array.getD_eq_getD_getElem?] at q2; simp [execOp, q, q2, Act.eval, go_sem, hi0, hi1]
          · obtain rfl : (⟨_, _, _, _, _, _⟩ : Oper) = o := Option.some.inj ho
            refine wpOp_plain rfl rfl ?_
            have n11 := n11 (by decide)
            have v23 : (⟨fillA A' DF u, []⟩ : Act).eval (.tmp 23) = _ := (fillA_in (by omega) rfl).trans (hR.e23 (hdep ⟨3, .data⟩ (by simp) rfl))
            have c1 := (hR.ext n11).cell_some hc0
            refine wp_of_run (v := _) (w' := y) ?run ⟨_, fillA_put rfl, hR.s4⟩
            case run => have q := v23; simp only [Act.eval, Array.getD_eq_getD_getElem?] at q; simp [execOp, q, Act.eval, go_sem, c1]
          · obtain rfl : (⟨_, _, _, _, _, _⟩ : Oper) = o := Option.some.inj ho
            refine wpOp_plain rfl rfl ?_
            have n11 := n11 (by decide)
            have v24 : (⟨fillA A' DF u, []⟩ : Act).eval (.tmp 24) = _ := (fillA_in (by omega) rfl).trans (hR.e24 (hdep ⟨4, .data⟩ (by simp) rfl))
            have hsz := (hR.ext n11).size
            refine wp_of_run (v := .slice (some ⟨y.heap.size, 0, none⟩) 1 1) (w' := y.alloc (.cells #[.int .u8 (bN x)] 5)) ?run ⟨_, fillA_put rfl, hR.s5 n11 ((Ext.refl y).alloc _) ?own⟩
            case run => have q := v24; simp only [Act.eval, Array.getD_eq_getD_getElem?] at q; simp [execOp, q, Act.eval, go_sem]
            case own => exact World.ownsRow_lit (base := wr.heap.size) (e := 5) (size := 1) y #[.int .u8 (bN x)] 1 hsz (by decide) rfl
          · obtain rfl : (⟨_, _, _, _, _, _⟩ : Oper) = o := Option.some.inj ho
            refine wpOp_plain rfl rfl ?_
            have n11 := n11 (by decide)
            have v7_ : (⟨fillA A' DF u, []⟩ : Act).eval (.tmp 7) = _ := (fillA_out (by omega) rfl).trans h7
            refine wp_of_run (v := _) (w' := y) ?run ⟨_, fillA_put rfl, hR.s6⟩
            case run => have q := v7_; simp only [Act.eval, Array.getD_eq_getD_getElem?] at q; simp [execOp, q, Act.eval, go_sem]
          · obtain rfl : (⟨_, _, _, _, _, _⟩ : Oper) = o := Option.some.inj ho
            refine wpOp_plain rfl rfl ?_
            have n11 := n11 (by decide)
            have v26 : (⟨fillA A' DF u, []⟩ : Act).eval (.tmp 26) = _ := (fillA_in (by omega) rfl).trans (hR.e26 (hdep ⟨6, .data⟩ (by simp) rfl))
            have c1 := (hR.ext n11).cell_some t1
            refine wp_of_run (v := _) (w' := y) ?run ⟨_, fillA_put rfl, hR.s7⟩
            case run => have q := v26; simp only [Act.eval, Array.getD_eq_getD_getElem?] at q; simp [execOp, q, Act.eval, go_sem, c1]
          · obtain rfl : (⟨_, _, _, _, _, _⟩ : Oper) = o := Option.some.inj ho
            refine wpOp_plain rfl rfl ?_
            have n11 := n11 (by decide)
            have v25 : (⟨fillA A' DF u, []⟩ : Act).eval (.tmp 25) = u 25 := fillA_in (by omega) rfl
            have v27 : (⟨fillA A' DF u, []⟩ : Act).eval (.tmp 27) = _ := (fillA_in (by omega) rfl).trans (hR.e27 (hdep ⟨7, .data⟩ (by simp) rfl))
            have o25 := hR.o25 (hdep ⟨5, .data⟩ (by simp) rfl) hst
            have hE := hR.ext n11
            have n9 : st 9 = false := by
              cases h9 : st 9 with
              | false => rfl
              | true => exact not_both (hcl 9 _ rfl h9 ⟨8, .data⟩ (by simp) rfl) hst
            have n10 : st 10 = false := by
              cases h10 : st 10 with
              | false => rfl
              | true => exact not_both (hcl 10 _ rfl h10 ⟨8, .chain⟩ (by simp) rfl) hst
            refine wp_append_rd (.tmp 25) (.tmp 27) 76 rfl wr.heap.size 5 _ 1 1 Try.underlying76 info_u8 rfl (by decide) (u 25) 1 (brw [x]) v25 o25 ar nr cr (brw rb) v27 (HJ.out.rr.1.ext hE) (brw_one _) ?c3 (by decide) hE.size ?_
            case c3 => have := HNR.out; omega
            intro v' w' ho' hg'
            obtain ⟨a4, c4, rfl, hr4⟩ := ownsRow_rd ho'
            exact ⟨_, fillA_put rfl, hR.s8 n9 n10 n11 (hE.grown hg' (fun k hk => (o25.lt k hk).1)) hr4⟩
          · obtain rfl : (⟨_, _, _, _, _, _⟩ : Oper) = o := Option.some.inj ho
            refine wpOp_plain rfl rfl ?_
            have n11 := n11 (by decide)
            have v28 : (⟨fillA A' DF u, []⟩ : Act).eval (.tmp 28) = u 28 := fillA_in (by omega) rfl
            obtain ⟨a4, c4, q28, -⟩ := hR.o28 (hdep ⟨8, .data⟩ (by simp) rfl) n11
            refine wp_of_run (v := .agg #[.bool false, u 28]) (w' := y) ?run ⟨_, fillA_put rfl, hR.s9⟩
            case run => have q := v28; simp only [Act.eval, Array.getD_eq_getD_getElem?] at q; rw [q28] at q ⊢; simp [execOp, q, Act.eval, go_sem]
          · obtain rfl : (⟨_, _, _, _, _, _⟩ : Oper) = o := Option.some.inj ho
            refine wpOp_plain rfl rfl ?_
            have n11 := n11 (by decide)
            have h9 : st 9 = true := hdep ⟨9, .data⟩ (by simp) rfl
            obtain ⟨a4, c4, q28, hr4⟩ := hR.o28 (hdep ⟨8, .chain⟩ (by simp) rfl) n11
            have v29 : (⟨fillA A' DF u, []⟩ : Act).eval (.tmp 29) = .agg #[.bool false, .slice a4 (1 + nr) c4] := by rw [(fillA_in (by omega) rfl : (⟨fillA A' DF u, []⟩ : Act).eval (.tmp 29) = u 29), hR.e29 h9, q28]
            have hc := ntrim_any false (x :: rb) a4 (1 + nr) c4 y hr4 (by have := HNR.out; omega)
            have hsz := (hR.ext n11).size
            refine wp_call rfl Try.func60 (by kernel_rfl) rfl (R := NumP (sg false (bval (x :: rb))) y) (by simp only [List.map_toArray, List.map_cons, List.map_nil, v29]; exact hc) ?_
            rintro e w4 ⟨v, rfl, hN, hE⟩
            exact ⟨v, rfl, _, fillA_put rfl, hR.s10 n11 hE (hN.low (by have := HJ.out.b5.lt; omega))⟩
          · obtain rfl : (⟨_, _, _, _, _, _⟩ : Oper) = o := Option.some.inj ho
            refine wpOp_plain rfl rfl ?_
            have n11 : st 11 = false := hst
            have v7_ : (⟨fillA A' DF u, []⟩ : Act).eval (.tmp 7) = _ := (fillA_out (by omega) rfl).trans h7
            have hN := hR.o30 (hdep ⟨10, .data⟩ (by simp) rfl) n11
            have v30 : (⟨fillA A' DF u, []⟩ : Act).eval (.tmp 30) = u 30 := fillA_in (by omega) rfl
            obtain ⟨a5, n5, c5, bs, q30, g1, g2, g3⟩ := hN.plain
            have hJ := HJ.out.ext (hR.ext n11)
            obtain ⟨t2, t3, u0, u1⟩ := num2 hJ.b5
            refine wp_of_skip (w' := _) ?run ⟨u, rfl, hR.s11 (hdep ⟨8, .phase⟩ (by simp) rfl) ⟨bs, a5, n5, c5, Lib.hid (hJ.setr (g1.to (Nat.le_refl _)) g2), Lib.hid g3⟩⟩
            case run => have q := v7_; simp only [Act.eval, Array.getD_eq_getD_getElem?] at q; have q2 := v30; rw [q30] at q2; simp only [Act.eval, Array.getD_eq_getD_getElem?] at q2; simp [execOp, q, q2, Act.eval, go_sem, u0, u1, t2, t3]
        · intro st u y hall hR
          obtain ⟨r2, ar', nr', cr', q1, q2⟩ := hR.post (hall 11 (by decide))
          clear hR hall
          simp [fillA, fillL, DF]
          go_wp2_with fail
          go_meet
          exact ⟨r2, ar', nr', cr', rfl, q1, q2⟩
      case rest =>
        obtain ⟨r2, ar2, nr2, cr2, rfl, HJ2, HV2⟩ := hcut
        obtain ⟨W2, rfl⟩ : ∃ W2 : World, W2 = wc := ⟨_, rfl⟩
        clear p0 p1 t0 t1 hc0 HJ HNR HB
        have HN2 : Hid (nr2 ≤ 201) := Lib.hid (by
          rw [← rd_len HJ2.out.rr.1]
          refine canon_len HJ2.out.cn ?_
          have h1 := HV2.out; have h2 := HR.out; have h3 := HD2.out
          have h4 := toNat_le x
          have h5 : (2 : Nat) ^ 201 = 2 * 2 ^ 200 := by rw [Nat.pow_succ, Nat.mul_comm]
          rw [h5, h1, bval]
          omega)
        obtain ⟨p0, p1, -, -⟩ := num2 HJ2.out.b1
        obtain ⟨t0, t1, -, -⟩ := num2 HJ2.out.b5
        go_wp2_with fail
        refine (above_any r2 l2 ar2 a2 nr2 cr2 n2 c2 _ HJ2.out.rr.1 (H2.out.ext HJ2.out.ex) (by have := HN2.out; omega) (by have := N2.out; omega)).mono ?_
        rintro e w0 ⟨⟨z, rfl, hz0⟩, rfl⟩
        by_cases hzz : 0 ≤ z
        · have HLE := Lib.hid (hz0.1 hzz)
          clear hz0
          go_wp2_with fail
          refine (nless_any r2 l2 ar2 a2 nr2 cr2 n2 c2 _ HJ2.out.rr.1 (H2.out.ext HJ2.out.ex) (by have := HN2.out; omega) HLE.out).mono ?_
          rintro e w3 ⟨v, out, rfl, ho, hv0, hle0, hE3⟩
          have hv := Lib.hid hv0; have hle := Lib.hid hle0
          clear hv0 hle0
          obtain ⟨ao, co, rfl, hr⟩ := ownsRow_rd ho
          go_wp2_with fail
          refine (ntrim_any false out ao out.length co _ hr (by have := hle.out; have h1 := rd_len HJ2.out.rr.1; have := HN2.out; have := L2.out; have := N2.out; omega)).mono ?_
          rintro e w4 ⟨v, rfl, hN, hE4⟩
          obtain ⟨a5, n5, c5, bs, rfl, g1, g2, g3⟩ := hN.plain
          have hJ := (HJ2.out.ext hE3).ext hE4
          obtain ⟨t2, t3, u0, u1⟩ := num2 hJ.b5
          have HJ4 := Lib.hid (hJ.setr (g1.to (by have := HJ2.out.b5.lt; have := hE3.size; omega)) g2)
          have HG := Lib.hid g3
          have HV3 : Hid (bval r2 = 1 * bval l2 + bval bs) := Lib.hid (by have := hv.out; have := HG.out; omega)
          have HR3 : Hid (bval bs < bval l2) := Lib.hid (by have h1 := hv.out; have h2 := HG.out; have h3 := HV2.out; have h4 := HR.out; have h5 := toNat_le x; rw [bval] at h3; omega)
          clear hJ hN g3 p0 p1 t0 t1
          go_upto_region 11 with fail
          generalize ((w4.setCell ⟨w.heap.size + 1 + 1 + 1 + 1 + 1, 0, none⟩ (.bool false)).setCell ⟨w.heap.size + 1 + 1 + 1 + 1 + 1, 1, none⟩ (.slice a5 n5 c5)) = W5 at HJ4 ⊢
          clear t2 t3 u0 u1
          have HJ5 := Lib.hid HJ4.out
          have HQ5 := Lib.hid (rd_len HJ5.out.rq.1)
          obtain ⟨y0, y1, -, -⟩ := num2 HJ5.out.b4
          go_wp2_with (refine wpList_append_rd rfl (.tmp 45) (.tmp 47) 76 rfl W5.heap.size 5 _ 1 1 Try.underlying76 info_u8 rfl (by decide) _ 1 (brw [true]) rfl ?c0 aq nq cq (brw qb) rfl ?c1 (brw_one _) ?c3 (by decide) ?c5 ?_)
          case c0 => exact World.ownsRow_lit (base := W5.heap.size) (e := 5) (size := 1) W5 #[.int .u8 1] 1 (Nat.le_refl _) (by decide) rfl
          case c1 => exact HJ5.out.rq.1.ext ((Ext.refl W5).alloc _)
          case c3 => have := HQ.out; have := HQ5.out; have := N1.out; omega
          case c5 => simp
          intro v' w' ho' hg'
          have e5 : Ext W5 w' := Ext.grown ((Ext.refl W5).alloc _) hg' (fun k hk => by simp [Value.ownBlock] at hk; omega)
          obtain ⟨a6, c6, rfl, hr6⟩ := own_rdg ho'
          have hJ := HJ5.out.ext e5
          obtain ⟨t2, t3, u0, u1⟩ := num2 hJ.b4
          have hr7 : RdG w' (w.heap.size + 6) a6 (1 + nq) c6 (brw (true :: qb)) := by have h := hr6.low (base := w.heap.size + 6) (by have := HJ5.out.b5.lt; omega); exact h
          have HJ6 := Lib.hid (hJ.setq hr7)
          clear hJ ho' hg' hr6 hr7 y0 y1
          go_wp2_with fail
          go_roundw
          case rel => exact ⟨i, true :: qb, bs, a6, 1 + nq, c6, a5, n5, c5, by omega, by trivial, HJ6, Lib.hid (by have h1 := HX.out; have h2 := HV3.out; have h3 := HV2.out; rw [h1, bval]; rw [bval] at h3; rw [← h3, h2]; simp [Nat.add_mul, Nat.mul_assoc]; try omega), HR3, Lib.hid (by have := HQ.out; simp; omega)⟩
          case measure => simp [intOf]; try omega
        · have HV3 : Hid (bval r2 = 0 * bval l2 + bval r2) := Lib.hid (by simp)
          have HR3 : Hid (bval r2 < bval l2) := Lib.hid (Nat.lt_of_not_le fun h => hzz (hz0.2 h))
          clear hz0 p0 p1 t0 t1
          go_upto_region 11 with fail
          obtain ⟨W5, hW5⟩ : ∃ W5, W5 = w0 := ⟨_, rfl⟩
          rw [← hW5] at HJ2 ⊢
          clear hW5
          have HJ5 := Lib.hid HJ2.out
          have HQ5 := Lib.hid (rd_len HJ5.out.rq.1)
          obtain ⟨y0, y1, -, -⟩ := num2 HJ5.out.b4
          go_wp2_with (refine wpList_append_rd rfl (.tmp 45) (.tmp 47) 76 rfl W5.heap.size 5 _ 1 1 Try.underlying76 info_u8 rfl (by decide) _ 1 (brw [false]) rfl ?c0 aq nq cq (brw qb) rfl ?c1 (brw_one _) ?c3 (by decide) ?c5 ?_)
          case c0 => exact World.ownsRow_lit (base := W5.heap.size) (e := 5) (size := 1) W5 #[.int .u8 0] 1 (Nat.le_refl _) (by decide) rfl
          case c1 => exact HJ5.out.rq.1.ext ((Ext.refl W5).alloc _)
          case c3 => have := HQ.out; have := HQ5.out; have := N1.out; omega
          case c5 => simp
          intro v' w' ho' hg'
          have e5 : Ext W5 w' := Ext.grown ((Ext.refl W5).alloc _) hg' (fun k hk => by simp [Value.ownBlock] at hk; omega)
          obtain ⟨a6, c6, rfl, hr6⟩ := own_rdg ho'
          have hJ := HJ5.out.ext e5
          obtain ⟨t2, t3, u0, u1⟩ := num2 hJ.b4
          have hr7 : RdG w' (w.heap.size + 6) a6 (1 + nq) c6 (brw (false :: qb)) := by have h := hr6.low (base := w.heap.size + 6) (by have := HJ5.out.b5.lt; omega); exact h
          have HJ6 := Lib.hid (hJ.setq hr7)
          clear hJ ho' hg' hr6 hr7 y0 y1
          go_wp2_with fail
          go_roundw
          case rel => exact ⟨i, false :: qb, r2, a6, 1 + nq, c6, ar2, nr2, cr2, by omega, by trivial, HJ6, Lib.hid (by have h1 := HX.out; have h2 := HV3.out; have h3 := HV2.out; rw [h1, bval]; rw [bval] at h3; rw [← h3, h2]; simp [Nat.add_mul, Nat.mul_assoc]; try omega), HR3, Lib.hid (by have := HQ.out; simp; omega)⟩
          case measure => simp [intOf]; try omega
end Go.Proofs.Ytibhfclkdbmmoaa
