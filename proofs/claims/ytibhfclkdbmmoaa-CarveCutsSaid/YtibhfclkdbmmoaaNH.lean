/- Proof text: products of the document's numbers (rastrumref02.Prod). By an AI agent. No condition beyond what each theorem states. -/
import Derived.Test.YtibhfclkdbmmoaaNG
import Derived.Deep.OwnRows
set_option linter.unusedVariables false
set_option linter.unusedSimpArgs false
namespace Go.Proofs.Ytibhfclkdbmmoaa
open Go.RowKit
theorem zeros_row (n : Nat) : (madeCells #[.int .u8 0] n).toList = brw (List.replicate n false) := by
  rw [toList_madeCells_one]
  simp [brw, bN]
theorem sg_mul (m k : Bool) (x y : Nat) : sg (m != k) (x * y) = sg m x * sg k y := by cases m <;> cases k <;> simp [sg, Int.neg_mul, Int.mul_neg]
theorem prod_step {l1 l2 out : List Bool} {i : Nat} (h : bval out = low l1 i * bval l2) (hb : bt l1 i = true) : bval out + bval (List.replicate i false ++ l2) = low l1 (i + 1) * bval l2 := by
  rw [bval_append, bval_zeros, List.length_replicate, low_succ, hb, h]
  simp [Nat.add_mul]
theorem prod_skip {l1 l2 out : List Bool} {i : Nat} (h : bval out = low l1 i * bval l2) (hb : bt l1 i = false) : bval out = low l1 (i + 1) * bval l2 := by rw [low_succ, hb, h]; simp
set_option maxRecDepth 10000 in
set_option maxHeartbeats 4000000 in
theorem prod_any (v1 v2 : Value) (z1 z2 : Int) (w : World) (h1 : NumV w v1 z1) (h2 : NumV w v2 z2) (b1 : z1.natAbs < 2 ^ 200) (b2 : z2.natAbs < 2 ^ 200) : Calls Try.prog 62 #[v1, v2] w (NumP (z1 * z2) w) := by
  obtain ⟨m, a1, n1, c1, l1, rfl, r1, hn1, rfl, -⟩ := h1.opened b1
  obtain ⟨k, a2, n2, c2, l2, rfl, r2, hn2, rfl, -⟩ := h2.opened b2
  have H1 := Lib.hid r1; have H2 := Lib.hid r2
  have N1 := Lib.hid hn1; have N2 := Lib.hid hn2
  have L1 := Lib.hid (rd_len r1); have L2 := Lib.hid (rd_len r2)
  have i1 : (n1 : Int) ≤ 300 := by omega
  clear h1 h2 b1 b2 hn1 hn2 r1 r2
  go_enter Try.func62, Try.ntmps62
  go_upto_region 1 with fail
  have hz : ((w.alloc (.cells #[.bool m, .slice a1 n1 c1] 78)).alloc (.cells #[.bool k, .slice a2 n2 c2] 78)).heap.size = w.heap.size + 1 + 1 := by simp
  have b1 : Blk (((w.alloc (.cells #[.bool m, .slice a1 n1 c1] 78)).alloc (.cells #[.bool k, .slice a2 n2 c2] 78)).alloc (.cells #[.bool false, .slice none 0 0] 78)) w.heap.size 78 #[.bool m, .slice a1 n1 c1] := ((Blk.new w _ _).alloc _).alloc _
  have b2 : Blk (((w.alloc (.cells #[.bool m, .slice a1 n1 c1] 78)).alloc (.cells #[.bool k, .slice a2 n2 c2] 78)).alloc (.cells #[.bool false, .slice none 0 0] 78)) (w.heap.size + 1) 78 #[.bool k, .slice a2 n2 c2] := (Blk.new' _ _ _ (by simp)).alloc _
  have b3 : Blk (((w.alloc (.cells #[.bool m, .slice a1 n1 c1] 78)).alloc (.cells #[.bool k, .slice a2 n2 c2] 78)).alloc (.cells #[.bool false, .slice none 0 0] 78)) (w.heap.size + 1 + 1) 78 #[.bool false, .slice none 0 0] := Blk.new' _ _ _ (by simp)
  have hE : Ext w (((w.alloc (.cells #[.bool m, .slice a1 n1 c1] 78)).alloc (.cells #[.bool k, .slice a2 n2 c2] 78)).alloc (.cells #[.bool false, .slice none 0 0] 78)) := by (repeat (first | with_reducible exact Ext.refl _ | with_reducible assumption | with_reducible refine Ext.alloc ?_ _ | with_reducible refine Ext.drew ?_ | with_reducible refine Ext.drewN ?_ _ | with_reducible refine Ext.later ?_ _ | (with_reducible refine Ext.setCell ?_ _ ?hp; case hp => first | (simp; done) | (simp; omega) | omega)))
  generalize (((w.alloc (.cells #[.bool m, .slice a1 n1 c1] 78)).alloc (.cells #[.bool k, .slice a2 n2 c2] 78)).alloc (.cells #[.bool false, .slice none 0 0] 78)) = W at b1 b2 b3 hE ⊢
  have B1 := Lib.hid b1; have B2 := Lib.hid b2; have B3 := Lib.hid b3; have HE := Lib.hid hE
  clear b1 b2 b3 hE hz
  go_wp2_with fail
  go_loopw [5, 6] (fun ov iv wr => ∃ (j : Nat) (out : List Bool) (ao : Option Addr) (no co : Nat), j ≤ n1 ∧ ov = .slice ao no co ∧ iv = .int .i64 j ∧ Hid (Rd wr 1 ao no co (brw out)) ∧ Hid (bval out = low l1 j * bval l2) ∧ Hid (out.length ≤ n2 + j) ∧ Hid (Ext W wr)) (fun _ iv _ => n1 - (intOf iv).toNat)
  case atStart => exact ⟨0, [], none, 0, 0, Nat.zero_le _, rfl, rfl, Lib.hid (Rd.empty _ _ _ _ (by decide)), Lib.hid (by simp [bval, low_zero]), Lib.hid (Nat.zero_le _), Lib.hid (Ext.refl _)⟩
  case round =>
    obtain ⟨j, out, ao, no, co, hj, rfl, rfl, HR, HV, HL, HX⟩ := hrel
    obtain ⟨p0, p1, -, -⟩ := num2 (B1.out.ext HX.out)
    obtain ⟨q0, q1, -, -⟩ := num2 (B2.out.ext HX.out)
    by_cases hgo : j < n1
    · obtain ⟨x, hx⟩ : ∃ x, l1[j]? = some x := ⟨_, List.getElem?_eq_getElem (by have := L1.out; omega)⟩
      have hbx : bt l1 j = x := bt_of hx
      obtain ⟨b, off, rfl, -, -⟩ := H1.out.at_ (by omega)
      have hc0 := bit_at (H1.out.ext (HE.out.trans HX.out)) hx
      have hj1 : (j : Int) < n1 := by omega
      have HJ := Lib.hid hgo
      rcases bN_cases x with ⟨x1, y1⟩ | ⟨x1, y1⟩
      · rw [y1] at hc0
        have HS := Lib.hid (prod_step HV.out (hbx.trans x1))
        have hmk := run_make_row' (P := Try.prog) 76 5 (.int .u8 0) 1 Try.underlying76 info_u8 rfl .i64 .i64 j (by omega) (by omega)
        clear hx hbx x1 y1 hgo hj
        go_upto_region 6 with fail
        go_region_held3 (fun w' => w'.cell? ⟨w.heap.size + 1, 1, none⟩ = some (.slice a2 n2 c2))
          (first | exact q1 | exact s1 | exact t1 | go_keep)
          ((first
            | (refine step_append_rd rfl (.tmp 22) (.tmp 24) 76 rfl wr.heap.size 5 _ 1 1 Try.underlying76 info_u8 rfl (by decide) (.slice (some ⟨wr.heap.size, 0, none⟩) j j) j (brw (List.replicate j false)) rfl ?_ a2 n2 c2 (brw l2) rfl ?_ (brw_one _) ?_ (by decide) ?_ ?_; (have := World.ownsRow_lit (base := wr.heap.size) (e := 5) (size := 1) wr.drew (madeCells #[.int .u8 0] j) j (Nat.le_refl _) (by unfold maxLen; omega) (by rw [Nat.mul_one]; exact size_madeCells _ _); rw [zeros_row] at this; exact this); exact H2.out.ext ((HE.out.trans HX.out).drew.alloc _); (have := N2.out; omega); simp; intro v3 w3 ho3 hg3; have e3 : Ext wr w3 := Ext.grown ((Ext.refl wr).drew.alloc _) hg3 (fun k hk => by simp [Value.ownBlock] at hk; omega); have s1 := e3.cell_some q1; obtain ⟨a4, c4, rfl, hr4⟩ := ownsRow_rd ho3)
            | (go_at_call 66; refine (more_any out (List.replicate j false ++ l2) ao a4 no co (j + n2) c4 _ (HR.out.ext e3) (by rw [brw_append]; exact hr4) (by have := rd_len HR.out; have := HL.out; have := N2.out; omega) (by have := N2.out; omega)).mono ?_; rintro e w4 ⟨v, out4, rfl, ho, hv, hle, hE4⟩; obtain ⟨a5, c5, rfl, hr5⟩ := ownsRow_rd ho; have t1 := hE4.cell_some s1; have HV4 := Lib.hid hv; have HL4 := Lib.hid hle; have HX4 := Lib.hid (e3.trans hE4); have HR4 := Lib.hid hr5; clear hv hle)))
        go_wp2_with fail
        go_roundw
        case rel => exact ⟨j + 1, out4, a5, _, c5, HJ.out, rfl, by trivial, HR4, Lib.hid (HV4.out.trans HS.out), Lib.hid (by have h1 := HL4.out; have h2 := HL.out; rw [List.length_append, List.length_replicate] at h1; have := L2.out; omega), Lib.hid (HX.out.trans HX4.out)⟩
        case measure => have := HJ.out; simp [intOf]; omega
      · rw [y1] at hc0
        have HS := Lib.hid (prod_skip (l2 := l2) HV.out (hbx.trans x1))
        clear hx hbx x1 y1 hgo hj
        go_wp2_with fail
        go_roundw
        case rel => exact ⟨j + 1, out, ao, no, co, HJ.out, rfl, by trivial, HR, HS, Lib.hid (Nat.le_succ_of_le HL.out), HX⟩
        case measure => have := HJ.out; simp [intOf]; omega
    · have g1 : ¬ (j : Int) < n1 := by omega
      have HV2 : Hid (bval out = bval l1 * bval l2) := Lib.hid (by have := HV.out; rw [low_all (by have := L1.out; omega)] at this; exact this)
      have b9 := B3.out.ext HX.out
      have HLO := Lib.hid (rd_len HR.out)
      clear hgo
      go_wp2_with fail
      refine (ntrim_any _ out ao no co _ HR.out (by have := HL.out; have := N2.out; have := HLO.out; have := N1.out; omega)).mono ?_
      rintro e w2 ⟨v2, rfl, hN, hE2⟩
      obtain ⟨mm, aa, nn, cc, bs, rfl, g1, g2, g3, g4⟩ := hN
      have b8 := b9.ext hE2
      obtain ⟨t0, t1, u0, u1⟩ := num2 b8
      obtain ⟨s0, s1⟩ := set2_same b8
      have HG := Lib.hid g4
      clear g4
      go_wp2_with fail
      try simp only [Exit.inBlock, Exit.then]
      refine bodyPost_ret (by simp [results, Try.results62, go_sem, s0, s1]; try rfl) rfl ?_
      have e2 := HE.out.size
      have lb := b9.lt
      refine ⟨_, rfl, ⟨mm, aa, nn, cc, bs, rfl, g1.set2 lb (by omega) _ _, g2, g3, ?_⟩, ?_⟩
      · rw [← sg_mul, ← HV2.out]; exact HG.out
      · have E := (HE.out.trans HX.out).trans hE2
        (repeat (first | with_reducible exact Ext.refl _ | with_reducible assumption | with_reducible refine Ext.alloc ?_ _ | with_reducible refine Ext.drew ?_ | with_reducible refine Ext.drewN ?_ _ | with_reducible refine Ext.later ?_ _ | (with_reducible refine Ext.setCell ?_ _ ?hp; case hp => first | (simp; done) | (simp; omega) | omega)))
end Go.Proofs.Ytibhfclkdbmmoaa
