/- Proof text: the law PpmBack. By an AI agent. No condition beyond what each theorem states. -/
import Derived.Test.YtpjkhnkbijpmnaaDoorPU
import Derived.Test.YtpjkhnkbijpmnaaDoorPY
set_option linter.unusedVariables false
set_option linter.unusedSimpArgs false
namespace Go.Proofs.YtpjkhnkbijpmnaaDoor
open Go.RowKit
theorem enc_len {W H : Nat} {C Z : List Int} (h2 : W ≤ 1024) (h4 : H ≤ 1024) (hl : C.length = H * W) : (enc ⟨W, H, C, Z⟩).length ≤ 100 + 3 * C.length := by
  have i1 := itoa_len W (by omega) (by omega)
  have i2 := itoa_len H (by omega) (by omega)
  have h3 := rows_len (C := C) (W := W) (y := H) (by rw [hl]; exact Nat.le_refl _)
  unfold enc
  simp only [List.length_append, List.length_cons, List.length_nil, Int.toNat_natCast] at *
  omega
/-- What an image's file says. -/
theorem back_small {W H : Nat} {C Z : List Int} (h : (⟨W, H, C, Z⟩ : Im).Small) : ∃ s : ByteArray, s = ⟨(enc ⟨W, H, C, Z⟩).toArray⟩ ∧ s.size ≤ 100000 ∧ decE s = 0 ∧ C.length ≤ 400 ∧ Z.length = C.length ∧ W * H = C.length ∧ (∀ i, i < C.length → 0 ≤ C.getD i 0 ∧ C.getD i 0 ≤ 4294967295) ∧
    ∃ D : List Int, decIm s = ⟨W, H, D, List.replicate (W * H) 16777215⟩ ∧ D.length = C.length ∧ ∀ i, i < C.length → D.getD i 0 = bits .or .i64 (C.getD i 0) 255 := by
  obtain ⟨h400, -, g1, g2, g3, g4, g5, g6, g7⟩ := h
  simp only [] at h400 g1 g2 g3 g4 g5 g6 g7
  have e1 : C.length = W * H := by rw [← Int.natCast_mul] at g5; omega
  have e2 : Z.length = W * H := by rw [← Int.natCast_mul] at g6; omega
  have hl : C.length = H * W := by rw [e1, Nat.mul_comm]
  have hpix : ∀ i, i < C.length → 0 ≤ C.getD i 0 ∧ C.getD i 0 ≤ 4294967295 := fun i hi => (g7 i hi).1
  obtain ⟨b1, D, b2, b3, b4⟩ := back_plain (Z := Z) (s := ⟨(enc ⟨W, H, C, Z⟩).toArray⟩) (by omega) (by omega) (by omega) (by omega) hl hpix (by simp [bl])
  refine ⟨_, rfl, ?_, b1, h400, by omega, e1.symm, hpix, D, b2, b3, fun i hi => ?_⟩
  · have := enc_len (W := W) (H := H) (Z := Z) (by omega) (by omega) hl
    show (enc ⟨W, H, C, Z⟩).toArray.size ≤ _
    rw [List.size_toArray]
    omega
  · rw [b4 i hi, or255 (hpix i hi).1 (hpix i hi).2]
set_option maxRecDepth 10000 in
set_option maxHeartbeats 1000000 in
theorem law_back (m : Im) (v : Value) (w : World) (hv : ImR w v m) (hT : Tb w) : Calls Tryd.prog 5 #[v] w fun e w' => e = .returned (.bool true) ∧ Ext w w' := by
  have HT := Lib.hid hT
  by_cases hs : m.Small
  · obtain ⟨W, H, C, Z, rfl⟩ := im_nat hs
    have HV := Lib.hid hv
    obtain ⟨a, b, c, d, rfl, hC, hZ⟩ := hv
    obtain ⟨s, hse, hsz, hdE, h400, hzl, hwh, hpix, D, hdI, hdl, hD⟩ := back_small hs
    simp only [] at hC hZ
    have A2 := Lib.hid (fun (w1 : World) (h : Ext w w1) => small_is ⟨W, H, C, Z⟩ _ w1 (HV.out.ext h) true ⟨fun _ => hs, fun _ => rfl⟩)
    have A3 := Lib.hid (fun (w1 : World) (h : Ext w w1) => enc_is ⟨W, H, C, Z⟩ _ w1 (HV.out.ext h) hs (HT.out.ext h))
    rw [← hse] at A3
    have A4 := Lib.hid (fun w1 => decode_any s w1 hsz)
    have HD := Lib.hid hdE; have HI := Lib.hid hdI; have HX := Lib.hid hD; have HDL := Lib.hid hdl; have HPX := Lib.hid hpix
    obtain ⟨n, hn⟩ : ∃ n, n = C.length := ⟨_, rfl⟩
    obtain ⟨k, hk⟩ : ∃ k, k = Z.length := ⟨_, rfl⟩
    rw [← hn] at hC h400 hzl hwh hdl
    rw [← hk] at hZ hzl
    have HN := Lib.hid hn; have HK := Lib.hid hzl; have HW := Lib.hid hwh; have H4 : Hid (n ≤ 400) := Lib.hid h400
    have HC := Lib.hid hC
    have n4 : (n : Int) ≤ 400 := by omega
    have A2 : Hid (∀ (w1 : World) (h : Ext w w1), Calls Tryd.prog 8 #[.agg #[.int .i64 W, .int .i64 H, .slice a n c, .slice b k d]] w1 fun e w' => e = .returned (.bool true) ∧ Ext w1 w') := by rw [hn, hk]; exact A2
    have A3 : Hid (∀ (w1 : World) (h : Ext w w1), Calls Tryd.prog 9 #[.agg #[.int .i64 W, .int .i64 H, .slice a n c, .slice b k d]] w1 fun e w' => e = .returned (.string s) ∧ Ext w1 w') := by rw [hn, hk]; exact A3
    simp only []
    rw [← hn, ← hk]
    have B0 := Lib.hid (Blk.new w 24 #[.int .i64 W, .int .i64 H, .slice a n c, .slice b k d])
    have HE0 := Lib.hid ((Ext.refl w).alloc (.cells #[.int .i64 W, .int .i64 H, .slice a n c, .slice b k d] 24))
    clear hs hse hsz hdE h400 hzl hwh hpix hdI hdl hD hC hZ hn hk hT HV
    go_enter Tryd.func5, Tryd.ntmps5
    go_upto_region 1 with fail
    generalize (w.alloc (.cells #[.int .i64 W, .int .i64 H, .slice a n c, .slice b k d] 24)) = W0 at B0 HE0 ⊢
    obtain ⟨p0, p1, p2, p3⟩ := B0.out.four
    go_wp2_with fail
    refine (A2.out _ HE0.out).mono ?_
    rintro e w1 ⟨rfl, hE⟩
    have B1 := Lib.hid (B0.out.ext hE)
    have HE1 := Lib.hid (HE0.out.trans hE)
    clear hE B0 HE0 p0 p1 p2 p3
    obtain ⟨p0, p1, p2, p3⟩ := B1.out.four
    go_wp2_with fail
    refine (A3.out _ HE1.out).mono ?_
    rintro e w2 ⟨rfl, hE⟩
    have B2 := Lib.hid (B1.out.ext hE)
    have HE2 := Lib.hid (HE1.out.trans hE)
    clear hE B1 HE1 p0 p1 p2 p3
    go_wp2_with fail
    refine (A4.out _).mono ?_
    rintro e w3 ⟨v, rfl, hv, hE⟩
    rw [HD.out]
    rw [HI.out] at hv
    obtain ⟨a', b', c', d', rfl, hC', hZ'⟩ := hv
    have e1 : D.length = n := by rw [HDL.out, HN.out]
    have e2 : (List.replicate (W * H) (16777215 : Int)).length = n := by rw [List.length_replicate, HW.out]
    simp only [] at hC' hZ' ⊢
    rw [e1] at hC' ⊢
    rw [e2] at hZ' ⊢
    rw [show k = n from HK.out] at *
    have HE3 := Lib.hid ((HE2.out.trans hE).alloc (.cells #[.int .i64 W, .int .i64 H, .slice a' n c', .slice b' n d'] 24))
    have B3 := Lib.hid ((B2.out.ext hE).alloc (.cells #[.int .i64 W, .int .i64 H, .slice a' n c', .slice b' n d'] 24))
    have N3 := Lib.hid (Blk.new w3 24 #[.int .i64 W, .int .i64 H, .slice a' n c', .slice b' n d'])
    have HD3 := Lib.hid (hC'.ext ((Ext.refl w3).alloc (.cells #[.int .i64 W, .int .i64 H, .slice a' n c', .slice b' n d'] 24)))
    have HZ3 := Lib.hid (hZ'.ext ((Ext.refl w3).alloc (.cells #[.int .i64 W, .int .i64 H, .slice a' n c', .slice b' n d'] 24)))
    have HC3 := Lib.hid (HC.out.ext HE3.out)
    clear hE hC' hZ' B2 HE2 HC e1 e2
    obtain ⟨p0, p1, p2, p3⟩ := B3.out.four
    obtain ⟨q0, q1, q2, q3⟩ := N3.out.four
    have t1 : ((W : Int) != W) = false := by simp
    have t2 : ((H : Int) != H) = false := by simp
    have t3 : ((n : Int) != n) = false := by simp
    go_wp2_with fail
    clear t1 t2 t3 p0 p1 p2 p3 q0 q1 q2 q3
    generalize (w3.alloc (.cells #[.int .i64 W, .int .i64 H, .slice a' n c', .slice b' n d'] 24)) = W3 at HE3 B3 N3 HD3 HZ3 HC3 ⊢
    go_loopw [5] (fun i wr => ∃ j : Nat, j ≤ n ∧ i = .int .i64 j ∧ Hid (Ext W3 wr)) (fun i _ => n - (intOf i).toNat)
    case atStart => exact ⟨0, Nat.zero_le _, rfl, Lib.hid (Ext.refl _)⟩
    case round =>
      obtain ⟨j, hj, rfl, HE⟩ := hrel
      obtain ⟨-, -, p2, p3⟩ := (B3.out.ext HE.out).four
      obtain ⟨-, -, q2, q3⟩ := (N3.out.ext HE.out).four
      by_cases hlt : j < n
      · obtain ⟨ba, oa, ha, -, -⟩ := (HC3.out.ext HE.out).at_ (by omega)
        obtain ⟨bb, ob, hb, -, -⟩ := (HD3.out.ext HE.out).at_ (by omega)
        obtain ⟨bz, oz, hz, -, -⟩ := (HZ3.out.ext HE.out).at_ (by omega)
        subst ha; subst hb; subst hz
        have c1 := int_at (HC3.out.ext HE.out) (j := j) (by rw [← HN.out]; exact hlt)
        have c2 := int_at (HD3.out.ext HE.out) (j := j) (by rw [HDL.out, ← HN.out]; exact hlt)
        have c3 := int_at (HZ3.out.ext HE.out) (j := j) (by rw [List.length_replicate, HW.out]; exact hlt)
        rw [HX.out j (by rw [← HN.out]; exact hlt)] at c2
        rw [show (List.replicate (W * H) (16777215 : Int)).getD j 0 = 16777215 by simp [List.getD_eq_getElem?_getD, List.getElem?_replicate, HW.out, hlt]] at c3
        obtain ⟨x, hx⟩ : ∃ x, x = C.getD j 0 := ⟨_, rfl⟩
        rw [← hx] at c1 c2
        have tx : (bits .or .i64 x 255 != bits .or .i64 x 255) = false := by simp
        have i1 : (j : Int) < n := by omega
        clear hx
        go_upto_region 9 with fail
        go_quiet (fail)
        rename_i nq
        have HE2 := Lib.hid (HE.out.drewN nq)
        clear c1 c2 c3 p2 p3 q2 q3 tx
        go_wp2_with fail
        go_roundw
        case rel => first | exact ⟨j + 1, by omega, by go_num, HE2⟩ | ((repeat apply Exists.intro); exact ⟨⟨j + 1, by omega, by go_num, HE2⟩, rfl⟩)
        case measure => simp [intOf]; omega
      · obtain rfl : j = n := by omega
        have AW := Lib.hid (awake28 wr (HT.out.ext (HE3.out.trans HE.out)))
        clear hlt
        go_wp2_with fail
        refine AW.out.mono ?_
        rintro e w5 ⟨rfl, hE⟩
        have HEw := Lib.hid ((HE3.out.trans HE.out).trans hE)
        clear hE p2 p3 q2 q3
        go_wp2_with fail
        go_returns
        exact ⟨rfl, HEw.out⟩
  · have HV := Lib.hid hv
    obtain ⟨a, b, c, d, rfl, hC, hZ⟩ := hv
    have A2 := Lib.hid (fun (w1 : World) (h : Ext w w1) => small_is m _ w1 (HV.out.ext h) false ⟨fun h => (by cases h), fun h => absurd h hs⟩)
    have HE0 := Lib.hid ((Ext.refl w).alloc (.cells #[.int .i64 m.W, .int .i64 m.H, .slice a m.C.length c, .slice b m.Z.length d] 24))
    have B0 := Lib.hid (Blk.new w 24 #[.int .i64 m.W, .int .i64 m.H, .slice a m.C.length c, .slice b m.Z.length d])
    clear hs hC hZ hT
    go_enter Tryd.func5, Tryd.ntmps5
    go_upto_region 1 with fail
    generalize (w.alloc (.cells #[.int .i64 m.W, .int .i64 m.H, .slice a m.C.length c, .slice b m.Z.length d] 24)) = W0 at B0 HE0 ⊢
    obtain ⟨p0, p1, p2, p3⟩ := B0.out.four
    go_wp2_with fail
    refine (A2.out _ HE0.out).mono ?_
    rintro e w1 ⟨rfl, hE⟩
    have HE1 := Lib.hid (HE0.out.trans hE)
    have AW := Lib.hid (awake28 w1 (HT.out.ext HE1.out))
    clear hE p0 p1 p2 p3
    go_wp2_with fail
    refine AW.out.mono ?_
    rintro e w2 ⟨rfl, hE⟩
    have HE2 := Lib.hid (HE1.out.trans hE)
    clear hE
    go_wp2_with fail
    go_returns
    exact ⟨rfl, HE2.out⟩
end Go.Proofs.YtpjkhnkbijpmnaaDoor
