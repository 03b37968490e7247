/- Proof text: the laws PpmEncodes, PpmDecodes. By an AI agent. No condition beyond what each theorem states. -/
import Derived.Test.YtpjkhnkbijpmnaaDoorPT
set_option linter.unusedVariables false
set_option linter.unusedSimpArgs false
namespace Go.Proofs.YtpjkhnkbijpmnaaDoor
open Go.RowKit
theorem small_is (m : Im) (v : Value) (w : World) (hv : ImR w v m) (r : Bool) (hr : r = true ↔ m.Small) :
    Calls Tryd.prog 8 #[v] w fun e w' => e = .returned (.bool r) ∧ Ext w w' := by
  refine (small_any m v w hv).mono ?_
  rintro e w' ⟨r', rfl, hr', hE⟩
  refine ⟨?_, hE⟩
  have : r' = r := by
    cases r <;> cases r' <;> simp_all
  rw [this]
theorem im_nat {m : Im} (h : m.Small) : ∃ (W H : Nat) (C Z : List Int), m = ⟨W, H, C, Z⟩ := by
  obtain ⟨W, H, C, Z⟩ := m
  obtain ⟨-, -, h1, -, h2, -⟩ := h
  obtain ⟨a, ha⟩ : ∃ a : Nat, W = a := ⟨W.toNat, by simp at h1; omega⟩
  obtain ⟨b, hb⟩ : ∃ b : Nat, H = b := ⟨H.toNat, by simp at h2; omega⟩
  exact ⟨a, b, C, Z, by rw [ha, hb]⟩
theorem enc_is (m : Im) (v : Value) (w : World) (hv : ImR w v m) (h : m.Small) (hT : Tb w) : Calls Tryd.prog 9 #[v] w fun e w' => e = .returned (.string ⟨(enc m).toArray⟩) ∧ Ext w w' := by
  obtain ⟨W, H, C, Z, rfl⟩ := im_nat h
  exact encode_any W H C Z v w hv (Nat.le_trans h.1 (by decide)) h.2.2 hT
theorem renc_is (m : Im) (v : Value) (w : World) (hv : ImR w v m) (h : m.Small) (hT : Tb w) : Calls Tryd.prog 10 #[v] w fun e w' => e = .returned (.string ⟨(enc m).toArray⟩) ∧ Ext w w' := by
  obtain ⟨W, H, C, Z, rfl⟩ := im_nat h
  exact rencode_any W H C Z v w hv h hT
theorem ImR.val {w : World} {v : Value} {m : Im} (h : ImR w v m) : ∃ vc vz, v = .agg #[.int .i64 m.W, .int .i64 m.H, vc, vz] ∧ vc.oneCell' = true ∧ vz.oneCell' = true := by
  obtain ⟨a, b, c, d, rfl, _, _⟩ := h
  exact ⟨_, _, rfl, rfl, rfl⟩
set_option maxRecDepth 10000 in
set_option maxHeartbeats 1000000 in
theorem law_encodes (m : Im) (v : Value) (w : World) (hv : ImR w v m) (hT : Tb w) : Calls Tryd.prog 3 #[v] w fun e w' => e = .returned (.bool true) ∧ Ext w w' := by
  have HV := Lib.hid hv
  have HT := Lib.hid hT
  obtain ⟨a, b, c, d, rfl, hC, hZ⟩ := hv
  clear hC hZ
  have B0 := Lib.hid (Blk.new w 24 #[.int .i64 m.W, .int .i64 m.H, .slice a m.C.length c, .slice b m.Z.length d])
  have HE0 := Lib.hid ((Ext.refl w).alloc (.cells #[.int .i64 m.W, .int .i64 m.H, .slice a m.C.length c, .slice b m.Z.length d] 24))
  have A1 := Lib.hid (fun (W : World) (h : Ext w W) => awake28 W (HT.out.ext h))
  by_cases hs : m.Small
  · have A2 := Lib.hid (fun (W : World) (h : Ext w W) => small_is m _ W (HV.out.ext h) true ⟨fun _ => hs, fun _ => rfl⟩)
    have A3 := Lib.hid (fun (W : World) (h : Ext w W) => enc_is m _ W (HV.out.ext h) hs (HT.out.ext h))
    have A4 := Lib.hid (fun (W : World) (h : Ext w W) => renc_is m _ W (HV.out.ext h) hs (HT.out.ext h))
    clear hs
    obtain ⟨F, hF⟩ : ∃ F : ByteArray, F = ⟨(enc m).toArray⟩ := ⟨_, rfl⟩
    rw [← hF] at A3 A4
    clear hF hT
    go_enter Tryd.func3, Tryd.ntmps3
    go_upto_region 1 with fail
    generalize (w.alloc (.cells #[.int .i64 m.W, .int .i64 m.H, .slice a m.C.length c, .slice b m.Z.length d] 24)) = W0 at B0 HE0 ⊢
    obtain ⟨p0, p1, p2, p3⟩ := B0.out.four
    refine wp_region_later (by kernel_rfl) (by kernel_rfl) ?_
    repeat (go_big_quiet_step ((first | (go_at_call 7; with_reducible exact Calls.later _ (A1.out _ (HE0.out.later _))) | (go_at_call 8; with_reducible exact Calls.later _ (A2.out _ (HE0.out.later _))) | (go_at_call 9; with_reducible exact Calls.later _ (A3.out _ (HE0.out.later _))) | (go_at_call 10; with_reducible exact Calls.later _ (A4.out _ (HE0.out.later _))))))
    refine wpQuiet_nil ?_
    intro y
    have HEy := Lib.hid (HE0.out.later y)
    clear p0 p1 p2 p3
    go_wp2_with fail
    go_returns
    exact ⟨by simp, HEy.out⟩
  · have A2 := Lib.hid (fun (W : World) (h : Ext w W) => small_is m _ W (HV.out.ext h) false ⟨fun h => (by cases h), fun h => absurd h hs⟩)
    clear hs hT
    go_enter Tryd.func3, Tryd.ntmps3
    go_upto_region 1 with fail
    generalize (w.alloc (.cells #[.int .i64 m.W, .int .i64 m.H, .slice a m.C.length c, .slice b m.Z.length d] 24)) = W0 at B0 HE0 ⊢
    obtain ⟨p0, p1, p2, p3⟩ := B0.out.four
    refine wp_region_later (by kernel_rfl) (by kernel_rfl) ?_
    repeat (go_big_quiet_step ((first | (go_at_call 7; with_reducible exact Calls.later _ (A1.out _ (HE0.out.later _))) | (go_at_call 8; with_reducible exact Calls.later _ (A2.out _ (HE0.out.later _))))))
    refine wpQuiet_nil ?_
    intro y
    have HEy := Lib.hid (HE0.out.later y)
    clear p0 p1 p2 p3
    go_wp2_with fail
    go_returns
    exact ⟨by simp, HEy.out⟩
theorem decIm_len {s : ByteArray} (hs : s.size ≤ 100000) : (decIm s).C.length ≤ 2000000 ∧ (decIm s).Z.length ≤ 2000000 := by
  unfold decIm
  by_cases h : decE s = 0
  · rw [if_pos h]
    have h1 : wid s * hei s ≤ 1048576 := by
      unfold decE at h
      by_cases h1 : headOk s = false
      · rw [if_pos h1] at h; exact absurd h (by decide)
      · rw [if_neg h1] at h
        by_cases h2 : ¬ (1 ≤ wid s ∧ wid s ≤ 1024 ∧ 1 ≤ hei s ∧ hei s ≤ 1024)
        · rw [if_pos h2] at h; exact absurd h (by decide)
        · have h3 := Decidable.not_not.1 h2
          exact mul_le _ _ h3.2.1 h3.2.2.2
    simp only [imC_len, List.length_replicate]
    omega
  · rw [if_neg h]
    exact ⟨Nat.zero_le _, Nat.zero_le _⟩
set_option maxRecDepth 10000 in
set_option maxHeartbeats 1000000 in
theorem law_decodes (s : ByteArray) (w : World) (hm : s.size ≤ maxLen) (hT : Tb w) : Calls Tryd.prog 4 #[.string s] w fun e w' => e = .returned (.bool true) ∧ Ext w w' := by
  have HT := Lib.hid hT
  unfold maxLen at hm
  by_cases hs : s.size ≤ 3000
  · have t1 : decide ((s.size : Int) > 3000) = false := by simp; omega
    have D1 := Lib.hid (fun W => decode_any s W (by omega))
    have D2 := Lib.hid (fun W => rdecode_any s W (by omega))
    have HL := Lib.hid (decIm_len (s := s) (by omega))
    obtain ⟨m, hmm⟩ : ∃ m, m = decIm s := ⟨_, rfl⟩
    rw [← hmm] at HL
    have HM := Lib.hid hmm
    obtain ⟨ec, hec⟩ : ∃ ec, ec = decE s := ⟨_, rfl⟩
    have HEC := Lib.hid hec
    clear hmm hec hT
    go_enter Tryd.func4, Tryd.ntmps4
    go_wp2_with fail
    refine (D1.out _).mono ?_
    rintro e w1 ⟨v, rfl, hv, hE⟩
    rw [← HEC.out]
    rw [← HM.out] at hv
    have HV1 := Lib.hid hv
    obtain ⟨a, b, c, d, rfl, -, -⟩ := hv
    have HE1 := Lib.hid (hE.alloc (.cells #[.int .i64 m.W, .int .i64 m.H, .slice a m.C.length c, .slice b m.Z.length d] 24))
    have B1 := Lib.hid (Blk.new w1 24 #[.int .i64 m.W, .int .i64 m.H, .slice a m.C.length c, .slice b m.Z.length d])
    have HX1 := Lib.hid (HV1.out.ext ((Ext.refl _).alloc (.cells #[.int .i64 m.W, .int .i64 m.H, .slice a m.C.length c, .slice b m.Z.length d] 24)))
    clear hE HV1 D1
    go_wp2_with fail
    refine (D2.out _).mono ?_
    rintro e w2 ⟨v, rfl, hv, hE⟩
    rw [← HEC.out]
    rw [← HM.out] at hv
    have HV2 := Lib.hid hv
    obtain ⟨a', b', c', d', rfl, -, -⟩ := hv
    have HE2 := Lib.hid ((HE1.out.trans hE).alloc (.cells #[.int .i64 m.W, .int .i64 m.H, .slice a' m.C.length c', .slice b' m.Z.length d'] 24))
    have B2 := Lib.hid (Blk.new w2 24 #[.int .i64 m.W, .int .i64 m.H, .slice a' m.C.length c', .slice b' m.Z.length d'])
    have B1' := Lib.hid ((B1.out.ext hE).alloc (.cells #[.int .i64 m.W, .int .i64 m.H, .slice a' m.C.length c', .slice b' m.Z.length d'] 24))
    have HX1' := Lib.hid ((HX1.out.ext hE).ext ((Ext.refl _).alloc (.cells #[.int .i64 m.W, .int .i64 m.H, .slice a' m.C.length c', .slice b' m.Z.length d'] 24)))
    have HX2 := Lib.hid (HV2.out.ext ((Ext.refl _).alloc (.cells #[.int .i64 m.W, .int .i64 m.H, .slice a' m.C.length c', .slice b' m.Z.length d'] 24)))
    clear hE HV2 D2 HE1 B1 HX1
    go_wp2_with fail
    refine (awake28 _ (HT.out.ext HE2.out)).mono ?_
    rintro e w3 ⟨rfl, hE⟩
    obtain ⟨p0, p1, p2, p3⟩ := (B1'.out.ext hE).four
    obtain ⟨q0, q1, q2, q3⟩ := (B2.out.ext hE).four
    have SM := Lib.hid (rsame_any m _ _ w3 (HX1'.out.ext hE) (HX2.out.ext hE) HL.out)
    have HE3 := Lib.hid (HE2.out.trans hE)
    clear hE HX1' HX2 B1' B2 HE2
    go_wp2_with fail
    refine SM.out.mono ?_
    rintro e w4 ⟨rfl, hE⟩
    have HE4 := Lib.hid (HE3.out.trans hE)
    clear hE p0 p1 p2 p3 q0 q1 q2 q3
    go_wp2_with fail
    go_returns
    exact ⟨by simp, HE4.out⟩
  · have t1 : decide ((s.size : Int) > 3000) = true := by simp; omega
    clear hs hT
    go_enter Tryd.func4, Tryd.ntmps4
    go_wp2_with fail
    refine (awake28 _ HT.out).mono ?_
    rintro e w1 ⟨rfl, hE⟩
    have HE := Lib.hid hE
    clear hE
    go_wp2_with fail
    go_returns
    exact ⟨rfl, HE.out⟩
end Go.Proofs.YtpjkhnkbijpmnaaDoor
