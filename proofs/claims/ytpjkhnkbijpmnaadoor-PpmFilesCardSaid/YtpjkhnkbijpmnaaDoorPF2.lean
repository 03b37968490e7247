/- Proof text: the law PpmFiles. By an AI agent. No condition beyond what each theorem states. -/
import Derived.Test.YtpjkhnkbijpmnaaDoorPZ
set_option linter.unusedVariables false
set_option linter.unusedSimpArgs false
namespace Go.Proofs.YtpjkhnkbijpmnaaDoor
open Go.RowKit
theorem bl_more (s t : ByteArray) : bl (s ++ t) = bl s ++ bl t := by unfold bl; rw [ByteArray.data_append, Array.toList_append]
theorem bl_init {s : ByteArray} {n : Nat} (h : s.size = n + 1) : bl (s.extract 0 n) = (bl s).dropLast := by
  unfold bl
  rw [ByteArray.data_extract, Array.toList_extract, List.dropLast_eq_take]
  have : s.data.toList.length = n + 1 := h
  rw [this]
  simp [List.extract]
/-- What a file's neighbours say. -/
theorem files_all {s : ByteArray} {n : Nat} (hn : s.size = n + 1) (hm : s.size ≤ 3000) (h : decE s = 0) : (⟨(enc (decIm s)).toArray⟩ : ByteArray) = s ∧ (decIm s).Ok ∧ (decIm s).C.length ≤ 4000 ∧ decE (s ++ ⟨#[0]⟩) = 11 ∧ decE (s.extract 0 n) = 11 := by
  obtain ⟨a, b, c, d, e⟩ := files_plain h
  refine ⟨?_, b, by omega, d _ (by rw [bl_more]; rfl), e _ (bl_init hn)⟩
  rw [a]
  rfl
theorem enc_ok (m : Im) (v : Value) (w : World) (hv : ImR w v m) (h : m.Ok) (h4 : m.C.length ≤ 4000) (hT : Tb w) : Calls Tryd.prog 9 #[v] w fun e w' => e = .returned (.string ⟨(enc m).toArray⟩) ∧ Ext w w' := by
  obtain ⟨W, H, C, Z⟩ := m
  have h1 := h.1; have h2 := h.2.2.1
  obtain ⟨a, rfl⟩ : ∃ a : Nat, W = a := ⟨W.toNat, by simp at h1; omega⟩
  obtain ⟨b, rfl⟩ : ∃ b : Nat, H = b := ⟨H.toNat, by simp at h2; omega⟩
  exact encode_any a b C Z v w hv h4 h hT
theorem decIm_none {s : ByteArray} (h : decE s ≠ 0) : decIm s = ⟨0, 0, [], []⟩ := by unfold decIm; rw [if_neg h]
set_option maxRecDepth 10000 in
set_option maxHeartbeats 1000000 in
theorem law_files (s : ByteArray) (w : World) (hm : s.size ≤ maxLen) (hT : Tb w) : Calls Tryd.prog 6 #[.string s] w fun e w' => e = .returned (.bool true) ∧ Ext w w' := by
  have HT := Lib.hid hT
  unfold maxLen at hm
  by_cases hs : s.size ≤ 3000 ∧ 1 ≤ s.size
  · obtain ⟨n, hn⟩ : ∃ n, s.size = n + 1 := ⟨s.size - 1, by omega⟩
    have hs3 := hs.1
    have t1 : decide ((s.size : Int) < 1) = false := by simp; omega
    have t2 : decide ((s.size : Int) > 3000) = false := by simp; omega
    have D1 := Lib.hid (fun W => decode_any s W (by omega))
    by_cases h0 : decE s = 0
    · obtain ⟨f1, f2, f3, f4, f5⟩ := files_all hn hs3 h0
      have D2 := Lib.hid (fun W => decode_any (s ++ ⟨#[0]⟩) W (by rw [ByteArray.size_append]; show s.size + 1 ≤ _; omega))
      have D3 := Lib.hid (fun W => decode_any (s.extract 0 n) W (by rw [ByteArray.size_extract]; omega))
      have E1 := Lib.hid (fun W v hv hT => enc_ok (decIm s) v W hv f2 f3 hT)
      rw [f1] at E1
      have F0 := Lib.hid h0; have F4 := Lib.hid f4; have F5 := Lib.hid f5
      have HN := Lib.hid hn
      have k1 : (s.size : Int) - 1 = n := by omega
      have k2 : (n : Int) ≤ s.size := by omega
      have k3 : (s.size : Int) ≤ 3000 := by omega
      have hn2 : n ≤ s.size := by omega
      have hp : (s.toList == s.toList) = true := by simp
      obtain ⟨m, hmm⟩ : ∃ m, m = decIm s := ⟨_, rfl⟩
      rw [← hmm] at E1
      have HM := Lib.hid hmm
      clear h0 f1 f2 f3 f4 f5 hmm hs hT hn
      go_enter Tryd.func6, Tryd.ntmps6
      go_wp2_with fail
      refine (D1.out _).mono ?_
      rintro e w1 ⟨v, rfl, hv, hE⟩
      rw [F0.out]
      rw [← HM.out] at hv
      have HV1 := Lib.hid hv
      obtain ⟨a, b, c, d, rfl, -, -⟩ := hv
      have HE1 := Lib.hid (hE.alloc (.cells #[.int .i64 m.W, .int .i64 m.H, .slice a m.C.length c, .slice b m.Z.length d] 24))
      have B1 := Lib.hid (Blk.new w1 24 #[.int .i64 m.W, .int .i64 m.H, .slice a m.C.length c, .slice b m.Z.length d])
      have HX1 := Lib.hid (HV1.out.ext ((Ext.refl _).alloc (.cells #[.int .i64 m.W, .int .i64 m.H, .slice a m.C.length c, .slice b m.Z.length d] 24)))
      clear hE HV1 D1
      go_wp2_with fail
      refine (D2.out _).mono ?_
      rintro e w2 ⟨v, rfl, hv, hE⟩
      rw [F4.out]
      obtain ⟨m2, hm2⟩ : ∃ m2, m2 = decIm (s ++ ⟨#[0]⟩) := ⟨_, rfl⟩
      rw [← hm2] at hv
      clear hm2
      obtain ⟨a', b', c', d', rfl, -, -⟩ := hv
      have HE2 := Lib.hid ((HE1.out.trans hE).alloc (.cells #[.int .i64 m2.W, .int .i64 m2.H, .slice a' m2.C.length c', .slice b' m2.Z.length d'] 24))
      have B2 := Lib.hid ((B1.out.ext hE).alloc (.cells #[.int .i64 m2.W, .int .i64 m2.H, .slice a' m2.C.length c', .slice b' m2.Z.length d'] 24))
      have HX2 := Lib.hid ((HX1.out.ext hE).ext ((Ext.refl _).alloc (.cells #[.int .i64 m2.W, .int .i64 m2.H, .slice a' m2.C.length c', .slice b' m2.Z.length d'] 24)))
      clear hE HE1 B1 HX1 D2
      go_wp2_with fail
      refine (D3.out _).mono ?_
      rintro e w3 ⟨v, rfl, hv, hE⟩
      rw [F5.out]
      obtain ⟨m3, hm3⟩ : ∃ m3, m3 = decIm (s.extract 0 n) := ⟨_, rfl⟩
      rw [← hm3] at hv
      clear hm3
      obtain ⟨a'', b'', c'', d'', rfl, -, -⟩ := hv
      have HE3 := Lib.hid ((HE2.out.trans hE).alloc (.cells #[.int .i64 m3.W, .int .i64 m3.H, .slice a'' m3.C.length c'', .slice b'' m3.Z.length d''] 24))
      have B3 := Lib.hid ((B2.out.ext hE).alloc (.cells #[.int .i64 m3.W, .int .i64 m3.H, .slice a'' m3.C.length c'', .slice b'' m3.Z.length d''] 24))
      have HX3 := Lib.hid ((HX2.out.ext hE).ext ((Ext.refl _).alloc (.cells #[.int .i64 m3.W, .int .i64 m3.H, .slice a'' m3.C.length c'', .slice b'' m3.Z.length d''] 24)))
      clear hE HE2 B2 HX2 D3
      go_wp2_with fail
      refine (awake28 _ (HT.out.ext HE3.out)).mono ?_
      rintro e w4 ⟨rfl, hE⟩
      obtain ⟨p0, p1, p2, p3⟩ := (B3.out.ext hE).four
      have HE4 := Lib.hid (HE3.out.trans hE)
      have AE := Lib.hid (E1.out w4 _ (HX3.out.ext hE) (HT.out.ext HE4.out))
      clear hE HE3 B3 HX3
      go_wp2_with fail
      refine AE.out.mono ?_
      rintro e w5 ⟨rfl, hE⟩
      have HE5 := Lib.hid (HE4.out.trans hE)
      clear hE p0 p1 p2 p3
      go_wp2_with fail
      go_returns
      exact ⟨rfl, HE5.out⟩
    · have hi := decIm_none h0
      have t3 : (decE s != 0) = true := by simpa using h0
      have HI := Lib.hid hi
      clear h0 hi hs hT hn
      obtain ⟨ec, hec⟩ : ∃ ec, ec = decE s := ⟨_, rfl⟩
      rw [← hec] at t3
      have HEC := Lib.hid hec
      clear hec
      go_enter Tryd.func6, Tryd.ntmps6
      go_wp2_with fail
      refine (D1.out _).mono ?_
      rintro e w1 ⟨v, rfl, hv, hE⟩
      rw [HI.out] at hv
      rw [← HEC.out]
      obtain ⟨a, b, c, d, rfl, -, -⟩ := hv
      simp only [List.length_nil]
      have HE1 := Lib.hid (hE.alloc (.cells #[.int .i64 0, .int .i64 0, .slice a 0 c, .slice b 0 d] 24))
      have B1 := Lib.hid (Blk.new w1 24 #[.int .i64 0, .int .i64 0, .slice a 0 c, .slice b 0 d])
      clear hE D1
      go_wp2_with fail
      refine (awake28 _ (HT.out.ext HE1.out)).mono ?_
      rintro e w4 ⟨rfl, hE⟩
      obtain ⟨p0, p1, p2, p3⟩ := (B1.out.ext hE).four
      have HE4 := Lib.hid (HE1.out.trans hE)
      clear hE
      go_wp2_with fail
      go_returns
      exact ⟨rfl, HE4.out⟩
  · by_cases hl : s.size < 1
    · have t1 : decide ((s.size : Int) < 1) = true := by simp; omega
      clear hs hT hl hm
      go_enter Tryd.func6, Tryd.ntmps6
      go_wp2_with fail
      refine (awake28 _ HT.out).mono ?_
      rintro e w1 ⟨rfl, hE⟩
      have HE := Lib.hid hE
      clear hE
      go_wp2_with fail
      go_returns
      exact ⟨rfl, HE.out⟩
    · have t1 : decide ((s.size : Int) < 1) = false := by simp; omega
      have t2 : decide ((s.size : Int) > 3000) = true := by simp; omega
      clear hs hT hl hm
      go_enter Tryd.func6, Tryd.ntmps6
      go_wp2_with fail
      refine (awake28 _ HT.out).mono ?_
      rintro e w1 ⟨rfl, hE⟩
      have HE := Lib.hid hE
      clear hE
      go_wp2_with fail
      go_returns
      exact ⟨rfl, HE.out⟩
end Go.Proofs.YtpjkhnkbijpmnaaDoor
