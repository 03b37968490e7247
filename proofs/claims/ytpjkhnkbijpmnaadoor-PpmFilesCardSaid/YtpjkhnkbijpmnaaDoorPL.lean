/- Proof text: the file of an image (ppm.Encode). By an AI agent. No condition beyond what each theorem states. -/
import Derived.Test.YtpjkhnkbijpmnaaDoorPK
import Derived.Lib.SlBytesConst
set_option linter.unusedVariables false
set_option linter.unusedSimpArgs false
namespace Go.Proofs.YtpjkhnkbijpmnaaDoor
open Go.RowKit
theorem lit_cells {w : World} {g : Nat} {cs : List Value} {e : TypeId} {fr : Nat × Nat} (h : w.heap[g]? = some (.cells cs.toArray e fr)) : ∀ j u, cs[j]? = some u → w.cell? ((⟨g, 0, none⟩ : Addr).add j) = some u := by
  intro j u hu
  have hadd : (⟨g, 0, none⟩ : Addr).add j = ⟨g, j, none⟩ := by unfold Addr.add; split <;> simp_all
  rw [hadd, cell_of_row w g j cs.toArray e fr h]
  simpa using hu
theorem heap_alloc_at (w : World) (o : Obj) (g : Nat) (h : g = w.heap.size) : (w.alloc o).heap[g]? = some o := h ▸ heap_alloc_new w o
theorem getD_at {l : List Int} {i : Nat} (h : i < l.length) : l.getD i 0 = l[i] := by simp [h]
theorem px_cells {x : Nat} (h : x ≤ 4294967295) : bvs (px (x : Int)) = [.int .u8 ((x : Int) / 16777216), .int .u8 ((x : Int) / 65536 % 256), .int .u8 ((x : Int) / 256 % 256)] := by
  have e1 : (UInt8.ofNat (x / 16777216 % 256)).toNat = x / 16777216 := by rw [UInt8.toNat_ofNat']; omega
  have e2 : (UInt8.ofNat (x / 65536 % 256)).toNat = x / 65536 % 256 := by rw [UInt8.toNat_ofNat']; omega
  have e3 : (UInt8.ofNat (x / 256 % 256)).toNat = x / 256 % 256 := by rw [UInt8.toNat_ofNat']; omega
  simp only [bvs, px, Int.toNat_natCast, List.map_cons, List.map_nil, e1, e2, e3]
  simp
theorem px_next {R : List Int} {j x : Nat} {rest acc F : List UInt8} (hj : j < R.length) (hx : (x : Int) = R.getD j 0) (h : acc ++ ((R.drop j).flatMap px ++ rest) = F) : (acc ++ px x) ++ ((R.drop (j + 1)).flatMap px ++ rest) = F := by
  rw [← h, List.drop_eq_getElem_cons hj, List.flatMap_cons, ← getD_at hj, ← hx]
  simp
theorem itoa_pos (n : Nat) : 0 < (Lib.itoa (n : Int)).length := by
  rw [Lib.itoa_nonneg, Lib.decDigits_length]
  exact Lib.nDigits_pos n
set_option maxRecDepth 10000 in
set_option maxHeartbeats 1000000 in
theorem encode_any (W H : Nat) (C Z : List Int) (v : Value) (w : World) (hv : ImR w v ⟨W, H, C, Z⟩) (h400 : C.length ≤ 4000) (hok : (⟨W, H, C, Z⟩ : Im).Ok) (hT : Tb w) :
    Calls Tryd.prog 9 #[v] w fun e w' => e = .returned (.string ⟨(enc ⟨W, H, C, Z⟩).toArray⟩) ∧ Ext w w' := by
  obtain ⟨a, b, c, d, rfl, hC, hZ⟩ := hv
  have hW1 : 1 ≤ W := by have := hok.1; simp at this; omega
  have hW2 : W ≤ 1024 := by have := hok.2.1; simp at this; omega
  have hH1 : 1 ≤ H := by have := hok.2.2.1; simp at this; omega
  have hH2 : H ≤ 1024 := by have := hok.2.2.2.1; simp at this; omega
  have hCl : C.length = H * W := by have := hok.2.2.2.2.1; simp at this; rw [← Int.natCast_mul] at this; rw [Nat.mul_comm]; omega
  have hpix : ∀ i, i < C.length → 0 ≤ C.getD i 0 ∧ C.getD i 0 ≤ 4294967295 := fun i hi => (hok.2.2.2.2.2.2 i hi).1
  simp only [] at hC hZ
  have HC := Lib.hid hC
  have HT := Lib.hid hT
  have HPX := Lib.hid hpix
  have HCL := Lib.hid hCl
  have H4 := Lib.hid h400
  obtain ⟨dl, hdl⟩ : ∃ dl, dl = Z.length := ⟨_, rfl⟩
  obtain ⟨cl, hcl⟩ : ∃ cl, cl = C.length := ⟨_, rfl⟩
  rw [← hdl, ← hcl]
  have HCC := Lib.hid hcl
  obtain ⟨F, hF⟩ : ∃ F, F = enc ⟨W, H, C, Z⟩ := ⟨_, rfl⟩
  have HF := Lib.hid hF
  rw [← hF]
  have I1 := Lib.hid (itoa_len W (by omega) (by omega))
  have I2 := Lib.hid (itoa_len H (by omega) (by omega))
  have B0 := Lib.hid (Blk.new w 24 #[.int .i64 W, .int .i64 H, .slice a cl c, .slice b dl d])
  have hE0 := Lib.hid ((Ext.refl w).alloc (.cells #[.int .i64 W, .int .i64 H, .slice a cl c, .slice b dl d] 24))
  clear hC hZ h400 hok hT hCl hpix hdl hcl hF
  have kc := Lib.run_convert_bytes_const (P := Tryd.prog) (w.alloc (.cells #[.int .i64 W, .int .i64 H, .slice a cl c, .slice b dl d] 24)) 33 5 #[.int .u8 80, .int .u8 54, .int .u8 10] 3 3 Tryd.underlying33 Tryd.underlying5
  rw [World.size_alloc] at kc
  go_enter Tryd.func9, Tryd.ntmps9
  go_wp2_with fail
  refine (itoa_any W (by omega) (by omega) _ (HT.out.ext (by (repeat (first | with_reducible exact Ext.refl _ | with_reducible assumption | with_reducible refine Ext.alloc ?_ _ | with_reducible refine Ext.drew ?_ | with_reducible refine Ext.drewN ?_ _ | with_reducible refine Ext.later ?_ _ | (with_reducible refine Ext.setCell ?_ _ ?hp; case hp => first | (simp; done) | (simp; omega) | omega)))))).mono ?_
  rintro e w1 ⟨rfl, hE⟩
  have HE1 := Lib.hid (((Ext.refl (w.alloc (.cells #[.int .i64 W, .int .i64 H, .slice a cl c, .slice b dl d] 24))).alloc (.cells (bvs [80, 54, 10]).toArray 5 (3, 4))).trans hE)
  have HL1 := Lib.hid (lit_cells (w := w1) (g := w.heap.size + 1) (cs := bvs [80, 54, 10]) (e := 5) (fr := (3, 4)) (by rw [hE.block (by simp)]; exact heap_alloc_at _ _ _ (by simp)))
  have hs0 : (w.alloc (.cells #[.int .i64 W, .int .i64 H, .slice a cl c, .slice b dl d] 24)).heap.size = w.heap.size + 1 := by simp
  generalize w.alloc (.cells #[.int .i64 W, .int .i64 H, .slice a cl c, .slice b dl d] 24) = W0 at B0 hE0 HE1 hs0
  have HS0 := Lib.hid hs0
  clear hE kc hs0
  obtain ⟨T0, hT0⟩ : ∃ T0 : List UInt8, T0 = [80, 54, 10] := ⟨_, rfl⟩
  rw [← hT0] at HL1
  have HT0 := Lib.hid hT0
  obtain ⟨S1, hS1⟩ : ∃ S1 : List UInt8, S1 = Lib.itoa W := ⟨_, rfl⟩
  obtain ⟨S2, hS2⟩ : ∃ S2 : List UInt8, S2 = Lib.itoa H := ⟨_, rfl⟩
  have hsp : 0 < S1.length := by rw [hS1]; exact itoa_pos W
  rw [← hS1] at I1 ⊢
  rw [← hS2] at I2
  have HS1 := Lib.hid hS1; have HS2 := Lib.hid hS2
  have HT3 : Hid (T0.length = 3) := Lib.hid (by rw [hT0]; rfl)
  clear hT0 hS1 hS2
  go_wp2_with (refine wpList_append_text_new rfl (.tmp 8) (.tmp 11) rfl (w.heap.size + 1) (w.heap.size + 1) 3 T0 S1 rfl HT3.out HL1.out rfl ?_ ?_ ?_ ?_)
  · have := I1.out; have := HT3.out; omega
  · exact hsp
  · have := HE1.out.size; have := HS0.out; omega
  intro v2 w2 hO hE
  obtain ⟨T1, hT1⟩ : ∃ T1 : List UInt8, T1 = T0 ++ S1 := ⟨_, rfl⟩
  rw [← hT1] at hO
  have HT1 := Lib.hid hT1
  have HL1 : Hid (T1.length ≤ 30) := Lib.hid (by rw [hT1, List.length_append]; have := I1.out; have := HT3.out; omega)
  have HO2 := Lib.hid hO
  have HE2 := Lib.hid (HE1.out.trans hE)
  clear hO hE HE1 hT1 hsp
  go_wp2_with (refine wpList_append_bytes rfl (.tmp 13) (.tmp 14) rfl (w.heap.size + 1) v2 T1 [32] (some ⟨w2.heap.size, 0, none⟩) 1 rfl (HO2.out.ext (Ext.alloc (Ext.refl _) _)) rfl (Rd_new w2 (bvs [32]) 5 1 1 rfl (by unfold maxLen; omega)) ?_ ?_ ?_)
  · have := HL1.out; simp; omega
  · have := HE2.out.size; have := HS0.out; simp; omega
  intro v3 w3 hO hK
  obtain ⟨T2, hT2⟩ : ∃ T2 : List UInt8, T2 = T1 ++ [32] := ⟨_, rfl⟩
  rw [← hT2] at hO
  have HT2 := Lib.hid hT2
  have HL2 : Hid (T2.length ≤ 40) := Lib.hid (by rw [hT2, List.length_append]; have := HL1.out; simp; omega)
  clear hT2
  have HO3 := Lib.hid hO
  have HE3 := Lib.hid (hK W0 (HE2.out.alloc (.cells (bvs [32]).toArray 5)) (Nat.le_of_eq HS0.out))
  clear hO hK HE2 HO2
  obtain ⟨p0, p1, p2, p3⟩ := (B0.out.ext HE3.out).four
  go_wp2_with fail
  refine (itoa_any H (by omega) (by omega) _ (HT.out.ext (hE0.out.trans HE3.out))).mono ?_
  rintro e w4 ⟨rfl, hE⟩
  have HO4 := Lib.hid (HO3.out.ext hE)
  have HE4 := Lib.hid (HE3.out.trans hE)
  rw [← HS2.out]
  clear hE HO3 HE3 p0 p1 p2 p3
  go_wp2_with (refine wpList_append_text rfl (.tmp 16) (.tmp 19) rfl (w.heap.size + 1) v3 T2 S2 rfl HO4.out rfl ?_ ?_ ?_)
  · have := HL2.out; have := I2.out; omega
  · have := HE4.out.size; have := HS0.out; omega
  intro v5 w5 hO hK
  obtain ⟨T3, hT3⟩ : ∃ T3 : List UInt8, T3 = T2 ++ S2 := ⟨_, rfl⟩
  rw [← hT3] at hO
  have HT3 := Lib.hid hT3
  have HL3 : Hid (T3.length ≤ 70) := Lib.hid (by rw [hT3, List.length_append]; have := HL2.out; have := I2.out; omega)
  clear hT3
  have HO5 := Lib.hid hO
  have HE5 := Lib.hid (hK W0 HE4.out (Nat.le_of_eq HS0.out))
  clear hO hK HO4 HE4
  go_wp2_with (refine wpList_append_text rfl (.tmp 21) (.const (.string ⟨#[10, 50, 53, 53, 10]⟩)) rfl (w.heap.size + 1) v5 T3 [10, 50, 53, 53, 10] rfl HO5.out rfl ?_ ?_ ?_)
  · have := HL3.out; simp; omega
  · have := HE5.out.size; have := HS0.out; omega
  intro v6 w6 hO hK
  have HO6 := Lib.hid hO
  have HE6 := Lib.hid (hK W0 HE5.out (Nat.le_of_eq HS0.out))
  clear hO hK HO5 HE5
  obtain ⟨acc0, ha0⟩ : ∃ acc, acc = T3 ++ [10, 50, 53, 53, 10] := ⟨_, rfl⟩
  rw [← ha0] at HO6
  have HA0 : Hid (acc0 ++ rows C W H = F) := Lib.hid (by rw [HF.out, ha0, HT3.out, HT2.out, HT1.out, HT0.out, HS1.out, HS2.out]; rfl)
  have HLA : Hid (F.length ≤ 20000) := Lib.hid (by
    rw [← HA0.out, ha0]
    have h1 := HL3.out; have h3 := rows_len (C := C) (W := W) (y := H) (by rw [HCL.out]; exact Nat.le_refl _)
    have h4 := H4.out; have h5 := HCL.out
    simp only [List.length_append, List.length_cons, List.length_nil]
    omega)
  clear ha0
  obtain ⟨p0, p1, p2, p3⟩ := (B0.out.ext HE6.out).four
  go_wp2_with fail
  clear p0 p1 p2 p3
  have HCr : Hid (∀ wr, Ext W0 wr → Rd wr 1 a cl c (ivs C)) := Lib.hid (fun wr he => by rw [HCC.out]; exact (HC.out.ext hE0.out).ext he)
  have HLP : Hid (0 < F.length) := Lib.hid (by rw [HF.out]; simp [enc])
  clear HF HT HT0 HT1 HT2 HT3 HS1 HS2 I1 I2 HL1 HL2
  go_loopw [3, 4, 6, 43] (fun o y _ _ wr => ∃ (k : Nat) (vo : Value) (acc : List UInt8), k ≤ H ∧ vo = o ∧ y = .int .i64 ((k : Int) - 1) ∧ Hid (Own (w.heap.size + 1) vo acc wr) ∧ Hid (acc ++ rows C W k = F) ∧ Hid (Ext W0 wr)) (fun _ y _ _ _ => (intOf y + 1).toNat)
  case atStart => exact ⟨H, v6, acc0, Nat.le_refl _, rfl, rfl, HO6, HA0, HE6⟩
  case round =>
    clear HO6 HA0 HE6
    obtain ⟨k, vo, acc, hk, rfl, rfl, HO, HA, HE⟩ := hrel
    rcases k with _ | k
    · have hy : ((0 : Nat) : Int) - 1 = -1 := by decide
      rw [hy]
      clear hy
      have hF : acc = F := by rw [← HA.out]; simp [rows]
      subst hF
      have hpos : 0 < acc.length := HLP.out
      obtain ⟨av, cv, rfl, hr⟩ := ownsRow_rd HO.out
      have kt := run_text hr hpos
      have HEw := Lib.hid (hE0.out.trans HE.out)
      clear hr HA HO
      go_wp2_with fail
      go_returns
      exact ⟨rfl, HEw.out⟩
    · have hy : ((k + 1 : Nat) : Int) - 1 = k := by omega
      rw [hy]
      have HY := Lib.hid hy
      clear hy
      have hkw : (k + 1) * W ≤ 4000 := by
        have h1 := H4.out; have h2 := HCL.out
        have h3 : (k + 1) * W ≤ H * W := Nat.mul_le_mul_right W hk
        omega
      have hkc : (k + 1) * W ≤ cl := by
        have h2 := HCL.out; have h4 := HCC.out
        have h3 : (k + 1) * W ≤ H * W := Nat.mul_le_mul_right W hk
        omega
      have hks : (k + 1) * W = k * W + W := Nat.succ_mul k W
      have c1 : ((k * W : Nat) : Int) = (k : Int) * W := by simp
      have c2 : (((k + 1) * W : Nat) : Int) = ((k : Int) + 1) * W := by simp
      obtain ⟨sa, rs, qs⟩ := part2_ex Tryd.underlying22 size_int (HCr.out _ (Ext.refl W0)) ((k : Int) * W) (((k : Int) + 1) * W) (k * W) ((k + 1) * W) W (c - k * W) c1.symm c2.symm (by omega) hkc (by omega) rfl
      obtain ⟨R, hR⟩ : ∃ R, R = (C.drop (k * W)).take W := ⟨_, rfl⟩
      have hq : Rd W0 1 sa W (c - k * W) (ivs R) := by
        rw [hR, ivs, List.map_take, List.map_drop]
        have := qs
        rwa [Nat.mul_one, Nat.mul_one] at this
      have HQ := Lib.hid hq
      have HR := Lib.hid hR
      have HRL : Hid (R.length = W) := Lib.hid (rdl hq)
      have HRP : Hid (∀ x ∈ R, 0 ≤ x ∧ x ≤ 4294967295) := Lib.hid (fun x hx => by
        rw [hR] at hx
        obtain ⟨i, hi, he⟩ := List.mem_iff_getElem.1 (List.mem_of_mem_drop (List.mem_of_mem_take hx))
        have := HPX.out i hi
        rw [getD_at hi, he] at this
        exact this)
      have HA1 : Hid (acc ++ (R.flatMap px ++ rows C W k) = F) := Lib.hid (by rw [← HA.out, hR]; rfl)
      have m1 : 0 ≤ (k : Int) * W := by omega
      have m2 : (k : Int) * W ≤ 4000 := by omega
      have m3 : 0 ≤ ((k : Int) + 1) * W := by omega
      have m4 : ((k : Int) + 1) * W ≤ 4000 := by omega
      clear hq hR qs hkw hkc hks c1 c2
      obtain ⟨p0, p1, p2, p3⟩ := (B0.out.ext HE.out).four
      obtain ⟨W1, rfl⟩ : ∃ W1 : World, W1 = wr := ⟨_, rfl⟩
      go_wp2_with fail
      clear rs m1 m2 m3 m4 p0 p1 p2 p3
      go_loopw [3, 6, 43] (fun o _ i wr => ∃ (j : Nat) (vo : Value) (acc : List UInt8), j ≤ W ∧ vo = o ∧ i = .int .i64 j ∧ Hid (Own (w.heap.size + 1) vo acc wr) ∧ Hid (acc ++ ((R.drop j).flatMap px ++ rows C W k) = F) ∧ Hid (Ext W0 wr)) (fun _ _ i _ => W - (intOf i).toNat)
      case atStart => exact ⟨0, vo, acc, Nat.zero_le _, rfl, rfl, HO, HA1, HE⟩
      case round =>
        clear HO HA1 HE HA
        obtain ⟨j, vo, acc, hj, rfl, rfl, HO, HA, HE⟩ := hrel
        by_cases hlt : j < W
        · have hq := HQ.out.ext HE.out
          obtain ⟨ba, oa, ha, -, -⟩ := hq.at_ (by omega)
          subst ha
          have hjl : j < R.length := by rw [HRL.out]; exact hlt
          have cc := int_at hq hjl
          obtain ⟨x, hx⟩ : ∃ x : Nat, (x : Int) = R.getD j 0 := by
            have := HRP.out _ (List.getElem_mem hjl)
            rw [← getD_at hjl] at this
            exact ⟨(R.getD j 0).toNat, by omega⟩
          rw [← hx] at cc
          have hx4 : x ≤ 4294967295 := by
            have := HRP.out _ (List.getElem_mem hjl)
            rw [← getD_at hjl] at this
            omega
          have HX := Lib.hid hx
          clear hx hq hjl
          go_wp2_with (refine wpList_append_bytes rfl (.tmp 47) (.tmp 57) rfl (w.heap.size + 1) vo acc (px x) (some ⟨wr.heap.size, 0, none⟩) 3 rfl ?_ rfl ?_ ?_ ?_ ?_)
          · exact HO.out.ext ((Ext.refl wr).alloc _)
          · have := Rd_new wr (bvs (px x)) 5 1 3 rfl (by unfold maxLen; omega)
            rw [px_cells hx4] at this ⊢
            exact this
          · have h1 := HLA.out
            have h2 : acc.length ≤ F.length := by rw [← HA.out, List.length_append]; omega
            rw [px_len]; omega
          · have := HE.out.size; have := HS0.out; simp; omega
          intro v7 w7 hO hK
          have hjl : j < R.length := by rw [HRL.out]; exact hlt
          have HA2 := Lib.hid (px_next hjl HX.out HA.out)
          obtain ⟨acc2, ha2⟩ : ∃ acc2, acc2 = acc ++ px x := ⟨_, rfl⟩
          have hO : Own (w.heap.size + 1) v7 acc2 w7 := by rw [ha2]; exact hO
          rw [← ha2] at HA2
          have HO2 := Lib.hid hO
          have HE2 := Lib.hid (hK W0 (HE.out.alloc _) (Nat.le_of_eq HS0.out))
          clear hO hK ha2 hjl cc HO HA HE
          go_wp2_with fail
          go_roundw
          case rel => first | exact ⟨j + 1, v7, acc2, by omega, rfl, by go_num, HO2, HA2, HE2⟩ | ((repeat apply Exists.intro); exact ⟨⟨j + 1, v7, acc2, by omega, rfl, by go_num, HO2, HA2, HE2⟩, rfl⟩)
          case measure => simp [intOf]; omega
        · obtain rfl : j = W := by omega
          have HA2 : Hid (acc ++ rows C j k = F) := Lib.hid (by
            rw [← HA.out, List.drop_of_length_le (by rw [HRL.out]; exact Nat.le_refl _)]
            simp)
          clear HA
          go_wp2_with fail
          go_roundw
          case rel => first | exact ⟨k, vo, acc, by omega, rfl, rfl, HO, HA2, HE⟩ | ((repeat apply Exists.intro); exact ⟨⟨k, vo, acc, by omega, rfl, rfl, HO, HA2, HE⟩, rfl⟩)
          case measure => first | (simp [intOf]; done) | (simp [intOf]; omega)
end Go.Proofs.YtpjkhnkbijpmnaaDoor
