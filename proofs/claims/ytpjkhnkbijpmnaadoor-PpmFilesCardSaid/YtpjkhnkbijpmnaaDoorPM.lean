/- Proof text: the file of an image, the document's answer (rastrumref28.Encode). By an AI agent. No condition beyond what each theorem states. -/
import Derived.Test.YtpjkhnkbijpmnaaDoorPL
set_option linter.unusedVariables false
set_option linter.unusedSimpArgs false
namespace Go.Proofs.YtpjkhnkbijpmnaaDoor
open Go.RowKit
/-- Bytes, as a string. -/
theorem wpList_text {w : World} {ops : Array Oper} {rest : List Oper} {o : Oper} {a : Act} {Q : Exit → Act → World → Prop} (hgd : o.guard = none) (x : Operand) (ho : o.op = .convert 33 9 x)
    (ao : Option Addr) (n c : Nat) (l : List UInt8) (hx : a.eval x = .slice ao n c) (hr : Rd w 1 ao n c (bvs l)) (hn : 0 < n) (h : wpList Tryd.prog ops Q rest (a.put o.dst (.string ⟨l.toArray⟩)) w) : wpList Tryd.prog ops Q (o :: rest) a w := by
  refine wpList_plain hgd fun K hK => ?_
  unfold Oper.wp execOp
  simp only [ho, hx, run_text hr hn, Sem.run_bind, Sem.run_pure, Result.andThen_ok]
  exact hK _ _ h
theorem px_cells2 {x : Nat} (h : x ≤ 4294967295) : bvs (px (x : Int)) = [.int .u8 ((x : Int) / 16777216 % 256), .int .u8 ((x : Int) / 65536 % 256), .int .u8 ((x : Int) / 256 % 256)] := by
  rw [px_cells h, show (x : Int) / 16777216 = (x : Int) / 16777216 % 256 by omega]
  simp
theorem row_at {C : List Int} {W k j : Nat} (hj : j < W) (hl : (k + 1) * W ≤ C.length) : ((C.drop (k * W)).take W).getD j 0 = C.getD (k * W + j) 0 ∧ ((C.drop (k * W)).take W).length = W := by
  have e : (k + 1) * W = k * W + W := Nat.succ_mul k W
  refine ⟨?_, by rw [List.length_take, List.length_drop]; omega⟩
  rw [List.getD_eq_getElem?_getD, List.getD_eq_getElem?_getD, List.getElem?_take, if_pos hj, List.getElem?_drop]
set_option maxRecDepth 10000 in
set_option maxHeartbeats 1000000 in
theorem rencode_any (W H : Nat) (C Z : List Int) (v : Value) (w : World) (hv : ImR w v ⟨W, H, C, Z⟩) (hok : (⟨W, H, C, Z⟩ : Im).Small) (hT : Tb w) :
    Calls Tryd.prog 10 #[v] w fun e w' => e = .returned (.string ⟨(enc ⟨W, H, C, Z⟩).toArray⟩) ∧ Ext w w' := by
  have HV := Lib.hid hv
  obtain ⟨a, b, c, d, rfl, hC, hZ⟩ := hv
  have HOK := Lib.hid hok.2.2
  obtain ⟨h400, -, hok⟩ := hok
  have hW1 : 1 ≤ W := by have := hok.1; simp at this; omega
  have hW2 : W ≤ 1024 := by have := hok.2.1; simp at this; omega
  have hH1 : 1 ≤ H := by have := hok.2.2.1; simp at this; omega
  have hH2 : H ≤ 1024 := by have := hok.2.2.2.1; simp at this; omega
  have hCl : C.length = H * W := by have := hok.2.2.2.2.1; simp at this; rw [← Int.natCast_mul] at this; rw [Nat.mul_comm]; omega
  have hpix : ∀ i, i < C.length → 0 ≤ C.getD i 0 ∧ C.getD i 0 ≤ 4294967295 := fun i hi => (hok.2.2.2.2.2.2 i hi).1
  simp only [] at hC hZ h400
  have HT := Lib.hid hT
  have HPX := Lib.hid hpix
  have HCL := Lib.hid hCl
  have H4 := Lib.hid h400
  obtain ⟨dl, hdl⟩ : ∃ dl, dl = Z.length := ⟨_, rfl⟩
  obtain ⟨cl, hcl⟩ : ∃ cl, cl = C.length := ⟨_, rfl⟩
  simp only [← hdl, ← hcl] at HV ⊢
  obtain ⟨F, hF⟩ : ∃ F, F = enc ⟨W, H, C, Z⟩ := ⟨_, rfl⟩
  have HF := Lib.hid hF
  rw [← hF]
  have B0 := Lib.hid (Blk.new w 24 #[.int .i64 W, .int .i64 H, .slice a cl c, .slice b dl d])
  have hE0 := Lib.hid ((Ext.refl w).alloc (.cells #[.int .i64 W, .int .i64 H, .slice a cl c, .slice b dl d] 24))
  have HI1 := Lib.hid (fun (x : World) (hx : Ext w x) => itoa_any W (by omega) (by omega) x (hT.ext hx))
  have HI2 := Lib.hid (fun (x : World) (hx : Ext w x) => itoa_any H (by omega) (by omega) x (hT.ext hx))
  have hl1 := itoa_len W (by omega) (by omega)
  have hl2 := itoa_len H (by omega) (by omega)
  obtain ⟨S1, hS1⟩ : ∃ S1 : List UInt8, S1 = Lib.itoa W := ⟨_, rfl⟩
  obtain ⟨S2, hS2⟩ : ∃ S2 : List UInt8, S2 = Lib.itoa H := ⟨_, rfl⟩
  rw [← hS1] at hl1 HI1
  rw [← hS2] at hl2 HI2
  have HS1 := Lib.hid hS1; have HS2 := Lib.hid hS2
  have L1 := Lib.hid hl1; have L2 := Lib.hid hl2
  clear hC hZ h400 hok hT hCl hpix hdl hcl hF hS1 hS2 hl1 hl2
  go_enter Tryd.func10, Tryd.ntmps10
  go_upto_region 1 with fail
  generalize w.alloc (.cells #[.int .i64 W, .int .i64 H, .slice a cl c, .slice b dl d] 24) = W0 at B0 hE0 ⊢
  obtain ⟨p0, p1, p2, p3⟩ := B0.out.four
  have hl1 := L1.out
  have hl2 := L2.out
  refine wp_region_later (by kernel_rfl) (by kernel_rfl) ?_
  repeat (go_big_quiet_step ((first | (go_at_call 15; with_reducible exact Calls.later _ (HI1.out _ (hE0.out.later _))) | (go_at_call 15; with_reducible exact Calls.later _ (HI2.out _ (hE0.out.later _))))))
  refine wpQuiet_nil ?_
  intro y
  obtain ⟨acc0, ha0⟩ : ∃ acc, acc = [80, 54, 10] ++ S1 ++ [32] ++ S2 ++ [10, 50, 53, 53, 10] := ⟨_, rfl⟩
  have hs0 : ((⟨#[80, 54, 10]⟩ : ByteArray) ++ ⟨S1.toArray⟩ ++ ⟨#[32]⟩ ++ ⟨S2.toArray⟩ ++ ⟨#[10, 50, 53, 53, 10]⟩) = ⟨acc0.toArray⟩ := by
    rw [ha0, ← ByteArray.mk_append_mk, ← ByteArray.mk_append_mk, ← ByteArray.mk_append_mk, ← ByteArray.mk_append_mk]
  rw [hs0]
  have HA0 : Hid (acc0 ++ rows C W H = F) := Lib.hid (by rw [HF.out, ha0, HS1.out, HS2.out]; rfl)
  have HLA : Hid (F.length ≤ 2000) := Lib.hid (by
    rw [← HA0.out, ha0]
    have h1 := L1.out; have h2 := L2.out; have h3 := rows_len (C := C) (W := W) (y := H) (by rw [HCL.out]; exact Nat.le_refl _)
    have h4 := H4.out; have h5 := HCL.out
    simp only [List.length_append, List.length_cons, List.length_nil]
    omega)
  have HE6 := Lib.hid y.ext
  obtain ⟨w6, hw6⟩ : ∃ w6, w6 = y.w := ⟨_, rfl⟩
  rw [← hw6] at HE6 ⊢
  clear hs0 ha0 p0 p1 p2 p3 hl1 hl2 hw6 y HI1 HI2 L1 L2 HS1 HS2 HT
  obtain ⟨p0, p1, p2, p3⟩ := (B0.out.ext HE6.out).four
  go_wp2_with fail
  clear p0 p1 p2 p3
  go_loopw [3, 4, 5, 6, 7, 8] (fun s y _ _ _ _ wr => ∃ (k : Nat) (acc : List UInt8), k ≤ H ∧ s = .string ⟨acc.toArray⟩ ∧ y = .int .i64 ((k : Int) - 1) ∧ Hid (acc ++ rows C W k = F) ∧ Hid (Ext W0 wr)) (fun _ y _ _ _ _ _ => (intOf y + 1).toNat)
  case atStart => exact ⟨H, acc0, Nat.le_refl _, rfl, rfl, HA0, HE6⟩
  case round =>
    clear HA0 HE6
    obtain ⟨k, acc, hk, rfl, rfl, HA, HE⟩ := hrel
    rcases k with _ | k
    · have hy : ((0 : Nat) : Int) - 1 = -1 := by decide
      rw [hy]
      clear hy
      have hF : acc = F := by rw [← HA.out]; simp [rows]
      subst hF
      have HEw := Lib.hid (hE0.out.trans HE.out)
      clear HA
      go_wp2_with fail
      go_returns
      exact ⟨rfl, HEw.out⟩
    · have hy : ((k + 1 : Nat) : Int) - 1 = k := by omega
      rw [hy]
      clear hy
      have hkc : Hid ((k + 1) * W ≤ C.length) := Lib.hid (by
        have h2 := HCL.out
        have h3 : (k + 1) * W ≤ H * W := Nat.mul_le_mul_right W hk
        omega)
      have HA1 : Hid (acc ++ ((((C.drop (k * W)).take W).drop 0).flatMap px ++ rows C W k) = F) := Lib.hid (by rw [← HA.out]; rfl)
      clear HA
      go_wp2_with fail
      go_loopw [3, 5, 6, 7, 8] (fun s i _ _ _ wr => ∃ (j : Nat) (acc : List UInt8), j ≤ W ∧ s = .string ⟨acc.toArray⟩ ∧ i = .int .i64 j ∧ Hid (acc ++ ((((C.drop (k * W)).take W).drop j).flatMap px ++ rows C W k) = F) ∧ Hid (Ext W0 wr)) (fun _ i _ _ _ _ => W - (intOf i).toNat)
      case atStart => exact ⟨0, acc, Nat.zero_le _, rfl, rfl, HA1, HE⟩
      case round =>
        clear HA1 HE
        obtain ⟨j, acc, hj, rfl, rfl, HA, HE⟩ := hrel
        obtain ⟨p0, p1, p2, p3⟩ := (B0.out.ext HE.out).four
        by_cases hlt : j < W
        · obtain ⟨x, hx⟩ : ∃ x : Nat, C.getD (k * W + j) 0 = x := by
            have hil : k * W + j < C.length := by have := hkc.out; have e : (k + 1) * W = k * W + W := Nat.succ_mul k W; omega
            have := HPX.out _ hil
            exact ⟨(C.getD (k * W + j) 0).toNat, by omega⟩
          have hx4 : x ≤ 4294967295 := by
            have hil : k * W + j < C.length := by have := hkc.out; have e : (k + 1) * W = k * W + W := Nat.succ_mul k W; omega
            have := HPX.out _ hil
            omega
          have GT := Lib.hid (fun (x' : World) (hx' : Ext w x') => rget_any ⟨W, H, C, Z⟩ _ j k (k * W + j) x' (HV.out.ext hx') HOK.out (by simpa using hlt) (by simp; omega) (by simp) (by have := hkc.out; have e : (k + 1) * W = k * W + W := Nat.succ_mul k W; simp; omega) x hx)
          have HX := Lib.hid hx
          clear hx
          obtain ⟨W1, rfl⟩ : ∃ W1 : World, W1 = wr := ⟨_, rfl⟩
          go_wp2_with fail
          refine (GT.out _ (hE0.out.trans HE.out)).mono ?_
          rintro e w7 ⟨rfl, hE⟩
          have HE7 := Lib.hid (HE.out.trans hE)
          have hla : acc.length ≤ 2000 := by
            have h1 := HLA.out
            have h2 : acc.length ≤ F.length := by rw [← HA.out, List.length_append]; omega
            omega
          have b6 := Blk.new w7 37 (col4 ((x : Int) / 16777216 % 256) ((x : Int) / 65536 % 256) ((x : Int) / 256 % 256) ((x : Int) % 256))
          clear hE p0 p1 p2 p3 GT
          obtain ⟨q0, q1, q2, q3⟩ := b6.four
          clear b6
          have hp3 : (px (x : Int)).length ≤ 3 := Nat.le_refl 3
          go_wp2_with (refine wpList_text rfl (.tmp 50) rfl (some ⟨w7.heap.size + 1, 0, none⟩) 3 3 (px x) rfl ?_ (by decide) ?_)
          · have h3 := Rd_new (w7.alloc (.cells (col4 ((x : Int) / 16777216 % 256) ((x : Int) / 65536 % 256) ((x : Int) / 256 % 256) ((x : Int) % 256)) 37)) (bvs (px x)) 5 1 3 rfl (by unfold maxLen; omega)
            rw [px_cells2 hx4, World.size_alloc] at h3
            rw [px_cells2 hx4]
            exact h3
          clear q0 q1 q2 q3
          have HA2 : Hid ((acc ++ px x) ++ ((((C.drop (k * W)).take W).drop (j + 1)).flatMap px ++ rows C W k) = F) := Lib.hid (px_next (by rw [(row_at hlt hkc.out).2]; exact hlt) (by rw [(row_at hlt hkc.out).1, HX.out]) HA.out)
          obtain ⟨acc2, ha2⟩ : ∃ acc2, acc2 = acc ++ px x := ⟨_, rfl⟩
          rw [← ha2] at HA2
          have hadd : ((⟨acc.toArray⟩ : ByteArray) ++ ⟨(px x).toArray⟩) = ⟨acc2.toArray⟩ := by rw [ha2, ByteArray.mk_append_mk]
          have HADD := Lib.hid hadd
          have HE8 := Lib.hid ((HE7.out.alloc (.cells #[.int .i64 ((x : Int) / 16777216 % 256), .int .i64 ((x : Int) / 65536 % 256), .int .i64 ((x : Int) / 256 % 256), .int .i64 ((x : Int) % 256)] 37)).alloc (.cells #[.int .u8 ((x : Int) / 16777216 % 256), .int .u8 ((x : Int) / 65536 % 256), .int .u8 ((x : Int) / 256 % 256)] 5))
          clear ha2 hadd HA HE7 HE
          go_wp2_with fail
          go_roundw
          case rel => first | exact ⟨j + 1, acc2, by omega, by rw [HADD.out], by go_num, HA2, HE8⟩ | ((repeat apply Exists.intro); exact ⟨⟨j + 1, acc2, by omega, by rw [HADD.out], by go_num, HA2, HE8⟩, rfl⟩)
          case measure => simp [intOf]; omega
        · obtain rfl : j = W := by omega
          have HA2 : Hid (acc ++ rows C j k = F) := Lib.hid (by
            rw [← HA.out, List.drop_of_length_le (by rw [List.length_take]; omega)]
            simp)
          clear HA
          go_wp2_with fail
          clear p0 p1 p2 p3
          go_roundw
          case rel => first | exact ⟨k, acc, by omega, rfl, rfl, HA2, HE⟩ | ((repeat apply Exists.intro); exact ⟨⟨k, acc, by omega, rfl, rfl, HA2, HE⟩, rfl⟩)
          case measure => first | (simp [intOf]; done) | (simp [intOf]; omega)
end Go.Proofs.YtpjkhnkbijpmnaaDoor
