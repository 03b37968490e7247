/- Proof text: layer 28's example. By an AI agent. No condition beyond what each theorem states. -/
import Derived.Test.YtpjkhnkbijpmnaaDoorPR
set_option linter.unusedVariables false
set_option linter.unusedSimpArgs false
namespace Go.Proofs.YtpjkhnkbijpmnaaDoor
open Go.RowKit
def exText : ByteArray := ⟨#[80, 54, 10, 49, 32, 49, 10, 50, 53, 53, 10, 65, 66, 67]⟩
def exIm : Im := ⟨(1 : Nat), (1 : Nat), [1090519040], [0]⟩
theorem ex_decE : decE exText = 0 := by kernel_rfl
theorem ex_decIm : decIm exText = ⟨(1 : Nat), (1 : Nat), [1094861823], [16777215]⟩ := by kernel_rfl
theorem itoa_one : Lib.itoa ((1 : Nat) : Int) = [49] := by
  rw [Lib.itoa_nonneg, Lib.decDigits_one (by decide)]
  rfl
theorem ex_enc : enc exIm = [80, 54, 10, 49, 32, 49, 10, 50, 53, 53, 10, 65, 0, 0] := by
  unfold enc exIm
  rw [itoa_one]
  rfl
theorem ex_small : exIm.Small := by
  refine ⟨by decide, by decide, by decide, by decide, by decide, by decide, by decide, by decide, ?_⟩
  intro i hi
  obtain rfl : i = 0 := by simp [exIm] at hi; exact hi
  decide
set_option maxRecDepth 10000 in
set_option maxHeartbeats 1000000 in
theorem awake28 (w : World) (hT : Tb w) : Calls Tryd.prog 7 #[] w fun e w' => e = .returned (.bool true) ∧ Ext w w' := by
  have HT := Lib.hid hT
  have hE0 : Ext w (((w.alloc (.cells #[.int .i64 1090519040] 3)).alloc (.cells #[.int .i64 0] 3)).alloc (.cells #[.int .i64 1, .int .i64 1, .slice (some ⟨w.heap.size, 0, none⟩) 1 1, .slice (some ⟨w.heap.size + 1, 0, none⟩) 1 1] 24)) := by (repeat (first | with_reducible exact Ext.refl _ | with_reducible assumption | with_reducible refine Ext.alloc ?_ _ | with_reducible refine Ext.drew ?_ | with_reducible refine Ext.drewN ?_ _ | with_reducible refine Ext.later ?_ _ | (with_reducible refine Ext.setCell ?_ _ ?hp; case hp => first | (simp; done) | (simp; omega) | omega)))
  have r1 : Rd (((w.alloc (.cells #[.int .i64 1090519040] 3)).alloc (.cells #[.int .i64 0] 3)).alloc (.cells #[.int .i64 1, .int .i64 1, .slice (some ⟨w.heap.size, 0, none⟩) 1 1, .slice (some ⟨w.heap.size + 1, 0, none⟩) 1 1] 24)) 1 (some ⟨w.heap.size, 0, none⟩) 1 1 (ivs [1090519040]) :=
    (Rd_new w (ivs [1090519040]) 3 1 1 rfl (by unfold maxLen; omega)).ext (((Ext.refl _).alloc _).alloc _)
  have r2 : Rd (((w.alloc (.cells #[.int .i64 1090519040] 3)).alloc (.cells #[.int .i64 0] 3)).alloc (.cells #[.int .i64 1, .int .i64 1, .slice (some ⟨w.heap.size, 0, none⟩) 1 1, .slice (some ⟨w.heap.size + 1, 0, none⟩) 1 1] 24)) 1 (some ⟨w.heap.size + 1, 0, none⟩) 1 1 (ivs [0]) := by
    have := (Rd_new (w.alloc (.cells #[.int .i64 1090519040] 3)) (ivs [0]) 3 1 1 rfl (by unfold maxLen; omega)).ext ((Ext.refl _).alloc (.cells #[.int .i64 1, .int .i64 1, .slice (some ⟨w.heap.size, 0, none⟩) 1 1, .slice (some ⟨w.heap.size + 1, 0, none⟩) 1 1] 24))
    rw [World.size_alloc] at this
    exact this
  have b1 : Blk (((w.alloc (.cells #[.int .i64 1090519040] 3)).alloc (.cells #[.int .i64 0] 3)).alloc (.cells #[.int .i64 1, .int .i64 1, .slice (some ⟨w.heap.size, 0, none⟩) 1 1, .slice (some ⟨w.heap.size + 1, 0, none⟩) 1 1] 24)) (w.heap.size + 1 + 1) 24 #[.int .i64 1, .int .i64 1, .slice (some ⟨w.heap.size, 0, none⟩) 1 1, .slice (some ⟨w.heap.size + 1, 0, none⟩) 1 1] := Blk.new' _ _ _ (by simp)
  have HE0 := Lib.hid hE0
  have HV : Hid (ImR (((w.alloc (.cells #[.int .i64 1090519040] 3)).alloc (.cells #[.int .i64 0] 3)).alloc (.cells #[.int .i64 1, .int .i64 1, .slice (some ⟨w.heap.size, 0, none⟩) 1 1, .slice (some ⟨w.heap.size + 1, 0, none⟩) 1 1] 24)) (.agg #[.int .i64 1, .int .i64 1, .slice (some ⟨w.heap.size, 0, none⟩) 1 1, .slice (some ⟨w.heap.size + 1, 0, none⟩) 1 1]) exIm) := Lib.hid ⟨_, _, 1, 1, rfl, r1, r2⟩
  have HB := Lib.hid b1
  clear hT hE0 r1 r2 b1
  go_enter Tryd.func7, Tryd.ntmps7
  go_wp2_with fail
  refine (decode_any exText _ (by decide)).mono ?_
  generalize (((w.alloc (.cells #[.int .i64 1090519040] 3)).alloc (.cells #[.int .i64 0] 3)).alloc (.cells #[.int .i64 1, .int .i64 1, .slice (some ⟨w.heap.size, 0, none⟩) 1 1, .slice (some ⟨w.heap.size + 1, 0, none⟩) 1 1] 24)) = W0 at HE0 HV HB ⊢
  rintro e w1 ⟨v, rfl, hv, hE⟩
  rw [ex_decE]
  rw [ex_decIm] at hv
  obtain ⟨a, b, c, d, rfl, hC, hZ⟩ := hv
  simp only [List.length_cons, List.length_nil, Nat.zero_add] at hC hZ ⊢
  rw [show ((1 : Nat) : Int) = 1 from rfl]
  obtain ⟨ba, oa, rfl, -, -⟩ := hC.at_ (by omega)
  have HC := Lib.hid hC
  have HEa := Lib.hid ((HE0.out.trans hE).alloc (.cells #[.int .i64 1, .int .i64 1, .slice (some ⟨ba, oa, none⟩) 1 c, .slice b 1 d] 24))
  have HVa := Lib.hid ((HV.out.ext hE).ext ((Ext.refl _).alloc (.cells #[.int .i64 1, .int .i64 1, .slice (some ⟨ba, oa, none⟩) 1 c, .slice b 1 d] 24)))
  have HB1 := Lib.hid ((HB.out.ext hE).alloc (.cells #[.int .i64 1, .int .i64 1, .slice (some ⟨ba, oa, none⟩) 1 c, .slice b 1 d] 24))
  obtain ⟨p0, p1, p2, p3⟩ := HB1.out.four
  clear hC hZ hE HE0 HV HB
  go_wp2_with fail
  have EN := Lib.hid (encode_any 1 1 [1090519040] [0] _ _ HVa.out (by decide) ex_small.2.2 (HT.out.ext HEa.out))
  refine EN.out.mono ?_
  rintro e w2 ⟨rfl, hE⟩
  have he : (⟨(enc ⟨(1 : Nat), (1 : Nat), [1090519040], [0]⟩).toArray⟩ : ByteArray) = ⟨#[80, 54, 10, 49, 32, 49, 10, 50, 53, 53, 10, 65, 0, 0]⟩ := by
    have := ex_enc
    unfold exIm at this
    rw [this]
  rw [he]
  clear he EN
  have B2 := (Blk.new w1 24 #[.int .i64 1, .int .i64 1, .slice (some ⟨ba, oa, none⟩) 1 c, .slice b 1 d]).ext hE
  obtain ⟨-, -, q2, -⟩ := B2.four
  have cc := int_at (j := 0) ((HC.out.ext ((Ext.refl _).alloc _)).ext hE) (by decide)
  rw [Nat.add_zero] at cc
  have cc : w2.cell? ⟨ba, oa, none⟩ = some (.int .i64 1094861823) := cc
  have HE2 := Lib.hid (HEa.out.trans hE)
  clear B2 hE p0 p1 p2 p3
  go_wp2_with fail
  go_returns
  exact ⟨rfl, HE2.out⟩
end Go.Proofs.YtpjkhnkbijpmnaaDoor
