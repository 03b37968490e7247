/- Proof text: back to 128 bits (rastrumref02.To). By an AI agent. No condition beyond what each theorem states. -/
import Derived.Test.YtibhfclkdbmmoaaNJ
set_option linter.unusedVariables false
set_option linter.unusedSimpArgs false
namespace Go.Proofs.Ytibhfclkdbmmoaa
open Go.RowKit
/-- n bits from the k-th on. -/
def seg (l : List Bool) (k n : Nat) : Nat := low (l.drop k) n
theorem seg_zero (l : List Bool) (k : Nat) : seg l k 0 = 0 := low_zero _
theorem bt_drop (l : List Bool) (k i : Nat) : bt (l.drop k) i = bt l (k + i) := by simp [bt, List.getD_eq_getElem?_getD, List.getElem?_drop]
theorem low_cons (b : Bool) (l : List Bool) (n : Nat) : low (b :: l) (n + 1) = b.toNat + 2 * low l n := by simp [low, bval]
theorem low_nil (n : Nat) : low [] n = 0 := by simp [low, bval]
theorem seg_step (l : List Bool) (k n : Nat) : seg l k (n + 1) = (bt l k).toNat + 2 * seg l (k + 1) n := by
  rcases Nat.lt_or_ge k l.length with h | h
  · rw [seg, List.drop_eq_getElem_cons h, low_cons, bt_of (List.getElem?_eq_getElem h)]; rfl
  · rw [seg, seg, List.drop_of_length_le h, List.drop_of_length_le (by omega), bt_past h, low_nil, low_nil]; rfl
theorem seg_lt (l : List Bool) (k n : Nat) : seg l k n < 2 ^ n := low_lt _ _
theorem two_segs {l : List Bool} (h : bval l < 2 ^ (64 + 64)) : bval l = seg l 0 64 + 18446744073709551616 * seg l 64 64 := by
  have h1 := low_high l 64
  have h2 := low_high (l.drop 64) 64
  rw [List.drop_drop] at h2
  have e : (2 : Nat) ^ 64 = 18446744073709551616 := by decide
  have e2 : (2 : Nat) ^ (64 + 64) = 340282366920938463463374607431768211456 := by decide
  rw [e] at h1 h2
  rw [e2] at h
  show bval l = low (l.drop 0) 64 + 18446744073709551616 * low (l.drop 64) 64
  rw [List.drop_zero]
  have h3 := low_lt (l.drop 64) 64
  rcases Nat.eq_zero_or_pos (bval (l.drop (64 + 64))) with h0 | h0
  · rw [h0] at h2; omega
  · exfalso; omega
/-- What one step of a word's walk needs. -/
theorem seg_facts {l : List Bool} {k n : Nat} (hn : n < 64) (z : Int) (hz : bN (bt l k) = z) :
    IntKind.u64.wrap ((seg l (k + 1) n : Int) * 2) = (seg l (k + 1) n : Int) * 2 ∧ IntKind.u64.wrap z = z ∧ IntKind.u64.wrap ((seg l (k + 1) n : Int) * 2 + z) = seg l k (n + 1) ∧ (seg l (k + 1) n : Int) * 2 + z = seg l k (n + 1) := by
  have h1 := seg_lt l (k + 1) n
  have h2 : (2 : Nat) ^ n ≤ 2 ^ 63 := Nat.pow_le_pow_right (by decide) (by omega)
  have e : (2 : Nat) ^ 63 = 9223372036854775808 := by decide
  have h3 := seg_step l k n
  have h4 := toNat_le (bt l k)
  rw [bN_nat] at hz
  rw [IntKind.wrap_u64, IntKind.wrap_u64, IntKind.wrap_u64]
  omega
theorem to_word {B L U : Nat} {z : Int} (h1 : B = L + 18446744073709551616 * U) (h2 : (B : Int) = z % 340282366920938463463374607431768211456) (hL : L < 18446744073709551616) (hU : U < 18446744073709551616) (h3 : -170141183460469231731687303715884105728 ≤ z) (h4 : z < 170141183460469231731687303715884105728) :
    IntKind.i64.wrap (U : Int) = hi z ∧ (L : Int) = lo z := by
  rw [IntKind.wrap_i64]
  unfold hi lo
  omega
theorem len_zero_le {l : List Bool} {n : Nat} (h : Canon l) (hb : bval l < 2 ^ n) : l.length ≤ n := canon_len h hb
theorem sg_true_val {z : Int} {x : Nat} (h : z = sg true x) : z = -(x : Int) := h
theorem sg_false_val {z : Int} {x : Nat} (h : z = sg false x) : z = (x : Int) := h
theorem two127 : (2 : Nat) ^ 127 = 170141183460469231731687303715884105728 := by decide
theorem top_bit {l : List Bool} (h1 : 170141183460469231731687303715884105728 ≤ bval l) (h2 : bval l < 340282366920938463463374607431768211456) : bt l 127 = true := by
  have h3 := low_high l 127
  have h4 := low_lt l 127
  have h5 := high_succ l 127
  rw [two127] at h3 h4
  cases hb : bt l 127
  · rw [hb] at h5
    simp only [Bool.toNat_false] at h5
    omega
  · rfl
set_option maxRecDepth 10000 in
set_option maxHeartbeats 4000000 in
theorem to_any (v1 : Value) (z : Int) (w : World) (h1 : NumV w v1 z) (g1 : -170141183460469231731687303715884105728 ≤ z) (g2 : z < 170141183460469231731687303715884105728) :
    Calls Try.prog 48 #[v1] w fun e w' => e = .returned (.tuple #[I z, .bool true]) ∧ Ext w w' := by
  have hb : z.natAbs < 2 ^ 128 := by
    have e : (2 : Nat) ^ 128 = 340282366920938463463374607431768211456 := by decide
    rw [e]; omega
  obtain ⟨m, a, n, c, l, rfl, r1, hn, hz, hcn, hne⟩ := h1.opened hb
  have H1 := Lib.hid r1
  have N1 := Lib.hid hn
  have HC := Lib.hid hcn
  have HN := Lib.hid hne
  have L1 := Lib.hid (rd_len r1)
  have G1 := Lib.hid g1; have G2 := Lib.hid g2
  have hzv : Hid (z = sg m (bval l)) := Lib.hid hz
  show Calls Try.prog 48 #[.agg #[.bool m, .slice a n c]] w fun e w' => e = .returned (.tuple #[.agg #[.int .i64 (hi z), .int .u64 (lo z)], .bool true]) ∧ Ext w w'
  clear h1 hb r1 hn hcn hne g1 g2 hz
  rcases m with _ | _
  · have hbl : bval l < 2 ^ 127 := by have := sg_false_val hzv.out; have := G2.out; rw [two127]; omega
    have hnl : (n : Int) ≤ 127 := by have := canon_len HC.out hbl; rw [L1.out] at this; omega
    have HB : Hid (bval l < 2 ^ (64 + 64) ∧ (bval l : Int) = z % 340282366920938463463374607431768211456) := Lib.hid (by
      have := sg_false_val hzv.out; have := G2.out
      rw [two127] at hbl
      rw [two128_lit]; omega)
    clear hbl
    go_enter Try.func48, Try.ntmps48
    go_upto_region 10 with fail
    have HE : Hid (Ext w ((w.alloc (.cells #[.bool false, .slice a n c] 78)).alloc (.cells #[.int .i64 0, .int .u64 0] 69))) := Lib.hid (by (repeat (first | with_reducible exact Ext.refl _ | with_reducible assumption | with_reducible refine Ext.alloc ?_ _ | with_reducible refine Ext.drew ?_ | with_reducible refine Ext.drewN ?_ _ | with_reducible refine Ext.later ?_ _ | (with_reducible refine Ext.setCell ?_ _ ?hp; case hp => first | (simp; done) | (simp; omega) | omega))))
    have B3 : Hid (Blk ((w.alloc (.cells #[.bool false, .slice a n c] 78)).alloc (.cells #[.int .i64 0, .int .u64 0] 69)) (w.heap.size + 1) 69 #[.int .i64 0, .int .u64 0]) := Lib.hid (Blk.new' _ _ _ (by simp))
    have HR : Hid (Rd ((w.alloc (.cells #[.bool false, .slice a n c] 78)).alloc (.cells #[.int .i64 0, .int .u64 0] 69)) 1 a n c (brw l)) := Lib.hid (H1.out.ext HE.out)
    generalize ((w.alloc (.cells #[.bool false, .slice a n c] 78)).alloc (.cells #[.int .i64 0, .int .u64 0] 69)) = W at HE B3 HR ⊢
    clear H1 N1 HC HN L1 hzv hnl
    go_wp2_with fail
    go_loopw [5, 6, 7] (fun lv hv iv wr => ∃ k : Nat, k ≤ 64 ∧ lv = .int .u64 (seg l k (64 - k) : Nat) ∧ hv = .int .u64 (seg l (64 + k) (64 - k) : Nat) ∧ iv = .int .i64 ((k : Int) - 1) ∧ wr = W) (fun _ _ iv _ => (intOf iv + 1).toNat)
    case atStart => exact ⟨64, Nat.le_refl _, by rw [Nat.sub_self, seg_zero]; rfl, by rw [Nat.sub_self, seg_zero]; rfl, rfl, rfl⟩
    case round =>
      obtain ⟨k, hk, rfl, rfl, rfl, rfl⟩ := hrel
      rcases k with _ | i
      · obtain ⟨h1, h2⟩ := HB.out
        obtain ⟨y1, y2⟩ := to_word (two_segs h1) h2 (seg_lt _ _ 64) (seg_lt _ _ 64) G1.out G2.out
        obtain ⟨t0, t1, u0, u1⟩ := num2 B3.out
        obtain ⟨s0, s1⟩ := set2_same B3.out
        clear h1 h2 hk
        go_wp2_with fail
        try simp only [Exit.inBlock, Exit.then]
        refine bodyPost_ret (by simp [results, Try.results48, go_sem, s0, s1]; try rfl) rfl ?_
        have E := HE.out
        exact ⟨rfl, by (repeat (first | with_reducible exact Ext.refl _ | with_reducible assumption | with_reducible refine Ext.alloc ?_ _ | with_reducible refine Ext.drew ?_ | with_reducible refine Ext.drewN ?_ _ | with_reducible refine Ext.later ?_ _ | (with_reducible refine Ext.setCell ?_ _ ?hp; case hp => first | (simp; done) | (simp; omega) | omega)))⟩
      · have hi : ((i + 1 : Nat) : Int) - 1 = (i : Int) := by omega
        have hii : (i : Int) ≤ 63 := by omega
        have hi0 : (0 : Int) ≤ i := by omega
        obtain ⟨z1, hz1⟩ : ∃ z1, bN (bt l i) = z1 := ⟨_, rfl⟩
        obtain ⟨z2, hz2⟩ : ∃ z2, bN (bt l (64 + i)) = z2 := ⟨_, rfl⟩
        obtain ⟨x1, x2, x3, x4⟩ := seg_facts (n := 63 - i) (by omega) z1 hz1
        obtain ⟨x5, x6, x7, x8⟩ := seg_facts (n := 63 - i) (by omega) z2 hz2
        have ea : 63 - i + 1 = 64 - i := by omega
        have eb : 64 + i + 1 = 64 + (i + 1) := rfl
        rw [ea] at x3 x4 x7 x8
        rw [eb] at x5 x7 x8
        have HX3 := Lib.hid x4; have HX7 := Lib.hid x8
        have C1 := Lib.hid (fun W' hW => bit_any l a n c i z1 W' hW hz1)
        have C2 : Hid (∀ W', Rd W' 1 a n c (brw l) → Calls Try.prog 67 #[.slice a n c, .int .i64 (64 + (i : Int))] W' fun x w' => x = .returned (.int .u8 z2) ∧ w' = W') := Lib.hid (fun W' hW => by have := bit_any l a n c (64 + i) z2 W' hW hz2; rw [Int.natCast_add] at this; exact this)
        rw [hi]
        clear hz1 hz2 ea eb hk hi
        go_wp2_with fail
        refine (C1.out _ HR.out).mono ?_
        rintro e w6 ⟨rfl, rfl⟩
        go_wp2_with fail
        refine (C2.out _ HR.out).mono ?_
        rintro e w6 ⟨rfl, rfl⟩
        go_wp2_with fail
        go_roundw
        case rel => exact ⟨i, by omega, by first | trivial | exact congrArg (Value.int .u64) ((congrArg IntKind.u64.wrap x4).symm.trans x3), by first | trivial | exact congrArg (Value.int .u64) ((congrArg IntKind.u64.wrap x8).symm.trans x7), rfl, by trivial⟩
        case measure => first | (simp [intOf]; done) | (simp [intOf]; omega)
  · have hbv := canon_pos HC.out (HN.out rfl)
    have hp1 := Nat.two_pow_pos (l.length - 1)
    have hnl : (n : Int) ≤ 128 := by have := N1.out; omega
    have HLE : Hid (bval l ≤ bval two128) := Lib.hid (by rw [two128_val, two128_lit]; have := sg_true_val hzv.out; have := G1.out; omega)
    have HPB : Hid (1 ≤ bval l) := Lib.hid (by omega)
    clear hbv hp1
    have hmk : ∀ W : World, (Instr.makeSlice 76 (.int .i64 128) (.int .i64 128)).run Try.prog W = .ok (.slice (some ⟨W.heap.size, 0, none⟩) 128 128) (W.alloc (.cells (madeCells #[.int .u8 0] 128) 5)) := run_make_row' (P := Try.prog) 76 5 (.int .u8 0) 1 Try.underlying76 info_u8 rfl .i64 .i64 128 (by omega) (by omega)
    go_enter Try.func48, Try.ntmps48
    go_upto_region 5 with fail
    have HE0 : Hid (Ext w ((w.alloc (.cells #[.bool true, .slice a n c] 78)).alloc (.cells #[.int .i64 0, .int .u64 0] 69))) := Lib.hid (by (repeat (first | with_reducible exact Ext.refl _ | with_reducible assumption | with_reducible refine Ext.alloc ?_ _ | with_reducible refine Ext.drew ?_ | with_reducible refine Ext.drewN ?_ _ | with_reducible refine Ext.later ?_ _ | (with_reducible refine Ext.setCell ?_ _ ?hp; case hp => first | (simp; done) | (simp; omega) | omega))))
    have B0 : Hid (Blk ((w.alloc (.cells #[.bool true, .slice a n c] 78)).alloc (.cells #[.int .i64 0, .int .u64 0] 69)) (w.heap.size + 1) 69 #[.int .i64 0, .int .u64 0]) := Lib.hid (Blk.new' _ _ _ (by simp))
    generalize ((w.alloc (.cells #[.bool true, .slice a n c] 78)).alloc (.cells #[.int .i64 0, .int .u64 0] 69)) = wr at HE0 B0 ⊢
    go_wp2_with (refine wpList_append_src rfl (.tmp 16) (.tmp 17) 76 rfl wr.heap.size 5 _ 1 1 Try.underlying76 info_u8 rfl (by decide) (.slice (some ⟨wr.heap.size, 0, none⟩) 128 128) 128 (brw (List.replicate 128 false)) rfl ?c0 ⟨_, 0, none⟩ 1 1 (brw [true]) rfl rfl ?c1 ?c2 ?c3 (by decide) ?c5 ?_)
    case c0 =>
      have := World.ownsRow_lit (base := wr.heap.size) (e := 5) (size := 1) wr (madeCells #[.int .u8 0] 128) 128 (Nat.le_refl _) (by unfold maxLen; omega) (by rw [Nat.mul_one]; exact size_madeCells _ _)
      rw [zeros_row] at this
      exact ownsRow_ext this (Ext.alloc (Ext.refl _) _)
    case c1 => exact fun j u hu => hu
    case c2 => exact brw_one [true]
    case c5 => omega
    intro v3 w3 ho3 hg3 _
    have e3 : Ext wr w3 := Ext.grown (((Ext.refl wr).alloc _).alloc _) hg3 (fun k hk => by simp [Value.ownBlock] at hk; omega)
    obtain ⟨a4, c4, rfl, hr4⟩ := ownsRow_rd ho3
    rw [← brw_append] at hr4
    have HR4 : Hid (Rd w3 1 a4 129 c4 (brw two128)) := Lib.hid hr4
    have E3 := Lib.hid e3
    clear ho3 hg3 e3 hr4
    go_wp2_with fail
    refine (nless_any two128 l a4 a 129 c4 n c _ HR4.out (H1.out.ext (HE0.out.trans E3.out)) (by decide) HLE.out).mono ?_
    rintro e W ⟨v, out4, rfl, ho, hv, hle, hE4⟩
    obtain ⟨a5, c5, rfl, hr5⟩ := ownsRow_rd ho
    have hb4 : bval out4 < 340282366920938463463374607431768211456 ∧ 170141183460469231731687303715884105728 ≤ bval out4 := by
      have h1 := two128_val.trans two128_lit
      have := sg_true_val hzv.out; have := G1.out; have := HPB.out
      omega
    have HB : Hid (bval out4 < 2 ^ (64 + 64) ∧ (bval out4 : Int) = z % 340282366920938463463374607431768211456) := Lib.hid (by
      have h1 := two128_val.trans two128_lit
      have := sg_true_val hzv.out; have := G1.out; have := HPB.out
      rw [two128_lit]; omega)
    have HTB := Lib.hid (top_bit hb4.2 hb4.1)
    have HL4 := Lib.hid hle; have HR := Lib.hid hr5; have HE := Lib.hid ((HE0.out.trans E3.out).trans hE4)
    have B3 := Lib.hid ((B0.out.ext E3.out).ext hE4)
    clear hv hle ho hr5 hE4 hb4
    go_wp2_with fail
    refine (bit_any out4 a5 _ c5 127 1 _ HR.out (by rw [HTB.out]; rfl)).mono ?_
    rintro e w5 ⟨rfl, rfl⟩
    clear HTB HR4 E3 H1 N1 HC HN L1 hzv hnl HLE HPB B0 HE0
    go_upto_region 10 with fail
    go_wp2_with fail
    go_loopw [5, 6, 7] (fun lv hv iv wr => ∃ k : Nat, k ≤ 64 ∧ lv = .int .u64 (seg out4 k (64 - k) : Nat) ∧ hv = .int .u64 (seg out4 (64 + k) (64 - k) : Nat) ∧ iv = .int .i64 ((k : Int) - 1) ∧ wr = w5) (fun _ _ iv _ => (intOf iv + 1).toNat)
    case atStart => exact ⟨64, Nat.le_refl _, by rw [Nat.sub_self, seg_zero]; rfl, by rw [Nat.sub_self, seg_zero]; rfl, rfl, rfl⟩
    case round =>
      obtain ⟨k, hk, rfl, rfl, rfl, rfl⟩ := hrel
      rcases k with _ | i
      · obtain ⟨h1, h2⟩ := HB.out
        obtain ⟨y1, y2⟩ := to_word (two_segs h1) h2 (seg_lt _ _ 64) (seg_lt _ _ 64) G1.out G2.out
        obtain ⟨t0, t1, u0, u1⟩ := num2 B3.out
        obtain ⟨s0, s1⟩ := set2_same B3.out
        clear h1 h2 hk
        go_wp2_with fail
        try simp only [Exit.inBlock, Exit.then]
        refine bodyPost_ret (by simp [results, Try.results48, go_sem, s0, s1]; try rfl) rfl ?_
        have E := HE.out
        exact ⟨rfl, by (repeat (first | with_reducible exact Ext.refl _ | with_reducible assumption | with_reducible refine Ext.alloc ?_ _ | with_reducible refine Ext.drew ?_ | with_reducible refine Ext.drewN ?_ _ | with_reducible refine Ext.later ?_ _ | (with_reducible refine Ext.setCell ?_ _ ?hp; case hp => first | (simp; done) | (simp; omega) | omega)))⟩
      · have hi : ((i + 1 : Nat) : Int) - 1 = (i : Int) := by omega
        have hii : (i : Int) ≤ 63 := by omega
        have hi0 : (0 : Int) ≤ i := by omega
        obtain ⟨z1, hz1⟩ : ∃ z1, bN (bt out4 i) = z1 := ⟨_, rfl⟩
        obtain ⟨z2, hz2⟩ : ∃ z2, bN (bt out4 (64 + i)) = z2 := ⟨_, rfl⟩
        obtain ⟨x1, x2, x3, x4⟩ := seg_facts (n := 63 - i) (by omega) z1 hz1
        obtain ⟨x5, x6, x7, x8⟩ := seg_facts (n := 63 - i) (by omega) z2 hz2
        have ea : 63 - i + 1 = 64 - i := by omega
        have eb : 64 + i + 1 = 64 + (i + 1) := rfl
        rw [ea] at x3 x4 x7 x8
        rw [eb] at x5 x7 x8
        have HX3 := Lib.hid x4; have HX7 := Lib.hid x8
        have C1 := Lib.hid (fun W' hW => bit_any out4 a5 out4.length c5 i z1 W' hW hz1)
        have C2 : Hid (∀ W', Rd W' 1 a5 out4.length c5 (brw out4) → Calls Try.prog 67 #[.slice a5 out4.length c5, .int .i64 (64 + (i : Int))] W' fun x w' => x = .returned (.int .u8 z2) ∧ w' = W') := Lib.hid (fun W' hW => by have := bit_any out4 a5 out4.length c5 (64 + i) z2 W' hW hz2; rw [Int.natCast_add] at this; exact this)
        rw [hi]
        clear hz1 hz2 ea eb hk hi
        go_wp2_with fail
        refine (C1.out _ HR.out).mono ?_
        rintro e w6 ⟨rfl, rfl⟩
        go_wp2_with fail
        refine (C2.out _ HR.out).mono ?_
        rintro e w6 ⟨rfl, rfl⟩
        go_wp2_with fail
        go_roundw
        case rel => exact ⟨i, by omega, by first | trivial | exact congrArg (Value.int .u64) ((congrArg IntKind.u64.wrap x4).symm.trans x3), by first | trivial | exact congrArg (Value.int .u64) ((congrArg IntKind.u64.wrap x8).symm.trans x7), rfl, by trivial⟩
        case measure => first | (simp [intOf]; done) | (simp [intOf]; omega)
end Go.Proofs.Ytibhfclkdbmmoaa
