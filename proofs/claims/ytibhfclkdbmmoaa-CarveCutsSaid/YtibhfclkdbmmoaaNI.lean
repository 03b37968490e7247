/- Proof text: the document's number of 128 bits (rastrumref02.From). By an AI agent. No condition beyond what each theorem states. -/
import Derived.Test.YtibhfclkdbmmoaaNH
import Derived.Test.YtibhfclkdbmmoaaXA
set_option linter.unusedVariables false
set_option linter.unusedSimpArgs false
namespace Go.Proofs.Ytibhfclkdbmmoaa
open Go.RowKit
theorem from_step {out : List Bool} {j q L : Nat} (hl : out.length = j) (h : bval out + 2 ^ j * q = L) : ∃ (d : Bool) (p : Nat), q = d.toNat + 2 * p ∧ bval (out ++ [d]) + 2 ^ (j + 1) * p = L := by
  refine ⟨decide (q % 2 = 1), q / 2, ?_, ?_⟩
  · by_cases h2 : q % 2 = 1
    · simp only [h2, decide_true, Bool.toNat_true]; omega
    · simp only [h2, decide_false, Bool.toNat_false]; omega
  · have hq : q = (decide (q % 2 = 1)).toNat + 2 * (q / 2) := by
      by_cases h2 : q % 2 = 1
      · simp only [h2, decide_true, Bool.toNat_true]; omega
      · simp only [h2, decide_false, Bool.toNat_false]; omega
    rw [bval_append, hl, bval_one, Nat.pow_succ, ← h]
    have h3 : 2 ^ j * q = 2 ^ j * ((decide (q % 2 = 1)).toNat + 2 * (q / 2)) := congrArg _ hq
    rw [Nat.mul_add, ← Nat.mul_assoc] at h3
    omega
theorem from_done {out : List Bool} {j q L : Nat} (hl : out.length = j) (h : bval out + 2 ^ j * q = L) (hL : L < 2 ^ j) : bval out = L := by
  rcases Nat.eq_zero_or_pos q with h0 | h0
  · rw [h0] at h; simpa using h
  · have : 2 ^ j * 1 ≤ 2 ^ j * q := Nat.mul_le_mul_left _ h0
    omega
theorem sum_two_words {L U T : Nat} (h1 : L < 18446744073709551616) (h2 : U < 18446744073709551616) (h : T = L + 18446744073709551616 * U) : T < 2 ^ (64 + 64) := by
  have e : (2 : Nat) ^ (64 + 64) = 340282366920938463463374607431768211456 := by decide
  rw [e]; omega
/-- 2 to the power of 128. -/
def two128 : List Bool := List.replicate 128 false ++ [true]
theorem two128_val : bval two128 = 2 ^ (64 + 64) := by rw [two128, bval_append, bval_zeros, List.length_replicate, bval_one]; simp
theorem two128_lit : (2 : Nat) ^ (64 + 64) = 340282366920938463463374607431768211456 := by decide
theorem from_neg {o4 t o T L U : Nat} {h z : Int} (h1 : o4 + o = t) (h2 : t = 340282366920938463463374607431768211456) (h3 : o = T) (h4 : T = L + 18446744073709551616 * U) (h5 : (U : Int) = h % 18446744073709551616) (h6 : z = 18446744073709551616 * h + L)
    (h7 : -9223372036854775808 ≤ h) (h8 : ¬ (0 : Int) ≤ h) : z = sg true o4 := by
  simp only [sg, if_true]
  omega
/-- What one bit's walk needs. -/
theorem bit_facts {q p : Nat} {d : Bool} (h : q = d.toNat + 2 * p) (hq : q < 18446744073709551616) :
    (q : Int).tmod 2 = bN d ∧ (q : Int) % 2 = bN d ∧ (q : Int).tdiv 2 = p ∧ (q : Int) / 2 = p ∧ IntKind.u8.wrap (bN d) = bN d ∧ IntKind.u64.wrap (p : Int) = p ∧ bN d % 256 = bN d ∧ (p : Int) % 18446744073709551616 = p ∧ p < 18446744073709551616 := by
  have h1 : bN d = (d.toNat : Int) := bN_nat d
  have h2 := toNat_le d
  have h3 : (q : Int) / 2 = p := by omega
  have h4 : (q : Int) % 2 = bN d := by omega
  refine ⟨?_, h4, ?_, h3, u8_small (by omega) (by omega), by rw [IntKind.wrap_u64]; omega, by omega, by omega, by omega⟩
  · rw [Int.tmod_eq_emod_of_nonneg (by omega), h4]
  · rw [Int.tdiv_eq_ediv_of_nonneg (by omega), h3]
set_option maxRecDepth 10000 in
set_option maxHeartbeats 4000000 in
theorem from_any (z : Int) (w : World) (h1 : -170141183460469231731687303715884105728 ≤ z) (h2 : z < 170141183460469231731687303715884105728) : Calls Try.prog 43 #[I z] w (NumP z w) := by
  obtain ⟨L, hL⟩ : ∃ L : Nat, lo z = L := ⟨(lo z).toNat, by have := lo_pos z; omega⟩
  obtain ⟨U, hU⟩ : ∃ U : Nat, IntKind.u64.wrap (hi z) = U := ⟨(hi z % 18446744073709551616).toNat, by rw [IntKind.wrap_u64]; omega⟩
  obtain ⟨h, hh⟩ : ∃ h : Int, h = hi z := ⟨_, rfl⟩
  have hl := lo_lt z
  have g1 := hi_ge h1
  have g2 := hi_lt h2
  have HZ := Lib.hid (hi_lo z)
  rw [hL] at hl HZ
  rw [← hh] at hU g1 g2 HZ
  show Calls Try.prog 43 #[.agg #[.int .i64 (hi z), .int .u64 (lo z)]] w (NumP z w)
  rw [hL, ← hh]
  have hu : (U : Int) < 18446744073709551616 := by rw [← hU, IntKind.wrap_u64]; omega
  have LL : Hid (L < 18446744073709551616) := Lib.hid (by omega)
  have UU : Hid (U < 18446744073709551616) := Lib.hid (by omega)
  have HU : Hid ((U : Int) = h % 18446744073709551616) := Lib.hid (by rw [← hU, IntKind.wrap_u64])
  have G1 := Lib.hid g1; have G2 := Lib.hid g2
  clear hl g1 g2 hL hh h1 h2 hu
  go_enter Try.func43, Try.ntmps43
  go_upto_region 2 with fail
  refine wp_region_later (by kernel_rfl) (by kernel_rfl) ?_
  repeat (go_big_quiet_step (fail))
  refine wpQuiet_nil ?_
  intro y
  have b1 : Blk ((w.alloc (.cells #[.int .i64 h, .int .u64 L] 69)).alloc (.cells #[.bool false, .slice none 0 0] 78)) w.heap.size 69 #[.int .i64 h, .int .u64 L] := (Blk.new w _ _).alloc _
  have b3 : Blk ((w.alloc (.cells #[.int .i64 h, .int .u64 L] 69)).alloc (.cells #[.bool false, .slice none 0 0] 78)) (w.heap.size + 1) 78 #[.bool false, .slice none 0 0] := Blk.new' _ _ _ (by simp)
  have B1 := Lib.hid (b1.later y); have B3 := Lib.hid (b3.later y)
  have HE : Hid (Ext w y.w) := Lib.hid (Ext.later (by (repeat (first | with_reducible exact Ext.refl _ | with_reducible assumption | with_reducible refine Ext.alloc ?_ _ | with_reducible refine Ext.drew ?_ | with_reducible refine Ext.drewN ?_ _ | with_reducible refine Ext.later ?_ _ | (with_reducible refine Ext.setCell ?_ _ ?hp; case hp => first | (simp; done) | (simp; omega) | omega)))) y)
  clear b1 b3
  generalize y.w = W at B1 B3 HE ⊢
  go_wp2_with fail
  go_loopw [3, 4, 6] (fun ov lv iv wr => ∃ (j q : Nat) (out : List Bool) (v : Value), j ≤ 64 ∧ v = ov ∧ lv = .int .u64 (q : Int) ∧ iv = .int .i64 j ∧ out.length = j ∧ wr.ownsRow W.heap.size 5 1 v j (brw out) ∧ Hid (bval out + 2 ^ j * q = L) ∧ Hid (q < 18446744073709551616) ∧ Ext W wr) (fun _ _ iv _ => 64 - (intOf iv).toNat)
  case atStart => exact ⟨0, L, [], _, Nat.zero_le _, rfl, rfl, rfl, rfl, World.ownsRow_nil _ _ _ _, Lib.hid (by simp [bval]), LL, Ext.refl _⟩
  case round =>
    obtain ⟨j, q, out, v, hj, rfl, rfl, rfl, hol, ho, HV, HQ, hE⟩ := hrel
    have HO := Lib.hid ho; have HL := Lib.hid hol; have HX := Lib.hid hE; have HZ2 := Lib.hid hE.size
    clear ho hol hE
    by_cases hgo : j < 64
    · obtain ⟨d, p, x0, hs⟩ := from_step HL.out HV.out
      obtain ⟨x1, x2, x3, x4, x5, x6, x7, x8, x9⟩ := bit_facts x0 HQ.out
      have HS := Lib.hid hs; have HP := Lib.hid x9; have HJ := Lib.hid hgo
      have hj1 : (j : Int) < 64 := by omega
      clear hs x0 x9 hgo
      go_wp2_with (refine wpList_append_src rfl (.tmp 17) (.tmp 21) 76 rfl W.heap.size 5 _ 1 1 Try.underlying76 info_u8 rfl (by decide) v j (brw out) rfl (ownsRow_ext HO.out (Ext.alloc (Ext.refl _) _)) ⟨_, 0, none⟩ 1 1 (brw [d]) rfl rfl ?c1 ?c2 ?c3 (by decide) ?c5 ?_)
      case c1 => exact news_at wr (brw [d]) 5
      case c2 => exact brw_one [d]
      case c3 => omega
      case c5 => exact Nat.le_trans HZ2.out (by simp)
      intro v' w' ho' hg' _
      have HE' := Lib.hid (Ext.grown (HX.out.alloc _) hg' (fun k hk => (HO.out.lt _ hk).1))
      have HO' := Lib.hid ho'
      clear ho' hg'
      go_wp2_with fail
      go_roundw
      case rel => exact ⟨j + 1, p, out ++ [d], v', HJ.out, rfl, by trivial, by trivial, by simp [HL.out], by have := HO'.out; rw [← brw_append] at this; exact this, HS, HP, HE'.out⟩
      case measure => have := HJ.out; simp [intOf]; omega
    · obtain rfl : j = 64 := by omega
      rw [show ((64 : Nat) : Int) = 64 from rfl]
      have HV2 : Hid (bval out = L) := Lib.hid (from_done HL.out HV.out LL.out)
      have HLO : Hid (out.length = 64) := Lib.hid HL.out
      obtain ⟨T, hT⟩ : ∃ T : Nat, T = L + 18446744073709551616 * U := ⟨_, rfl⟩
      have HT := Lib.hid hT
      have HTL : Hid (T < 2 ^ (64 + 64)) := Lib.hid (sum_two_words LL.out UU.out HT.out)
      have HV3 : Hid (bval out + 2 ^ (64 + 0) * U = T) := Lib.hid (by rw [HV2.out, HT.out])
      clear hgo HV HQ hT
      go_wp2_with fail
      go_loopw [3, 5, 7] (fun ov lv iv wr => ∃ (j q : Nat) (out : List Bool) (v : Value), j ≤ 64 ∧ v = ov ∧ lv = .int .u64 (q : Int) ∧ iv = .int .i64 j ∧ out.length = 64 + j ∧ wr.ownsRow W.heap.size 5 1 v (64 + j) (brw out) ∧ Hid (bval out + 2 ^ (64 + j) * q = T) ∧ Hid (q < 18446744073709551616) ∧ Ext W wr) (fun _ _ iv _ => 64 - (intOf iv).toNat)
      case atStart => exact ⟨0, U, out, v, Nat.zero_le _, rfl, rfl, rfl, HLO.out, HO.out, HV3, UU, HX.out⟩
      case round =>
        clear HV3 HV2 HLO HO HL HX HZ2 hj
        obtain ⟨j, q, out, v, hj, rfl, rfl, rfl, hol, ho, HV, HQ, hE⟩ := hrel
        have HO := Lib.hid ho; have HL := Lib.hid hol; have HX := Lib.hid hE; have HZ2 := Lib.hid hE.size
        clear ho hol hE
        by_cases hgo : j < 64
        · obtain ⟨d, p, x0, hs⟩ := from_step HL.out HV.out
          obtain ⟨x1, x2, x3, x4, x5, x6, x7, x8, x9⟩ := bit_facts x0 HQ.out
          have HS := Lib.hid hs; have HP := Lib.hid x9; have HJ := Lib.hid hgo
          have hj1 : (j : Int) < 64 := by omega
          clear hs x0 x9 hgo
          go_wp2_with (refine wpList_append_src rfl (.tmp 29) (.tmp 33) 76 rfl W.heap.size 5 _ 1 1 Try.underlying76 info_u8 rfl (by decide) v (64 + j) (brw out) rfl (ownsRow_ext HO.out (Ext.alloc (Ext.refl _) _)) ⟨_, 0, none⟩ 1 1 (brw [d]) rfl rfl ?c1 ?c2 ?c3 (by decide) ?c5 ?_)
          case c1 => exact news_at wr (brw [d]) 5
          case c2 => exact brw_one [d]
          case c3 => omega
          case c5 => exact Nat.le_trans HZ2.out (by simp)
          intro v' w' ho' hg' _
          have HE' := Lib.hid (Ext.grown (HX.out.alloc _) hg' (fun k hk => (HO.out.lt _ hk).1))
          have HO' := Lib.hid ho'
          clear ho' hg'
          go_wp2_with fail
          go_roundw
          case rel => exact ⟨j + 1, p, out ++ [d], v', HJ.out, rfl, by trivial, by trivial, by simp [HL.out, Nat.add_assoc], by have := HO'.out; rw [← brw_append] at this; exact this, HS, HP, HE'.out⟩
          case measure => have := HJ.out; simp [intOf]; omega
        · obtain rfl : j = 64 := by omega
          rw [show ((64 : Nat) : Int) = 64 from rfl]
          have HV2 : Hid (bval out = T) := Lib.hid (from_done HL.out HV.out HTL.out)
          clear hgo HV HQ hj
          obtain ⟨q0, -, -, -⟩ := num2 (B1.out.ext HX.out)
          have b9 := B3.out.ext HX.out
          obtain ⟨ao, co, rfl, hr⟩ := ownsRow_rd HO.out
          have HR := Lib.hid hr
          clear hr
          by_cases hpos : 0 ≤ h
          · go_wp2_with fail
            refine (ntrim_any _ out ao 128 co _ HR.out (by decide)).mono ?_
            rintro e w2 ⟨v2, rfl, hN, hE2⟩
            obtain ⟨mm, aa, nn, cc, bs, rfl, g1, g2, g3, g4⟩ := hN
            have b8 := b9.ext hE2
            obtain ⟨t0, t1, u0, u1⟩ := num2 b8
            obtain ⟨s0, s1⟩ := set2_same b8
            have HG := Lib.hid g4
            clear g4
            go_wp2_with fail
            try simp only [Exit.inBlock, Exit.then]
            refine bodyPost_ret (by simp [results, Try.results43, go_sem, s0, s1]; try rfl) rfl ?_
            have e2 := HE.out.size
            have lb := b9.lt
            refine ⟨_, rfl, ⟨mm, aa, nn, cc, bs, rfl, g1.set2 lb (by omega) _ _, g2, g3, ?_⟩, ?_⟩
            · rw [← HG.out, HV2.out]
              have := HT.out; have := HU.out; have := HZ.out; have := G2.out
              simp only [sg, Bool.false_eq_true, if_false]
              omega
            · have E := (HE.out.trans HX.out).trans hE2
              (repeat (first | with_reducible exact Ext.refl _ | with_reducible assumption | with_reducible refine Ext.alloc ?_ _ | with_reducible refine Ext.drew ?_ | with_reducible refine Ext.drewN ?_ _ | with_reducible refine Ext.later ?_ _ | (with_reducible refine Ext.setCell ?_ _ ?hp; case hp => first | (simp; done) | (simp; omega) | omega)))
          · have HP := Lib.hid hpos
            have hneg : ¬ (0 : Int) ≤ h := hpos
            have hle : bval out ≤ bval two128 := by
              have h1 := bval_lt out
              rw [HL.out] at h1
              rw [two128_val]
              exact Nat.le_of_lt h1
            have HLE := Lib.hid hle
            have hmk : ∀ W : World, (Instr.makeSlice 76 (.int .i64 128) (.int .i64 128)).run Try.prog W = .ok (.slice (some ⟨W.heap.size, 0, none⟩) 128 128) (W.alloc (.cells (madeCells #[.int .u8 0] 128) 5)) := run_make_row' (P := Try.prog) 76 5 (.int .u8 0) 1 Try.underlying76 info_u8 rfl .i64 .i64 128 (by omega) (by omega)
            clear hpos hle
            go_wp2_with (refine wpList_append_src rfl (.tmp 43) (.tmp 44) 76 rfl wr.heap.size 5 _ 1 1 Try.underlying76 info_u8 rfl (by decide) (.slice (some ⟨wr.heap.size, 0, none⟩) 128 128) 128 (brw (List.replicate 128 false)) rfl ?c0 ⟨_, 0, none⟩ 1 1 (brw [true]) rfl rfl ?c1 ?c2 ?c3 (by decide) ?c5 ?_)
            case c0 =>
              have := World.ownsRow_lit (base := wr.heap.size) (e := 5) (size := 1) wr (madeCells #[.int .u8 0] 128) 128 (Nat.le_refl _) (by unfold maxLen; omega) (by rw [Nat.mul_one]; exact size_madeCells _ _)
              rw [zeros_row] at this
              exact ownsRow_ext this (Ext.alloc (Ext.refl _) _)
            case c1 => exact fun j u hu => hu
            case c2 => exact brw_one [true]
            case c5 => omega
            intro v3 w3 ho3 hg3 _
            have e3 : Ext wr w3 := Ext.grown (((Ext.refl wr).alloc _).alloc _) hg3 (fun k hk => by simp [Value.ownBlock] at hk; omega)
            obtain ⟨a4, c4, rfl, hr4⟩ := ownsRow_rd ho3
            rw [← brw_append] at hr4
            have HR4 : Hid (Rd w3 1 a4 129 c4 (brw two128)) := Lib.hid hr4
            have E3 := Lib.hid e3
            clear ho3 hg3 e3 hr4
            go_wp2_with fail
            refine (nless_any two128 out a4 ao 129 c4 128 co _ HR4.out (HR.out.ext E3.out) (by decide) HLE.out).mono ?_
            rintro e w4 ⟨v, out4, rfl, ho, hv, hle, hE4⟩
            obtain ⟨a5, c5, rfl, hr5⟩ := ownsRow_rd ho
            have HV4 := Lib.hid hv; have HL4 := Lib.hid hle; have HR5 := Lib.hid hr5; have E4 := Lib.hid (E3.out.trans hE4)
            clear hv hle ho hr5 hE4
            go_wp2_with fail
            refine (ntrim_any _ out4 a5 out4.length c5 _ HR5.out (by rw [HL4.out]; decide)).mono ?_
            rintro e w2 ⟨v2, rfl, hN, hE2⟩
            obtain ⟨mm, aa, nn, cc, bs, rfl, g1, g2, g3, g4⟩ := hN
            have b8 := (b9.ext E4.out).ext hE2
            obtain ⟨t0, t1, u0, u1⟩ := num2 b8
            obtain ⟨s0, s1⟩ := set2_same b8
            have HG := Lib.hid g4
            clear g4
            go_wp2_with fail
            try simp only [Exit.inBlock, Exit.then]
            refine bodyPost_ret (by simp [results, Try.results43, go_sem, s0, s1]; try rfl) rfl ?_
            have e2 := HE.out.size
            have lb := (b9.ext E4.out).lt
            refine ⟨_, rfl, ⟨mm, aa, nn, cc, bs, rfl, g1.set2 lb (by omega) _ _, g2, g3, ?_⟩, ?_⟩
            · rw [← HG.out]
              exact from_neg HV4.out (two128_val.trans two128_lit) HV2.out HT.out HU.out HZ.out G1.out (by have := HP.out; omega)
            · have E := ((HE.out.trans HX.out).trans E4.out).trans hE2
              (repeat (first | with_reducible exact Ext.refl _ | with_reducible assumption | with_reducible refine Ext.alloc ?_ _ | with_reducible refine Ext.drew ?_ | with_reducible refine Ext.drewN ?_ _ | with_reducible refine Ext.later ?_ _ | (with_reducible refine Ext.setCell ?_ _ ?hp; case hp => first | (simp; done) | (simp; omega) | omega)))
end Go.Proofs.Ytibhfclkdbmmoaa
