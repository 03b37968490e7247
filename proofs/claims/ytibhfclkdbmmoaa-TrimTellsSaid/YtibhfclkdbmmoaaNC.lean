/- Proof text: sums and differences of rows of bits (rastrumref02). By an AI agent. No condition beyond what each theorem states. -/
import Derived.Test.YtibhfclkdbmmoaaNB
set_option linter.unusedVariables false
set_option linter.unusedSimpArgs false
namespace Go.Proofs.Ytibhfclkdbmmoaa
open Go.RowKit
theorem info_u8 : (Try.prog.info? 5).map (fun i => (i.zero, i.size, i.bytes)) = some (some (.int .u8 0), 1, 1) := by kernel_rfl
theorem size_u8 : (Try.prog.info? 5).map (·.size) = some 1 := by kernel_rfl
theorem bN_nat (b : Bool) : bN b = (b.toNat : Int) := by cases b <;> rfl
theorem bN_range (b : Bool) : 0 ≤ bN b ∧ bN b ≤ 1 := by cases b <;> simp [bN]
/-- Three bits added. -/
theorem three_bits (a b c : Bool) : ∃ d e : Bool, a.toNat + b.toNat + c.toNat = d.toNat + 2 * e.toNat ∧ (bN a + bN b + bN c).tmod 2 = bN d ∧ (bN a + bN b + bN c).tdiv 2 % 256 = bN e ∧ (bN a + bN b + bN c) % 2 = bN d := by
  cases a <;> cases b <;> cases c
  · exact ⟨false, false, by decide, by decide, by decide, by decide⟩
  · exact ⟨true, false, by decide, by decide, by decide, by decide⟩
  · exact ⟨true, false, by decide, by decide, by decide, by decide⟩
  · exact ⟨false, true, by decide, by decide, by decide, by decide⟩
  · exact ⟨true, false, by decide, by decide, by decide, by decide⟩
  · exact ⟨false, true, by decide, by decide, by decide, by decide⟩
  · exact ⟨false, true, by decide, by decide, by decide, by decide⟩
  · exact ⟨true, true, by decide, by decide, by decide, by decide⟩
theorem u8_small {x : Int} (h0 : 0 ≤ x) (h1 : x ≤ 255) : IntKind.u8.wrap x = x := by
  simp [IntKind.wrap, IntKind.bits, IntKind.signed]
  omega
def MoreP (l m : List Bool) (w : World) (x : Ending) (w' : World) : Prop :=
  ∃ v out, x = .returned v ∧ w'.ownsRow w.heap.size 5 1 v out.length (brw out) ∧ bval out = bval l + bval m ∧ out.length ≤ max l.length m.length + 1 ∧ Ext w w'
set_option maxRecDepth 10000 in
set_option maxHeartbeats 2000000 in
theorem more_any (l m : List Bool) (a c : Option Addr) (n ca k cc : Nat) (w : World) (h1 : Rd w 1 a n ca (brw l)) (h2 : Rd w 1 c k cc (brw m)) (hn : n ≤ 1000) (hk : k ≤ 1000) :
    Calls Try.prog 66 #[.slice a n ca, .slice c k cc] w (MoreP l m w) := by
  have l1 := rd_len h1
  have l2 := rd_len h2
  have H1 := Lib.hid h1; have H2 := Lib.hid h2
  have L1 := Lib.hid l1; have L2 := Lib.hid l2
  have n1 : (n : Int) ≤ 1000 := by omega
  have k1 : (k : Int) ≤ 1000 := by omega
  clear h1 h2 l1 l2 hn hk
  go_enter Try.func66, Try.ntmps66
  go_wp2_with fail
  go_loopw [5, 6, 7, 8] (fun ov cv iv _ wr => ∃ (j : Nat) (cb : Bool) (out : List Bool) (v : Value), j ≤ max n k + 1 ∧ v = ov ∧ cv = .int .u8 (bN cb) ∧ iv = .int .i64 j ∧ out.length = j ∧ wr.ownsRow w.heap.size 5 1 v j (brw out) ∧ Hid (bval out + 2 ^ j * cb.toNat = low l j + low m j) ∧ Ext w wr) (fun _ _ iv _ _ => max n k + 1 - (intOf iv).toNat)
  case atStart => exact ⟨0, false, [], _, Nat.zero_le _, rfl, rfl, rfl, rfl, World.ownsRow_nil _ _ _ _, Lib.hid (by simp [bval, low_zero]), Ext.refl _⟩
  case round =>
    obtain ⟨j, cb, out, v, hj, rfl, rfl, rfl, hl, ho, HV, hE⟩ := hrel
    have HO := Lib.hid ho; have HL := Lib.hid hl; have HE := Lib.hid hE
    have hj1 : (j : Int) ≤ 1001 := by omega
    have hz := hE.size
    have HZ := Lib.hid hz
    clear ho hl hE hz
    by_cases hgo : j < n ∨ j < k ∨ cb = true
    · have hjq : j ≤ max n k := by
        rcases Nat.lt_or_ge (max n k) j with h | h
        · exfalso
          have hcb : cb = true := by
            rcases hgo with h2 | h2 | h2
            · omega
            · omega
            · exact h2
          have hv := HV.out
          rw [hcb] at hv
          have b1 : bval l < 2 ^ (max n k) := Nat.lt_of_lt_of_le (bval_lt l) (Nat.pow_le_pow_right (by omega) (by rw [L1.out]; omega))
          have b2 : bval m < 2 ^ (max n k) := Nat.lt_of_lt_of_le (bval_lt m) (Nat.pow_le_pow_right (by omega) (by rw [L2.out]; omega))
          have b3 := low_le l j
          have b4 := low_le m j
          have b5 : j = max n k + 1 := by omega
          rw [b5, Nat.pow_succ] at hv
          simp only [Bool.toNat_true, Nat.mul_one] at hv
          rw [b5] at b3 b4
          omega
        · exact h
      obtain ⟨d, e, x1, x2, x3, x4⟩ := three_bits (bt l j) (bt m j) cb
      obtain ⟨z1, hz1⟩ : ∃ z, z = bN (bt l j) := ⟨_, rfl⟩
      obtain ⟨z2, hz2⟩ : ∃ z, z = bN (bt m j) := ⟨_, rfl⟩
      obtain ⟨z3, hz3⟩ : ∃ z, z = bN cb := ⟨_, rfl⟩
      have r1 := bN_range (bt l j)
      have r2 := bN_range (bt m j)
      have r3 := bN_range cb
      have B1 := Lib.hid (fun W hW => bit_any l a n ca j z1 W hW hz1.symm)
      have B2 := Lib.hid (fun W hW => bit_any m c k cc j z2 W hW hz2.symm)
      rw [← hz1, ← hz2, ← hz3] at x2 x3 x4
      rw [← hz1] at r1
      rw [← hz2] at r2
      rw [← hz3] at r3 ⊢
      have f1 : IntKind.u8.wrap (z1 + z2) = z1 + z2 := u8_small (by omega) (by omega)
      have f2 : IntKind.u8.wrap (z1 + z2 + z3) = z1 + z2 + z3 := u8_small (by omega) (by omega)
      have hs : bval (out ++ [d]) + 2 ^ (j + 1) * e.toNat = low l (j + 1) + low m (j + 1) := more_step HL.out HV.out x1
      have HS := Lib.hid hs
      have hc : (j : Int) < n ∨ (¬ (j : Int) < n ∧ (j : Int) < k) ∨ (¬ (j : Int) < n ∧ ¬ (j : Int) < k ∧ 0 < z3) := by
        by_cases g1 : j < n
        · left; omega
        · by_cases g2 : j < k
          · right; left; omega
          · right; right
            rcases hgo with h | h | h
            · exact absurd h g1
            · exact absurd h g2
            · refine ⟨by omega, by omega, ?_⟩
              rw [hz3, h]; decide
      have HQ := Lib.hid hjq
      clear hs x1 hz1 hz2 hz3 hgo hjq HV r1 r2 r3
      rcases hc with g1 | ⟨g1, g2⟩ | ⟨g1, g2, g3⟩
      all_goals
        go_wp2_with fail
        refine (B1.out _ (H1.out.ext HE.out)).mono ?_
        rintro x w1 ⟨rfl, rfl⟩
        go_wp2_with fail
        refine (B2.out _ (H2.out.ext HE.out)).mono ?_
        rintro x w2 ⟨rfl, rfl⟩
        go_wp2_with (refine wpList_append_src rfl (.tmp 34) (.tmp 37) 76 rfl w.heap.size 5 _ 1 1 Try.underlying76 info_u8 rfl (by decide) v j (brw out) rfl (ownsRow_ext HO.out (Ext.alloc (Ext.refl _) _)) ⟨_, 0, none⟩ 1 1 (brw [d]) rfl rfl ?c1 ?c2 ?c3 (by decide) ?c5 ?_)
        case c1 => exact news_at w2 (brw [d]) 5
        case c2 => exact brw_one [d]
        case c3 => omega
        case c5 => exact Nat.le_trans HZ.out (by simp)
        intro v' w' ho' hg' _
        have hE' : Ext w w' := Ext.grown (HE.out.alloc _) hg' (fun k hk => (HO.out.lt _ hk).1)
        have HE' := Lib.hid hE'
        have HO' := Lib.hid ho'
        clear ho' hg' hE'
        go_wp2_with fail
        go_roundw
        case rel => exact ⟨j + 1, e, out ++ [d], v', by have := HQ.out; omega, rfl, congrArg (Value.int .u8) x3, by trivial, by simp [HL.out], by have := HO'.out; rw [← brw_append] at this; exact this, HS, HE'.out⟩
        case measure => have := HQ.out; simp [intOf]; omega
    · have hcb : cb = false := by
        rcases cb with _ | _
        · rfl
        · exact absurd (Or.inr (Or.inr rfl)) hgo
      have g1 : ¬ (j : Int) < n := fun h => hgo (Or.inl (by omega))
      have g2 : ¬ (j : Int) < k := fun h => hgo (Or.inr (Or.inl (by omega)))
      subst hcb
      have hd := more_done (by have := L1.out; omega : l.length ≤ j) (by have := L2.out; omega : m.length ≤ j) HV.out
      have HD := Lib.hid hd
      have hle : out.length ≤ max l.length m.length + 1 := by rw [HL.out, L1.out, L2.out]; exact hj
      have HLE := Lib.hid hle
      have hb0 : bN false = 0 := rfl
      rw [hb0]
      clear hd HV hgo hle
      go_wp2_with fail
      go_ret
      refine ⟨_, out, rfl, ?_, HD.out, HLE.out, HE.out⟩
      rw [HL.out]; exact HO.out
end Go.Proofs.Ytibhfclkdbmmoaa
