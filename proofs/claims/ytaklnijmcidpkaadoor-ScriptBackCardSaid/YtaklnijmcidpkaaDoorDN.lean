/- Proof text: the numeral of a number below nought (rastrumref29.digits). By an AI agent. No condition beyond what each theorem states. -/
import Derived.Test.YtaklnijmcidpkaaDoorDI
set_option linter.unusedVariables false
set_option linter.unusedSimpArgs false
namespace Go.Proofs.YtaklnijmcidpkaaDoor
open Go.RowKit
set_option maxRecDepth 10000 in
set_option maxHeartbeats 1000000 in
theorem rdig_neg (u : Nat) (w : World) (hu1 : 1 ≤ u) (hu : (u : Int) ≤ 9223372036854775808) : Calls Tryd.prog 28 #[.int .i64 (-(u : Int))] w fun e w' => e = .returned (.string ⟨(45 :: Lib.decDigits u).toArray⟩) ∧ Ext w w' := by
  obtain ⟨tot, ht⟩ : ∃ tot, tot = Lib.decDigits u := ⟨_, rfl⟩
  rw [← ht]
  have HT : Hid (Lib.decDigits u ++ ([] : List UInt8) = tot) := Lib.hid (by rw [ht]; simp)
  have HL : Hid (tot.length ≤ 20) := Lib.hid (by rw [ht]; exact dec_len20 hu)
  have t0 : 0 < u := hu1
  clear ht
  go_enter Tryd.func28, Tryd.ntmps28
  go_wp2_with fail
  go_loopw [0, 4] (fun nv ov wr => ∃ (c : Nat) (acc : List UInt8), nv = .int .i64 (-(c : Int)) ∧ ov = .string ⟨acc.toArray⟩ ∧ (c : Int) ≤ 9223372036854775808 ∧ Hid (Lib.decDigits c ++ acc = tot) ∧ Hid (Ext w wr)) (fun nv _ _ => (intOf nv).natAbs)
  case atStart => exact ⟨u, [], rfl, rfl, hu, HT, Lib.hid (Ext.refl _)⟩
  case round =>
    clear HT t0
    obtain ⟨c, acc, rfl, rfl, hc, HT, HE⟩ := hrel
    obtain ⟨q, hq⟩ : ∃ q : Nat, (c : Int) % 10 = (q : Int) := ⟨c % 10, by omega⟩
    have hqc : c % 10 = q := by omega
    have hq10 : q < 10 := by omega
    obtain ⟨z, hz⟩ : ∃ z : Nat, (c : Int) / 10 = (z : Int) := ⟨c / 10, by omega⟩
    have hzc : c / 10 = z := by omega
    have r1 : Int.tmod (-(c : Int)) 10 = -(q : Int) := by rw [Int.neg_tmod, Int.tmod_eq_emod_of_nonneg (by omega), hq]
    have r2 : Int.tdiv (-(c : Int)) 10 = -(z : Int) := by rw [Int.neg_tdiv, Int.tdiv_eq_ediv_of_nonneg (by omega), hz]
    have kt := run_digit wr q hq10
    obtain ⟨b, hb⟩ : ∃ b, b = UInt8.ofNat (48 + q) := ⟨_, rfl⟩
    rw [← hb] at kt
    have HLA : Hid (acc.length ≤ 20) := Lib.hid (by have h1 := HL.out; rw [← HT.out, List.length_append] at h1; omega)
    have hq9 : (q : Int) ≤ 9 := by omega
    have n1 : ¬ 9223372036854775807 < 1 + acc.length := by have := HLA.out; omega
    have n3 : ¬ 9223372036854775807 < 1 + (1 + acc.length) := by have := HLA.out; omega
    have hzl : (z : Int) ≤ 9223372036854775808 := by omega
    have hfz : (c < 10 ∧ Hid (b :: acc = tot) ∧ (-(z : Int) == 0) = true) ∨ (z < c ∧ Hid (Lib.decDigits z ++ (b :: acc) = tot) ∧ (-(z : Int) == 0) = false) := by
      by_cases h0 : c < 10
      · refine .inl ⟨h0, Lib.hid ?_, by simp; omega⟩
        have h1 := HT.out
        rw [Lib.decDigits_one h0, show c = q by omega, ← hb] at h1
        exact h1
      · refine .inr ⟨by omega, Lib.hid ?_, by simp; omega⟩
        have h1 := HT.out
        rw [dec_step h0, hqc, hzc, ← hb] at h1
        rw [← h1]; simp
    have HEa : Hid (Ext w (wr.alloc (.cells #[.int .u8 (48 + (q : Int))] 5))) := Lib.hid (HE.out.alloc _)
    have hs : Hid ((⟨[b].toArray⟩ : ByteArray) ++ ⟨acc.toArray⟩ = ⟨(b :: acc).toArray⟩) := Lib.hid (str_add [b] acc)
    have he : Hid ((b :: acc) = tot → (⟨#[45]⟩ : ByteArray) ++ (⟨[b].toArray⟩ ++ ⟨acc.toArray⟩) = ⟨(45 :: tot).toArray⟩) := Lib.hid (fun e => by
      rw [str_add, ← e]
      exact str_add [45] ([b] ++ acc))
    clear hqc hzc HT hb HE hq hz hc
    by_cases hq0 : q = 0
    · subst hq0
      have r1 : Int.tmod (-(c : Int)) 10 = 0 := by simpa using r1
      have kt2 : (convert 53 9 (.slice (some ⟨wr.heap.size, 0, none⟩) 1 1)).run Tryd.prog (wr.alloc (.cells #[.int .u8 48] 5)) = .ok (.string ⟨[b].toArray⟩) (wr.alloc (.cells #[.int .u8 48] 5)) := by simpa using kt
      have HE2 : Hid (Ext w (wr.alloc (.cells #[.int .u8 48] 5))) := Lib.hid (by simpa using HEa.out)
      clear kt HEa
      rcases hfz with ⟨_, HF, t3⟩ | ⟨hzs, HF, t3⟩
      · go_wp2_with fail
        go_returns
        exact ⟨congrArg (fun x => Ending.returned (Value.string x)) (he.out HF.out), HE2.out⟩
      · go_wp2_with fail
        go_roundw
        case rel => first | exact ⟨z, b :: acc, rfl, congrArg Value.string hs.out, hzl, HF, HE2⟩ | ((repeat apply Exists.intro); exact ⟨⟨z, b :: acc, rfl, congrArg Value.string hs.out, hzl, HF, HE2⟩, rfl⟩)
        case measure => simp [intOf]; omega
    · have t1 : 0 < q := by omega
      rcases hfz with ⟨_, HF, t3⟩ | ⟨hzs, HF, t3⟩
      · go_wp2_with fail
        go_returns
        exact ⟨congrArg (fun x => Ending.returned (Value.string x)) (he.out HF.out), HEa.out⟩
      · go_wp2_with fail
        go_roundw
        case rel => first | exact ⟨z, b :: acc, rfl, congrArg Value.string hs.out, hzl, HF, HEa⟩ | ((repeat apply Exists.intro); exact ⟨⟨z, b :: acc, rfl, congrArg Value.string hs.out, hzl, HF, HEa⟩, rfl⟩)
        case measure => simp [intOf]; omega
/-- The numeral of a number. -/
theorem rdigits_any (x : Int) (w : World) (h : I64 x) : Calls Tryd.prog 28 #[.int .i64 x] w fun e w' => e = .returned (.string ⟨(Lib.itoa x).toArray⟩) ∧ Ext w w' := by
  by_cases h0 : x < 0
  · obtain ⟨u, rfl⟩ : ∃ u : Nat, x = -(u : Int) := ⟨x.natAbs, by omega⟩
    rw [Lib.itoa_neg u (by omega)]
    exact rdig_neg u w (by omega) (by have := h.1; omega)
  · obtain ⟨u, rfl⟩ : ∃ u : Nat, x = (u : Int) := ⟨x.toNat, by omega⟩
    rw [Lib.itoa_nonneg]
    exact rdig_pos u w h.2
end Go.Proofs.YtaklnijmcidpkaaDoor
