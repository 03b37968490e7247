/- Proof text: one of one to four digits, the document's answer (rastrumref28.number). By an AI agent. No condition beyond what each theorem states. -/
import Derived.Test.YtpjkhnkbijpmnaaDoorPC
set_option linter.unusedVariables false
set_option linter.unusedSimpArgs false
namespace Go.Proofs.YtpjkhnkbijpmnaaDoor
open Go.RowKit
set_option maxRecDepth 10000 in
set_option maxHeartbeats 1000000 in
theorem rnumber_any (s : ByteArray) (w : World) (hs : s.size ≤ 1000000) :
    Calls Tryd.prog 22 #[.string s] w fun e w' => e = .returned (.tuple #[.int .i64 (valD (dg_ s) : Nat), .string (s.extract (dg_ s).length s.size), .bool (dgOk s)]) ∧ Ext w w' := by
  obtain ⟨k, hk⟩ : ∃ k, k = (dg_ s).length := ⟨_, rfl⟩
  have HK := Lib.hid hk
  have hk4 : k ≤ 4 ∧ k ≤ s.size := by
    have := digs_le s.data.toList
    rw [← Lib.size_eq] at this
    rw [hk]; exact this
  rw [← hk]
  clear hk
  obtain ⟨hk1, hk2⟩ := hk4
  go_enter Tryd.func22, Tryd.ntmps22
  go_wp2_with fail
  go_loop [5, 6] (fun n i => ∃ j : Nat, j ≤ k ∧ n = .int .i64 (valD ((dg_ s).take j) : Nat) ∧ i = .int .i64 j) (fun _ i => k - (intOf i).toNat)
  case atStart => exact ⟨0, Nat.zero_le _, rfl, rfl⟩
  case round =>
    obtain ⟨j, hj, rfl, rfl⟩ := hrel
    by_cases hlt : j < k
    · obtain ⟨x, hx, h4, h48, h57, hd⟩ := digs_go (l := s.data.toList) (i := j) (by have := HK.out; unfold dg_ at this; omega)
      obtain ⟨hi, hsi⟩ := byte_of hx
      subst hsi
      have HV := Lib.hid (dg_next hd)
      have hb := dg_lt s j
      clear hx hd
      go_wp2_with fail
      go_round
      case rel => exact ⟨j + 1, by omega, by rw [HV.out]; congr 1; omega, by go_num⟩
      case measure => simp [intOf]; omega
    · obtain rfl : j = k := by omega
      have HE := Lib.hid (dg_end HK.out)
      have hval : valD ((dg_ s).take j) = valD (dg_ s) := by rw [HK.out, List.take_length]
      rw [hval]
      clear hval
      have hstop : (decide (j < s.size) = false) ∨ (decide (j < s.size) = true ∧ decide ((j : Int) < 4) = false) ∨
          (∃ hk : j < s.size, decide (j < s.size) = true ∧ decide ((j : Int) < 4) = true ∧ (s[j].toNat < 48 ∨ (48 ≤ s[j].toNat ∧ 57 < s[j].toNat))) := by
        rcases HE.out with h | ⟨h1, h2⟩ | ⟨h1, h2, h3⟩
        · exact .inl (by simp; omega)
        · exact .inr (.inl ⟨by simp; omega, by simp; omega⟩)
        · exact .inr (.inr ⟨h1, by simp; omega, by simp; omega, h3⟩)
      have hkind : (decide (0 < j) = false ∧ Hid (dgOk s = false)) ∨ (decide (0 < j) = true ∧ ∃ h0 : 0 < s.size, ((s[0].toNat : Int) != 48) = false ∧ Hid (dgOk s = false)) ∨ (decide (0 < j) = true ∧ ∃ h0 : 0 < s.size, ((s[0].toNat : Int) != 48) = true ∧ Hid (dgOk s = true)) := by
        by_cases h0 : j = 0
        · exact .inl ⟨by simp; exact h0, Lib.hid (dgOk_zero (by rw [← h0]; exact HK.out))⟩
        · have hs0 : 0 < s.size := by omega
          by_cases h1 : s[0].toNat = 48
          · exact .inr (.inl ⟨by simp; omega, hs0, by simp; omega, Lib.hid (dgOk_nought hs0 h1)⟩)
          · exact .inr (.inr ⟨by simp; omega, hs0, by simp; omega, Lib.hid (dgOk_yes HK.out (by omega) hs0 h1)⟩)
      clear hlt HE
      rcases hkind with ⟨k0, HO⟩ | ⟨k0, hs0, k1, HO⟩ | ⟨k0, hs0, k1, HO⟩ <;> rcases hstop with t1 | ⟨t1, t2⟩ | ⟨hj2, t1, t2, t3 | ⟨t3, t4⟩⟩
      all_goals
        go_upto_region 5 with fail
        try (have hs1 : (0 : Int) < s.size := by omega)
        go_quiet (fail)
        go_wp2_with fail
        go_ret3
        refine ⟨?_, by (repeat (first | with_reducible exact Ext.refl _ | with_reducible assumption | with_reducible refine Ext.alloc ?_ _ | with_reducible refine Ext.drew ?_ | with_reducible refine Ext.drewN ?_ _ | with_reducible refine Ext.later ?_ _ | (with_reducible refine Ext.setCell ?_ _ ?hp; case hp => first | (simp; done) | (simp; omega) | omega)))⟩
        rw [HO.out]
        try rfl
end Go.Proofs.YtpjkhnkbijpmnaaDoor
