/- Proof text: the number of a word (rastrumref29.number), walked. By an AI agent. No condition beyond what each theorem states. -/
import Derived.Test.YtaklnijmcidpkaaDoorRM
set_option linter.unusedVariables false
set_option linter.unusedSimpArgs false
namespace Go.Proofs.YtaklnijmcidpkaaDoor
open Go.RowKit
set_option maxRecDepth 10000 in
set_option maxHeartbeats 2000000 in
theorem rnumber_one (s : ByteArray) (w : World) (hs : s.size ≤ 1000000) (h0 : 0 < s.size) (h45 : s[0].toNat = 45) : Calls Tryd.prog 33 #[.string s] w fun e w' => e = .returned (.tuple #[.int .i64 (numT s.data.toList).1, .int .i64 (numT s.data.toList).2]) ∧ Ext w w' := by
  obtain ⟨r, hr⟩ : ∃ r, r = numT s.data.toList := ⟨_, rfl⟩
  rw [← hr]
  obtain ⟨hg, hneg⟩ := sg_one h0 h45
  have t0 : ((s[0].toNat : Int) == 45) = true := by simp; omega
  have HR := Lib.hid hr
  have HG := Lib.hid hg
  have HNG := Lib.hid hneg
  clear hr h45 hg hneg
  by_cases hone : s.size = 1
  · have HN : Hid (r = (0, 11)) := Lib.hid (by
      rw [HR.out]
      exact num_nil (by rw [HG.out, hone]))
    have tz : ((1 : Int) == s.size) = true := by simp; omega
    clear HR hone
    go_enter Tryd.func33, Tryd.ntmps33
    go_wp2_with fail
    go_ret2
    exact ⟨by cases HN.out; rfl, Ext.refl _⟩
  have tz : ((1 : Int) == s.size) = false := by simp; omega
  have h1s : 1 < s.size := by omega
  have t2 : decide ((s.size : Int) > 1) = true := by simp; omega
  clear hone
  by_cases hz : s[1].toNat = 48
  · have HN : Hid (r = (0, 11)) := Lib.hid (by
      have hg := HG.out
      rw [HR.out]
      exact num_zero (by omega) (by simp only [hg]; exact hz) h1s)
    have t1 : ((s[1].toNat : Int) == 48) = true := by simp; omega
    clear hz HR
    go_enter Tryd.func33, Tryd.ntmps33
    go_wp2_with fail
    go_ret2
    exact ⟨by cases HN.out; rfl, Ext.refl _⟩
  · have t1 : ((s[1].toNat : Int) == 48) = false := by simp; omega
    have HZ : Hid (s[1].toNat ≠ 48) := Lib.hid hz
    clear hz
    have HO : Hid (∀ j (h : j < s.size), 1 ≤ j → j < 1 → isD s[j] = true) := Lib.hid (fun j _ h1 h => by omega)
    all_goals
      go_enter Tryd.func33, Tryd.ntmps33
      go_wp2_with fail
      go_loop [5] (fun c => ∃ k : Nat, 1 ≤ k ∧ k ≤ s.size ∧ c = .int .i64 k ∧ Hid (∀ j (h : j < s.size), 1 ≤ j → j < k → isD s[j] = true)) (fun c => s.size - (intOf c).toNat)
      case atStart => exact ⟨1, Nat.le_refl _, by omega, rfl, HO⟩
      case round =>
        clear HO
        obtain ⟨k, hk1, hk, rfl, HO⟩ := hrel
        by_cases hlt : k < s.size
        · by_cases hd : isD s[k] = true
          · have HO2 : Hid (∀ j (h : j < s.size), 1 ≤ j → j < k + 1 → isD s[j] = true) := Lib.hid (fun j h h1 hj => by
              by_cases hjk : j < k
              · exact HO.out j h h1 hjk
              · obtain rfl : j = k := by omega
                exact hd)
            have t3 : 48 ≤ s[k].toNat ∧ s[k].toNat ≤ 57 := by unfold isD at hd; simpa using hd
            obtain ⟨t3, t4⟩ := t3
            clear HO hd
            go_wp2_with fail
            go_round
            case rel => first | exact ⟨k + 1, by omega, by omega, by go_num, HO2⟩ | ((repeat apply Exists.intro); exact ⟨⟨k + 1, by omega, by omega, by go_num, HO2⟩, rfl⟩)
            case measure => simp [intOf]; omega
          · have HB := Lib.hid (HR.out.trans (num_bad hlt (by rw [HG.out]; exact hk1) (by simpa using hd)))
            have t3 : s[k].toNat < 48 ∨ (48 ≤ s[k].toNat ∧ 57 < s[k].toNat) := by unfold isD at hd; simp at hd; omega
            clear HO hd
            rcases t3 with t3 | ⟨t3, t4⟩
            · go_wp2_with fail
              go_ret2
              exact ⟨by cases HB.out; rfl, Ext.refl _⟩
            · go_wp2_with fail
              go_ret2
              exact ⟨by cases HB.out; rfl, Ext.refl _⟩
        · obtain rfl : k = s.size := by omega
          have hg := HG.out
          have HV : Hid (r = valR s) := Lib.hid (HR.out.trans (num_val (by omega) (by simp only [hg]; exact .inl HZ.out) (fun j h h1 => HO.out j h (by omega) h)))
          have HALL : Hid (∀ j (h : j < s.size), 1 ≤ j → isD s[j] = true) := Lib.hid (fun j h h1 => HO.out j h h1 h)
          clear hlt hg HO
          go_wp2_with fail
          go_loop [6, 7, 8] (fun n c _ => ∃ k : Nat, 1 ≤ k ∧ k ≤ s.size ∧ c = .int .i64 k ∧ n = .int .i64 (-(vk s k : Int)) ∧ Hid (vk s k ≤ 9223372036854775808)) (fun _ c _ => s.size - (intOf c).toNat)
          case atStart => exact ⟨1, Nat.le_refl _, by omega, rfl, by have := vk_zero s; rw [HG.out] at this; rw [this]; rfl, Lib.hid (by have := vk_zero s; rw [HG.out] at this; rw [this]; decide)⟩
          case round =>
            obtain ⟨k, hk1, hk, rfl, rfl, HB⟩ := hrel
            have hbi : (vk s k : Int) ≤ 9223372036854775808 := by have := HB.out; omega
            by_cases hlt : k < s.size
            · have hd := HALL.out k hlt hk1
              have t3 : 48 ≤ s[k].toNat ∧ s[k].toNat ≤ 57 := by unfold isD at hd; simpa using hd
              obtain ⟨t3, t4⟩ := t3
              have hn := vk_next hlt (by rw [HG.out]; exact hk1)
              have hle := vk_le s (k + 1)
              have i1 : (k : Int) < s.size := by omega
              have HLT := Lib.hid hlt
              have HN1 := Lib.hid hn
              obtain ⟨v, hv⟩ : ∃ v : Nat, v = vk s k := ⟨_, rfl⟩
              rw [← hv] at hbi hn ⊢
              have HVV := Lib.hid hv
              have hc : (Hid (r = (0, 4)) ∧ ((922337203685477580 < (v : Int)) ∨ (((v : Int) ≤ 922337203685477580) ∧ ((v : Int) = 922337203685477580) ∧ (8 < (s[k].toNat : Int) - 48)))) ∨
                  (Hid (vk s (k + 1) ≤ 9223372036854775808) ∧ (v : Int) ≤ 922337203685477580 ∧ ((((v : Int) ≤ 922337203685477580) ∧ (¬ (v : Int) = 922337203685477580)) ∨ (((v : Int) ≤ 922337203685477580) ∧ ((v : Int) = 922337203685477580) ∧ ((s[k].toNat : Int) - 48 ≤ 8))) ∧ (s[k].toNat : Int) - 48 ≤ 9 ∧ -9223372036854775808 ≤ -(v : Int) * 10 - ((s[k].toNat : Int) - 48)) := by
                by_cases hov : 9223372036854775808 < vk s (k + 1)
                · refine .inl ⟨Lib.hid (HV.out.trans (val_over (by omega))), ?_⟩
                  by_cases h1 : 922337203685477580 < v
                  · exact .inl (by omega)
                  · exact .inr ⟨by omega, by omega, by omega⟩
                · refine .inr ⟨Lib.hid (by omega), by omega, ?_, by omega, by omega⟩
                  by_cases h1 : v = 922337203685477580
                  · exact .inr ⟨by omega, by omega, by omega⟩
                  · exact .inl ⟨by omega, by omega⟩
              clear hn hle hv hd HB
              rcases hc with ⟨HN, t5 | ⟨t5, t6, t7⟩⟩ | ⟨HB, i2, ⟨t5, t6⟩ | ⟨t5, t6, t7⟩, i3, i4⟩
              · go_wp2_with fail
                go_ret2
                exact ⟨by cases HN.out; rfl, Ext.refl _⟩
              · go_wp2_with fail
                go_ret2
                exact ⟨by cases HN.out; rfl, Ext.refl _⟩
              all_goals
                go_wp2_with fail
                go_round
                case rel => exact ⟨k + 1, by omega, by omega, by go_num, by
                  have h1 := HN1.out
                  rw [← HVV.out] at h1
                  rw [h1]
                  congr 1
                  omega, HB⟩
                case measure => simp [intOf]; omega
            · obtain rfl : k = s.size := by omega
              have hv := vk_all s
              have hval := HV.out
              unfold valR at hval
              rw [if_pos HNG.out, ← hv, if_pos HB.out] at hval
              obtain ⟨v, hvv⟩ : ∃ v : Nat, v = vk s s.size := ⟨_, rfl⟩
              rw [← hvv] at hbi hval ⊢
              have HN := Lib.hid hval
              clear hv hval hvv HB hlt
              go_wp2_with fail
              go_ret2
              exact ⟨by cases HN.out; rfl, Ext.refl _⟩
theorem num_empty : numT (⟨#[]⟩ : ByteArray).data.toList = (0, 11) := by decide
set_option maxRecDepth 10000 in
set_option maxHeartbeats 1000000 in
theorem rnumber_any (s : ByteArray) (w : World) (hs : s.size ≤ 1000000) : Calls Tryd.prog 33 #[.string s] w fun e w' => e = .returned (.tuple #[.int .i64 (numT s.data.toList).1, .int .i64 (numT s.data.toList).2]) ∧ Ext w w' := by
  by_cases h0 : s = ⟨#[]⟩
  · subst h0
    rw [num_empty]
    go_enter Tryd.func33, Tryd.ntmps33
    go_wp2_with fail
    go_ret2
    exact ⟨rfl, Ext.refl _⟩
  · have hp := (empty_no h0).2
    by_cases h : s[0].toNat = 45
    · exact rnumber_one s w hs hp h
    · exact rnumber_zero s w hs hp h
end Go.Proofs.YtaklnijmcidpkaaDoor
