/- Proof text: digits of a word (script.digits). By an AI agent. No condition beyond what each theorem states. -/
import Derived.Test.YtaklnijmcidpkaaDoorNU
import Derived.Test.YtaklnijmcidpkaaDoorOP
set_option linter.unusedVariables false
set_option linter.unusedSimpArgs false
namespace Go.Proofs.YtaklnijmcidpkaaDoor
open Go.RowKit
theorem bget {s : ByteArray} {k : Nat} (h : k < s.size) : s.data.toList[k]? = some s[k] := List.getElem?_eq_getElem (by rw [← Lib.size_eq]; exact h)
theorem okD_bad {s : ByteArray} {k : Nat} (h : k < s.size) (hb : isD s[k] = false) : okD s.data.toList = false := by
  have h1 : s.data.toList.all isD = false := by
    rw [List.all_eq_false]
    exact ⟨s[k], List.mem_iff_getElem?.2 ⟨k, bget h⟩, by rw [hb]; decide⟩
  unfold okD
  rw [h1]
  simp
theorem okD_nought {s : ByteArray} (h0 : 0 < s.size) (h : s[0].toNat = 48) (hne : ¬ s.toList = [48]) : okD s.data.toList = false := by
  have h1 : s.data.toList.head? = some 48 := by
    rw [List.head?_eq_getElem?, bget h0, show s[0] = 48 from UInt8.toNat_inj.1 h]
  rw [Lib.toList_data] at hne
  unfold okD
  simp [h1, hne]
theorem okD_all {s : ByteArray} (h0 : 0 < s.size) (hall : ∀ j (h : j < s.size), isD s[j] = true) (hf : s[0].toNat ≠ 48 ∨ s.toList = [48]) : okD s.data.toList = true := by
  have h1 : s.data.toList.all isD = true := by
    rw [List.all_eq_true]
    intro b hb
    obtain ⟨k, hk⟩ := List.mem_iff_getElem?.1 hb
    have hl := (List.getElem?_eq_some_iff.1 hk).1
    rw [← Lib.size_eq] at hl
    rw [bget hl] at hk
    rw [← Option.some.inj hk]
    exact hall k hl
  have h2 : s.data.toList ≠ [] := by
    intro e
    have := Lib.size_eq s
    rw [e, List.length_nil] at this
    omega
  unfold okD
  rw [h1]
  rcases hf with h | h
  · have h3 : s.data.toList.head? ≠ some 48 := by
      rw [List.head?_eq_getElem?, bget h0]
      intro e
      exact h (by rw [Option.some.inj e]; rfl)
    simp [h2, h3]
  · rw [Lib.toList_data] at h
    simp [h2, h]
theorem empty_no {s : ByteArray} (h0 : ¬ s = ⟨#[]⟩) : s.toList.isEmpty = false ∧ 0 < s.size := by
  cases h : s.data.toList with
  | nil => exact absurd (data_eq (s := s) (t := ⟨#[]⟩) (by rw [h])) h0
  | cons a l => exact ⟨by rw [Lib.toList_data, h]; rfl, by rw [Lib.size_eq, h]; simp⟩
set_option maxRecDepth 10000 in
set_option maxHeartbeats 1000000 in
theorem digits_any (s : ByteArray) (w : World) (hs : s.size ≤ 1000000) : Calls Tryd.prog 40 #[.string s] w fun e w' => e = .returned (.bool (okD s.data.toList)) ∧ Ext w w' := by
  by_cases h0 : s = ⟨#[]⟩
  · subst h0
    go_enter Tryd.func40, Tryd.ntmps40
    go_wp2_with fail
    go_returns
    exact ⟨rfl, Ext.refl _⟩
  · obtain ⟨d0, hp⟩ := empty_no h0
    obtain ⟨r, hr⟩ : ∃ r, r = okD s.data.toList := ⟨_, rfl⟩
    rw [← hr]
    have HR := Lib.hid hr
    clear h0 hr
    have hc : (((s[0].toNat : Int) == 48) = true ∧ (s.toList == [48]) = false ∧ Hid (r = false)) ∨ ((((s[0].toNat : Int) == 48) = false ∨ (((s[0].toNat : Int) == 48) = true ∧ (s.toList == [48]) = true)) ∧ Hid (s[0].toNat ≠ 48 ∨ s.toList = [48])) := by
      by_cases h1 : s[0].toNat = 48
      · by_cases h2 : s.toList = [48]
        · exact .inr ⟨.inr ⟨by simp; omega, by simpa using h2⟩, Lib.hid (.inr h2)⟩
        · exact .inl ⟨by simp; omega, by simpa using h2, Lib.hid (HR.out.trans (okD_nought hp h1 h2))⟩
      · exact .inr ⟨.inl (by simp; omega), Lib.hid (.inl h1)⟩
    rcases hc with ⟨k1, k2, HN⟩ | ⟨hk, HF⟩
    · go_enter Tryd.func40, Tryd.ntmps40
      go_wp2_with fail
      go_returns
      exact ⟨by cases HN.out; rfl, Ext.refl _⟩
    · have HO : Hid (∀ j (h : j < s.size), j < 0 → isD s[j] = true) := Lib.hid (fun j _ h => by omega)
      rcases hk with k1 | ⟨k1, k2⟩
      all_goals
        go_enter Tryd.func40, Tryd.ntmps40
        go_wp2_with fail
        go_loop [3, 17] (fun _ c => ∃ k : Nat, k ≤ s.size ∧ c = .int .i64 k ∧ Hid (∀ j (h : j < s.size), j < k → isD s[j] = true)) (fun _ c => s.size - (intOf c).toNat)
        case atStart => exact ⟨0, Nat.zero_le _, rfl, HO⟩
        case round =>
          clear HO
          obtain ⟨k, hk, rfl, HO⟩ := hrel
          by_cases hlt : k < s.size
          · by_cases hd : isD s[k] = true
            · have HO2 : Hid (∀ j (h : j < s.size), j < k + 1 → isD s[j] = true) := Lib.hid (fun j h hj => by
                by_cases hjk : j < k
                · exact HO.out j h hjk
                · obtain rfl : j = k := by omega
                  exact hd)
              have t3 : 48 ≤ s[k].toNat ∧ s[k].toNat ≤ 57 := by unfold isD at hd; simpa using hd
              obtain ⟨t3, t4⟩ := t3
              clear HO hd
              go_wp2_with fail
              go_round
              case rel => first | exact ⟨k + 1, by omega, by go_num, HO2⟩ | ((repeat apply Exists.intro); exact ⟨⟨k + 1, by omega, by go_num, HO2⟩, rfl⟩)
              case measure => simp [intOf]; omega
            · have HB := Lib.hid (HR.out.trans (okD_bad hlt (by simpa using hd)))
              have t3 : s[k].toNat < 48 ∨ (48 ≤ s[k].toNat ∧ 57 < s[k].toNat) := by unfold isD at hd; simp at hd; omega
              clear HO hd
              rcases t3 with t3 | ⟨t3, t4⟩
              · go_wp2_with fail
                go_returns
                exact ⟨by cases HB.out; rfl, Ext.refl _⟩
              · go_wp2_with fail
                go_returns
                exact ⟨by cases HB.out; rfl, Ext.refl _⟩
          · obtain rfl : k = s.size := by omega
            have HB := Lib.hid (HR.out.trans (okD_all hp (fun j h => HO.out j h h) HF.out))
            clear hlt
            go_wp2_with fail
            go_returns
            exact ⟨by cases HB.out; rfl, Ext.refl _⟩
end Go.Proofs.YtaklnijmcidpkaaDoor
