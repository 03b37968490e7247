/- Proof text: the number of a word (script.number). By an AI agent. No condition beyond what each theorem states. -/
import Derived.Test.YtaklnijmcidpkaaDoorWD
import Derived.Test.YtaklnijmcidpkaaDoorDG
set_option linter.unusedVariables false
set_option linter.unusedSimpArgs false
namespace Go.Proofs.YtaklnijmcidpkaaDoor
open Go.RowKit
theorem strip_len (l : List UInt8) : (strip l).2.length ≤ l.length := by
  unfold strip
  split
  · simp
  · exact Nat.le_refl _
set_option maxRecDepth 10000 in
set_option maxHeartbeats 1000000 in
theorem number_any (s : ByteArray) (w : World) (hs : s.size ≤ 1000000) (hW : Wd w) : Calls Tryd.prog 30 #[.string s] w fun e w' => e = .returned (.tuple #[.int .i64 (numT s.data.toList).1, .int .i64 (numT s.data.toList).2]) ∧ Ext w w' := by
  obtain ⟨r, hr⟩ : ∃ r, r = numT s.data.toList := ⟨_, rfl⟩
  rw [← hr]
  have HR := Lib.hid hr
  have HW := Lib.hid hW
  have P1 := Lib.hid (fun w1 => prefix_any s ⟨#[45]⟩ w1 rfl)
  have hdl : (⟨(strip s.data.toList).2.toArray⟩ : ByteArray).size ≤ 1000000 := by
    have := strip_len s.data.toList
    rw [← Lib.size_eq] at this
    rw [Lib.size_eq]
    simp only [List.toList_toArray]
    omega
  have D1 := Lib.hid (fun w1 => digits_any ⟨(strip s.data.toList).2.toArray⟩ w1 hdl)
  clear hr hW hdl
  obtain ⟨B, hB⟩ : ∃ B : ByteArray, B = ⟨(strip s.data.toList).2.toArray⟩ := ⟨_, rfl⟩
  have hBd : B.data.toList = (strip s.data.toList).2 := by rw [hB]
  rw [← hB] at P1 D1
  obtain ⟨ng, hng⟩ : ∃ ng, ng = (strip s.data.toList).1 := ⟨_, rfl⟩
  rw [← hng] at P1
  by_cases hok : okD B.data.toList = true
  · rw [hok] at D1
    have hok2 : okD (strip s.data.toList).2 = true := by rw [← hBd]; exact hok
    by_cases hz : ng = true ∧ B.toList = [48]
    · have HN : Hid (r = (0, 11)) := Lib.hid (by
        rw [HR.out]; unfold numT
        rw [if_pos (.inr ⟨by rw [← hng]; exact hz.1, by rw [← hBd, ← Lib.toList_data]; exact hz.2⟩)])
      have t1 : (B.toList == [48]) = true := by simpa using hz.2
      rw [hz.1] at P1
      clear hz hok hok2 hB hBd hng HR
      go_enter Tryd.func30, Tryd.ntmps30
      go_wp2_with fail
      refine (P1.out _).mono ?_
      rintro e w1 ⟨rfl, hE⟩
      have HE := Lib.hid hE
      clear hE
      go_wp2_with fail
      refine (D1.out _).mono ?_
      rintro e w2 ⟨rfl, hE⟩
      have HE2 := Lib.hid (HE.out.trans hE)
      clear hE
      go_wp2_with fail
      go_ret2
      exact ⟨by cases HN.out; rfl, HE2.out⟩
    · have hn : numT s.data.toList = if (strip s.data.toList).1 then (if valD (strip s.data.toList).2 ≤ 9223372036854775808 then (-(valD (strip s.data.toList).2 : Int), 0) else (0, 4)) else (if valD (strip s.data.toList).2 ≤ 9223372036854775807 then ((valD (strip s.data.toList).2 : Int), 0) else (0, 4)) := by
        unfold numT
        rw [if_neg]
        rintro (h | ⟨h1, h2⟩)
        · rw [hok2] at h; cases h
        · exact hz ⟨by rw [hng]; exact h1, by rw [Lib.toList_data, hBd]; exact h2⟩
      have ha := atoi_is hok2
      rw [← HR.out] at hn
      have hcase : (∃ v : Int, Hid (Lib.atoiAll s.data.toList = .ok v) ∧ Hid (r = (v, 0))) ∨ (Hid (Lib.atoiAll s.data.toList = .range) ∧ Hid (r = (0, 4))) := by
        by_cases h1 : (strip s.data.toList).1 = true
        · rw [if_pos h1] at hn ha
          by_cases h2 : valD (strip s.data.toList).2 ≤ 9223372036854775808
          · rw [if_pos h2] at hn ha
            exact .inl ⟨_, Lib.hid ha, Lib.hid hn⟩
          · rw [if_neg h2] at hn ha
            exact .inr ⟨Lib.hid ha, Lib.hid hn⟩
        · rw [if_neg h1] at hn ha
          by_cases h2 : valD (strip s.data.toList).2 ≤ 9223372036854775807
          · rw [if_pos h2] at hn ha
            exact .inl ⟨_, Lib.hid ha, Lib.hid hn⟩
          · rw [if_neg h2] at hn ha
            exact .inr ⟨Lib.hid ha, Lib.hid hn⟩
      have hkk : ng = false ∨ (ng = true ∧ (B.toList == [48]) = false) := by
        cases ng with
        | false => exact .inl rfl
        | true => exact .inr ⟨rfl, by rw [beq_eq_false_iff_ne]; exact fun h => hz ⟨rfl, h⟩⟩
      have HS := Lib.hid hs
      clear hz hok hok2 hB hBd hng hn ha HR hs
      rcases hkk with rfl | ⟨rfl, t1⟩ <;> rcases hcase with ⟨v, HA, HN⟩ | ⟨HA, HN⟩
      all_goals
        go_enter Tryd.func30, Tryd.ntmps30
        go_wp2_with fail
        refine (P1.out _).mono ?_
        rintro e w1 ⟨rfl, hE⟩
        have HE := Lib.hid hE
        clear hE
        go_wp2_with fail
        refine (D1.out _).mono ?_
        rintro e w2 ⟨rfl, hE⟩
        have HE2 := Lib.hid (HE.out.trans hE)
        clear hE HE
        go_wp2_with fail
        first
          | (refine (atoi_ok s HS.out v HA.out _).mono ?_
             rintro e w3 ⟨rfl, hE⟩
             have HE3 := Lib.hid (HE2.out.trans hE)
             clear hE
             go_wp2_with fail
             go_ret2
             exact ⟨by cases HN.out; rfl, HE3.out⟩)
          | (refine (atoi_range s HS.out HA.out _ (HW.out.ext HE2.out)).mono ?_
             rintro e w3 ⟨v, N, rfl, hE⟩
             have HE3 := Lib.hid (HE2.out.trans hE)
             clear hE
             go_wp2_with fail
             go_ret2
             exact ⟨by cases HN.out; rfl, HE3.out⟩)
  · have hok : okD B.data.toList = false := by simpa using hok
    rw [hok] at D1
    have HN : Hid (r = (0, 11)) := Lib.hid (by
      rw [HR.out]; unfold numT
      rw [if_pos (.inl (by rw [← hBd]; exact hok))])
    clear hok hB hBd hng HR
    go_enter Tryd.func30, Tryd.ntmps30
    go_wp2_with fail
    refine (P1.out _).mono ?_
    rintro e w1 ⟨rfl, hE⟩
    have HE := Lib.hid hE
    clear hE
    go_wp2_with fail
    refine (D1.out _).mono ?_
    rintro e w2 ⟨rfl, hE⟩
    have HE2 := Lib.hid (HE.out.trans hE)
    clear hE
    go_wp2_with fail
    go_ret2
    exact ⟨by cases HN.out; rfl, HE2.out⟩
end Go.Proofs.YtaklnijmcidpkaaDoor
