/- Proof text: the law ScriptNames. By an AI agent. No condition beyond what each theorem states. -/
import Derived.Test.YtaklnijmcidpkaaDoorAW
set_option linter.unusedVariables false
set_option linter.unusedSimpArgs false
namespace Go.Proofs.YtaklnijmcidpkaaDoor
open Go.RowKit
/-- The Op of an Op's name is that Op; what is no Op has no name, and no Op has it. -/
theorem op_name (op : Int) : (opT (nameT op).1).2 = (nameT op).2 ∧ ((nameT op).2 = true → (opT (nameT op).1).1 = op) := by
  by_cases h : 1 ≤ op ∧ op ≤ 32
  · obtain ⟨k, rfl⟩ : ∃ k : Nat, op = k := ⟨op.toNat, by omega⟩
    rw [nameT_yes (by omega) (by omega)]
    have := opT_nm (k := k) (by omega) (by omega)
    unfold nmAt at this
    simp only
    rw [this]
    exact ⟨rfl, fun _ => rfl⟩
  · rw [nameT_no h]
    simp only
    rw [opT_no (fun j h1 h2 => nmAt_ne_nil h1 h2)]
    exact ⟨rfl, fun h => by cases h⟩
set_option maxRecDepth 10000 in
set_option maxHeartbeats 1000000 in
theorem law_names (op : Int) (s : ByteArray) (w : World) (hm : s.size ≤ maxLen) (hW : Wd w) : Calls Tryd.prog 5 #[.int .i64 op, .string s] w fun e w' => e = .returned (.bool true) ∧ Ext w w' := by
  have HW := Lib.hid hW
  unfold maxLen at hm
  by_cases h6 : 100 < s.size
  · have hd : decide ((s.size : Int) > 100) = true := by simp; omega
    clear h6 hW
    go_enter Tryd.func5, Tryd.ntmps5
    go_wp2_with fail
    refine (awake29 _ HW.out).mono ?_
    rintro e w1 ⟨rfl, hE⟩
    have HE := Lib.hid hE
    clear hE
    go_wp2_with fail
    go_returns
    exact ⟨rfl, HE.out⟩
  · have hd : decide ((s.size : Int) > 100) = false := by simp; omega
    have N1 := Lib.hid (fun w1 => name_any op w1)
    have N2 := Lib.hid (fun w1 => rname_any op w1)
    have O1 := Lib.hid (fun w1 => op_any s w1)
    have O2 := Lib.hid (fun w1 => rop_any s w1)
    have O3 := Lib.hid (fun w1 => op_any (nameT op).1 w1)
    have hon := op_name op
    rw [hon.1] at O3
    obtain ⟨c, hc⟩ : ∃ c, c = (opT (nameT op).1).1 := ⟨_, rfl⟩
    rw [← hc] at O3 hon
    obtain ⟨n, hn⟩ : ∃ n, n = nameT op := ⟨_, rfl⟩
    rw [← hn] at N1 N2 O3 hon
    obtain ⟨r, hr⟩ : ∃ r, r = opT s := ⟨_, rfl⟩
    rw [← hr] at O1 O2
    obtain ⟨n1, n2⟩ := n
    obtain ⟨r1, r2⟩ := r
    simp only [] at N1 N2 O1 O2 O3 hon
    have t1 : (n1.toList == n1.toList) = true := by simp
    have t2 : (n2 == n2) = true := by simp
    have t3 : (r1 == r1) = true := by simp
    have t4 : (r2 == r2) = true := by simp
    have hkk : n2 = false ∨ (n2 = true ∧ c = op) := by
      cases n2 with
      | false => exact .inl rfl
      | true => exact .inr ⟨rfl, hon.2 rfl⟩
    clear h6 hW hon hc hn hr
    rcases hkk with rfl | ⟨rfl, rfl⟩
    all_goals
      try have t5 : (c == c) = true := by simp
      go_enter Tryd.func5, Tryd.ntmps5
      go_wp2_with fail
      refine (N1.out w).mono ?_
      rintro e w1 ⟨rfl, hE⟩
      have HE1 := Lib.hid hE
      clear hE
      go_wp2_with fail
      refine (N2.out w1).mono ?_
      rintro e w2 ⟨rfl, hE⟩
      have HE2 := Lib.hid (HE1.out.trans hE)
      clear hE
      go_wp2_with fail
      refine (O1.out w2).mono ?_
      rintro e w3 ⟨rfl, hE⟩
      have HE3 := Lib.hid (HE2.out.trans hE)
      clear hE
      go_wp2_with fail
      refine (O2.out w3).mono ?_
      rintro e w4 ⟨rfl, hE⟩
      have HE4 := Lib.hid (HE3.out.trans hE)
      clear hE
      go_wp2_with fail
      refine (O3.out w4).mono ?_
      rintro e w5 ⟨rfl, hE⟩
      have HE5 := Lib.hid (HE4.out.trans hE)
      clear hE
      go_wp2_with fail
      refine (awake29 _ (HW.out.ext HE5.out)).mono ?_
      rintro e w6 ⟨rfl, hE⟩
      have HE6 := Lib.hid (HE5.out.trans hE)
      clear hE
      go_wp2_with fail
      go_returns
      exact ⟨by simp, HE6.out⟩
end Go.Proofs.YtaklnijmcidpkaaDoor
