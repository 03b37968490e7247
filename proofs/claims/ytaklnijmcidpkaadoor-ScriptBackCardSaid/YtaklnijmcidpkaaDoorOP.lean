/- Proof text: the command of a name (script.Op, rastrumref29.Op). By an AI agent. No condition beyond what each theorem states. -/
import Derived.Test.YtaklnijmcidpkaaDoorNM
import Derived.Lib.Strings
import Derived.Handy
set_option linter.unusedVariables false
set_option linter.unusedSimpArgs false
namespace Go.Proofs.YtaklnijmcidpkaaDoor
open Go.RowKit
def nmAt (k : Nat) : ByteArray := nameB.getD k ⟨#[]⟩
/-- The command of a name. -/
def opT (s : ByteArray) : Int × Bool :=
  match (List.range 32).find? (fun i => (nmAt (i + 1)).data.toList == s.data.toList) with
  | some i => ((i + 1 : Nat), true)
  | none => (0, false)
theorem bytes_eq {s t : ByteArray} (h : s.toList = t.toList) : s = t := by
  rw [Lib.toList_data, Lib.toList_data] at h
  exact ByteArray.ext (Array.ext' h)
theorem data_eq {s t : ByteArray} (h : s.data.toList = t.data.toList) : s = t := ByteArray.ext (Array.ext' h)
theorem opT_no {s : ByteArray} (h : ∀ j, 1 ≤ j → j < 33 → nmAt j ≠ s) : opT s = (0, false) := by
  unfold opT
  rw [List.find?_eq_none.2]
  intro i hi
  rw [List.mem_range] at hi
  intro he
  exact h (i + 1) (by omega) (by omega) (data_eq (by simpa using he))
theorem opT_yes {s : ByteArray} {k : Nat} (h1 : 1 ≤ k) (h2 : k < 33) (h : ∀ j, 1 ≤ j → j < k → nmAt j ≠ s) (he : nmAt k = s) : opT s = ((k : Int), true) := by
  unfold opT
  have : (List.range 32).find? (fun i => (nmAt (i + 1)).data.toList == s.data.toList) = some (k - 1) := by
    rw [List.find?_range_eq_some]
    refine ⟨?_, by rw [List.mem_range]; omega, fun j hj => ?_⟩
    · rw [show k - 1 + 1 = k by omega, he]; simp
    · have := h (j + 1) (by omega) (by omega)
      simp only [Bool.not_eq_true', beq_eq_false_iff_ne]
      exact fun e => this (data_eq e)
  rw [this]
  simp only
  rw [show k - 1 + 1 = k by omega]
theorem nmAt_ne_nil {j : Nat} (h1 : 1 ≤ j) (h2 : j < 33) : nmAt j ≠ ⟨#[]⟩ := by
  have hall : ∀ j, j < 33 → 1 ≤ j → (nmAt j).data.toList ≠ [] := by decide
  intro e
  exact hall j h2 h1 (by rw [e])
theorem opT_nm {k : Nat} (h1 : 1 ≤ k) (h2 : k < 33) : opT (nmAt k) = ((k : Int), true) := by
  have hall : ∀ k, k < 33 → 1 ≤ k → opT (nmAt k) = ((k : Int), true) := by decide
  exact hall k h2 h1
theorem run_index_names (w : World) {k : Nat} (hk : k < 33) {x : ByteArray} (hg : nmA[k]? = some (.string x)) : (Instr.index 46 (.agg nmA) (.int .i64 (k : Int))).run Tryd.prog w = .ok (.string x) w := by
  have hk2 : (k : Int) < 33 := by omega
  simp [Instr.index, asIntOf, run_underlying Tryd.underlying46, hk2, part, go_sem, Tryd.sizeOf9, Tryd.isAgg9, hg]
  intro h
  omega
set_option maxRecDepth 10000 in
set_option maxHeartbeats 1000000 in
theorem op_any (s : ByteArray) (w : World) : Calls Tryd.prog 14 #[.string s] w fun e w' => e = .returned (.tuple #[.int .i64 (opT s).1, .bool (opT s).2]) ∧ Ext w w' := by
  by_cases h0 : s = ⟨#[]⟩
  · subst h0
    rw [opT_no (fun j h1 h2 => nmAt_ne_nil h1 h2)]
    go_enter Tryd.func14, Tryd.ntmps14
    go_wp2_with fail
    go_ret2
    exact ⟨rfl, Ext.refl _⟩
  · have d0 : s.toList.isEmpty = false := by
      cases h : s.toList with
      | nil => exact absurd (bytes_eq (s := s) (t := ⟨#[]⟩) (by rw [h, Lib.toList_data])) h0
      | cons a l => rfl
    have HO : Hid (∀ j, j < 0 → nmAt j ≠ s) := Lib.hid (fun j h => by omega)
    have H0 := Lib.hid h0
    obtain ⟨r, hr⟩ : ∃ r, r = opT s := ⟨_, rfl⟩
    rw [← hr]
    have HR := Lib.hid hr
    clear h0 hr
    go_enter Tryd.func14, Tryd.ntmps14
    go_wp2_with fail
    refine (names_any _).mono ?_
    rintro e w1 ⟨rfl, hE⟩
    have HE := Lib.hid hE
    clear hE
    go_wp2_with fail
    go_loopw [4, 5, 9] (fun _ _ c wr => ∃ k : Nat, k ≤ 33 ∧ c = .int .i64 k ∧ Hid (Ext w wr) ∧ Hid (∀ j, j < k → nmAt j ≠ s)) (fun _ _ c _ => 33 - (intOf c).toNat)
    case atStart => exact ⟨0, Nat.zero_le _, rfl, HE, HO⟩
    case round =>
      clear HE HO
      obtain ⟨k, hk, rfl, HE, HO⟩ := hrel
      by_cases hlt : k < 33
      · have hg := nmA_get hlt
        rw [show nameB.getD k ⟨#[]⟩ = nmAt k from rfl] at hg
        by_cases he : nmAt k = s
        · have hk1 : 1 ≤ k := by
            rcases k with _ | k
            · exact absurd he.symm H0.out
            · omega
          have ho := opT_yes hk1 hlt (fun j _ hj => HO.out j hj) he
          have hr := HR.out
          rw [ho] at hr
          have HR2 := Lib.hid hr
          rw [he] at hg
          have t1 : (s.toList == s.toList) = true := by simp
          have i1 : (k : Int) < 33 := by omega
          have ki := fun w1 => run_index_names w1 hlt hg
          clear ho he hr hg
          go_wp2_with fail
          go_ret2
          exact ⟨by cases HR2.out; rfl, HE.out⟩
        · have t1 : ((nmAt k).toList == s.toList) = false := by rw [beq_eq_false_iff_ne]; exact fun e => he (bytes_eq e)
          have HO2 : Hid (∀ j, j < k + 1 → nmAt j ≠ s) := Lib.hid (fun j hj => by
            by_cases hjk : j < k
            · exact HO.out j hjk
            · obtain rfl : j = k := by omega
              exact he)
          obtain ⟨x, hx⟩ : ∃ x, x = nmAt k := ⟨_, rfl⟩
          rw [← hx] at hg t1
          have ki := fun w1 => run_index_names w1 hlt hg
          have i1 : (k : Int) < 33 := by omega
          clear HO he hx hg
          go_wp2_with fail
          go_roundw
          case rel => first | exact ⟨k + 1, by omega, by go_num, HE, HO2⟩ | ((repeat apply Exists.intro); exact ⟨⟨k + 1, by omega, by go_num, HE, HO2⟩, rfl⟩)
          case measure => simp [intOf]; omega
      · obtain rfl : k = 33 := by omega
        have hr := HR.out
        rw [opT_no (fun j _ hj => HO.out j hj)] at hr
        have HR2 := Lib.hid hr
        clear hr
        go_wp2_with fail
        go_ret2
        exact ⟨by cases HR2.out; rfl, HE.out⟩
set_option maxRecDepth 10000 in
set_option maxHeartbeats 1000000 in
theorem rop_any (s : ByteArray) (w : World) : Calls Tryd.prog 15 #[.string s] w fun e w' => e = .returned (.tuple #[.int .i64 (opT s).1, .bool (opT s).2]) ∧ Ext w w' := by
  have HO : Hid (∀ j, 1 ≤ j → j < 1 → nmAt j ≠ s) := Lib.hid (fun j h1 h => by omega)
  obtain ⟨r, hr⟩ : ∃ r, r = opT s := ⟨_, rfl⟩
  rw [← hr]
  have HRR := Lib.hid hr
  clear hr
  go_enter Tryd.func15, Tryd.ntmps15
  go_wp2_with fail
  refine (rnames_any _).mono ?_
  rintro e w1 ⟨a, c, rfl, hr, hE⟩
  have HE := Lib.hid (Ext.refl w1)
  have HE1 := Lib.hid hE
  have HR := Lib.hid hr
  clear hE hr
  go_wp2_with fail
  go_loopw [5] (fun c wr => ∃ k : Nat, 1 ≤ k ∧ k ≤ 33 ∧ c = .int .i64 k ∧ Hid (Ext w1 wr) ∧ Hid (∀ j, 1 ≤ j → j < k → nmAt j ≠ s)) (fun c _ => 33 - (intOf c).toNat)
  case atStart => exact ⟨1, Nat.le_refl _, by omega, rfl, HE, HO⟩
  case round =>
    clear HE HO
    obtain ⟨k, hk1, hk, rfl, HE, HO⟩ := hrel
    by_cases hlt : k < 33
    · have hg := nmL_get hlt
      rw [show nameB.getD k ⟨#[]⟩ = nmAt k from rfl] at hg
      obtain ⟨b, o, rfl, -, hc⟩ := (HR.out.ext HE.out).at_ (by omega)
      have cc := (hc k (by omega)).trans hg
      have i1 : (k : Int) < 33 := by omega
      clear hc hg
      by_cases he : nmAt k = s
      · have ho := opT_yes hk1 hlt (fun j h1 hj => HO.out j h1 hj) he
        have hr := HRR.out
        rw [ho] at hr
        have HR2 := Lib.hid hr
        rw [he] at cc
        have t1 : (s.toList == s.toList) = true := by simp
        clear ho he hr
        go_wp2_with fail
        go_ret2
        exact ⟨by cases HR2.out; rfl, HE1.out.trans HE.out⟩
      · have t1 : ((nmAt k).toList == s.toList) = false := by rw [beq_eq_false_iff_ne]; exact fun e => he (bytes_eq e)
        have HO2 : Hid (∀ j, 1 ≤ j → j < k + 1 → nmAt j ≠ s) := Lib.hid (fun j h1 hj => by
          by_cases hjk : j < k
          · exact HO.out j h1 hjk
          · obtain rfl : j = k := by omega
            exact he)
        obtain ⟨x, hx⟩ : ∃ x, x = nmAt k := ⟨_, rfl⟩
        rw [← hx] at cc t1
        clear HO he hx
        go_wp2_with fail
        go_roundw
        case rel => first | exact ⟨k + 1, by omega, by omega, by go_num, HE, HO2⟩ | ((repeat apply Exists.intro); exact ⟨⟨k + 1, by omega, by omega, by go_num, HE, HO2⟩, rfl⟩)
        case measure => simp [intOf]; omega
    · obtain rfl : k = 33 := by omega
      have hr := HRR.out
      rw [opT_no (fun j h1 hj => HO.out j h1 hj)] at hr
      have HR2 := Lib.hid hr
      clear hr
      go_wp2_with fail
      go_ret2
      exact ⟨by cases HR2.out; rfl, HE1.out.trans HE.out⟩
end Go.Proofs.YtaklnijmcidpkaaDoor
