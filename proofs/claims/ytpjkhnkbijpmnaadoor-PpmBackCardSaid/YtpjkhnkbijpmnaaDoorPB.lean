/- Proof text: what must come next (ppm.reader.text, rastrumref28.after). By an AI agent. No condition beyond what each theorem states. -/
import Derived.Test.YtpjkhnkbijpmnaaDoorLB
import Derived.Test.YtpjkhnkbijpmnaaDoorChecked
import Derived.Lib.Strings
import Derived.Handy
set_option linter.unusedVariables false
set_option linter.unusedSimpArgs false
namespace Go.Proofs.YtpjkhnkbijpmnaaDoor
open Go.RowKit
theorem bytes_eq {s t : ByteArray} (h : s.toList = t.toList) : s = t := by
  rw [Lib.toList_data, Lib.toList_data] at h
  exact ByteArray.ext (Array.ext' h)
theorem text_yes (b : Nat) (s want : ByteArray) (bad : Bool) (w : World) (hB : Blk w b 42 #[.string s, .bool bad]) (hs : s.size ≤ 1000000) (hw : want.size ≤ s.size) (he : s.extract 0 want.size = want) :
    Calls Tryd.prog 17 #[.pointer (some ⟨b, 0, none⟩), .string want] w fun e w' => e = .returned (.tuple #[]) ∧ w' = w.setCell ⟨b, 0, none⟩ (.string (s.extract want.size s.size)) := by
  obtain ⟨c0, c1, f0, f1⟩ := hB.two
  have d1 : decide ((s.size : Int) < want.size) = false := by simp; omega
  go_enter Tryd.func17, Tryd.ntmps17
  go_wp2_with fail
  go_end0
  exact ⟨rfl, rfl⟩
theorem text_no (b : Nat) (s want : ByteArray) (bad : Bool) (w : World) (hB : Blk w b 42 #[.string s, .bool bad]) (hs : s.size ≤ 1000000) (hw : want.size ≤ 1000000) (he : ¬ (want.size ≤ s.size ∧ s.extract 0 want.size = want)) :
    Calls Tryd.prog 17 #[.pointer (some ⟨b, 0, none⟩), .string want] w fun e w' => e = .returned (.tuple #[]) ∧ w' = w.setCell ⟨b, 1, none⟩ (.bool true) := by
  obtain ⟨c0, c1, f0, f1⟩ := hB.two
  by_cases hlt : s.size < want.size
  · have d1 : decide ((s.size : Int) < want.size) = true := by simp; omega
    clear he
    go_enter Tryd.func17, Tryd.ntmps17
    go_wp2_with fail
    go_returns
    exact ⟨rfl, rfl⟩
  · have d1 : decide ((s.size : Int) < want.size) = false := by simp; omega
    have h2 : ((s.extract 0 want.size).toList == want.toList) = false := by
      rw [beq_eq_false_iff_ne]
      exact fun h => he ⟨by omega, bytes_eq h⟩
    clear he
    go_enter Tryd.func17, Tryd.ntmps17
    go_wp2_with fail
    go_returns
    exact ⟨rfl, rfl⟩
theorem after_yes (s want : ByteArray) (w : World) (hs : s.size ≤ 1000000) (hw : want.size ≤ s.size) (he : s.extract 0 want.size = want) :
    Calls Tryd.prog 21 #[.string s, .string want] w fun e w' => e = .returned (.tuple #[.string (s.extract want.size s.size), .bool true]) ∧ w = w' := by
  have d1 : decide ((s.size : Int) < want.size) = false := by simp; omega
  go_enter Tryd.func21, Tryd.ntmps21
  go_wp2_with fail
  go_ret2
  exact ⟨rfl, rfl⟩
theorem after_no (s want : ByteArray) (w : World) (hs : s.size ≤ 1000000) (hw : want.size ≤ 1000000) (he : ¬ (want.size ≤ s.size ∧ s.extract 0 want.size = want)) :
    Calls Tryd.prog 21 #[.string s, .string want] w fun e w' => e = .returned (.tuple #[.string ⟨#[]⟩, .bool false]) ∧ w = w' := by
  by_cases hlt : s.size < want.size
  · have d1 : decide ((s.size : Int) < want.size) = true := by simp; omega
    clear he
    go_enter Tryd.func21, Tryd.ntmps21
    go_wp2_with fail
    go_ret2
    exact ⟨rfl, rfl⟩
  · have d1 : decide ((s.size : Int) < want.size) = false := by simp; omega
    have h2 : ((s.extract 0 want.size).toList == want.toList) = false := by
      rw [beq_eq_false_iff_ne]
      exact fun h => he ⟨by omega, bytes_eq h⟩
    clear he
    go_enter Tryd.func21, Tryd.ntmps21
    go_wp2_with fail
    go_ret2
    exact ⟨rfl, rfl⟩
end Go.Proofs.YtpjkhnkbijpmnaaDoor
