/- Proof text: one of one to four digits (ppm.reader.number, rastrumref28.number). By an AI agent. No condition beyond what each theorem states. -/
import Derived.Test.YtpjkhnkbijpmnaaDoorPA
import Derived.Test.YtpjkhnkbijpmnaaDoorPB
set_option linter.unusedVariables false
set_option linter.unusedSimpArgs false
namespace Go.Proofs.YtpjkhnkbijpmnaaDoor
open Go.RowKit
theorem grown_set (w : World) (b i : Nat) (v : Value) : w.grownBy (w.setCell ⟨b, i, none⟩ v) (some b) :=
  ⟨rfl, rfl, rfl, by simp, fun k hk hne => Below.heap_setCell w ⟨b, i, none⟩ v k (fun e => hne (by rw [e]))⟩
theorem grown_trans {a b c : World} {r : Option Nat} (h : a.grownBy b r) (k : b.grownBy c r) : a.grownBy c r :=
  ⟨k.os.trans h.os, k.tape.trans h.tape, k.output.trans h.output, Nat.le_trans h.size k.size, fun j hj hne => (k.block j (Nat.lt_of_lt_of_le hj h.size) hne).trans (h.block j hj hne)⟩
theorem byte_of {s : ByteArray} {i : Nat} {b : UInt8} (h : s.data.toList[i]? = some b) : ∃ hi : i < s.size, s[i] = b := by
  obtain ⟨hi, he⟩ := List.getElem?_eq_some_iff.1 h
  have hi' : i < s.size := by rw [Lib.size_eq]; exact hi
  exact ⟨hi', by rw [← he]; rfl⟩
/-- The digits at the beginning of a text. -/
def dg_ (s : ByteArray) : List UInt8 := digs s.data.toList
/-- They are a number: there is one, and the first one is not 0. -/
def dgOk (s : ByteArray) : Bool := decide (0 < (dg_ s).length) && !(decide (s.data.toList.head? = some 48))
theorem dg_next {s : ByteArray} {j : Nat} {b : UInt8} (h : (dg_ s)[j]? = some b) : valD ((dg_ s).take (j + 1)) = valD ((dg_ s).take j) * 10 + (b.toNat - 48) := by
  have hj := (List.getElem?_eq_some_iff.1 h).1
  rw [List.take_succ_eq_append_getElem hj, valD_snoc, (List.getElem?_eq_some_iff.1 h).2]
theorem dg_lt (s : ByteArray) (j : Nat) : valD ((dg_ s).take j) < 10000 := by
  refine Nat.lt_of_lt_of_le (valD_lt _ (fun b hb => digs_all _ b (List.mem_of_mem_take hb))) ?_
  have h1 := digs_le s.data.toList
  have h2 : ((dg_ s).take j).length ≤ 4 := by
    rw [List.length_take]
    unfold dg_
    omega
  exact Nat.pow_le_pow_right (by decide) h2
/-- Where the digits end: the end of the text; four digits; what is no digit. -/
theorem dg_end {s : ByteArray} {k : Nat} (h : k = (dg_ s).length) : k = s.size ∨ (k < s.size ∧ k = 4) ∨ ∃ hk : k < s.size, k < 4 ∧ ((s[k].toNat < 48) ∨ (48 ≤ s[k].toNat ∧ 57 < s[k].toNat)) := by
  subst h
  rcases digs_end s.data.toList with h | ⟨h1, h2⟩ | ⟨b, hb, h4, h⟩
  · exact .inl (by rw [Lib.size_eq]; exact h)
  · exact .inr (.inl ⟨by rw [Lib.size_eq]; exact h1, h2⟩)
  · obtain ⟨hi, hs⟩ := byte_of hb
    have hs : s[(dg_ s).length] = b := hs
    refine .inr (.inr ⟨hi, h4, ?_⟩)
    rw [hs]
    omega
theorem dgOk_zero {s : ByteArray} (h : 0 = (dg_ s).length) : dgOk s = false := by
  unfold dgOk
  rw [← h]; rfl
theorem head_of {s : ByteArray} (h : 0 < s.size) : s.data.toList.head? = some s[0] := by
  rw [List.head?_eq_getElem?]
  exact List.getElem?_eq_getElem (by rw [← Lib.size_eq]; exact h)
theorem dgOk_nought {s : ByteArray} (h : 0 < s.size) (h0 : s[0].toNat = 48) : dgOk s = false := by
  unfold dgOk
  rw [head_of h, show s[0] = 48 from UInt8.toNat_inj.1 h0]
  simp
theorem dgOk_yes {s : ByteArray} {k : Nat} (hk : k = (dg_ s).length) (h1 : 0 < k) (h : 0 < s.size) (h0 : s[0].toNat ≠ 48) : dgOk s = true := by
  unfold dgOk
  rw [head_of h, ← hk]
  have : s[0] ≠ 48 := fun e => h0 (by rw [e]; rfl)
  simp [h1, this]
theorem reader_put {w : World} {b : Nat} {s s' : ByteArray} {bad : Bool} (h : Blk w b 42 #[.string s, .bool bad]) : Blk (w.setCell ⟨b, 0, none⟩ (.string s')) b 42 #[.string s', .bool bad] := h.set_ 0 (.string s')
theorem reader_bad {w : World} {b : Nat} {s : ByteArray} {bad : Bool} (h : Blk w b 42 #[.string s, .bool bad]) : Blk (w.setCell ⟨b, 1, none⟩ (.bool true)) b 42 #[.string s, .bool true] := h.set_ 1 (.bool true)
set_option maxRecDepth 10000 in
set_option maxHeartbeats 1000000 in
theorem number_any (b : Nat) (s : ByteArray) (bad : Bool) (w : World) (hB : Blk w b 42 #[.string s, .bool bad]) (hs : s.size ≤ 1000000) :
    Calls Tryd.prog 18 #[.pointer (some ⟨b, 0, none⟩)] w fun e w' => e = .returned (.int .i64 (valD (dg_ s) : Nat)) ∧ Blk w' b 42 #[.string (s.extract (dg_ s).length s.size), .bool (bad || !dgOk s)] ∧ w.grownBy w' (some b) := by
  obtain ⟨c0, c1, f0, f1⟩ := hB.two
  have HB := Lib.hid hB; clear hB
  obtain ⟨k, hk⟩ : ∃ k, k = (dg_ s).length := ⟨_, rfl⟩
  have HK := Lib.hid hk
  have hk4 : k ≤ 4 ∧ k ≤ s.size := by
    have := digs_le s.data.toList
    rw [← Lib.size_eq] at this
    rw [hk]; exact this
  rw [← hk]
  clear hk
  obtain ⟨hk1, hk2⟩ := hk4
  go_enter Tryd.func18, Tryd.ntmps18
  go_wp2_with fail
  go_loop [3, 4] (fun n i => ∃ j : Nat, j ≤ k ∧ n = .int .i64 (valD ((dg_ s).take j) : Nat) ∧ i = .int .i64 j) (fun _ i => k - (intOf i).toNat)
  case atStart => exact ⟨0, Nat.zero_le _, rfl, rfl⟩
  case round =>
    obtain ⟨j, hj, rfl, rfl⟩ := hrel
    by_cases hlt : j < k
    · obtain ⟨x, hx, h4, h48, h57, hd⟩ := digs_go (l := s.data.toList) (i := j) (by have := HK.out; unfold dg_ at this; omega)
      obtain ⟨hi, hsi⟩ := byte_of hx
      subst hsi
      have HV := Lib.hid (dg_next hd)
      have hb := dg_lt s j
      clear hx hd
      go_wp2_with fail
      go_round
      case rel => exact ⟨j + 1, by omega, by rw [HV.out]; congr 1; omega, by go_num⟩
      case measure => simp [intOf]; omega
    · obtain rfl : j = k := by omega
      have HE := Lib.hid (dg_end HK.out)
      have hval : valD ((dg_ s).take j) = valD (dg_ s) := by rw [HK.out, List.take_length]
      rw [hval]
      clear hval
      have hstop : (decide (j < s.size) = false) ∨ (decide (j < s.size) = true ∧ decide ((j : Int) < 4) = false) ∨
          (∃ hk : j < s.size, decide (j < s.size) = true ∧ decide ((j : Int) < 4) = true ∧ (s[j].toNat < 48 ∨ (48 ≤ s[j].toNat ∧ 57 < s[j].toNat))) := by
        rcases HE.out with h | ⟨h1, h2⟩ | ⟨h1, h2, h3⟩
        · exact .inl (by simp; omega)
        · exact .inr (.inl ⟨by simp; omega, by simp; omega⟩)
        · exact .inr (.inr ⟨h1, by simp; omega, by simp; omega, h3⟩)
      have hkind : (((j : Int) == 0) = true ∧ Hid (dgOk s = false)) ∨ (((j : Int) == 0) = false ∧ ∃ h0 : 0 < s.size, ((s[0].toNat : Int) == 48) = true ∧ Hid (dgOk s = false)) ∨ (((j : Int) == 0) = false ∧ ∃ h0 : 0 < s.size, ((s[0].toNat : Int) == 48) = false ∧ Hid (dgOk s = true)) := by
        by_cases h0 : j = 0
        · exact .inl ⟨by simp; exact h0, Lib.hid (dgOk_zero (by rw [← h0]; exact HK.out))⟩
        · have hs0 : 0 < s.size := by omega
          by_cases h1 : s[0].toNat = 48
          · exact .inr (.inl ⟨by simp; exact h0, hs0, by simp; omega, Lib.hid (dgOk_nought hs0 h1)⟩)
          · exact .inr (.inr ⟨by simp; exact h0, hs0, by simp; omega, Lib.hid (dgOk_yes HK.out (by omega) hs0 h1)⟩)
      clear hlt HE
      rcases hkind with ⟨k0, HO⟩ | ⟨k0, hs0, k1, HO⟩ | ⟨k0, hs0, k1, HO⟩ <;> rcases hstop with t1 | ⟨t1, t2⟩ | ⟨hj2, t1, t2, t3 | ⟨t3, t4⟩⟩
      all_goals
        go_wp2_with fail
        go_returns
        refine ⟨rfl, ?_, ?_⟩
        · rw [HO.out]
          first
            | (rw [Bool.not_false, Bool.or_true]; exact reader_put (reader_bad HB.out))
            | (rw [Bool.not_true, Bool.or_false]; exact reader_put HB.out)
        · first
            | exact grown_trans (grown_set _ _ _ _) (grown_set _ _ _ _)
            | exact grown_set _ _ _ _
end Go.Proofs.YtpjkhnkbijpmnaaDoor
