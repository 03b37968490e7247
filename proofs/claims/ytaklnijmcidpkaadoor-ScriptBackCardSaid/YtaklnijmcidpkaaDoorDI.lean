/- Proof text: the numeral of a number (rastrumref29.digits). By an AI agent. No condition beyond what each theorem states. -/
import Derived.Test.YtaklnijmcidpkaaDoorPT
import Derived.Laws.BytesString
set_option linter.unusedVariables false
set_option linter.unusedSimpArgs false
namespace Go.Proofs.YtaklnijmcidpkaaDoor
open Go.RowKit
theorem fold_push (l : List UInt8) : ∀ s : ByteArray, (l.map fun b => (b.toNat : Int)).foldl (fun r n => r.push (UInt8.ofNat n.toNat)) s = ⟨s.data ++ l.toArray⟩ := by
  induction l with
  | nil => intro s; simp
  | cons b l ih =>
    intro s
    rw [List.map_cons, List.foldl_cons, ih]
    simp [ByteArray.push]
/-- A row of bytes, as a string. -/
theorem run_text {w : World} {a : Option Addr} {n c : Nat} {l : List UInt8} (h : Rd w 1 a n c (bvs l)) (hn : 0 < n) :
    (convert 53 9 (.slice a n c)).run Tryd.prog w = .ok (.string ⟨l.toArray⟩) w := by
  obtain ⟨b, off, rfl, -, hc⟩ := h.at_ hn
  rw [run_convert_bytes_string w _ _ _ _ _ _ Tryd.underlying53 Tryd.underlying5 Tryd.underlying9]
  have hl : l.length = n := by have := h.len; simpa using this
  have hload := run_loadCells_list (P := Tryd.prog) (w := w) ⟨b, off, none⟩ (bvs l) h.news
  rw [List.length_map, hl] at hload
  have e : (bvs l).toArray = ((l.map fun b => (b.toNat : Int)).map (Value.int .u8)).toArray := by simp [bvs, Function.comp_def]
  rw [e] at hload
  rw [run_bytesToString w ⟨b, off, none⟩ n c _ hload, fold_push]
  simp [ByteArray.empty, ByteArray.emptyWithCapacity]
  rfl
theorem dec_len20 {u : Nat} (h : (u : Int) ≤ 9223372036854775808) : (Lib.decDigits u).length ≤ 20 := by
  have h1 := Lib.itoa_length_le (-(u : Int)) (by omega) (by omega)
  by_cases h0 : u = 0
  · subst h0; rw [Lib.decDigits_one (by decide)]; simp
  · rw [Lib.itoa_neg u (by omega), List.length_cons] at h1
    omega
theorem dec_step {u : Nat} (h : ¬ u < 10) : Lib.decDigits u = Lib.decDigits (u / 10) ++ [UInt8.ofNat (48 + u % 10)] := by rw [Lib.decDigits, dif_neg h]
theorem str_add (l m : List UInt8) : (⟨l.toArray⟩ : ByteArray) ++ ⟨m.toArray⟩ = ⟨(l ++ m).toArray⟩ := by
  apply data_eq
  rw [ByteArray.data_append, Array.toList_append]
theorem run_digit (wr : World) (q : Nat) (hq : q < 10) : (convert 53 9 (.slice (some ⟨wr.heap.size, 0, none⟩) 1 1)).run Tryd.prog (wr.alloc (.cells #[.int .u8 (48 + (q : Int))] 5)) = .ok (.string ⟨[UInt8.ofNat (48 + q)].toArray⟩) (wr.alloc (.cells #[.int .u8 (48 + (q : Int))] 5)) := by
  have e : bvs [UInt8.ofNat (48 + q)] = [.int .u8 (48 + (q : Int))] := by
    have : (UInt8.ofNat (48 + q)).toNat = 48 + q := by rw [UInt8.toNat_ofNat']; omega
    simp [bvs, this]
    omega
  have hr := Rd_new wr (bvs [UInt8.ofNat (48 + q)]) 5 1 1 rfl (by unfold maxLen; omega)
  have := run_text hr (by decide)
  rw [e] at this
  exact this
set_option maxRecDepth 10000 in
set_option maxHeartbeats 1000000 in
theorem rdig_pos (u : Nat) (w : World) (hu : (u : Int) ≤ 9223372036854775807) : Calls Tryd.prog 28 #[.int .i64 u] w fun e w' => e = .returned (.string ⟨(Lib.decDigits u).toArray⟩) ∧ Ext w w' := by
  obtain ⟨tot, ht⟩ : ∃ tot, tot = Lib.decDigits u := ⟨_, rfl⟩
  rw [← ht]
  have HT : Hid (Lib.decDigits u ++ ([] : List UInt8) = tot) := Lib.hid (by rw [ht]; simp)
  have HL : Hid (tot.length ≤ 20) := Lib.hid (by rw [ht]; exact dec_len20 (by omega))
  have t0 : ¬ (u : Int) < 0 := by omega
  clear ht
  go_enter Tryd.func28, Tryd.ntmps28
  go_wp2_with fail
  go_loopw [0, 4] (fun nv ov wr => ∃ (c : Nat) (acc : List UInt8), nv = .int .i64 c ∧ ov = .string ⟨acc.toArray⟩ ∧ (c : Int) ≤ 9223372036854775807 ∧ Hid (Lib.decDigits c ++ acc = tot) ∧ Hid (Ext w wr)) (fun nv _ _ => (intOf nv).natAbs)
  case atStart => exact ⟨u, [], rfl, rfl, hu, HT, Lib.hid (Ext.refl _)⟩
  case round =>
    clear HT t0
    obtain ⟨c, acc, rfl, rfl, hc, HT, HE⟩ := hrel
    obtain ⟨q, hq⟩ : ∃ q : Nat, (c : Int) % 10 = (q : Int) := ⟨c % 10, by omega⟩
    have hqc : c % 10 = q := by omega
    have hq10 : q < 10 := by omega
    obtain ⟨z, hz⟩ : ∃ z : Nat, (c : Int) / 10 = (z : Int) := ⟨c / 10, by omega⟩
    have hzc : c / 10 = z := by omega
    have kt := run_digit wr q hq10
    obtain ⟨b, hb⟩ : ∃ b, b = UInt8.ofNat (48 + q) := ⟨_, rfl⟩
    rw [← hb] at kt
    have HBB := Lib.hid hb
    have HLA : Hid (acc.length ≤ 20) := Lib.hid (by have h1 := HL.out; rw [← HT.out, List.length_append] at h1; omega)
    have t1 : ¬ (q : Int) < 0 := by omega
    have hq9 : (q : Int) ≤ 9 := by omega
    have n1 : ¬ 9223372036854775807 < 1 + acc.length := by have := HLA.out; omega
    have n2 : ¬ 9223372036854775807 < acc.length + 1 := by have := HLA.out; omega
    have HQ := Lib.hid hqc
    have HZ := Lib.hid hzc
    by_cases h0 : c < 10
    · have hz0 : z = 0 := by omega
      subst hz0
      have hf : b :: acc = tot := by
        have h1 := HT.out
        rw [Lib.decDigits_one h0, show c = q by omega, ← hb] at h1
        exact h1
      have HF := Lib.hid hf
      clear hqc hzc h0 hf HT HZ hb
      go_wp2_with fail
      go_returns
      have he : (⟨#[]⟩ : ByteArray) ++ (⟨[b].toArray⟩ ++ ⟨acc.toArray⟩) = ⟨tot.toArray⟩ := by
        rw [str_add, ← HF.out]
        exact str_add [] ([b] ++ acc)
      exact ⟨congrArg (fun x => Ending.returned (Value.string x)) he, HE.out.alloc _⟩
    · have hf : Lib.decDigits z ++ (b :: acc) = tot := by
        have h1 := HT.out
        rw [dec_step h0, hqc, hzc, ← hb] at h1
        rw [← h1]; simp
      have HF := Lib.hid hf
      have t3 : ¬ (z : Int) = 0 := by omega
      have hzl : (z : Int) ≤ 9223372036854775807 := by omega
      have hzs : z < c := by omega
      clear hqc hzc h0 hf HT HZ hb
      go_wp2_with fail
      go_roundw
      case rel =>
        have hs : (⟨[b].toArray⟩ : ByteArray) ++ ⟨acc.toArray⟩ = ⟨(b :: acc).toArray⟩ := str_add [b] acc
        have HEa := Lib.hid (HE.out.alloc (.cells #[.int .u8 (48 + (q : Int))] 5))
        first | exact ⟨z, b :: acc, rfl, congrArg Value.string hs, hzl, HF, HEa⟩ | ((repeat apply Exists.intro); exact ⟨⟨z, b :: acc, rfl, congrArg Value.string hs, hzl, HF, HEa⟩, rfl⟩)
      case measure => simp [intOf]; omega
end Go.Proofs.YtaklnijmcidpkaaDoor
