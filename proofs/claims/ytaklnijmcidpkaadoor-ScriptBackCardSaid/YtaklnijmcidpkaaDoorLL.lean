/- Proof text: the law ScriptLines. By an AI agent. No condition beyond what each theorem states. -/
import Derived.Test.YtaklnijmcidpkaaDoorAW
import Derived.Test.YtaklnijmcidpkaaDoorLS
set_option linter.unusedVariables false
set_option linter.unusedSimpArgs false
namespace Go.Proofs.YtaklnijmcidpkaaDoor
open Go.RowKit
theorem parseF_err : ∀ (f : Nat) (l : List UInt8) (c k : Nat) (e : Int), parseF f l c = .error (k, e) → e ≠ 0 ∧ k ≤ c + l.length + 1 := by
  intro f
  induction f with
  | zero =>
    intro l c k e h
    cases l with
    | nil => rw [parseF_nil] at h; cases h
    | cons b l => simp [parseF] at h
  | succ f ih =>
    intro l c k e h
    by_cases hl : l = []
    · subst hl; rw [parseF_nil] at h; cases h
    · by_cases hc : c = 4096
      · rw [parseF_full hl hc] at h; simp at h; obtain ⟨rfl, rfl⟩ := h; exact ⟨by decide, by omega⟩
      · cases h1 : (cut1 10 l).2.2 with
        | false => rw [parseF_open hl hc h1] at h; simp at h; obtain ⟨rfl, rfl⟩ := h; exact ⟨by decide, by omega⟩
        | true =>
          have hlt := (cut1_len 10 l).2.2.1 h1
          cases he : lineT (cut1 10 l).1 with
          | error e' => rw [parseF_bad hl hc h1 he] at h; simp at h; obtain ⟨rfl, rfl⟩ := h; exact ⟨line_err he, by omega⟩
          | ok r =>
            rw [parseF_step hl hc h1 he] at h
            cases hr : parseF f (cut1 10 l).2.1 (c + 1) with
            | ok m => rw [hr] at h; cases h
            | error p =>
              rw [hr] at h
              injection h with h
              subst h
              have := ih _ _ _ _ hr
              exact ⟨this.1, by omega⟩
theorem add_data (s t : ByteArray) : (s ++ t).data.toList = s.data.toList ++ t.data.toList := by rw [ByteArray.data_append, Array.toList_append]
section
variable (s t : ByteArray) (w : World) (hs : s.size ≤ 1000) (ht : t.size ≤ 1000) (hW : Wd w)
include hs ht hW
set_option maxRecDepth 10000 in
set_option maxHeartbeats 1000000 in
theorem lines_1 (k : Nat) (c : Int) (h1 : parseT s.data.toList = .error (k, c)) : Calls Tryd.prog 4 #[.string s, .string t] w fun e w' => e = .returned (.bool true) ∧ Ext w w' := by
  have HW := Lib.hid hW
  have d1 : decide ((s.size : Int) > 1000) = false := by simp; omega
  have d2 : decide ((t.size : Int) > 1000) = false := by simp; omega
  have hc := (parseF_err _ _ _ _ _ h1).1
  have t1 : (c != 0) = true := by simpa using hc
  have hsz : ¬ 9223372036854775807 < s.size + t.size := by omega
  have G1 := Lib.hid (fun w1 h => (parse_any s w1 (by omega) h).mono fun _ _ => got_of)
  have G2 := Lib.hid (fun w1 h => (parse_any t w1 (by omega) h).mono fun _ _ => got_of)
  have G3 := Lib.hid (fun w1 h => (parse_any (s ++ t) w1 (by rw [ByteArray.size_append]; omega) h).mono fun _ _ => got_of)
  rw [h1] at G1
  clear hc h1 hW
  go_enter Tryd.func4, Tryd.ntmps4
  go_wp2_with fail
  refine (G1.out _ HW.out).mono ?_
  rintro e w1 ⟨a1, n1, c1, k1, d1', l1, rfl, hr1, hE, rfl, rfl, rfl⟩
  have hn1 := hr1.len
  obtain rfl : n1 = 0 := hn1.symm
  have HE1 := Lib.hid hE
  clear hE hr1 hn1
  go_wp2_with fail
  refine (G2.out _ (HW.out.ext HE1.out)).mono ?_
  rintro e w2 ⟨a2, n2, c2, k2, d2', l2, rfl, hr2, hE, -⟩
  have HE2 := Lib.hid (HE1.out.trans hE)
  clear hE hr2
  go_wp2_with fail
  refine (G3.out _ (HW.out.ext HE2.out)).mono ?_
  rintro e w3 ⟨a3, n3, c3, k3, d3', l3, rfl, hr3, hE, -⟩
  have HE3 := Lib.hid (HE2.out.trans hE)
  clear hE hr3
  go_wp2_with fail
  refine (awake29 _ (HW.out.ext HE3.out)).mono ?_
  rintro e w4 ⟨rfl, hE⟩
  have HE4 := Lib.hid (HE3.out.trans hE)
  clear hE
  go_wp2_with fail
  go_returns
  exact ⟨rfl, HE4.out⟩
set_option maxRecDepth 10000 in
set_option maxHeartbeats 1000000 in
theorem lines_2 (l : List R) (k : Nat) (c : Int) (h1 : parseT s.data.toList = .ok l) (h2 : parseT t.data.toList = .error (k, c)) : Calls Tryd.prog 4 #[.string s, .string t] w fun e w' => e = .returned (.bool true) ∧ Ext w w' := by
  have HW := Lib.hid hW
  have d1 : decide ((s.size : Int) > 1000) = false := by simp; omega
  have d2 : decide ((t.size : Int) > 1000) = false := by simp; omega
  have hc := parseF_err _ _ _ _ _ h2
  have hk : k ≤ 1001 := by have := hc.2; rw [← Lib.size_eq] at this; omega
  have t1 : (c != 0) = true := by simpa using hc.1
  have t2 : (c == c) = true := by simp
  have hsz : ¬ 9223372036854775807 < s.size + t.size := by omega
  have hp := parse_parts (S := s.data.toList) (T := t.data.toList) (by rw [← Lib.size_eq]; exact hs) (by rw [← Lib.size_eq]; exact ht) h1
  rw [h2, ← add_data] at hp
  have hl := hp.2
  have G1 := Lib.hid (fun w1 h => (parse_any s w1 (by omega) h).mono fun _ _ => got_of)
  have G2 := Lib.hid (fun w1 h => (parse_any t w1 (by omega) h).mono fun _ _ => got_of)
  have G3 := Lib.hid (fun w1 h => (parse_any (s ++ t) w1 (by rw [ByteArray.size_append]; omega) h).mono fun _ _ => got_of)
  rw [h1] at G1
  rw [h2] at G2
  rw [hp.1] at G3
  clear hc h1 h2 hW hp
  obtain ⟨n, hn⟩ : ∃ n, n = l.length := ⟨_, rfl⟩
  have HN := Lib.hid hn
  rw [← hn] at hl
  have t3 : (((k + n : Nat) : Int) == (n : Int) + k) = true := by simp; omega
  have HK := Lib.hid hk
  have hki : (k : Int) ≤ 1001 := by omega
  have hni : (n : Int) ≤ 1000 := by omega
  clear hn
  go_enter Tryd.func4, Tryd.ntmps4
  go_wp2_with fail
  refine (G1.out _ HW.out).mono ?_
  rintro e w1 ⟨a1, n1, c1, k1, d1', l1, rfl, hr1, hE, rfl, rfl, rfl⟩
  have hn1 := hr1.len
  rw [← HN.out] at hn1
  subst hn1
  have HE1 := Lib.hid hE
  clear hE hr1
  go_wp2_with fail
  refine (G2.out _ (HW.out.ext HE1.out)).mono ?_
  rintro e w2 ⟨a2, n2, c2, k2, d2', l2, rfl, hr2, hE, rfl, rfl, rfl⟩
  have HE2 := Lib.hid (HE1.out.trans hE)
  clear hE hr2
  go_wp2_with fail
  refine (G3.out _ (HW.out.ext HE2.out)).mono ?_
  rintro e w3 ⟨a3, n3, c3, k3, d3', l3, rfl, hr3, hE, hm⟩
  obtain ⟨rfl, rfl, rfl⟩ : l3 = [] ∧ k3 = ((k + n : Nat) : Int) ∧ d3' = d2' := by rw [HN.out]; exact hm
  have hn3 := hr3.len
  obtain rfl : n3 = 0 := hn3.symm
  have HE3 := Lib.hid (HE2.out.trans hE)
  clear hE hr3 hm hn3
  go_wp2_with fail
  refine (awake29 _ (HW.out.ext HE3.out)).mono ?_
  rintro e w4 ⟨rfl, hE⟩
  have HE4 := Lib.hid (HE3.out.trans hE)
  clear hE
  go_wp2_with fail
  go_returns
  exact ⟨by simp, HE4.out⟩
set_option maxRecDepth 10000 in
set_option maxHeartbeats 1000000 in
theorem lines_3 (l m : List R) (h1 : parseT s.data.toList = .ok l) (h2 : parseT t.data.toList = .ok m) : Calls Tryd.prog 4 #[.string s, .string t] w fun e w' => e = .returned (.bool true) ∧ Ext w w' := by
  have HW := Lib.hid hW
  have d1 : decide ((s.size : Int) > 1000) = false := by simp; omega
  have d2 : decide ((t.size : Int) > 1000) = false := by simp; omega
  have hsz : ¬ 9223372036854775807 < s.size + t.size := by omega
  have hp := parse_parts (S := s.data.toList) (T := t.data.toList) (by rw [← Lib.size_eq]; exact hs) (by rw [← Lib.size_eq]; exact ht) h1
  have hq := parse_parts (S := t.data.toList) (T := []) (by rw [← Lib.size_eq]; exact ht) (by simp) h2
  rw [h2, ← add_data] at hp
  have hl := hp.2
  have hm := hq.2
  have G1 := Lib.hid (fun w1 h => (parse_any s w1 (by omega) h).mono fun _ _ => got_of)
  have G2 := Lib.hid (fun w1 h => (parse_any t w1 (by omega) h).mono fun _ _ => got_of)
  have G3 := Lib.hid (fun w1 h => (parse_any (s ++ t) w1 (by rw [ByteArray.size_append]; omega) h).mono fun _ _ => got_of)
  rw [h1] at G1
  rw [h2] at G2
  rw [hp.1] at G3
  have HL := Lib.hid hl
  have HM := Lib.hid hm
  clear h1 h2 hW hp hq hl hm
  go_enter Tryd.func4, Tryd.ntmps4
  go_wp2_with fail
  refine (G1.out _ HW.out).mono ?_
  rintro e w1 ⟨a1, n1, c1, k1, d1', l1, rfl, hr1, hE, rfl, rfl, rfl⟩
  have R1 := Lib.hid hr1
  have HE1 := Lib.hid hE
  clear hE hr1
  go_wp2_with fail
  refine (G2.out _ (HW.out.ext HE1.out)).mono ?_
  rintro e w2 ⟨a2, n2, c2, k2, d2', l2, rfl, hr2, hE, rfl, rfl, rfl⟩
  have R12 := Lib.hid (R1.out.ext hE)
  have R2 := Lib.hid hr2
  have HE2 := Lib.hid (HE1.out.trans hE)
  clear hE hr2
  go_wp2_with fail
  refine (G3.out _ (HW.out.ext HE2.out)).mono ?_
  rintro e w5 ⟨a5, n5, c5, k5, d5', l5, rfl, hr5, hE, rfl, rfl, rfl⟩
  have HE5 := Lib.hid (HE2.out.trans hE)
  have R15 := Lib.hid (R12.out.ext hE)
  have R25 := Lib.hid (R2.out.ext hE)
  have R5 := Lib.hid hr5
  clear hE hr5
  obtain ⟨vs1, q1, p1⟩ := R15.out
  obtain ⟨vs2, q2, p2⟩ := R25.out
  have hb1 : n1 ≤ 1000 := by have h1 := R15.out.len; have h2 := HL.out; omega
  have hb2 : n2 ≤ 1000 := by have h1 := R25.out.len; have h2 := HM.out; omega
  have Q1 := Lib.hid q1
  have Q2 := Lib.hid q2
  have P1 := Lib.hid p1
  have P2 := Lib.hid p2
  clear q1 q2 p1 p2
  go_wp2_with fail
  refine (awake29 _ (HW.out.ext HE5.out)).mono ?_
  rintro e w6 ⟨rfl, hE6⟩
  have HE6 := Lib.hid hE6
  clear hE6
  go_wp2_with (refine wpList_append_rd_g rfl (.tmp 83) (.tmp 84) 23 rfl w6.heap.size 41 _ 2 32 Tryd.underlying23 info24 rfl (by decide) (.slice (some ⟨w6.heap.size, 0, none⟩) 0 0) 0 [] rfl (World.ownsRow_lit w6 #[] 0 (Nat.le_refl _) (Nat.zero_le _) rfl) a1 n1 c1 vs1 rfl ((Q1.out.ext HE6.out).ext ((Ext.refl w6).alloc _)) P1.out.one ?_ (by decide) ?_ ?_)
  · omega
  · exact Nat.le_of_lt (by simp)
  intro v7 w7 ho7 hg7
  have ho7' : w7.ownsRow w6.heap.size 41 2 v7 n1 vs1 := by simpa using ho7
  have hE7 : Ext w6 w7 := ((Ext.refl w6).alloc (.cells #[] 41)).grown hg7 (by simp [Value.ownBlock])
  have HO7 := Lib.hid ho7'
  have HE7 := Lib.hid hE7
  clear ho7 ho7' hg7 hE7
  go_wp2_with (refine wpList_append_rd_g rfl (.tmp 85) (.tmp 86) 23 rfl w6.heap.size 41 _ 2 32 Tryd.underlying23 info24 rfl (by decide) v7 n1 vs1 rfl HO7.out a2 n2 c2 vs2 rfl ((Q2.out.ext HE6.out).ext HE7.out) P2.out.one ?_ (by decide) ?_ ?_)
  · omega
  · exact HE7.out.size
  intro v8 w8 ho8 hg8
  have hE8 : Ext w5 w8 := HE6.out.trans (HE7.out.grown hg8 (fun k hk => (HO7.out.lt k hk).1))
  obtain ⟨a8, c8, rfl, hr8⟩ := ownsRow_rd ho8
  have R8 : RdRecs w8 a8 (n1 + n2) c8 (l1 ++ l2) := ⟨_, hr8, (P1.out.append P2.out).mono fun _ _ _ _ hx => hx.ext hE8⟩
  have HS := Lib.hid (same_eq a5 a8 n5 (n1 + n2) c5 c8 (l1 ++ l2) w8 (R5.out.ext hE8) R8)
  have HE8 := Lib.hid hE8
  clear ho8 hg8 hE8 hr8 R8
  go_wp2_with fail
  refine HS.out.mono ?_
  rintro e w9 ⟨rfl, hE9⟩
  have HE9 := Lib.hid ((HE5.out.trans HE8.out).trans hE9)
  clear hE9
  go_wp2_with fail
  go_returns
  exact ⟨rfl, HE9.out⟩
end
set_option maxRecDepth 10000 in
set_option maxHeartbeats 1000000 in
theorem law_lines (s t : ByteArray) (w : World) (hm : s.size ≤ maxLen) (hm2 : t.size ≤ maxLen) (hW : Wd w) : Calls Tryd.prog 4 #[.string s, .string t] w fun e w' => e = .returned (.bool true) ∧ Ext w w' := by
  unfold maxLen at hm hm2
  by_cases h1 : s.size ≤ 1000 ∧ t.size ≤ 1000
  · obtain ⟨hs, ht⟩ := h1
    cases hg : parseT s.data.toList with
    | error p => exact lines_1 s t w hs ht hW p.1 p.2 hg
    | ok l =>
      cases hg2 : parseT t.data.toList with
      | error p => exact lines_2 s t w hs ht hW l p.1 p.2 hg hg2
      | ok m => exact lines_3 s t w hs ht hW l m hg hg2
  · have HW := Lib.hid hW
    have hc : (decide ((s.size : Int) > 1000) = true) ∨ (decide ((s.size : Int) > 1000) = false ∧ decide ((t.size : Int) > 1000) = true) := by
      by_cases h : 1000 < s.size
      · exact .inl (by simp; omega)
      · exact .inr ⟨by simp; omega, by simp; omega⟩
    clear h1 hW
    rcases hc with t1 | ⟨t1, t2⟩
    all_goals
      go_enter Tryd.func4, Tryd.ntmps4
      go_wp2_with fail
      refine (awake29 _ HW.out).mono ?_
      rintro e w1 ⟨rfl, hE⟩
      have HE := Lib.hid hE
      clear hE
      go_wp2_with fail
      go_returns
      exact ⟨rfl, HE.out⟩
end Go.Proofs.YtaklnijmcidpkaaDoor
