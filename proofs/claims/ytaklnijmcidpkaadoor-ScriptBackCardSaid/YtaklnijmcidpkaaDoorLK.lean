/- Proof text: the law ScriptBack. By an AI agent. No condition beyond what each theorem states. -/
import Derived.Test.YtaklnijmcidpkaaDoorBK
import Derived.Test.YtaklnijmcidpkaaDoorLP
import Derived.Test.YtaklnijmcidpkaaDoorLL
set_option linter.unusedVariables false
set_option linter.unusedSimpArgs false
namespace Go.Proofs.YtaklnijmcidpkaaDoor
open Go.RowKit
/-- A text that is parsed is what is printed. -/
theorem tx_parse {s : ByteArray} {m : List R} (hs : s.size ≤ 2000) (h : parseT s.data.toList = .ok m) : txT m = (s, 0) ∧ Nums m := by
  obtain ⟨t1, t2, t3, t4⟩ := text_parse _ _ _ _ (Nat.le_refl _) h
  rw [← Lib.size_eq] at t4
  obtain ⟨a, ha⟩ := putT_of (by omega) t3
  unfold txT
  rw [ha, t1]
  exact ⟨rfl, t2⟩
/-- Commands that have a text are what is parsed of it. -/
theorem parse_tx {l : List R} {a : List Int} (h : putT l = .ok a) (hn : Nums l) : parseT (⟨(textP l).toArray⟩ : ByteArray).data.toList = .ok l := by
  rw [data_mk]
  have hp := putT_ok h
  exact parse_text l _ 0 (fun r hr => (hp.2 r hr).2) hn (by omega) (Nat.le_refl _)
section
variable (a : Option Addr) (n cap : Nat) (l : List R) (s : ByteArray) (w : World) (hl : RdRecs w a n cap l) (hn : Nums l) (h60 : n ≤ 60) (hs : s.size ≤ 2000) (hW : Wd w)
include hl hn h60 hs hW
set_option maxRecDepth 10000 in
set_option maxHeartbeats 2000000 in
theorem back_core (tx : ByteArray × Int) (htx : tx = txT l) (g : G) (hg : g = parseT s.data.toList) : Calls Tryd.prog 7 #[.slice a n cap, .string s] w fun e w' => e = .returned (.bool true) ∧ Ext w w' := by
  have HW := Lib.hid hW
  have hb63 := hl.le63
  have HL := Lib.hid hl
  have hLN := hl.len
  have d1 : decide ((n : Int) > 60) = false := by simp; omega
  have d2 : decide ((s.size : Int) > 2000) = false := by simp; omega
  have P1 := Lib.hid (fun w1 h => (parse_any s w1 (by omega) h).mono fun _ _ => got_of)
  rw [← hg] at P1
  have Q1 := Lib.hid (fun w1 (h : Ext w w1) => (print_any a n cap l w1 (hl.ext h) hn (hW.ext h)).mono fun _ _ => text_of)
  rw [← htx] at Q1
  have hm : ∀ m, g = .ok m → txT m = (s, 0) ∧ Nums m := fun m h => tx_parse hs (by rw [← hg]; exact h)
  have HM := Lib.hid hm
  have k0 : (s.toList == s.toList) = true := by simp
  have hcase : (∃ q : List Int, Hid (tx = (⟨(textP l).toArray⟩, 0)) ∧ Hid (parseT (⟨(textP l).toArray⟩ : ByteArray).data.toList = .ok l) ∧ Hid ((textP l).length ≤ 1000000)) ∨ (∃ c : Int, Hid (tx = (⟨#[]⟩, c)) ∧ (c != 0) = true) := by
    unfold txT at htx
    cases hp : putT l with
    | ok q =>
      rw [hp] at htx
      have := text_len l (fun r hr => ((putT_ok hp).2 r hr).1) hn
      exact .inl ⟨q, Lib.hid htx, Lib.hid (parse_tx hp hn), Lib.hid (by omega)⟩
    | error c =>
      rw [hp] at htx
      exact .inr ⟨c, Lib.hid htx, by simpa using putT_err hp⟩
  obtain ⟨t1, t2⟩ := tx
  simp only [] at Q1
  have hgc : (∃ k c, Hid (g = .error (k, c)) ∧ (c != 0) = true) ∨ (∃ m, Hid (g = .ok m)) := by
    cases hgg : g with
    | error p =>
      obtain ⟨k, c⟩ := p
      refine .inl ⟨k, c, Lib.hid rfl, ?_⟩
      have := (parseF_err _ _ _ _ _ (hg.symm.trans hgg)).1
      simpa using this
    | ok m => exact .inr ⟨m, Lib.hid rfl⟩
  clear hg htx hm hl hn hW hLN
  rcases hgc with ⟨k, c, HG, tc⟩ | ⟨m, HG⟩ <;> rcases hcase with ⟨q, HTX, HPX, HTL⟩ | ⟨c2, HTX, tc2⟩
  all_goals
    try (have HPM := Lib.hid (HM.out _ HG.out))
    rw [HG.out] at P1
    injection HTX.out with e1 e2
    subst e1; subst e2
    go_enter Tryd.func7, Tryd.ntmps7
    go_wp2_with fail
    refine (P1.out _ HW.out).mono ?_
    rintro e w1 ⟨a1, n1, c1, k1, d1', l1, rfl, hr1, hE, rfl, rfl, rfl⟩
    have HE1 := Lib.hid hE
    have R1 := Lib.hid hr1
    clear hE hr1
    go_wp2_with fail
    try (
      refine ((print_any a1 n1 c1 l1 w1 R1.out HPM.out.2 (HW.out.ext HE1.out)).mono fun _ _ => text_of).mono ?_
      rintro e w2 ⟨rfl, hE⟩
      have HE1 := Lib.hid (HE1.out.trans hE)
      rw [HPM.out.1]
      clear hE
      go_wp2_with fail)
    refine (Q1.out _ HE1.out).mono ?_
    rintro e w3 ⟨rfl, hE⟩
    have HE3 := Lib.hid (HE1.out.trans hE)
    clear hE
    go_wp2_with fail
    first
      | (refine (awake29 _ (HW.out.ext HE3.out)).mono ?_
         rintro e w4 ⟨rfl, hE⟩
         have HE4 := Lib.hid (HE3.out.trans hE)
         clear hE
         go_wp2_with fail
         go_returns
         exact ⟨by simp, HE4.out⟩)
      | (refine ((parse_any ⟨(textP l).toArray⟩ w3 (by rw [Lib.size_eq, data_mk]; exact HTL.out) (HW.out.ext HE3.out)).mono fun _ _ => got_of).mono ?_
         rw [HPX.out]
         rintro e w4 ⟨a4, n4, c4, k4, d4, l4, rfl, hr4, hE, rfl, rfl, rfl⟩
         have HE4 := Lib.hid (HE3.out.trans hE)
         have R4 := Lib.hid hr4
         clear hE hr4
         go_wp2_with fail
         refine (awake29 _ (HW.out.ext HE4.out)).mono ?_
         rintro e w5 ⟨rfl, hE⟩
         have SM := Lib.hid (same_eq a4 a n4 n c4 cap _ w5 (R4.out.ext hE) (HL.out.ext (HE4.out.trans hE)))
         have HE5 := Lib.hid (HE4.out.trans hE)
         clear hE
         go_wp2_with fail
         refine SM.out.mono ?_
         rintro e w6 ⟨rfl, hE⟩
         have HE6 := Lib.hid (HE5.out.trans hE)
         clear hE
         go_wp2_with fail
         go_returns
         exact ⟨by simp, HE6.out⟩)
end
set_option maxRecDepth 10000 in
set_option maxHeartbeats 1000000 in
theorem law_back (a : Option Addr) (n cap : Nat) (l : List R) (s : ByteArray) (w : World) (hl : RdRecs w a n cap l) (hn : Nums l) (hm : s.size ≤ maxLen) (hW : Wd w) : Calls Tryd.prog 7 #[.slice a n cap, .string s] w fun e w' => e = .returned (.bool true) ∧ Ext w w' := by
  by_cases h : n ≤ 60 ∧ s.size ≤ 2000
  · exact back_core a n cap l s w hl hn h.1 h.2 hW _ rfl _ rfl
  · have HW := Lib.hid hW
    have hb63 := hl.le63
    unfold maxLen at hm
    have hc : (decide ((n : Int) > 60) = true) ∨ (decide ((n : Int) > 60) = false ∧ decide ((s.size : Int) > 2000) = true) := by
      by_cases h1 : 60 < n
      · exact .inl (by simp; omega)
      · exact .inr ⟨by simp; omega, by simp; omega⟩
    clear h hW hl hn
    rcases hc with t1 | ⟨t1, t2⟩
    all_goals
      go_enter Tryd.func7, Tryd.ntmps7
      go_wp2_with fail
      refine (awake29 _ HW.out).mono ?_
      rintro e w1 ⟨rfl, hE⟩
      have HE := Lib.hid hE
      clear hE
      go_wp2_with fail
      go_returns
      exact ⟨rfl, HE.out⟩
end Go.Proofs.YtaklnijmcidpkaaDoor
