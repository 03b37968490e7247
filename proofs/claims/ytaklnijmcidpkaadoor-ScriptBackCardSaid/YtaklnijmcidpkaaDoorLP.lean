/- Proof text: the law ScriptPrints. By an AI agent. No condition beyond what each theorem states. -/
import Derived.Test.YtaklnijmcidpkaaDoorRQ
set_option linter.unusedVariables false
set_option linter.unusedSimpArgs false
namespace Go.Proofs.YtaklnijmcidpkaaDoor
open Go.RowKit
/-- What 'Print' gives, as two values. -/
def txT (l : List R) : ByteArray × Int := match putT l with | .ok _ => (⟨(textP l).toArray⟩, 0) | .error c => (⟨#[]⟩, c)
theorem text_of {w w' : World} {l : List R} {e : Ending} (h : TextP w l e w') : e = .returned (.tuple #[.string (txT l).1, .int .i64 (txT l).2]) ∧ Ext w w' := by
  unfold TextP at h
  unfold txT
  cases hg : putT l with
  | ok q => rw [hg] at h; exact h
  | error c => rw [hg] at h; exact h
set_option maxRecDepth 10000 in
set_option maxHeartbeats 1000000 in
theorem law_prints (a : Option Addr) (n cap : Nat) (l : List R) (w : World) (hl : RdRecs w a n cap l) (hn : Nums l) (hW : Wd w) : Calls Tryd.prog 6 #[.slice a n cap] w fun e w' => e = .returned (.bool true) ∧ Ext w w' := by
  have HW := Lib.hid hW
  have hb63 := hl.le63
  by_cases h6 : 60 < n
  · have hd : decide ((n : Int) > 60) = true := by simp; omega
    clear h6 hW hl hn
    go_enter Tryd.func6, Tryd.ntmps6
    go_wp2_with fail
    refine (awake29 _ HW.out).mono ?_
    rintro e w1 ⟨rfl, hE⟩
    have HE := Lib.hid hE
    clear hE
    go_wp2_with fail
    go_returns
    exact ⟨rfl, HE.out⟩
  · have hd : decide ((n : Int) > 60) = false := by simp; omega
    have G1 := Lib.hid ((print_any a n cap l w hl hn hW).mono fun _ _ => text_of)
    have G2 := Lib.hid (fun w1 (h : Ext w w1) => (rprint_any a n cap l w1 (hl.ext h) hn).mono fun _ _ => text_of)
    obtain ⟨t, ht⟩ : ∃ t, t = txT l := ⟨_, rfl⟩
    rw [← ht] at G1 G2
    obtain ⟨t1, t2⟩ := t
    simp only [] at G1 G2
    have k1 : (t1.toList == t1.toList) = true := by simp
    have k2 : (t2 == t2) = true := by simp
    clear h6 hW hl hn ht
    go_enter Tryd.func6, Tryd.ntmps6
    go_wp2_with fail
    refine G1.out.mono ?_
    rintro e w1 ⟨rfl, hE⟩
    have HE1 := Lib.hid hE
    clear hE
    go_wp2_with fail
    refine (G2.out _ HE1.out).mono ?_
    rintro e w2 ⟨rfl, hE⟩
    have HE2 := Lib.hid (HE1.out.trans hE)
    clear hE
    go_wp2_with fail
    refine (awake29 _ (HW.out.ext HE2.out)).mono ?_
    rintro e w3 ⟨rfl, hE⟩
    have HE3 := Lib.hid (HE2.out.trans hE)
    clear hE
    go_wp2_with fail
    go_returns
    exact ⟨by simp, HE3.out⟩
end Go.Proofs.YtaklnijmcidpkaaDoor
