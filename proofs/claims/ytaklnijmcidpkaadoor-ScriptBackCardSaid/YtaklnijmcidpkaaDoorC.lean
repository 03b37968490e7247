/- Proof text of the claims about the statements of layer 4 (code). By an AI agent. No condition beyond what each theorem states. -/
import Derived.Test.YtaklnijmcidpkaaDoorB
import Derived.Test.YtaklnijmcidpkaaDoorK
set_option linter.unusedVariables false
set_option linter.unusedSimpArgs false
namespace Go.Proofs.YtaklnijmcidpkaaDoor
open Go.RowKit
theorem prs_get (l : List (Int × Int)) (k : Nat) (h : k < l.length) : (prs l)[k * 2]? = some (.int .i64 (l.getD k (0, 0)).1) ∧ (prs l)[k * 2 + 1]? = some (.int .i64 (l.getD k (0, 0)).2) := by
  induction l generalizing k with
  | nil => simp at h
  | cons p r ih =>
    cases k with
    | zero => simp [prs]
    | succ k =>
      have := ih k (by simpa using h)
      have e : (k + 1) * 2 = k * 2 + 1 + 1 := by omega
      rw [e]
      simpa [prs] using this

set_option maxHeartbeats 400000 in
theorem ask_any (op : Int) (w : World) (h : Glob w) : Calls Tryd.prog 42 #[.int .i64 op] w (Gives w (askT op)) := by
  cases hs : lk op stateTab with
  | some l =>
    have e0 : askT op = some l := by simp [askT, hs]
    have hst := state_any op w h
    rw [hs] at hst
    rw [e0]
    have Hst := Lib.hid hst
    clear hst hs e0
    go_enter Tryd.func42, Tryd.ntmps42
    go_wp2_with (go_at_call 53; refine Hst.out.mono ?_; rintro e w1 ⟨v, rfl, ho, hE⟩; simp only [Option.isSome_some])
    go_ret2
    exact ⟨v, rfl, ho, hE⟩
  | none =>
    have e0 : askT op = lk op drawTab := by simp [askT, hs]
    have hst := state_any op w h
    rw [hs] at hst
    rw [e0]
    have Hst := Lib.hid hst
    clear hst hs e0
    go_enter Tryd.func42, Tryd.ntmps42
    go_wp2_with (go_at_call 53; refine Hst.out.mono ?_; rintro e w1 ⟨v, rfl, ho, hE⟩; simp only [Option.isSome_none])
    refine (draw_any op w1 (h.ext hE)).mono ?_
    rintro e w2 ⟨v2, rfl, ho2, hE2⟩
    go_wp2
    go_ret2
    exact ⟨v2, rfl, ⟨ho2.1, ho2.2.imp id fun ⟨g, cap, cur, a, b, c⟩ => ⟨g, cap, cur, a, Nat.le_trans hE.size b, c⟩⟩, hE.trans hE2⟩

/-- What 'ask' gives, as a row that is read. -/
theorem ask_rd (op : Int) (w : World) (h : Glob w) : Calls Tryd.prog 42 #[.int .i64 op] w fun e w' => ∃ a cap, e = .returned (.tuple #[.slice a ((askT op).getD []).length cap, .bool (askT op).isSome]) ∧
    Rd w' 2 a ((askT op).getD []).length cap (prs ((askT op).getD [])) ∧ Ext w w' :=
  (ask_any op w h).mono fun e w' ⟨v, he, ho, hE⟩ => by
    obtain ⟨a, cap, rfl, hr⟩ := ownsRow_rd ho
    exact ⟨a, cap, he, hr, hE⟩

set_option maxHeartbeats 400000 in
theorem arity_any (op : Int) (w : World) (h : Glob w) : Calls Tryd.prog 31 #[.int .i64 op] w fun e w' => e = .returned (.tuple #[.int .i64 ((askT op).getD []).length, .bool (askT op).isSome]) ∧ Ext w w' := by
  have H := Lib.hid (ask_rd op w h)
  go_enter Tryd.func31, Tryd.ntmps31
  go_wp2_with (go_at_call 42; refine H.out.mono ?_; rintro e w1 ⟨a, cap, rfl, hr, hE⟩)
  go_ret2
  exact ⟨rfl, hE⟩

end Go.Proofs.YtaklnijmcidpkaaDoor
