/- Proof text of the claims about the statements of layer 4 (code). By an AI agent. No condition beyond what each theorem states. -/
import Derived.Test.YtgibagnllbbeiaaDoorH
import Derived.Test.YtgibagnllbbeiaaDoorM
import Derived.Test.YtgibagnllbbeiaaDoorN
set_option linter.unusedVariables false
namespace Go.Proofs.YtgibagnllbbeiaaDoor
open Go.RowKit
theorem recs_of {w : World} {base : Nat} {v : Value} {l : List R} {vs : List Value} (ho : w.ownsRow base 24 2 v l.length vs) (hr : RecCells (RdT w 3 1) vs l) : ∃ a cap, v = .slice a l.length cap ∧ RdRecs w a l.length cap l := by
  obtain ⟨a, cap, rfl, h⟩ := ownsRow_rd ho
  exact ⟨a, cap, rfl, vs, h, hr.mono fun _ _ _ _ hx => hx.1⟩
theorem recs_nil (w : World) : RdRecs w none 0 0 [] := ⟨[], Rd.empty w 2 none 0 (by unfold maxLen; omega), trivial⟩
def IsG (g : G) (l : List R) (k c : Int) : Prop :=
  match g with
  | .ok m => l = m ∧ k = 0 ∧ c = 0
  | .error (j, d) => l = [] ∧ k = j ∧ c = d
/-- What 'Get' hands back, read. -/
def GotRecs (w : World) (g : G) (e : Ending) (w' : World) : Prop :=
  ∃ a n cap k c l, e = .returned (.tuple #[.slice a n cap, .int .i64 k, .int .i64 c]) ∧ RdRecs w' a n cap l ∧ Ext w w' ∧ IsG g l k c
theorem got_of {w : World} {g : G} {e : Ending} {w' : World} (h : GivesRecs w g e w') : GotRecs w g e w' := by
  cases g with
  | ok l =>
    obtain ⟨v, vs, rfl, ho, hr, hE⟩ := h
    obtain ⟨a, cap, rfl, hd⟩ := recs_of ho hr
    exact ⟨a, _, cap, 0, 0, l, rfl, hd, hE, rfl, rfl, rfl⟩
  | error p =>
    obtain ⟨k, c⟩ := p
    obtain ⟨rfl, hE⟩ := h
    exact ⟨none, 0, 0, k, c, [], rfl, recs_nil w', hE, rfl, rfl, rfl⟩
theorem got_same {g : G} {l m : List R} {k c k' c' : Int} (h1 : IsG g l k c) (h2 : IsG g m k' c') : l = m ∧ k = k' ∧ c = c' := by
  cases g with
  | ok r => obtain ⟨rfl, rfl, rfl⟩ := h1; obtain ⟨rfl, rfl, rfl⟩ := h2; exact ⟨rfl, rfl, rfl⟩
  | error p => obtain ⟨rfl, rfl, rfl⟩ := h1; obtain ⟨rfl, rfl, rfl⟩ := h2; exact ⟨rfl, rfl, rfl⟩
set_option maxHeartbeats 1000000 in
theorem law_gets (a : Option Addr) (n cap : Nat) (A : List Int) (w : World) (h : Glob w) (hA : Rd w 1 a n cap (ivs A)) :
    Calls Tryd.prog 4 #[.slice a n cap] w fun e w' => e = .returned (.bool true) ∧ Ext w w' := by
  have Hg := Lib.hid h
  have HA := Lib.hid hA
  have hn := hA.nat_le
  clear h hA
  by_cases h6 : 600 < n
  · have hd : decide ((n : Int) > 600) = true := by simp; omega
    go_enter Tryd.func4, Tryd.ntmps4
    go_wp2_with (go_at_call 10; refine (awake_any _ Hg.out).mono ?_; rintro e w1 ⟨rfl, hE⟩)
    go_ret
    exact ⟨rfl, hE⟩
  · have hd : decide ((n : Int) > 600) = false := by simp; omega
    have G1 := Lib.hid (fun w1 (e1 : Ext w w1) => (get_any a n cap A w1 (Hg.out.ext e1) (HA.out.ext e1) (by omega)).mono fun _ _ => got_of)
    have G2 := Lib.hid (fun w1 (e1 : Ext w w1) => (rget_any a n cap A w1 (HA.out.ext e1) (by omega)).mono fun _ _ => got_of)
    go_enter Tryd.func4, Tryd.ntmps4
    go_wp2_with fail
    refine (G1.out w (Ext.refl w)).mono ?_
    rintro e w1 ⟨a1, n1, c1, k1, d1, l1, rfl, hr1, hE1, hm1⟩
    have R1 := Lib.hid hr1
    have M1 := Lib.hid hm1
    clear hr1 hm1
    go_wp2_with fail
    refine (G2.out w1 hE1).mono ?_
    rintro e w2 ⟨a2, n2, c2, k2, d2, l2, rfl, hr2, hE2, hm2⟩
    obtain ⟨el, rfl, rfl⟩ := got_same M1.out hm2
    subst el
    have R2 := Lib.hid hr2
    have R3 := Lib.hid (R1.out.ext hE2)
    have HE := Lib.hid (hE1.trans hE2)
    clear hr2 hm2 hE1 hE2
    go_wp2_with fail
    refine (awake_any _ (Hg.out.ext HE.out)).mono ?_
    rintro e w3 ⟨rfl, hE3⟩
    go_wp2_with fail
    refine (same_any a1 a2 n1 n2 c1 c2 l1 l1 _ (R3.out.ext hE3) (R2.out.ext hE3)).mono ?_
    rintro e w4 ⟨rfl, hE4⟩
    have e0 : decide (l1 = l1) = true := by simp
    rw [e0]
    clear e0
    go_wp2
    go_ret
    exact ⟨rfl, (HE.out.trans hE3).trans hE4⟩
theorem same_eq (a1 a2 : Option Addr) (n1 n2 c1 c2 : Nat) (l : List R) (w : World) (h1 : RdRecs w a1 n1 c1 l) (h2 : RdRecs w a2 n2 c2 l) :
    Calls Tryd.prog 15 #[.slice a1 n1 c1, .slice a2 n2 c2] w fun e w' => e = .returned (.bool true) ∧ Ext w w' := by
  have h := same_any a1 a2 n1 n2 c1 c2 l l w h1 h2
  rw [show decide (l = l) = true by simp] at h
  exact h
end Go.Proofs.YtgibagnllbbeiaaDoor
