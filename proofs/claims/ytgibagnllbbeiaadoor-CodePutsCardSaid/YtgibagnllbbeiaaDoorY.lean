/- Proof text of the claims about the statements of layer 4 (code). By an AI agent. No condition beyond what each theorem states. -/
import Derived.Test.YtgibagnllbbeiaaDoorO
import Derived.Test.YtgibagnllbbeiaaDoorW
import Derived.Test.YtgibagnllbbeiaaDoorV
import Derived.Test.YtgibagnllbbeiaaDoorV2
import Derived.Deep.RegionHeld3
import Derived.OpenShut
set_option linter.unusedVariables false
namespace Go.Proofs.YtgibagnllbbeiaaDoor
open Go.RowKit
def IsI (g : Except Int (List Int)) (l : List Int) (c : Int) : Prop :=
  match g with
  | .ok m => l = m ∧ c = 0
  | .error d => l = [] ∧ c = d
def GotInts (w : World) (g : Except Int (List Int)) (e : Ending) (w' : World) : Prop :=
  ∃ a n cap c l, e = .returned (.tuple #[.slice a n cap, .int .i64 c]) ∧ Rd w' 1 a n cap (ivs l) ∧ Ext w w' ∧ IsI g l c
theorem got_ints {w : World} {g : Except Int (List Int)} {e : Ending} {w' : World} (h : GivesInts w g e w') : GotInts w g e w' := by
  cases g with
  | ok l =>
    obtain ⟨v, rfl, ho, hE⟩ := h
    obtain ⟨a, cap, rfl, hd⟩ := ownsRow_rd ho
    exact ⟨a, _, cap, 0, l, rfl, hd, hE, rfl, rfl⟩
  | error c =>
    obtain ⟨rfl, hE⟩ := h
    exact ⟨none, 0, 0, c, [], rfl, Rd.empty w' 1 none 0 (by unfold maxLen; omega), hE, rfl, rfl⟩
theorem ints_same {g : Except Int (List Int)} {l m : List Int} {c c' : Int} (h1 : IsI g l c) (h2 : IsI g m c') : l = m ∧ c = c' := by
  cases g with
  | ok r => obtain ⟨rfl, rfl⟩ := h1; obtain ⟨rfl, rfl⟩ := h2; exact ⟨rfl, rfl⟩
  | error p => obtain ⟨rfl, rfl⟩ := h1; obtain ⟨rfl, rfl⟩ := h2; exact ⟨rfl, rfl⟩
set_option maxHeartbeats 1000000 in
theorem law_puts (a : Option Addr) (n cap : Nat) (l : List R) (w : World) (h : Glob w) (hl : RdRecs w a n cap l) :
    Calls Tryd.prog 8 #[.slice a n cap] w fun e w' => e = .returned (.bool true) ∧ Ext w w' := by
  have Hg := Lib.hid h
  have HL := Lib.hid hl
  have hn := hl.le63
  clear h hl
  by_cases h6 : 60 < n
  · have hd : decide ((n : Int) > 60) = true := by simp; omega
    go_enter Tryd.func8, Tryd.ntmps8
    go_wp2_with (go_at_call 10; refine (awake_any _ Hg.out).mono ?_; rintro e w1 ⟨rfl, hE⟩)
    go_ret
    exact ⟨rfl, hE⟩
  have hd : decide ((n : Int) > 60) = false := by simp; omega
  have G1 := Lib.hid (fun w1 (e1 : Ext w w1) => (put_any a n cap l w1 (Hg.out.ext e1) (HL.out.ext e1)).mono fun _ _ => got_ints)
  have G2 := Lib.hid (fun w1 (e1 : Ext w w1) => (rput_any a n cap l w1 (HL.out.ext e1)).mono fun _ _ => got_ints)
  go_enter Tryd.func8, Tryd.ntmps8
  go_wp2_with fail
  refine (G1.out w (Ext.refl w)).mono ?_
  rintro e w1 ⟨a1, n1, c1, d1, l1, rfl, hr1, hE1, hm1⟩
  have R1 := Lib.hid hr1
  have M1 := Lib.hid hm1
  clear hr1 hm1
  go_wp2_with fail
  refine (G2.out w1 hE1).mono ?_
  rintro e w2 ⟨a2, n2, c2, d2, l2, rfl, hr2, hE2, hm2⟩
  obtain ⟨el, rfl⟩ := ints_same M1.out hm2
  subst el
  have hl1 := R1.out.len
  have hl2 := hr2.len
  have hb1 := R1.out.nat_le
  obtain rfl : n1 = n2 := by omega
  have R2 := Lib.hid hr2
  have R3 := Lib.hid (R1.out.ext hE2)
  have HE := Lib.hid (hE1.trans hE2)
  have hne : ((n1 : Int) != (n1 : Int)) = false := by simp
  have Ll : Hid (l1.length = n1) := by have := R1.out.len; simp at this; exact this
  clear hr2 hm2 hE1 hE2 hl1 hl2
  go_wp2
  go_loopw [7] (fun i wr => ∃ k : Nat, k ≤ n1 ∧ i = .int .i64 k ∧ Ext w2 wr) (fun i _ => n1 - (intOf i).toNat)
  case atStart => exact ⟨0, Nat.zero_le _, rfl, Ext.refl _⟩
  case round =>
    obtain ⟨k, hk, rfl, hEr⟩ := hrel
    by_cases hlt : k < n1
    · have hkl : k < l1.length := by rw [Ll.out]; exact hlt
      obtain ⟨b1, o1, rfl, _, z1⟩ := (R3.out.ext hEr).at_ (by omega)
      obtain ⟨b2, o2, rfl, _, z2⟩ := (R2.out.ext hEr).at_ (by omega)
      have x1 := (z1 k (by omega)).trans (ivs_get l1 k hkl)
      have x2 := (z2 k (by omega)).trans (ivs_get l1 k hkl)
      have HEr := Lib.hid hEr
      clear z1 z2 hkl hEr
      generalize l1.getD k 0 = v at x1 x2
      have hv : (v != v) = false := by simp
      have hki : (k : Int) < (n1 : Int) := by omega
      have hk0 : (0 : Int) ≤ (k : Int) := by omega
      go_wp2
      go_quiet (fail)
      go_wp2
      go_roundw
      case rel => exact ⟨k + 1, by omega, by go_num, HEr.out.drewN _⟩
      case measure => simp [intOf]; omega
    · go_wp2_with (go_at_call 10; refine (awake_any _ (Hg.out.ext (HE.out.trans hEr))).mono ?_; rintro e w5 ⟨rfl, hE5⟩)
      go_ret
      exact ⟨rfl, (HE.out.trans hEr).trans hE5⟩

set_option maxHeartbeats 1000000 in
theorem law_back (a : Option Addr) (n cap : Nat) (l : List R) (w : World) (h : Glob w) (hl : RdRecs w a n cap l) :
    Calls Tryd.prog 9 #[.slice a n cap] w fun e w' => e = .returned (.bool true) ∧ Ext w w' := by
  have Hg := Lib.hid h
  have HL := Lib.hid hl
  have Hn := Lib.hid hl.len
  have hn := hl.le63
  clear h hl
  by_cases h6 : 60 < n
  · have hd : decide ((n : Int) > 60) = true := by simp; omega
    go_enter Tryd.func9, Tryd.ntmps9
    go_wp2_with (go_at_call 10; refine (awake_any _ Hg.out).mono ?_; rintro e w1 ⟨rfl, hE⟩)
    go_ret
    exact ⟨rfl, hE⟩
  have hd : decide ((n : Int) > 60) = false := by simp; omega
  have G1 := Lib.hid (put_any a n cap l w Hg.out HL.out)
  cases hp : putT l with
  | error c =>
    have hc := putT_err hp
    rw [hp] at G1
    have hne : (c != 0) = true := by simp; omega
    clear hp
    go_enter Tryd.func9, Tryd.ntmps9
    go_wp2_with fail
    refine G1.out.mono ?_
    rintro e w1 ⟨rfl, hE1⟩
    go_wp2_with (go_at_call 10; refine (awake_any _ (Hg.out.ext hE1)).mono ?_; rintro e w2 ⟨rfl, hE2⟩)
    go_ret
    exact ⟨rfl, hE1.trans hE2⟩
  | ok A =>
    have hg := Lib.hid (put_get (by rw [Hn.out]; omega) hp)
    have hA : A.length ≤ 17 * 60 := by
      have : ∀ (l : List R) (acc B : List Int), putF l acc = .ok B → B.length ≤ acc.length + 17 * l.length := by
        intro l
        induction l with
        | nil => intro acc B h; simp [putF] at h; subst h; simp
        | cons r t ih =>
          obtain ⟨op, C⟩ := r
          intro acc B h
          cases hk : askT op with
          | none => rw [putF_cons_none hk] at h; cases h
          | some q =>
            by_cases hq : q.length = C.length
            · rw [putF_cons_ok hk hq] at h
              have := ih _ _ h
              have h16 := ask_len op
              rw [hk] at h16
              simp at this h16 ⊢
              omega
            · rw [putF_cons_bad hk hq] at h; cases h
      unfold putT at hp
      rw [if_neg (by rw [Hn.out]; omega)] at hp
      have := this l [] A hp
      have := Hn.out
      simp at *
      omega
    rw [hp] at G1
    clear hp
    go_enter Tryd.func9, Tryd.ntmps9
    go_wp2_with fail
    refine G1.out.mono ?_
    rintro e w1 ⟨v1, rfl, ho1, hE1⟩
    obtain ⟨a1, c1, rfl, hr1⟩ := ownsRow_rd ho1
    have G2 := Lib.hid ((get_any a1 A.length c1 A w1 (Hg.out.ext hE1) hr1 (by omega)).mono fun _ _ => got_of)
    have HE1 := Lib.hid hE1
    clear ho1 hr1 hE1
    go_wp2_with fail
    refine G2.out.mono ?_
    rintro e w2 ⟨a2, n2, c2, k2, d2, l2, rfl, hr2, hE2, hm2⟩
    rw [hg.out] at hm2
    obtain ⟨rfl, rfl, rfl⟩ := hm2
    have HE2 := Lib.hid (HE1.out.trans hE2)
    have R2 := Lib.hid hr2
    clear hr2 hE2
    go_wp2_with fail
    refine (awake_any _ (Hg.out.ext HE2.out)).mono ?_
    rintro e w3 ⟨rfl, hE3⟩
    go_wp2_with fail
    refine (same_eq a a2 n n2 cap c2 l2 _ (HL.out.ext (HE2.out.trans hE3)) (R2.out.ext hE3)).mono ?_
    rintro e w4 ⟨rfl, hE4⟩
    go_wp2
    go_ret
    exact ⟨rfl, (HE2.out.trans hE3).trans hE4⟩
end Go.Proofs.YtgibagnllbbeiaaDoor
