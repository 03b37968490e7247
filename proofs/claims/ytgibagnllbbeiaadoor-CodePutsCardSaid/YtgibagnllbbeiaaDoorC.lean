/- Proof text of the claims about the statements of layer 4 (code). By an AI agent. No condition beyond what each theorem states. -/
import Derived.Test.YtgibagnllbbeiaaDoorB
import Derived.Test.YtgibagnllbbeiaaDoorK
set_option linter.unusedVariables false
namespace Go.Proofs.YtgibagnllbbeiaaDoor
open Go.RowKit
theorem prs_get (l : List (Int × Int)) (k : Nat) (h : k < l.length) : (prs l)[k * 2]? = some (.int .i64 (l.getD k (0, 0)).1) ∧ (prs l)[k * 2 + 1]? = some (.int .i64 (l.getD k (0, 0)).2) := by
  induction l generalizing k with
  | nil => simp at h
  | cons p r ih =>
    cases k with
    | zero => simp [prs]
    | succ k =>
      have := ih k (by simpa using h)
      have e : (k + 1) * 2 = k * 2 + 1 + 1 := by omega
      rw [e]
      simpa [prs] using this

set_option maxHeartbeats 400000 in
theorem ask_any (op : Int) (w : World) (h : Glob w) : Calls Tryd.prog 22 #[.int .i64 op] w (Gives w (askT op)) := by
  cases hs : lk op stateTab with
  | some l =>
    have e0 : askT op = some l := by simp [askT, hs]
    have hst := state_any op w h
    rw [hs] at hst
    rw [e0]
    have Hst := Lib.hid hst
    clear hst hs e0
    go_enter Tryd.func22, Tryd.ntmps22
    go_wp2_with (go_at_call 24; refine Hst.out.mono ?_; rintro e w1 ⟨v, rfl, ho, hE⟩; simp only [Option.isSome_some])
    go_ret2
    exact ⟨v, rfl, ho, hE⟩
  | none =>
    have e0 : askT op = lk op drawTab := by simp [askT, hs]
    have hst := state_any op w h
    rw [hs] at hst
    rw [e0]
    have Hst := Lib.hid hst
    clear hst hs e0
    go_enter Tryd.func22, Tryd.ntmps22
    go_wp2_with (go_at_call 24; refine Hst.out.mono ?_; rintro e w1 ⟨v, rfl, ho, hE⟩; simp only [Option.isSome_none])
    refine (draw_any op w1 (h.ext hE)).mono ?_
    rintro e w2 ⟨v2, rfl, ho2, hE2⟩
    go_wp2
    go_ret2
    exact ⟨v2, rfl, ⟨ho2.1, ho2.2.imp id fun ⟨g, cap, cur, a, b, c⟩ => ⟨g, cap, cur, a, Nat.le_trans hE.size b, c⟩⟩, hE.trans hE2⟩

/-- What 'ask' gives, as a row that is read. -/
theorem ask_rd (op : Int) (w : World) (h : Glob w) : Calls Tryd.prog 22 #[.int .i64 op] w fun e w' => ∃ a cap, e = .returned (.tuple #[.slice a ((askT op).getD []).length cap, .bool (askT op).isSome]) ∧
    Rd w' 2 a ((askT op).getD []).length cap (prs ((askT op).getD [])) ∧ Ext w w' :=
  (ask_any op w h).mono fun e w' ⟨v, he, ho, hE⟩ => by
    obtain ⟨a, cap, rfl, hr⟩ := ownsRow_rd ho
    exact ⟨a, cap, he, hr, hE⟩

set_option maxHeartbeats 400000 in
theorem arity_any (op : Int) (w : World) (h : Glob w) : Calls Tryd.prog 16 #[.int .i64 op] w fun e w' => e = .returned (.tuple #[.int .i64 ((askT op).getD []).length, .bool (askT op).isSome]) ∧ Ext w w' := by
  have H := Lib.hid (ask_rd op w h)
  go_enter Tryd.func16, Tryd.ntmps16
  go_wp2_with (go_at_call 22; refine H.out.mono ?_; rintro e w1 ⟨a, cap, rfl, hr, hE⟩)
  go_ret2
  exact ⟨rfl, hE⟩

set_option maxHeartbeats 400000 in
theorem range_any (op i : Int) (w : World) (h : Glob w) : Calls Tryd.prog 18 #[.int .i64 op, .int .i64 i] w fun e w' => e = .returned (.tuple #[.int .i64 (rangeT (askT op) i).1, .int .i64 (rangeT (askT op) i).2.1, .bool (rangeT (askT op) i).2.2]) ∧ Ext w w' := by
  have H := Lib.hid (ask_rd op w h)
  by_cases hi : i < 0
  · have e0 : rangeT (askT op) i = (0, 0, false) := by unfold rangeT; rw [if_pos (Or.inl hi)]
    rw [e0]; clear e0
    have hd : decide (i < 0) = true := by simpa using hi
    go_enter Tryd.func18, Tryd.ntmps18
    go_wp2_with (go_at_call 22; refine H.out.mono ?_; rintro e w1 ⟨a, cap, rfl, hr, hE⟩)
    go_ret3
    exact ⟨rfl, hE⟩
  · generalize hl : (askT op).getD [] = l at H
    have hm := Lib.hid hl
    by_cases hj : (l.length : Int) ≤ i
    · have e0 : rangeT (askT op) i = (0, 0, false) := by unfold rangeT; rw [hl, if_pos (Or.inr hj)]
      rw [e0]; clear e0 hl
      have hd : decide (i < 0) = false := by simpa using hi
      have hd2 : decide (i ≥ (l.length : Int)) = true := by simpa using hj
      go_enter Tryd.func18, Tryd.ntmps18
      go_wp2_with (go_at_call 22; refine H.out.mono ?_; rintro e w1 ⟨a, cap, rfl, hr, hE⟩)
      go_ret3
      exact ⟨rfl, hE⟩
    · obtain ⟨k, rfl⟩ := Int.eq_ofNat_of_zero_le (by omega : 0 ≤ i)
      have hk : k < l.length := by omega
      have e0 : rangeT (askT op) k = ((l.getD k (0, 0)).1, (l.getD k (0, 0)).2, true) := by unfold rangeT; rw [hl, if_neg (by omega)]; rfl
      rw [e0]; clear e0 hl
      obtain ⟨hp1, hp2⟩ := prs_get l k hk
      generalize l.getD k (0, 0) = p at hp1 hp2
      have Hp1 := Lib.hid hp1
      have Hp2 := Lib.hid hp2
      clear hp1 hp2 hj
      have hd : decide ((k : Int) < 0) = false := by simp
      have hk' : (k : Int) < (l.length : Int) := by omega
      have hd2 : decide ((k : Int) ≥ (l.length : Int)) = false := by simpa using hk
      go_enter Tryd.func18, Tryd.ntmps18
      go_wp2_with (go_at_call 22; refine H.out.mono ?_; rintro e w1 ⟨a, cap, rfl, hr, hE⟩)
      obtain ⟨b, off, rfl, hb, hc⟩ := hr.at_ (by omega)
      have c1 : w1.cell? ⟨b, off + k * 2, none⟩ = some (.int .i64 p.1) := (hc (k * 2) (by omega)).trans Hp1.out
      have c2 : w1.cell? ⟨b, off + k * 2 + 1, none⟩ = some (.int .i64 p.2) := (hc (k * 2 + 1) (by omega)).trans Hp2.out
      clear hc hr
      go_quiet (fail)
      go_wp2
      go_ret3
      exact ⟨rfl, hE.trans ⟨rfl, rfl, rfl, by simp, fun _ _ => rfl⟩⟩
set_option maxHeartbeats 1000000 in
theorem right_any (op : Int) (a : Option Addr) (n cap : Nat) (A : List Int) (w : World) (h : Glob w) (hA : Rd w 1 a n cap (ivs A)) :
    Calls Tryd.prog 11 #[.agg #[.int .i64 op, .slice a n cap]] w fun e w' => e = .returned (.int .i64 (rightT (askT op) A)) ∧ Ext w w' := by
  have H := fun w1 h1 => ask_rd op w1 h1
  have hAl : A.length = n := by simpa using hA.len
  have hn := hA.nat_le
  generalize ho : askT op = o at H
  have HA := Lib.hid hA
  have Hg := Lib.hid h
  have Hl := Lib.hid hAl
  have HH := Lib.hid H
  clear H hA h hAl ho
  cases o with
  | none =>
    go_enter Tryd.func11, Tryd.ntmps11
    go_wp2_with (go_at_call 22; refine (HH.out _ (Hg.out.ext ((Ext.refl _).alloc _))).mono ?_; rintro e w1 ⟨a1, cap1, rfl, hr, hE⟩; simp only [Option.isSome_none])
    go_ret
    exact ⟨rfl, ((Ext.refl w).alloc _).trans hE⟩
  | some l =>
    have hl63 : (l.length : Int) ≤ 9223372036854775807 ∨ True := Or.inr trivial
    clear hl63
    by_cases hlen : l.length = n
    · have hne : ((l.length : Int) != (n : Int)) = false := by simp [hlen]
      go_enter Tryd.func11, Tryd.ntmps11
      go_wp2_with (go_at_call 22; refine (HH.out _ (Hg.out.ext ((Ext.refl _).alloc _))).mono ?_; rintro e w1 ⟨a1, cap1, rfl, hr, hE⟩; obtain ⟨x1, rfl⟩ := Later.mk' hE; simp only [Option.isSome_some, Option.getD_some] at hr ⊢)
      have hlA : l.length = A.length := by rw [hlen, Hl.out]
      have HlA := Lib.hid hlA
      have Hlen := Lib.hid hlen
      clear hlA hlen hne
      have HA1 := Lib.hid ((HA.out.ext ((Ext.refl w).alloc (.cells #[.int .i64 op, .slice a n cap] 24))).ext x1.ext)
      have HE := Lib.hid (((Ext.refl w).alloc _).trans x1.ext)
      have Hr := Lib.hid hr
      clear hr hE
      go_loop [24] (fun i => ∃ k : Nat, k ≤ n ∧ i = .int .i64 k ∧ Hid (∀ j, j < k → within (l.getD j (0, 0)) (A.getD j 0) = true)) (fun i => n - (intOf i).toNat)
      case atStart => exact ⟨0, Nat.zero_le _, rfl, fun j hj => by omega⟩
      case round =>
        obtain ⟨k, hk, rfl, hall⟩ := hrel
        by_cases hlt : k < n
        · obtain ⟨b, off, rfl, hb, hc⟩ := HA1.out.at_ (by omega)
          obtain ⟨b1, off1, rfl, hb1, hc1⟩ := Hr.out.at_ (by rw [Hlen.out]; omega)
          have hkA : k < A.length := by rw [Hl.out]; omega
          have hkl : k < l.length := by rw [Hlen.out]; omega
          have ca : x1.w.cell? ⟨b, off + k, none⟩ = some (.int .i64 (A.getD k 0)) := (hc k (by omega)).trans (ivs_get A k hkA)
          obtain ⟨hp1, hp2⟩ := prs_get l k hkl
          have cp1 := (hc1 (k * 2) (by omega)).trans hp1
          have cp2 := (hc1 (k * 2 + 1) (by omega)).trans hp2
          have hw : within (l.getD k (0, 0)) (A.getD k 0) = (decide ((l.getD k (0, 0)).1 ≤ A.getD k 0) && decide (A.getD k 0 ≤ (l.getD k (0, 0)).2)) := rfl
          have HW := Lib.hid hw
          have HkA := Lib.hid hkA
          have Hkl := Lib.hid hkl
          have hz : (k : Int) < (l.length : Int) := by omega
          clear hc hc1 hp1 hp2 hw hkA hkl
          have cp2' : x1.w.cell? ⟨b1, off1 + k * 2 + 1, none⟩ = some (.int .i64 (l.getD k (0, 0)).2) := cp2
          clear cp2
          generalize hx : A.getD k 0 = x at ca HW
          generalize hp : l.getD k (0, 0) = p at cp1 cp2' HW
          have Hx := Lib.hid hx
          have Hp := Lib.hid hp
          clear hx hp
          by_cases h1 : x < p.1
          · have hd1 : decide (x < p.1) = true := by simpa using h1
            go_wp2
            go_ret
            have e0 : rightT (some l) A = 4 := by
              have := allIn_bad l A k Hkl.out HkA.out (by rw [Hx.out, Hp.out, HW.out]; simp; omega)
              simp [rightT, HlA.out, this]
            exact ⟨by rw [e0]; rfl, HE.out⟩
          · have hd1 : decide (x < p.1) = false := by simpa using h1
            by_cases h2 : p.2 < x
            · have hd2 : decide (x > p.2) = true := by simpa using h2
              go_wp2
              go_ret
              have e0 : rightT (some l) A = 4 := by
                have := allIn_bad l A k Hkl.out HkA.out (by rw [Hx.out, Hp.out, HW.out]; simp; omega)
                simp [rightT, HlA.out, this]
              exact ⟨by rw [e0]; rfl, HE.out⟩
            · have hd2 : decide (x > p.2) = false := by simpa using h2
              go_wp2
              go_round
              case rel =>
                refine ⟨k + 1, by omega, by go_num, fun j hj => ?_⟩
                by_cases hjk : j < k
                · exact hall.out j hjk
                · obtain rfl : j = k := by omega
                  rw [Hx.out, Hp.out, HW.out]; simp; omega
              case measure => simp [intOf]; omega
        · go_wp2
          all_goals go_ret
          obtain rfl : k = n := by omega
          have e0 : rightT (some l) A = 0 := by
            have := allIn_all l A HlA.out (fun j hj => hall.out j (by rw [Hl.out] at hj; exact hj))
            simp [rightT, HlA.out, this]
          exact ⟨by rw [e0]; rfl, HE.out⟩
    · have hne : ((l.length : Int) != (n : Int)) = true := by simp; omega
      go_enter Tryd.func11, Tryd.ntmps11
      go_wp2_with (go_at_call 22; refine (HH.out _ (Hg.out.ext ((Ext.refl _).alloc _))).mono ?_; rintro e w1 ⟨a1, cap1, rfl, hr, hE⟩; obtain ⟨x1, rfl⟩ := Later.mk' hE; simp only [Option.isSome_some, Option.getD_some] at hr ⊢)
      go_ret
      have e0 : rightT (some l) A = 1 := by simp only [rightT]; rw [if_neg (by rw [Hl.out]; exact hlen)]
      exact ⟨by rw [e0]; rfl, ((Ext.refl w).alloc _).trans x1.ext⟩
end Go.Proofs.YtgibagnllbbeiaaDoor
