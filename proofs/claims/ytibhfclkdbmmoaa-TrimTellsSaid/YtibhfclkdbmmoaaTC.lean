/- Proof text: what is promised anything, the example, and the law TrimParts. By an AI agent. No condition beyond what each theorem states. -/
import Derived.Test.YtibhfclkdbmmoaaTB
set_option linter.unusedVariables false
set_option linter.unusedSimpArgs false
namespace Go.Proofs.Ytibhfclkdbmmoaa
open Go.RowKit
def MayT (a b : Vx) (l : List Sd) : Prop := l.length ≤ 9 ∧ a.Fit ∧ b.Fit ∧ ∀ s ∈ l, s.Ok
set_option maxHeartbeats 1000000 in
theorem may_yes (l : List Sd) (a b : Vx) (A : Option Addr) (n cap : Nat) (w : World) (hr : Rd w 5 A n cap (srow l)) (hl : l.length = n) (h : MayT a b l) :
    Calls Try.prog 10 #[a.v, b.v, .slice A n cap] w fun e w' => e = .returned (.bool true) ∧ Ext w w' := by
  have hn := hr.nat_le
  obtain ⟨h9, ha, hb, hok⟩ := h
  have HR := Lib.hid hr; clear hr
  have HL := Lib.hid hl
  have HO := Lib.hid hok; clear hok
  have HA := Lib.hid ha; clear ha
  have HB := Lib.hid hb; clear hb
  have d9 : decide ((n : Int) > 9) = false := by simp; omega
  clear hl h9
  go_enter Try.func10, Try.ntmps10
  go_wp2_with fail
  refine (rfits_yes a _ HA.out).mono ?_
  rintro e w1 ⟨rfl, hE⟩
  obtain ⟨x1, rfl⟩ := Later.mk' hE
  clear hE
  go_wp2_with fail
  refine (rfits_yes b _ HB.out).mono ?_
  rintro e w1 ⟨rfl, hE⟩
  obtain ⟨x2, rfl⟩ := Later.mk' hE
  clear hE
  have E2 : Ext w x2.w := by (repeat (first | with_reducible exact Ext.refl _ | with_reducible assumption | with_reducible refine Ext.alloc ?_ _ | with_reducible refine Ext.drew ?_ | with_reducible refine Ext.drewN ?_ _ | with_reducible refine Ext.later ?_ _ | (with_reducible refine Ext.setCell ?_ _ ?hp; case hp => first | (simp; done) | (simp; omega) | omega)))
  go_wp2_with fail
  go_loopw [7] (fun i wr => ∃ j : Nat, j ≤ n ∧ i = .int .i64 j ∧ Ext w wr) (fun i _ => n - (intOf i).toNat)
  case atStart => exact ⟨0, Nat.zero_le _, rfl, E2⟩
  case round =>
    obtain ⟨j, hj, rfl, hE⟩ := hrel
    by_cases hlt : j < n
    · obtain ⟨s, hs⟩ : ∃ s, l[j]? = some s := ⟨_, List.getElem?_eq_getElem (by rw [HL.out]; exact hlt)⟩
      have hRr := HR.out.ext hE
      obtain ⟨ab, ao, hA, hAb, hcell⟩ := hRr.at_ (by omega)
      subst hA
      obtain ⟨c0, c1, c2, c3, c4⟩ := side_at hRr hs
      clear hRr hcell hAb
      have HSO : Hid s.Ok := Lib.hid (HO.out s (List.mem_of_getElem? hs))
      clear hs
      have HE := Lib.hid hE; clear hE
      go_wp2_with fail
      refine (rright_yes s _ HSO.out).mono ?_
      rintro e w1 ⟨rfl, hE⟩
      have HE2 := Lib.hid (HE.out.trans hE)
      clear hE
      go_wp2_with fail
      go_roundw
      case rel => exact ⟨j + 1, by omega, by go_num, HE2.out⟩
      case measure => simp [intOf]; omega
    · obtain rfl : j = n := by omega
      go_wp2_with fail
      go_ret
      exact ⟨rfl, hE⟩
set_option maxHeartbeats 1000000 in
theorem may_no (l : List Sd) (a b : Vx) (A : Option Addr) (n cap : Nat) (w : World) (hr : Rd w 5 A n cap (srow l)) (hl : l.length = n) (h : ¬ MayT a b l) :
    Calls Try.prog 10 #[a.v, b.v, .slice A n cap] w fun e w' => e = .returned (.bool false) ∧ Ext w w' := by
  have hn := hr.nat_le
  by_cases h9 : l.length ≤ 9
  · have d9 : decide ((n : Int) > 9) = false := by simp; omega
    by_cases ha : a.Fit
    · by_cases hb : b.Fit
      · have HN : Hid (¬ ∀ s ∈ l, s.Ok) := Lib.hid fun hc => h ⟨h9, ha, hb, hc⟩
        have HR := Lib.hid hr; clear hr
        have HL := Lib.hid hl
        have HA := Lib.hid ha; clear ha
        have HB := Lib.hid hb; clear hb
        clear hl h9 h
        go_enter Try.func10, Try.ntmps10
        go_wp2_with fail
        refine (rfits_yes a _ HA.out).mono ?_
        rintro e w1 ⟨rfl, hE⟩
        obtain ⟨x1, rfl⟩ := Later.mk' hE
        clear hE
        go_wp2_with fail
        refine (rfits_yes b _ HB.out).mono ?_
        rintro e w1 ⟨rfl, hE⟩
        obtain ⟨x2, rfl⟩ := Later.mk' hE
        clear hE
        have E2 : Ext w x2.w := by (repeat (first | with_reducible exact Ext.refl _ | with_reducible assumption | with_reducible refine Ext.alloc ?_ _ | with_reducible refine Ext.drew ?_ | with_reducible refine Ext.drewN ?_ _ | with_reducible refine Ext.later ?_ _ | (with_reducible refine Ext.setCell ?_ _ ?hp; case hp => first | (simp; done) | (simp; omega) | omega)))
        go_wp2_with fail
        go_loopw [7] (fun i wr => ∃ j : Nat, j ≤ n ∧ i = .int .i64 j ∧ Hid (∀ k, k < j → ∀ s, l[k]? = some s → s.Ok) ∧ Ext w wr) (fun i _ => n - (intOf i).toNat)
        case atStart => exact ⟨0, Nat.zero_le _, rfl, Lib.hid (fun k hk => by omega), E2⟩
        case round =>
          obtain ⟨j, hj, rfl, HJ, hE⟩ := hrel
          by_cases hlt : j < n
          · obtain ⟨s, hs⟩ : ∃ s, l[j]? = some s := ⟨_, List.getElem?_eq_getElem (by rw [HL.out]; exact hlt)⟩
            have hRr := HR.out.ext hE
            obtain ⟨ab, ao, hA, hAb, hcell⟩ := hRr.at_ (by omega)
            subst hA
            obtain ⟨c0, c1, c2, c3, c4⟩ := side_at hRr hs
            clear hRr hcell hAb
            have HS := Lib.hid hs; clear hs
            have HE := Lib.hid hE; clear hE
            by_cases hso : s.Ok
            · have HSO := Lib.hid hso; clear hso
              go_wp2_with fail
              refine (rright_yes s _ HSO.out).mono ?_
              rintro e w1 ⟨rfl, hE⟩
              have HE2 := Lib.hid (HE.out.trans hE)
              clear hE
              go_wp2_with fail
              go_roundw
              case rel => exact ⟨j + 1, by omega, by go_num, Lib.hid (upto HJ.out (fun t ht => by rw [HS.out] at ht; injection ht with ht; rw [← ht]; exact HSO.out)), HE2.out⟩
              case measure => simp [intOf]; omega
            · have HSO := Lib.hid hso; clear hso
              go_wp2_with fail
              refine (rright_no s _ HSO.out).mono ?_
              rintro e w1 ⟨rfl, hE⟩
              have HE2 := Lib.hid (HE.out.trans hE)
              clear hE
              go_wp2_with fail
              go_ret
              exact ⟨rfl, HE2.out⟩
          · obtain rfl : j = n := by omega
            exfalso
            refine HN.out fun s hs => ?_
            obtain ⟨k, hk, he⟩ := List.mem_iff_getElem.1 hs
            exact HJ.out k (by rw [← HL.out]; exact hk) s (by rw [List.getElem?_eq_getElem hk, he])
      · have HA := Lib.hid ha; clear ha
        have HB := Lib.hid hb; clear hb
        clear h hr hl h9
        go_enter Try.func10, Try.ntmps10
        go_wp2_with fail
        refine (rfits_yes a _ HA.out).mono ?_
        rintro e w1 ⟨rfl, hE⟩
        obtain ⟨x1, rfl⟩ := Later.mk' hE
        clear hE
        go_wp2_with fail
        refine (rfits_no b _ HB.out).mono ?_
        rintro e w1 ⟨rfl, hE⟩
        obtain ⟨x2, rfl⟩ := Later.mk' hE
        clear hE
        go_wp2_with fail
        go_ret
        exact ⟨rfl, by (repeat (first | with_reducible exact Ext.refl _ | with_reducible assumption | with_reducible refine Ext.alloc ?_ _ | with_reducible refine Ext.drew ?_ | with_reducible refine Ext.drewN ?_ _ | with_reducible refine Ext.later ?_ _ | (with_reducible refine Ext.setCell ?_ _ ?hp; case hp => first | (simp; done) | (simp; omega) | omega)))⟩
    · have HA := Lib.hid ha; clear ha
      clear h hr hl h9
      go_enter Try.func10, Try.ntmps10
      go_wp2_with fail
      refine (rfits_no a _ HA.out).mono ?_
      rintro e w1 ⟨rfl, hE⟩
      obtain ⟨x1, rfl⟩ := Later.mk' hE
      clear hE
      go_wp2_with fail
      go_ret
      exact ⟨rfl, by (repeat (first | with_reducible exact Ext.refl _ | with_reducible assumption | with_reducible refine Ext.alloc ?_ _ | with_reducible refine Ext.drew ?_ | with_reducible refine Ext.drewN ?_ _ | with_reducible refine Ext.later ?_ _ | (with_reducible refine Ext.setCell ?_ _ ?hp; case hp => first | (simp; done) | (simp; omega) | omega)))⟩
  · have d9 : decide ((n : Int) > 9) = true := by simp; omega
    clear h hr hl h9
    go_enter Try.func10, Try.ntmps10
    go_wp2_with fail
    go_ret
    exact ⟨rfl, by (repeat (first | with_reducible exact Ext.refl _ | with_reducible assumption | with_reducible refine Ext.alloc ?_ _ | with_reducible refine Ext.drew ?_ | with_reducible refine Ext.drewN ?_ _ | with_reducible refine Ext.later ?_ _ | (with_reducible refine Ext.setCell ?_ _ ?hp; case hp => first | (simp; done) | (simp; omega) | omega)))⟩
theorem ok0 : (⟨0, 0, 0, 0, 0⟩ : Sd).Ok := .inr ⟨by decide, by decide, four_cases ⟨rfl, rfl, rfl, rfl⟩⟩
theorem trim_ex (ad : Addr) (cap : Nat) (w : World) (hr : Rd w 5 (some ad) 1 cap (srow [⟨0, 0, 0, 0, 0⟩])) : Calls Try.prog 12 #[.agg #[.int .i64 0, .int .i64 0, .int .i64 0, .int .i64 5, .int .i64 0, .int .i64 0, .int .i64 0, .int .i64 0], .agg #[.int .i64 0, .int .i64 0, .int .i64 0, .int .i64 (-3), .int .i64 0, .int .i64 0, .int .i64 0, .int .i64 0], .slice (some ad) 1 cap] w
    fun e w' => e = .returned (.tuple #[.agg #[.int .i64 0, .int .i64 0, .int .i64 0, .int .i64 5, .int .i64 0, .int .i64 0, .int .i64 0, .int .i64 0], .agg #[.int .i64 0, .int .i64 0, .int .i64 0, .int .i64 1, .int .i64 0, .int .i64 0, .int .i64 0, .int .i64 0], .bool true]) ∧ Ext w w' := by
  refine (trim_any [⟨0, 0, 0, 0, 0⟩] ⟨0, 0, 0, 5, 0, 0, 0, 0⟩ ⟨0, 0, 0, -3, 0, 0, 0, 0⟩ (some ad) 1 cap w hr rfl (by intro s hs; rw [List.mem_singleton.1 hs]; exact ok0) fit1 fit2).mono ?_
  have hc : cuts [⟨0, 0, 0, 0, 0⟩] ⟨0, 0, 0, 5, 0, 0, 0, 0⟩ ⟨0, 0, 0, -3, 0, 0, 0, 0⟩ = [(4, -4)] := rfl
  rintro e w' (⟨f, g, hL, rfl, hE⟩ | ⟨hB, rfl, hE⟩)
  · rw [hc] at hL
    obtain ⟨_, hF, hG, _⟩ := hL
    have ef : f = (0, 0) := by
      rcases hF with ⟨h, _⟩ | ⟨c, hc, hi, _⟩
      · exact h
      · rw [List.mem_singleton.1 hc] at hi; simp [ins] at hi
    have eg : g = (4, 8) := by
      rcases hG with ⟨_, h⟩ | ⟨c, hc, hi, h, _⟩
      · exact absurd (show outs (4, -4) by simp [outs]) (h (4, -4) (by simp))
      · rw [h, List.mem_singleton.1 hc]; rfl
    subst ef; subst eg
    exact ⟨rfl, hE⟩
  · exfalso
    rw [hc] at hB
    rcases hB with ⟨c, hc, hg⟩ | ⟨c, hc, c', _, hi, _⟩
    · rw [List.mem_singleton.1 hc] at hg; simp [gone] at hg
    · rw [List.mem_singleton.1 hc] at hi; simp [ins] at hi
end Go.Proofs.Ytibhfclkdbmmoaa
