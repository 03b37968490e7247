/- Proof text of the claims about the statements of layer 4 (code). By an AI agent. No condition beyond what each theorem states. -/
import Derived.Test.YtaklnijmcidpkaaDoorC
import Derived.Test.YtaklnijmcidpkaaDoorD
import Derived.Deep.RegionHeld3
set_option linter.unusedVariables false
set_option linter.unusedSimpArgs false
namespace Go.Proofs.YtaklnijmcidpkaaDoor
open Go.RowKit
theorem bounds_rd (op : Int) (w : World) : Calls Tryd.prog 43 #[.int .i64 op] w fun e w' => ∃ a cap, e = .returned (.tuple #[.slice a ((boundsT op).getD []).length cap, .bool (boundsT op).isSome]) ∧
    Rd w' 2 a ((boundsT op).getD []).length cap (prs ((boundsT op).getD [])) ∧ Ext w w' :=
  (bounds_any op w).mono fun e w' ⟨v, he, ho, hE⟩ => by
    obtain ⟨a, cap, rfl, hr⟩ := ownsRow_rd ho
    exact ⟨a, cap, he, hr, hE⟩

set_option maxHeartbeats 400000 in
theorem rarity_any (op : Int) (w : World) : Calls Tryd.prog 34 #[.int .i64 op] w fun e w' => e = .returned (.tuple #[.int .i64 ((boundsT op).getD []).length, .bool (boundsT op).isSome]) ∧ Ext w w' := by
  have H := Lib.hid (bounds_rd op w)
  go_enter Tryd.func34, Tryd.ntmps34
  go_wp2_with (go_at_call 43; refine H.out.mono ?_; rintro e w1 ⟨a, cap, rfl, hr, hE⟩)
  go_ret2
  exact ⟨rfl, hE⟩

set_option maxHeartbeats 1000000 in
theorem rright_any (op : Int) (a : Option Addr) (n cap : Nat) (A : List Int) (w : World) (hA : Rd w 1 a n cap (ivs A)) :
    Calls Tryd.prog 37 #[.agg #[.int .i64 op, .slice a n cap]] w fun e w' => e = .returned (.int .i64 (rightT (boundsT op) A)) ∧ Ext w w' := by
  have H := fun w1 => bounds_rd op w1
  have hAl : A.length = n := by simpa using hA.len
  have hn := hA.nat_le
  generalize ho : boundsT op = o at H
  have HA := Lib.hid hA
  have Hl := Lib.hid hAl
  have HH := Lib.hid H
  clear H hA hAl ho
  cases o with
  | none =>
    go_enter Tryd.func37, Tryd.ntmps37
    go_wp2_with (go_at_call 43; refine (HH.out _).mono ?_; rintro e w1 ⟨a1, cap1, rfl, hr, hE⟩; simp only [Option.isSome_none])
    go_ret
    exact ⟨rfl, ((Ext.refl w).alloc _).trans hE⟩
  | some l =>
    by_cases hlen : l.length = n
    · have hne : ((l.length : Int) != (n : Int)) = false := by simp [hlen]
      go_enter Tryd.func37, Tryd.ntmps37
      go_wp2_with (go_at_call 43; refine (HH.out _).mono ?_; rintro e w1 ⟨a1, cap1, rfl, hr, hE⟩; obtain ⟨x1, rfl⟩ := Later.mk' hE; simp only [Option.isSome_some, Option.getD_some] at hr ⊢)
      have hlA : l.length = A.length := by rw [hlen, Hl.out]
      have HlA := Lib.hid hlA
      have Hlen := Lib.hid hlen
      clear hlA hlen hne
      have HA1 := Lib.hid ((HA.out.ext ((Ext.refl w).alloc (.cells #[.int .i64 op, .slice a n cap] 41))).ext x1.ext)
      have HE := Lib.hid (((Ext.refl w).alloc _).trans x1.ext)
      have Hr := Lib.hid hr
      clear hr hE
      go_loopw [5] (fun i wr => ∃ k : Nat, k ≤ n ∧ i = .int .i64 k ∧ Ext x1.w wr ∧ Hid (∀ j, j < k → within (l.getD j (0, 0)) (A.getD j 0) = true)) (fun i _ => n - (intOf i).toNat)
      case atStart => exact ⟨0, Nat.zero_le _, rfl, Ext.refl _, fun j hj => by omega⟩
      case round =>
        obtain ⟨k, hk, rfl, hEr, hall⟩ := hrel
        obtain ⟨xr, rfl⟩ := Later.mk' hEr
        have HEr := Lib.hid hEr
        clear hEr
        by_cases hlt : k < n
        · obtain ⟨b, off, rfl, hb, hc⟩ := (HA1.out.ext xr.ext).at_ (by omega)
          obtain ⟨b1, off1, rfl, hb1, hc1⟩ := (Hr.out.ext xr.ext).at_ (by rw [Hlen.out]; omega)
          have hkA : k < A.length := by rw [Hl.out]; omega
          have hkl : k < l.length := by rw [Hlen.out]; omega
          have ca : xr.w.cell? ⟨b, off + k, none⟩ = some (.int .i64 (A.getD k 0)) := (hc k (by omega)).trans (ivs_get A k hkA)
          obtain ⟨hp1, hp2⟩ := prs_get l k hkl
          have cp1 := (hc1 (k * 2) (by omega)).trans hp1
          have cp2 := (hc1 (k * 2 + 1) (by omega)).trans hp2
          have hw : within (l.getD k (0, 0)) (A.getD k 0) = (decide ((l.getD k (0, 0)).1 ≤ A.getD k 0) && decide (A.getD k 0 ≤ (l.getD k (0, 0)).2)) := rfl
          have HW := Lib.hid hw
          have HkA := Lib.hid hkA
          have Hkl := Lib.hid hkl
          have hz : (k : Int) < (l.length : Int) := by omega
          clear hc hc1 hp1 hp2 hw hkA hkl
          have cp2' : xr.w.cell? ⟨b1, off1 + k * 2 + 1, none⟩ = some (.int .i64 (l.getD k (0, 0)).2) := cp2
          clear cp2
          generalize hx : A.getD k 0 = x at ca HW
          generalize hp : l.getD k (0, 0) = p at cp1 cp2' HW
          have Hx := Lib.hid hx
          have Hp := Lib.hid hp
          clear hx hp
          by_cases h1 : x < p.1
          · have hd1 : decide (x < p.1) = true := by simpa using h1
            go_wp2
            go_quiet (fail)
            go_wp2
            go_ret
            have e0 : rightT (some l) A = 4 := by
              have := allIn_bad l A k Hkl.out HkA.out (by rw [Hx.out, Hp.out, HW.out]; simp; omega)
              simp [rightT, HlA.out, this]
            exact ⟨by rw [e0]; rfl, (HE.out.trans HEr.out).drewN _⟩
          · have hd1 : decide (x < p.1) = false := by simpa using h1
            by_cases h2 : p.2 < x
            · have hd2 : decide (x > p.2) = true := by simpa using h2
              go_wp2
              go_quiet (fail)
              go_wp2
              go_ret
              have e0 : rightT (some l) A = 4 := by
                have := allIn_bad l A k Hkl.out HkA.out (by rw [Hx.out, Hp.out, HW.out]; simp; omega)
                simp [rightT, HlA.out, this]
              exact ⟨by rw [e0]; rfl, (HE.out.trans HEr.out).drewN _⟩
            · have hd2 : decide (x > p.2) = false := by simpa using h2
              go_wp2
              go_quiet (fail)
              go_wp2
              go_roundw
              case rel =>
                refine ⟨k + 1, by omega, by go_num, HEr.out.drewN _, fun j hj => ?_⟩
                by_cases hjk : j < k
                · exact hall.out j hjk
                · obtain rfl : j = k := by omega
                  rw [Hx.out, Hp.out, HW.out]; simp; omega
              case measure => simp [intOf]; omega
        · go_wp2
          all_goals go_ret
          obtain rfl : k = n := by omega
          have e0 : rightT (some l) A = 0 := by
            have := allIn_all l A HlA.out (fun j hj => hall.out j (by rw [Hl.out] at hj; exact hj))
            simp [rightT, HlA.out, this]
          exact ⟨by rw [e0]; rfl, HE.out.trans HEr.out⟩
    · have hne : ((l.length : Int) != (n : Int)) = true := by simp; omega
      go_enter Tryd.func37, Tryd.ntmps37
      go_wp2_with (go_at_call 43; refine (HH.out _).mono ?_; rintro e w1 ⟨a1, cap1, rfl, hr, hE⟩; obtain ⟨x1, rfl⟩ := Later.mk' hE; simp only [Option.isSome_some, Option.getD_some] at hr ⊢)
      go_ret
      have e0 : rightT (some l) A = 1 := by simp only [rightT]; rw [if_neg (by rw [Hl.out]; exact hlen)]
      exact ⟨by rw [e0]; rfl, ((Ext.refl w).alloc _).trans x1.ext⟩
end Go.Proofs.YtaklnijmcidpkaaDoor
