/- Proof text: the reference's list of sides; the law SideLists. By an AI agent. No condition beyond what each theorem states. -/
import Derived.Test.YtmpkimcegckloaaSN
import Derived.Test.YtmpkimcegckloaaEq
set_option linter.unusedVariables false
set_option linter.unusedSimpArgs false
namespace Go.Proofs.Ytmpkimcegckloaa
open Go.RowKit
theorem ownsRow_base3 (w : World) : (w.alloc (.cells (srow (base3 3)).toArray 24)).ownsRow w.heap.size 24 5 (.slice (some ⟨w.heap.size, 0, none⟩) 3 3) 3 (srow (base3 3)) :=
  ⟨rfl, .inr ⟨w.heap.size, 3, _, rfl, Nat.le_refl _, heap_alloc_new w _, by omega, by unfold maxLen; omega, rfl, rfl⟩⟩
def RList (l : List Sd) (w : World) (e : Ending) (w' : World) : Prop := ((∀ s ∈ l, s.k = 3 ∧ s.Ok) ∧ ListPost l w e w') ∨ ((¬ ∀ s ∈ l, s.k = 3 ∧ s.Ok) ∧ ListNo w e w')
theorem not_all {l : List Sd} {j : Nat} {s : Sd} (h : l[j]? = some s) (hb : ¬ (s.k = 3 ∧ s.Ok)) : ¬ ∀ s ∈ l, s.k = 3 ∧ s.Ok := fun hh => hb (hh s (List.mem_of_getElem? h))
set_option maxRecDepth 100000 in
set_option maxHeartbeats 8000000 in
theorem rlist_walk (l : List Sd) (a : Option Addr) (n cap : Nat) (w : World) (hr : Rd w 5 a n cap (srow l)) (hl : l.length = n) (hn : n < 7) :
    Calls Try.prog 22 #[.slice a n cap] w (RList l w) := by
  have HR := Lib.hid hr; clear hr
  have HL := Lib.hid hl; clear hl
  have d0 : decide ((n : Int) > 6) = false := by simp; omega
  go_enter Try.func22, Try.ntmps22
  go_wp2_with fail
  go_loopw [4] (fun i wr => ∃ j : Nat, j ≤ n ∧ i = .int .i64 j ∧ Hid (∀ k, k < j → ∀ s, l[k]? = some s → s.k = 3 ∧ s.Ok) ∧ Ext w wr) (fun i _ => n - (intOf i).toNat)
  case atStart => exact ⟨0, by omega, rfl, Lib.hid (fun k hk => by omega), Ext.refl _⟩
  case round =>
    obtain ⟨j, hj, rfl, HJ, hE⟩ := hrel
    by_cases hlt : j < n
    · obtain ⟨s, hs⟩ : ∃ s, l[j]? = some s := ⟨_, List.getElem?_eq_getElem (by rw [HL.out]; exact hlt)⟩
      obtain ⟨b, off, ha, hb, hcell⟩ := (HR.out.ext hE).at_ (by omega)
      subst ha
      have HR5 := (HR.out.ext hE)
      obtain ⟨c0, c1, c2, c3, c4⟩ := side_at HR5 hs
      have HS := Lib.hid hs
      have HE := Lib.hid hE; clear hE
      clear hcell HR5 hs
      by_cases hok : s.k = 3 ∧ s.Ok
      · have d1 : (s.k != 3) = false := by simp [hok.1]
        have HK := Lib.hid hok.2
        have HK0 := Lib.hid hok.1
        clear hok
        go_wp2_with fail
        refine (rright_yes s _ HK.out).mono ?_
        rintro e w1 ⟨rfl, hE1⟩
        obtain ⟨x1, rfl⟩ := Later.mk' hE1
        clear hE1
        have HE2 := Lib.hid (HE.out.later x1)
        clear c0 c1 c2 c3 c4
        go_wp2_with fail
        go_roundw
        case rel => first | exact ⟨j + 1, by omega, by go_num, Lib.hid (upto8 HJ.out (fun t ht => by rw [HS.out] at ht; injection ht with ht; rw [← ht]; exact ⟨HK0.out, HK.out⟩)), HE2.out⟩ | ((repeat apply Exists.intro); exact ⟨⟨j + 1, by omega, by go_num, Lib.hid (upto8 HJ.out (fun t ht => by rw [HS.out] at ht; injection ht with ht; rw [← ht]; exact ⟨HK0.out, HK.out⟩)), HE2.out⟩, rfl⟩)
        case measure => simp [intOf]; omega
      · have HB := Lib.hid (not_all HS.out hok)
        by_cases h3 : s.k = 3
        · have d1 : (s.k != 3) = false := by simp [h3]
          have HK : Hid (¬ s.Ok) := Lib.hid (fun h => hok ⟨h3, h⟩); clear hok h3
          go_wp2_with fail
          refine (rright_no s _ HK.out).mono ?_
          rintro e w1 ⟨rfl, hE1⟩
          obtain ⟨x1, rfl⟩ := Later.mk' hE1
          clear hE1
          have HE2 := Lib.hid (HE.out.later x1)
          clear c0 c1 c2 c3 c4
          go_wp2_with fail
          go_ret2
          exact .inr ⟨HB.out, rfl, HE2.out⟩
        · have d1 : (s.k != 3) = true := by simp [h3]
          clear hok h3
          go_wp2_with fail
          go_ret2
          exact .inr ⟨HB.out, rfl, HE.out⟩
    · obtain rfl : j = n := by omega
      have HE := Lib.hid hE; clear hE
      have HA : Hid (∀ s ∈ l, s.k = 3 ∧ s.Ok) := Lib.hid (fun s hs => by
        obtain ⟨k, hk, he⟩ := List.mem_iff_getElem.1 hs
        exact HJ.out k (by rw [← HL.out]; exact hk) s (by rw [List.getElem?_eq_getElem hk, he]))
      have ho := ownsRow_base3 wr
      have HR2 := Lib.hid (HR.out.ext (HE.out.alloc (.cells (srow (base3 3)).toArray 24)))
      go_wp2_with (refine wpList_append_rd rfl (.tmp 31) (.tmp 32) 33 rfl wr.heap.size 24 _ 5 40 Try.underlying33 info_side rfl (by decide) (.slice (some ⟨wr.heap.size, 0, none⟩) 3 3) 3 (srow (base3 3)) rfl ho a j cap (srow l) rfl HR2.out (srow_one l) ?c3 (by decide) ?c5 ?_)
      case c3 => omega
      case c5 => simp
      intro v' w' ho' hg'
      have HE3 := Lib.hid ((HE.out.alloc (.cells (srow (base3 3)).toArray 24)).grown hg' (fun k hk => by
        simp [Value.ownBlock] at hk; have := HE.out.size; omega))
      rw [← srow_append] at ho'
      obtain ⟨a', c', rfl, hrd⟩ := ownsRow_rd ho'
      have HD := Lib.hid hrd
      clear hg' ho ho' hrd
      go_wp2_with fail
      go_ret2
      exact .inl ⟨HA.out, a', c', by rw [HL.out]; rfl, by rw [HL.out]; exact HD.out, HE3.out⟩
theorem rlist_yes (l : List Sd) (a : Option Addr) (n cap : Nat) (w : World) (hr : Rd w 5 a n cap (srow l)) (hl : l.length = n) (h : MayL l) :
    Calls Try.prog 22 #[.slice a n cap] w (ListPost l w) :=
  (rlist_walk l a n cap w hr hl (hl ▸ h.1)).mono fun e w' H => H.elim (fun k => k.2) (fun k => absurd h.2 k.1)
theorem rlist_no (l : List Sd) (a : Option Addr) (n cap : Nat) (w : World) (hr : Rd w 5 a n cap (srow l)) (hl : l.length = n) (h : ¬ MayL l) :
    Calls Try.prog 22 #[.slice a n cap] w (ListNo w) := by
  by_cases hn : n < 7
  · exact (rlist_walk l a n cap w hr hl hn).mono fun e w' H => H.elim (fun k => absurd ⟨by omega, k.1⟩ h) (fun k => k.2)
  · exact rlist_long l a n cap w hn
set_option maxRecDepth 100000 in
set_option maxHeartbeats 4000000 in
theorem law_lists (l : List Sd) (a : Option Addr) (n cap : Nat) (w : World) (hr : Rd w 5 a n cap (srow l)) (hl : l.length = n) :
    Calls Try.prog 4 #[.slice a n cap] w fun e w' => e = .returned (.bool true) ∧ Ext w w' := by
  have HR := Lib.hid hr; clear hr
  have HL := Lib.hid hl; clear hl
  by_cases h20 : 20 < n
  · have d0 : decide ((n : Int) > 20) = true := by simp; omega
    go_enter Try.func4, Try.ntmps4
    go_wp2_with fail
    refine (awake8 _).mono ?_
    rintro e w1 ⟨rfl, hE⟩
    go_wp2_with fail
    go_ret
    exact ⟨rfl, hE⟩
  · have d0 : decide ((n : Int) > 20) = false := by simp; omega
    by_cases hm : MayL l
    · have HM := Lib.hid hm; clear hm
      go_enter Try.func4, Try.ntmps4
      go_wp2_with fail
      refine (list_yes l a n cap _ HR.out HL.out (by have := HM.out.1; have := HL.out; omega) HM.out.2).mono ?_
      rintro e w1 ⟨a1, c1, rfl, hr1, hE⟩
      obtain ⟨x1, rfl⟩ := Later.mk' hE
      clear hE
      rw [HL.out] at hr1 ⊢
      have HR1 := Lib.hid hr1; clear hr1
      go_wp2_with fail
      refine (rlist_yes l a n cap _ (HR.out.ext x1.ext) HL.out HM.out).mono ?_
      rintro e w1 ⟨a2, c2, rfl, hr2, hE⟩
      obtain ⟨x2, rfl⟩ := Later.mk' hE
      clear hE
      rw [HL.out] at hr2 ⊢
      have HR2 := Lib.hid hr2; clear hr2
      have HR3 := Lib.hid (HR1.out.ext x2.ext); clear HR1
      have HE := Lib.hid (((Ext.refl w).later x1).later x2)
      have q3 : (((3 + n : Nat) : Int) != ((3 + n : Nat) : Int)) = false := by simp
      go_wp2_with fail
      go_loopw [7] (fun i wr => ∃ j : Nat, j ≤ 3 + n ∧ i = .int .i64 j ∧ Ext x2.w wr) (fun i _ => (3 + n) - (intOf i).toNat)
      case atStart => exact ⟨0, by omega, rfl, Ext.refl _⟩
      case round =>
        obtain ⟨j, hj, rfl, hE⟩ := hrel
        have HEr := Lib.hid hE; clear hE
        by_cases hlt : j < 3 + n
        · obtain ⟨s, hs⟩ : ∃ s, (base3 3 ++ l)[j]? = some s := ⟨_, List.getElem?_eq_getElem (by rw [List.length_append, HL.out]; exact hlt)⟩
          obtain ⟨b1, o1, ha1, hb1, _⟩ := HR3.out.at_ (by omega)
          obtain ⟨b2, o2, ha2, hb2, _⟩ := HR2.out.at_ (by omega)
          subst ha1
          subst ha2
          obtain ⟨c0, c1, c2, c3, c4⟩ := side_at (HR3.out.ext HEr.out) hs
          obtain ⟨e0, e1, e2, e3, e4⟩ := side_at (HR2.out.ext HEr.out) hs
          have q1 := fun W => eq_sd s s W
          rw [Sd.same_refl] at q1
          have HS := Lib.hid hs; clear hs
          clear hb1 hb2
          go_upto_region 10 with fail
          refine wp_region_later (by kernel_rfl) (by kernel_rfl) ?_
          repeat (go_big_quiet_step (fail))
          refine wpQuiet_nil ?_
          intro y
          have HE4 := Lib.hid (HEr.out.later y)
          clear c0 c1 c2 c3 c4 e0 e1 e2 e3 e4
          go_wp2_with fail
          go_roundw
          case rel => first | exact ⟨j + 1, by omega, by go_num, HE4.out⟩ | ((repeat apply Exists.intro); exact ⟨⟨j + 1, by omega, by go_num, HE4.out⟩, rfl⟩)
          case measure => simp [intOf]; omega
        · obtain rfl : j = 3 + n := by omega
          go_wp2_with fail
          refine (awake8 _).mono ?_
          rintro e w1 ⟨rfl, hE⟩
          have HE4 := Lib.hid ((HE.out.trans HEr.out).trans hE)
          clear hE
          go_wp2_with fail
          go_ret
          exact ⟨rfl, HE4.out⟩
    · have HM := Lib.hid hm; clear hm
      go_enter Try.func4, Try.ntmps4
      go_wp2_with fail
      refine (list_no l a n cap _ HR.out HL.out HM.out).mono ?_
      rintro e w1 ⟨rfl, hE⟩
      obtain ⟨x1, rfl⟩ := Later.mk' hE
      clear hE
      go_wp2_with fail
      refine (rlist_no l a n cap _ (HR.out.ext x1.ext) HL.out HM.out).mono ?_
      rintro e w1 ⟨rfl, hE⟩
      obtain ⟨x2, rfl⟩ := Later.mk' hE
      clear hE
      go_wp2_with fail
      go_loopw [7] (fun i wr => i = .int .i64 0 ∧ wr = x2.w) (fun i _ => 0)
      case atStart => exact ⟨rfl, rfl⟩
      case round =>
        obtain ⟨rfl, rfl⟩ := hrel
        go_wp2_with fail
        refine (awake8 _).mono ?_
        rintro e w1 ⟨rfl, hE⟩
        have HE4 := Lib.hid ((((Ext.refl w).later x1).later x2).trans hE)
        clear hE
        go_wp2_with fail
        go_ret
        exact ⟨rfl, HE4.out⟩
end Go.Proofs.Ytmpkimcegckloaa
