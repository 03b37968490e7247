/- Proof text: all sides, refused; the reference's list. By an AI agent. No condition beyond what each theorem states. -/
import Derived.Test.YtibhfclkdbmmoaaSM
set_option linter.unusedVariables false
set_option linter.unusedSimpArgs false
namespace Go.Proofs.Ytibhfclkdbmmoaa
open Go.RowKit
theorem upto8 {l : List Sd} {j : Nat} {p : Sd → Prop} (h : ∀ k, k < j → ∀ s, l[k]? = some s → p s) (hj : ∀ s, l[j]? = some s → p s) : ∀ k, k < j + 1 → ∀ s, l[k]? = some s → p s := by
  intro k hk s hs
  by_cases h1 : k < j
  · exact h k h1 s hs
  · obtain rfl : k = j := by omega
    exact hj s hs
def ListNo (w : World) (e : Ending) (w' : World) : Prop := e = .returned (.tuple #[.slice none 0 0, .int .i64 1]) ∧ Ext w w'
set_option maxRecDepth 100000 in
set_option maxHeartbeats 8000000 in
theorem list_walk (l : List Sd) (a : Option Addr) (n cap : Nat) (w : World) (hr : Rd w 5 a n cap (srow l)) (hl : l.length = n) (hn : n < 7) (hno : ¬ ∀ s ∈ l, s.k = 3 ∧ s.Ok) :
    Calls Try.prog 26 #[.slice a n cap] w (ListNo w) := by
  obtain ⟨cur, hmk⟩ := make_sides n hn
  have HR := Lib.hid hr; clear hr
  have HL := Lib.hid hl; clear hl
  have HN := Lib.hid hno; clear hno
  have m1 := fun W => (hmk W).1
  have M2 := Lib.hid (fun W => (hmk W).2)
  clear hmk
  have d0 : decide ((n : Int) > 6) = false := by simp; omega
  go_enter Try.func26, Try.ntmps26
  go_wp2_with fail
  have ho := M2.out w
  clear m1 M2
  go_loopw [5, 15] (fun _ i wr => ∃ k : Nat, k ≤ 3 ∧ i = .int .i64 k ∧ wr.ownsRow w.heap.size 45 5 (.slice (some ⟨w.heap.size, 0, none⟩) 3 (3 + n)) 3 (srow (base3 k)) ∧ Ext w wr) (fun _ i _ => 3 - (intOf i).toNat)
  case atStart => exact ⟨0, by omega, rfl, ho, by (repeat (first | with_reducible exact Ext.refl _ | with_reducible assumption | with_reducible refine Ext.alloc ?_ _ | with_reducible refine Ext.drew ?_ | with_reducible refine Ext.drewN ?_ _ | with_reducible refine Ext.later ?_ _ | (with_reducible refine Ext.setCell ?_ _ ?hp; case hp => first | (simp; done) | (simp; omega) | omega)))⟩
  case round =>
    obtain ⟨k, hk, rfl, ho, hE⟩ := hrel
    by_cases hlt : k < 3
    · go_wp2_with (refine wpList_store_own rfl (.tmp 22) (.tmp 20) 3 rfl w.heap.size 45 5 w.heap.size 3 (3 + n) (srow (base3 k)) (k * 5) rfl (.int .i64 k) rfl ho size3 ?c1 ?c2 ?_)
      case c1 => simp [Value.cells, Value.oneCell']
      case c2 => simp [Value.cells]; omega
      intro w2 ho2 hg2
      have hE2 : Ext w w2 := hE.grown hg2 (by simp)
      clear hg2 hE
      go_wp2_with fail
      go_roundw
      case rel => exact ⟨k + 1, by omega, by go_num, by rw [← base_step k hlt]; exact ho2, hE2⟩
      case measure => simp [intOf]; omega
    · obtain rfl : k = 3 := by omega
      go_wp2_with fail
      go_loopw [4, 7, 26] (fun vv _ i wr => ∃ (j : Nat) (v : Value), j ≤ n ∧ v = vv ∧ i = .int .i64 j ∧ wr.ownsRow w.heap.size 45 5 v (3 + j) (srow (base3 3 ++ l.take j)) ∧ Hid (∀ k, k < j → ∀ s, l[k]? = some s → s.k = 3 ∧ s.Ok) ∧ Ext w wr) (fun _ _ i _ => n - (intOf i).toNat)
      case atStart => exact ⟨0, _, by omega, rfl, rfl, by simpa using ho, Lib.hid (fun k hk => by omega), hE⟩
      case round =>
        clear ho hE
        obtain ⟨j, v, hj, rfl, rfl, hi, HJ, hE⟩ := hrel
        by_cases hlt : j < n
        · obtain ⟨s, hs⟩ : ∃ s, l[j]? = some s := ⟨_, List.getElem?_eq_getElem (by rw [HL.out]; exact hlt)⟩
          obtain ⟨b, off, ha, hb, hcell⟩ := (HR.out.ext hE).at_ (by omega)
          subst ha
          have HR5 := (HR.out.ext hE)
          obtain ⟨c0, c1, c2, c3, c4⟩ := side_at HR5 hs
          have HS := Lib.hid hs
          by_cases hok : s.k = 3 ∧ s.Ok
          · have d1 : (s.k != 3) = false := by simp [hok.1]
            have HK := Lib.hid hok.2
            have HK0 := Lib.hid hok.1
            clear hok hcell HR5 hs
            have HO2 := Lib.hid hi; clear hi
            have HE := Lib.hid hE; clear hE
            go_wp2_with fail
            refine (right_yes s _ HK.out).mono ?_
            rintro e w1 ⟨rfl, hE1⟩
            obtain ⟨x1, rfl⟩ := Later.mk' hE1
            clear hE1
            obtain ⟨k0, k1, k2, k3, k4⟩ := cells5 (s := s) ((Blk.new wr 45 s.row.toArray).later x1)
            have ho := ownsRow_ext HO2.out (((Ext.refl wr).alloc (.cells s.row.toArray 45)).later x1)
            have HE2 := Lib.hid ((HE.out.alloc (.cells s.row.toArray 45)).later x1)
            clear c0 c1 c2 c3 c4
            have HA1 := Lib.hid (news_at x1.w s.row 45)
            go_wp2_with (refine wpList_append_src rfl (.tmp 38) (.tmp 40) 32 rfl w.heap.size 45 _ 5 40 Try.underlying32 info_side rfl (by decide) v (3 + j) (srow (base3 3 ++ l.take j)) rfl (ho.alloc _) ⟨x1.w.heap.size, 0, none⟩ 1 1 s.row rfl rfl ?c1 ?c2 ?c3 (by decide) ?c5 ?_)
            case c1 => simpa [Addr.add] using HA1.out
            case c2 => exact srow_one [s]
            case c3 => omega
            case c5 => have := HE2.out.size; simp; omega
            intro v' w' ho' hg' _
            have HE3 := Lib.hid ((HE2.out.alloc (.cells s.row.toArray 45)).grown hg' (fun k hk => by
              rcases ho.2 with ⟨h0, _⟩ | ⟨g, cap, cur, h0, hb0, _⟩
              · rw [h0] at hk; simp [Value.ownBlock] at hk
              · rw [h0] at hk; simp [Value.ownBlock] at hk; omega))
            rw [srow_take HS.out] at ho'
            clear hg' ho HE HE2 HA1 HO2
            go_wp2_with fail
            go_roundw
            case rel => (repeat apply Exists.intro); exact ⟨⟨j + 1, v', by omega, rfl, by go_num, by rw [← Nat.add_assoc]; exact ho', Lib.hid (upto8 HJ.out (fun t ht => by rw [HS.out] at ht; injection ht with ht; rw [← ht]; exact ⟨HK0.out, HK.out⟩)), HE3.out⟩, rfl⟩
            case measure => simp [intOf]; omega
          · clear HR5 hcell hs hi HS HJ
            have HE := Lib.hid hE; clear hE
            by_cases h3 : s.k = 3
            · have d1 : (s.k != 3) = false := by simp [h3]
              have HK : Hid (¬ s.Ok) := Lib.hid (fun h => hok ⟨h3, h⟩); clear hok h3
              go_wp2_with fail
              refine (right_no s _ HK.out).mono ?_
              rintro e w1 ⟨rfl, hE1⟩
              obtain ⟨x1, rfl⟩ := Later.mk' hE1
              clear hE1
              have HE2 := Lib.hid ((HE.out.alloc (.cells s.row.toArray 45)).later x1)
              go_wp2_with fail
              go_ret2
              exact ⟨rfl, HE2.out⟩
            · have d1 : (s.k != 3) = true := by simp [h3]
              clear hok h3
              have HE2 := Lib.hid (HE.out.alloc (.cells s.row.toArray 45))
              go_wp2_with fail
              go_ret2
              exact ⟨rfl, HE2.out⟩
        · obtain rfl : j = n := by omega
          exfalso
          refine HN.out fun s hs => ?_
          obtain ⟨k, hk, he⟩ := List.mem_iff_getElem.1 hs
          exact HJ.out k (by rw [← HL.out]; exact hk) s (by rw [List.getElem?_eq_getElem hk, he])
set_option maxHeartbeats 1000000 in
theorem list_long (l : List Sd) (a : Option Addr) (n cap : Nat) (w : World) (hn : ¬ n < 7) :
    Calls Try.prog 26 #[.slice a n cap] w (ListNo w) := by
  have d0 : decide ((n : Int) > 6) = true := by simp; omega
  go_enter Try.func26, Try.ntmps26
  go_wp2_with fail
  go_ret2
  exact ⟨rfl, Ext.refl _⟩
def MayL (l : List Sd) : Prop := l.length < 7 ∧ ∀ s ∈ l, s.k = 3 ∧ s.Ok
theorem list_no (l : List Sd) (a : Option Addr) (n cap : Nat) (w : World) (hr : Rd w 5 a n cap (srow l)) (hl : l.length = n) (h : ¬ MayL l) :
    Calls Try.prog 26 #[.slice a n cap] w (ListNo w) := by
  by_cases hn : n < 7
  · exact list_walk l a n cap w hr hl hn fun hh => h ⟨by omega, hh⟩
  · exact list_long l a n cap w hn
end Go.Proofs.Ytibhfclkdbmmoaa
