/- Proof text: layer 29's example; what Parse hands back, read. By an AI agent. No condition beyond what each theorem states. -/
import Derived.Test.YtaklnijmcidpkaaDoorRP
set_option linter.unusedVariables false
set_option linter.unusedSimpArgs false
namespace Go.Proofs.YtaklnijmcidpkaaDoor
open Go.RowKit
def IsG (g : G) (l : List R) (k c : Int) : Prop :=
  match g with
  | .ok m => l = m ∧ k = 0 ∧ c = 0
  | .error (j, d) => l = [] ∧ k = j ∧ c = d
/-- What 'Parse' hands back, read. -/
def GotRecs (w : World) (g : G) (e : Ending) (w' : World) : Prop :=
  ∃ a n cap k c l, e = .returned (.tuple #[.slice a n cap, .int .i64 k, .int .i64 c]) ∧ RdRecs w' a n cap l ∧ Ext w w' ∧ IsG g l k c
theorem got_of {w : World} {g : G} {e : Ending} {w' : World} (h : GivesRecs w g e w') : GotRecs w g e w' := by
  cases g with
  | ok l =>
    obtain ⟨v, vs, rfl, ho, hr, hE⟩ := h
    obtain ⟨a, cap, rfl, hd⟩ := recs_of ho hr
    exact ⟨a, _, cap, 0, 0, l, rfl, hd, hE, rfl, rfl, rfl⟩
  | error p =>
    obtain ⟨k, c⟩ := p
    obtain ⟨rfl, hE⟩ := h
    exact ⟨none, 0, 0, k, c, [], rfl, recs_nil w', hE, rfl, rfl, rfl⟩
theorem got_same {g : G} {l m : List R} {k c k' c' : Int} (h1 : IsG g l k c) (h2 : IsG g m k' c') : l = m ∧ k = k' ∧ c = c' := by
  cases g with
  | ok r => obtain ⟨rfl, rfl, rfl⟩ := h1; obtain ⟨rfl, rfl, rfl⟩ := h2; exact ⟨rfl, rfl, rfl⟩
  | error p => obtain ⟨rfl, rfl, rfl⟩ := h1; obtain ⟨rfl, rfl, rfl⟩ := h2; exact ⟨rfl, rfl, rfl⟩
theorem same_eq (a1 a2 : Option Addr) (n1 n2 c1 c2 : Nat) (l : List R) (w : World) (h1 : RdRecs w a1 n1 c1 l) (h2 : RdRecs w a2 n2 c2 l) :
    Calls Tryd.prog 11 #[.slice a1 n1 c1, .slice a2 n2 c2] w fun e w' => e = .returned (.bool true) ∧ Ext w w' := by
  have h := same_any a1 a2 n1 n2 c1 c2 l l w h1 h2
  rw [show decide (l = l) = true by simp] at h
  exact h
theorem ex1 : parseT [102, 108, 97, 103, 32, 49, 10, 101, 110, 100, 10] = .ok [(15, [1]), (18, [])] := by kernel_rfl
theorem ex2 : parseT [102, 108, 97, 103, 32, 48, 49, 10] = .error (1, 11) := by kernel_rfl
set_option maxRecDepth 10000 in
set_option maxHeartbeats 1000000 in
theorem awake29 (w : World) (hW : Wd w) : Calls Tryd.prog 8 #[] w fun e w' => e = .returned (.bool true) ∧ Ext w w' := by
  have HW := Lib.hid hW
  have G1 := Lib.hid (fun w1 h => (parse_any ⟨#[102, 108, 97, 103, 32, 49, 10, 101, 110, 100, 10]⟩ w1 (by decide) h).mono fun _ _ => got_of)
  have G2 := Lib.hid (fun w1 h => (parse_any ⟨#[102, 108, 97, 103, 32, 48, 49, 10]⟩ w1 (by decide) h).mono fun _ _ => got_of)
  simp only [] at G1 G2
  rw [ex1] at G1
  rw [ex2] at G2
  clear hW
  go_enter Tryd.func8, Tryd.ntmps8
  go_wp2_with fail
  refine (G1.out _ HW.out).mono ?_
  rintro e w1 ⟨a, n, cap, k, c, l, rfl, hr, hE, rfl, rfl, rfl⟩
  have HR := Lib.hid hr
  have HE := Lib.hid hE
  clear hr hE
  go_wp2_with fail
  refine (G2.out _ (HW.out.ext HE.out)).mono ?_
  rintro e w2 ⟨a2, n2, cap2, k2, c2, l2, rfl, hr, hE, rfl, rfl, rfl⟩
  have HR2 := Lib.hid (HR.out.ext hE)
  have HE2 := Lib.hid (HE.out.trans hE)
  clear hr hE HR HE
  have hl : RdRecs ((w2.alloc (.cells #[.int .i64 1] 3)).alloc (.cells #[.int .i64 15, .slice (some ⟨w2.heap.size, 0, none⟩) 1 1, .int .i64 18, .slice none 0 0] 41)) (some ⟨w2.heap.size + 1, 0, none⟩) 2 2 [(15, [1]), (18, [])] := by
    refine ⟨[.int .i64 15, .slice (some ⟨w2.heap.size, 0, none⟩) 1 1, .int .i64 18, .slice none 0 0], ?_, ?_⟩
    · have := Rd_new (w2.alloc (.cells #[.int .i64 1] 3)) [.int .i64 15, .slice (some ⟨w2.heap.size, 0, none⟩) 1 1, .int .i64 18, .slice none 0 0] 41 2 2 rfl (by unfold maxLen; omega)
      rw [World.size_alloc] at this
      exact this
    · exact ⟨rfl, ⟨_, _, rfl, (Rd_new w2 [.int .i64 1] 3 1 1 rfl (by unfold maxLen; omega)).ext ((Ext.refl _).alloc _)⟩, rfl, ⟨_, _, rfl, Rd.empty _ 1 none 0 (by unfold maxLen; omega)⟩, trivial⟩
  obtain rfl : n = 2 := HR2.out.len.symm
  have SM := Lib.hid (same_eq a (some ⟨w2.heap.size + 1, 0, none⟩) 2 2 cap 2 _ _ (HR2.out.ext (((Ext.refl w2).alloc (.cells #[.int .i64 1] 3)).alloc (.cells #[.int .i64 15, .slice (some ⟨w2.heap.size, 0, none⟩) 1 1, .int .i64 18, .slice none 0 0] 41))) hl)
  clear hl
  go_wp2_with fail
  refine SM.out.mono ?_
  rintro e w3 ⟨rfl, hE⟩
  have HE3 := Lib.hid (((HE2.out.alloc _).alloc _).trans hE)
  clear hE
  go_wp2_with fail
  go_returns
  exact ⟨rfl, HE3.out⟩
set_option maxRecDepth 10000 in
set_option maxHeartbeats 1000000 in
theorem law_parses (s : ByteArray) (w : World) (hm : s.size ≤ maxLen) (hW : Wd w) : Calls Tryd.prog 3 #[.string s] w fun e w' => e = .returned (.bool true) ∧ Ext w w' := by
  have HW := Lib.hid hW
  unfold maxLen at hm
  by_cases h6 : 2000 < s.size
  · have hd : decide ((s.size : Int) > 2000) = true := by simp; omega
    clear h6 hW
    go_enter Tryd.func3, Tryd.ntmps3
    go_wp2_with fail
    refine (awake29 _ HW.out).mono ?_
    rintro e w1 ⟨rfl, hE⟩
    have HE := Lib.hid hE
    clear hE
    go_wp2_with fail
    go_returns
    exact ⟨rfl, HE.out⟩
  · have hd : decide ((s.size : Int) > 2000) = false := by simp; omega
    have G1 := Lib.hid (fun w1 h => (parse_any s w1 (by omega) h).mono fun _ _ => got_of)
    have G2 := Lib.hid (fun w1 => (rparse_any s w1 (by omega)).mono fun _ _ => got_of)
    clear h6 hW
    go_enter Tryd.func3, Tryd.ntmps3
    go_wp2_with fail
    refine (G1.out w HW.out).mono ?_
    rintro e w1 ⟨a1, n1, c1, k1, d1, l1, rfl, hr1, hE1, hm1⟩
    have R1 := Lib.hid hr1
    have M1 := Lib.hid hm1
    have HE1 := Lib.hid hE1
    clear hr1 hm1 hE1
    go_wp2_with fail
    refine (G2.out w1).mono ?_
    rintro e w2 ⟨a2, n2, c2, k2, d2, l2, rfl, hr2, hE2, hm2⟩
    obtain ⟨el, rfl, rfl⟩ := got_same M1.out hm2
    subst el
    have R2 := Lib.hid hr2
    have R3 := Lib.hid (R1.out.ext hE2)
    have HE := Lib.hid (HE1.out.trans hE2)
    clear hr2 hm2 hE2
    go_wp2_with fail
    refine (awake29 _ (HW.out.ext HE.out)).mono ?_
    rintro e w3 ⟨rfl, hE3⟩
    have SM := Lib.hid (same_eq a1 a2 n1 n2 c1 c2 l1 _ (R3.out.ext hE3) (R2.out.ext hE3))
    have HE3 := Lib.hid (HE.out.trans hE3)
    clear hE3
    go_wp2_with fail
    refine SM.out.mono ?_
    rintro e w4 ⟨rfl, hE4⟩
    have HE4 := Lib.hid (HE3.out.trans hE4)
    clear hE4
    go_wp2_with fail
    go_returns
    exact ⟨by simp, HE4.out⟩
end Go.Proofs.YtaklnijmcidpkaaDoor
