/- Plain text: an image comes back from its file, a file from its image; no program's steps. By an AI agent. -/
import Derived.Test.YtpjkhnkbijpmnaaDoorPN
set_option linter.unusedVariables false
set_option linter.unusedSimpArgs false
namespace Go.Proofs.YtpjkhnkbijpmnaaDoor
open Go.RowKit
/-- A text's bytes. -/
def bl (s : ByteArray) : List UInt8 := s.data.toList
theorem bl_ext (s : ByteArray) (a : Nat) : bl (s.extract a s.size) = (bl s).drop a := by
  unfold bl
  rw [Lib.extract_data, Lib.size_eq]
  apply List.take_of_length_le
  simp
theorem bl_size (s : ByteArray) : s.size = (bl s).length := Lib.size_eq s
theorem bl_inj {s t : ByteArray} (h : bl s = bl t) : s = t := ByteArray.ext (Array.ext' h)
theorem pre_iff {want s : ByteArray} : pre want s = true ↔ ∃ r, bl s = bl want ++ r := by
  constructor
  · intro h
    obtain ⟨h1, h2⟩ := pre_yes h
    have h3 := congrArg bl h2
    unfold bl at h3
    rw [Lib.extract_data] at h3
    refine ⟨(bl s).drop want.size, ?_⟩
    unfold bl
    rw [← h3]
    simp
  · rintro ⟨r, h⟩
    unfold pre
    rw [decide_eq_true_eq]
    refine ⟨by rw [bl_size, bl_size, h, List.length_append]; omega, ?_⟩
    apply bl_inj
    unfold bl at h ⊢
    rw [Lib.extract_data, h, Lib.size_eq]
    simp
theorem aft_of {want s : ByteArray} {r : List UInt8} (h : bl s = bl want ++ r) : bl (aft want s) = r := by
  unfold aft
  rw [if_pos (pre_iff.2 ⟨r, h⟩), bl_ext, h, bl_size]
  simp
/-- A number of one to four digits, the first one not 0. -/
def Good (d : List UInt8) : Prop := (∀ b ∈ d, isD b = true) ∧ 0 < d.length ∧ d.length ≤ 4 ∧ d.head? ≠ some 48
theorem digs_app {d r : List UInt8} {x : UInt8} (hd : ∀ b ∈ d, isD b = true) (hl : d.length ≤ 4) (hx : isD x = false) : digs (d ++ x :: r) = d := by
  unfold digs
  rw [List.take_append, List.take_of_length_le hl, List.takeWhile_append_of_pos hd]
  cases h : 4 - d.length with
  | zero => simp
  | succ k => simp [List.takeWhile_cons, hx]
theorem dg_of {s : ByteArray} {d r : List UInt8} {x : UInt8} (h : bl s = d ++ x :: r) (hd : Good d) (hx : isD x = false) : dg_ s = d ∧ dgOk s = true ∧ bl (s.extract (dg_ s).length s.size) = x :: r := by
  have e : dg_ s = d := by
    unfold dg_
    rw [show s.data.toList = bl s from rfl, h]
    exact digs_app hd.1 hd.2.2.1 hx
  refine ⟨e, ?_, ?_⟩
  · unfold dgOk
    rw [e, show s.data.toList = bl s from rfl, h]
    have h1 := hd.2.1
    have h2 := hd.2.2.2
    have h3 : (d ++ x :: r).head? = d.head? := by
      cases d with
      | nil => simp at h1
      | cons a d => rfl
    rw [h3]
    simp [h1, h2]
  · rw [bl_ext, e, h]
    simp
/-- A file's text. -/
def form (d1 d2 r : List UInt8) : List UInt8 := [80, 54, 10] ++ (d1 ++ ([32] ++ (d2 ++ ([10, 50, 53, 53, 10] ++ r))))
theorem parse_of {s : ByteArray} {d1 d2 r : List UInt8} (h : bl s = form d1 d2 r) (h1 : Good d1) (h2 : Good d2) : headOk s = true ∧ wid s = valD d1 ∧ hei s = valD d2 ∧ bl (p5 s) = r := by
  have a1 : bl s = bl sP6 ++ (d1 ++ ([32] ++ (d2 ++ ([10, 50, 53, 53, 10] ++ r)))) := h
  have e1 : bl (p1 s) = d1 ++ 32 :: (d2 ++ ([10, 50, 53, 53, 10] ++ r)) := aft_of a1
  obtain ⟨g1, g2, g3⟩ := dg_of e1 h1 (by decide)
  have a2 : bl (p2 s) = bl sBl ++ (d2 ++ ([10, 50, 53, 53, 10] ++ r)) := g3
  have e2 : bl (p3 s) = d2 ++ 10 :: ([50, 53, 53, 10] ++ r) := aft_of a2
  obtain ⟨k1, k2, k3⟩ := dg_of e2 h2 (by decide)
  have a3 : bl (p4 s) = bl s255 ++ r := k3
  refine ⟨?_, by unfold wid; rw [g1], by unfold hei; rw [k1], aft_of a3⟩
  unfold headOk
  rw [pre_iff.2 ⟨_, a1⟩, g2, pre_iff.2 ⟨_, a2⟩, k2, pre_iff.2 ⟨_, a3⟩]
  rfl
theorem dg_good {s : ByteArray} (h : dgOk s = true) : Good (dg_ s) ∧ bl s = dg_ s ++ bl (s.extract (dg_ s).length s.size) := by
  have ht := digs_take s.data.toList
  have hl := digs_le s.data.toList
  unfold dgOk at h
  simp only [Bool.and_eq_true, decide_eq_true_eq, Bool.not_eq_true', decide_eq_false_iff_not] at h
  refine ⟨⟨fun b hb => digs_all _ b hb, h.1, hl.1, ?_⟩, ?_⟩
  · have h3 : (dg_ s).head? = s.data.toList.head? := by
      have : dg_ s = s.data.toList.take (dg_ s).length := ht.symm
      rw [this, List.head?_take, if_neg (by omega)]
    rw [h3]; exact h.2
  · rw [bl_ext]
    have : dg_ s = (bl s).take (dg_ s).length := ht.symm
    conv => rhs; arg 1; rw [this]
    exact (List.take_append_drop _ _).symm
theorem parse_form {s : ByteArray} (h : headOk s = true) : ∃ d1 d2, Good d1 ∧ Good d2 ∧ bl s = form d1 d2 (bl (p5 s)) ∧ wid s = valD d1 ∧ hei s = valD d2 := by
  unfold headOk at h
  simp only [Bool.and_eq_true] at h
  obtain ⟨⟨⟨⟨a1, a2⟩, a3⟩, a4⟩, a5⟩ := h
  obtain ⟨r1, e1⟩ := pre_iff.1 a1
  obtain ⟨g1, f1⟩ := dg_good a2
  obtain ⟨r2, e2⟩ := pre_iff.1 a3
  obtain ⟨g2, f2⟩ := dg_good a4
  obtain ⟨r3, e3⟩ := pre_iff.1 a5
  refine ⟨_, _, g1, g2, ?_, rfl, rfl⟩
  have b1 : bl (p1 s) = r1 := aft_of e1
  have b2 : bl (p3 s) = r2 := aft_of e2
  have b3 : bl (p5 s) = r3 := aft_of e3
  have c1 : bl ((p1 s).extract (dg_ (p1 s)).length (p1 s).size) = bl (p2 s) := rfl
  have c2 : bl ((p3 s).extract (dg_ (p3 s)).length (p3 s).size) = bl (p4 s) := rfl
  rw [c1, e2, ← b2, f2, c2, e3, ← b3] at f1
  rw [e1, ← b1, f1]
  rfl
end Go.Proofs.YtpjkhnkbijpmnaaDoor
