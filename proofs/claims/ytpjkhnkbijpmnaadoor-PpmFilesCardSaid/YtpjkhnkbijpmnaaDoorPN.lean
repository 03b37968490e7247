/- Plain text: what a file's head says, and its image; no program's steps. By an AI agent. No condition beyond what each theorem states. -/
import Derived.Test.YtpjkhnkbijpmnaaDoorPM
set_option linter.unusedVariables false
set_option linter.unusedSimpArgs false
namespace Go.Proofs.YtpjkhnkbijpmnaaDoor
open Go.RowKit
/-- Does a text begin so? -/
def pre (want s : ByteArray) : Bool := decide (want.size ≤ s.size ∧ s.extract 0 want.size = want)
def aft (want s : ByteArray) : ByteArray := if pre want s = true then s.extract want.size s.size else s
theorem pre_yes {want s : ByteArray} (h : pre want s = true) : want.size ≤ s.size ∧ s.extract 0 want.size = want := by simpa [pre] using h
theorem pre_no {want s : ByteArray} (h : pre want s = false) : ¬ (want.size ≤ s.size ∧ s.extract 0 want.size = want) := by
  unfold pre at h
  exact of_decide_eq_false h
def sP6 : ByteArray := ⟨#[80, 54, 10]⟩
def sBl : ByteArray := ⟨#[32]⟩
def s255 : ByteArray := ⟨#[10, 50, 53, 53, 10]⟩
theorem ext_size (s : ByteArray) (a : Nat) : (s.extract a s.size).size ≤ s.size := by
  rw [Lib.size_eq, Lib.extract_data, Lib.size_eq]
  simp
theorem aft_size (want s : ByteArray) : (aft want s).size ≤ s.size := by
  unfold aft
  split
  · exact ext_size s _
  · exact Nat.le_refl _
/-- What stands behind the head's parts. -/
def p1 (s : ByteArray) : ByteArray := aft sP6 s
def p2 (s : ByteArray) : ByteArray := (p1 s).extract (dg_ (p1 s)).length (p1 s).size
def p3 (s : ByteArray) : ByteArray := aft sBl (p2 s)
def p4 (s : ByteArray) : ByteArray := (p3 s).extract (dg_ (p3 s)).length (p3 s).size
def p5 (s : ByteArray) : ByteArray := aft s255 (p4 s)
def wid (s : ByteArray) : Nat := valD (dg_ (p1 s))
def hei (s : ByteArray) : Nat := valD (dg_ (p3 s))
theorem p1_size (s : ByteArray) : (p1 s).size ≤ s.size := aft_size _ _
theorem p2_size (s : ByteArray) : (p2 s).size ≤ s.size := Nat.le_trans (ext_size _ _) (p1_size s)
theorem p3_size (s : ByteArray) : (p3 s).size ≤ s.size := Nat.le_trans (aft_size _ _) (p2_size s)
theorem p4_size (s : ByteArray) : (p4 s).size ≤ s.size := Nat.le_trans (ext_size _ _) (p3_size s)
theorem p5_size (s : ByteArray) : (p5 s).size ≤ s.size := Nat.le_trans (aft_size _ _) (p4_size s)
theorem wid_lt (s : ByteArray) : wid s < 10000 := by
  have := dg_lt (p1 s) (dg_ (p1 s)).length
  rwa [List.take_length] at this
theorem hei_lt (s : ByteArray) : hei s < 10000 := by
  have := dg_lt (p3 s) (dg_ (p3 s)).length
  rwa [List.take_length] at this
/-- Is a text's head a file's? -/
def headOk (s : ByteArray) : Bool := pre sP6 s && dgOk (p1 s) && pre sBl (p2 s) && dgOk (p3 s) && pre s255 (p4 s)
/-- Why a text has no image; 0: it has one. -/
def decE (s : ByteArray) : Int :=
  if headOk s = false then 11 else if ¬ (1 ≤ wid s ∧ wid s ≤ 1024 ∧ 1 ≤ hei s ∧ hei s ≤ 1024) then 10 else if (p5 s).size ≠ 3 * wid s * hei s then 11 else 0
/-- The i-th color of bytes. -/
def colr (r : ByteArray) (i : Nat) : Int := pk (r.data.toList.getD (3 * i) 0).toNat (r.data.toList.getD (3 * i + 1) 0).toNat (r.data.toList.getD (3 * i + 2) 0).toNat 255
/-- Where the i-th color of a file stands, and which color stands there. -/
def flip (w h i : Nat) : Nat := (h - 1 - i / w) * w + i % w
def imC (r : ByteArray) (w h : Nat) : List Int := (List.range (w * h)).map fun p => colr r (flip w h p)
theorem imC_len (r : ByteArray) (w h : Nat) : (imC r w h).length = w * h := by simp [imC]
theorem imC_get {r : ByteArray} {w h p : Nat} (hp : p < w * h) : (imC r w h)[p]? = some (colr r (flip w h p)) := by simp [imC, hp]
theorem flip_at {w h k j : Nat} (hk : k < h) (hj : j < w) : flip w h (k * w + j) = (h - 1 - k) * w + j ∧ k * w + j < w * h := by
  have h1 : (k * w + j) / w = k := by rw [Nat.add_comm, Nat.add_mul_div_right _ _ (by omega), Nat.div_eq_of_lt hj, Nat.zero_add]
  have h2 : (k * w + j) % w = j := by rw [Nat.add_comm, Nat.add_mul_mod_self_right, Nat.mod_eq_of_lt hj]
  unfold flip
  rw [h1, h2]
  refine ⟨rfl, ?_⟩
  have : (k + 1) * w ≤ h * w := Nat.mul_le_mul_right w hk
  rw [Nat.succ_mul] at this
  rw [Nat.mul_comm w h]
  omega
theorem parts_of {w h i : Nat} (hi : i < w * h) : i / w < h ∧ i % w < w ∧ i = i / w * w + i % w := by
  have hw : 0 < w := by
    rcases Nat.eq_zero_or_pos w with h0 | h0
    · subst h0; simp at hi
    · exact h0
  exact ⟨Nat.div_lt_of_lt_mul hi, Nat.mod_lt _ hw, (Nat.div_add_mod' i w).symm⟩
theorem flip_lt {w h i : Nat} (hi : i < w * h) : flip w h i < w * h ∧ flip w h (flip w h i) = i := by
  obtain ⟨h1, h2, h3⟩ := parts_of hi
  have e : flip w h i = (h - 1 - i / w) * w + i % w := rfl
  rw [e]
  generalize i / w = q at h1 h2 h3
  generalize i % w = r at h1 h2 h3
  have h4 := flip_at (k := h - 1 - q) (show h - 1 - q < h by omega) h2
  refine ⟨h4.2, ?_⟩
  rw [h4.1, show h - 1 - (h - 1 - q) = q by omega]
  exact h3.symm
/-- The image of a text. -/
def decIm (s : ByteArray) : Im :=
  if decE s = 0 then ⟨wid s, hei s, imC (p5 s) (wid s) (hei s), List.replicate (wid s * hei s) 16777215⟩ else ⟨0, 0, [], []⟩
def DecP (s : ByteArray) (w : World) (e : Ending) (w' : World) : Prop := ∃ v, e = .returned (.tuple #[v, .int .i64 (decE s)]) ∧ ImR w' v (decIm s) ∧ Ext w w'
theorem imr_none (w : World) : ImR w (.agg #[.int .i64 0, .int .i64 0, .slice none 0 0, .slice none 0 0]) ⟨0, 0, [], []⟩ :=
  ⟨none, none, 0, 0, rfl, Rd.empty w 1 none 0 (by decide), Rd.empty w 1 none 0 (by decide)⟩
theorem decP_no {s : ByteArray} {w w' : World} {c : Int} (hc : decE s = c) (h0 : c ≠ 0) (hE : Ext w w') : DecP s w (.returned (.tuple #[.agg #[.int .i64 0, .int .i64 0, .slice none 0 0, .slice none 0 0], .int .i64 c])) w' := by
  refine ⟨_, by rw [hc], ?_, hE⟩
  unfold decIm
  rw [if_neg (by rw [hc]; exact h0)]
  exact imr_none w'
theorem decE_head {s : ByteArray} (h : headOk s = false) : decE s = 11 := by unfold decE; rw [if_pos h]
theorem decE_size {s : ByteArray} (h : headOk s = true) (h2 : ¬ (1 ≤ wid s ∧ wid s ≤ 1024 ∧ 1 ≤ hei s ∧ hei s ≤ 1024)) : decE s = 10 := by
  unfold decE; rw [if_neg (by rw [h]; decide), if_pos h2]
theorem decE_len {s : ByteArray} (h : headOk s = true) (h2 : 1 ≤ wid s ∧ wid s ≤ 1024 ∧ 1 ≤ hei s ∧ hei s ≤ 1024) (h3 : (p5 s).size ≠ 3 * wid s * hei s) : decE s = 11 := by
  unfold decE; rw [if_neg (by rw [h]; decide), if_neg (fun h => h h2), if_pos h3]
theorem decE_yes {s : ByteArray} (h : headOk s = true) (h2 : 1 ≤ wid s ∧ wid s ≤ 1024 ∧ 1 ≤ hei s ∧ hei s ≤ 1024) (h3 : (p5 s).size = 3 * wid s * hei s) : decE s = 0 := by
  unfold decE; rw [if_neg (by rw [h]; decide), if_neg (fun h => h h2), if_neg (fun h => h h3)]
end Go.Proofs.YtpjkhnkbijpmnaaDoor
