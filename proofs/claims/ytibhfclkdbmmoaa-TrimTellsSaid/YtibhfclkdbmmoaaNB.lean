/- Proof text: rows of bits of the document's numbers; bit, above (rastrumref02). By an AI agent. No condition beyond what each theorem states. -/
import Derived.Test.YtibhfclkdbmmoaaProg
import Derived.Test.YtibhfclkdbmmoaaLI
import Derived.Test.YtibhfclkdbmmoaaNA
import Derived.Handy
import Derived.Laws.OwnMore
import Derived.RegionTactic
import Derived.Deep.CutRange
import Derived.Deep.RegionHeld3
set_option linter.unusedVariables false
set_option linter.unusedSimpArgs false
namespace Go.Proofs.Ytibhfclkdbmmoaa
open Go.RowKit
/-- A bit's value; a row of bits. -/
def bN (b : Bool) : Int := if b then 1 else 0
@[reducible] def bV (b : Bool) : Value := .int .u8 (bN b)
def brw (l : List Bool) : List Value := l.map fun b => .int .u8 (bN b)
theorem brw_len (l : List Bool) : (brw l).length = l.length := by simp [brw]
theorem brw_get {l : List Bool} {j : Nat} {b : Bool} (h : l[j]? = some b) : (brw l)[j]? = some (.int .u8 (bN b)) := by simp [brw, h]
theorem brw_one (l : List Bool) : ∀ u ∈ brw l, u.oneCell' = true := by
  intro u hu
  obtain ⟨b, _, rfl⟩ := List.mem_map.1 hu
  rfl
theorem brw_append (l m : List Bool) : brw (l ++ m) = brw l ++ brw m := by simp [brw]
theorem brw_take (l : List Bool) (k : Nat) : brw (l.take k) = (brw l).take k := by simp [brw]
theorem bit_at {w : World} {b off n cap j : Nat} {l : List Bool} {x : Bool} (h : Rd w 1 (some ⟨b, off, none⟩) n cap (brw l)) (hs : l[j]? = some x) : w.cell? ⟨b, off + j, none⟩ = some (.int .u8 (bN x)) := h.get rfl (brw_get hs)
theorem rd_len {w : World} {a : Option Addr} {n cap : Nat} {l : List Bool} (h : Rd w 1 a n cap (brw l)) : l.length = n := by
  have := h.len
  rw [brw_len] at this
  omega
theorem bit_any (l : List Bool) (a : Option Addr) (n cap j : Nat) (z : Int) (w : World) (h : Rd w 1 a n cap (brw l)) (hz : bN (bt l j) = z) : Calls Try.prog 67 #[.slice a n cap, .int .i64 j] w fun x w' => x = .returned (.int .u8 z) ∧ w' = w := by
  have hl := rd_len h
  have hj0 : (0 : Int) ≤ j := by omega
  by_cases hj : j < n
  · obtain ⟨x, hx⟩ : ∃ x, l[j]? = some x := ⟨_, List.getElem?_eq_getElem (by omega)⟩
    have hb : bt l j = x := bt_of hx
    obtain ⟨b, off, rfl, -, -⟩ := h.at_ (by omega)
    have c0 := bit_at h hx
    rw [hb] at hz
    rw [hz] at c0
    have hji : (j : Int) < n := by omega
    clear h hl hx hb hz
    go_enter Try.func67, Try.ntmps67
    go_wp2_with fail
    go_ret
    exact ⟨rfl, rfl⟩
  · have hb : bt l j = false := bt_past (by omega)
    rw [hb] at hz
    obtain rfl : z = 0 := by rw [← hz]; rfl
    have hji : ¬ (j : Int) < n := by omega
    clear h hl hb hz
    go_enter Try.func67, Try.ntmps67
    go_wp2_with fail
    go_ret
    exact ⟨rfl, rfl⟩
theorem bN_cases (b : Bool) : (b = true ∧ bN b = 1) ∨ (b = false ∧ bN b = 0) := by cases b <;> simp [bN]
set_option maxHeartbeats 1000000 in
/-- Which one is greater. -/
theorem above_any (l m : List Bool) (a c : Option Addr) (n ca k cc : Nat) (w : World) (h1 : Rd w 1 a n ca (brw l)) (h2 : Rd w 1 c k cc (brw m)) (hn : n ≤ 1000) (hk : k ≤ 1000) :
    Calls Try.prog 64 #[.slice a n ca, .slice c k cc] w fun x w' => (∃ z : Int, x = .returned (.int .i64 z) ∧ (0 ≤ z ↔ bval m ≤ bval l)) ∧ w' = w := by
  have l1 := rd_len h1
  have l2 := rd_len h2
  have H1 := Lib.hid h1; have H2 := Lib.hid h2
  have L1 := Lib.hid l1; have L2 := Lib.hid l2
  have n1 : (n : Int) ≤ 1000 := by omega
  have k1 : (k : Int) ≤ 1000 := by omega
  obtain ⟨q, hq⟩ : ∃ q : Nat, q = max n k := ⟨_, rfl⟩
  have hmx : max (n : Int) (k : Int) = (q : Int) := by omega
  have HQ := Lib.hid hq
  have q1 : (q : Int) ≤ 1000 := by omega
  clear h1 h2 l1 l2 hn hk hq
  go_enter Try.func64, Try.ntmps64
  go_wp2_with fail
  all_goals
    go_loopw [5] (fun i wr => ∃ j : Nat, j ≤ q ∧ i = .int .i64 ((j : Int) - 1) ∧ Hid (bval (l.drop j) = bval (m.drop j)) ∧ wr = w) (fun i _ => (intOf i + 1).toNat)
    case atStart =>
      refine ⟨q, Nat.le_refl _, congrArg (Value.int .i64) (by have := HQ.out; omega), Lib.hid ?_, rfl⟩
      have := HQ.out
      rw [List.drop_of_length_le (by rw [L1.out]; omega), List.drop_of_length_le (by rw [L2.out]; omega)]
    case round =>
      obtain ⟨j, hj, rfl, HB, rfl⟩ := hrel
      rcases j with _ | i
      · have HE : Hid (bval m = bval l) := Lib.hid (by have := HB.out; simpa using this.symm)
        go_wp2_with fail
        go_ret
        exact ⟨⟨0, rfl, by rw [HE.out]; simp⟩, rfl⟩
      · have hi : ((i + 1 : Nat) : Int) - 1 = (i : Int) := by omega
        rw [hi]
        have hii : (i : Int) < 1000 := by omega
        have hi0 : (0 : Int) ≤ i := by omega
        rcases bN_cases (bt l i) with ⟨x1, y1⟩ | ⟨x1, y1⟩ <;> rcases bN_cases (bt m i) with ⟨x2, y2⟩ | ⟨x2, y2⟩
        · have B1 := Lib.hid (fun W hW => bit_any l a n ca i 1 W hW y1)
          have B2 := Lib.hid (fun W hW => bit_any m c k cc i 1 W hW y2)
          have HN := Lib.hid (above_next HB.out (x1.trans x2.symm))
          clear x1 x2 y1 y2 hi
          go_wp2_with fail
          refine (B1.out _ H1.out).mono ?_
          rintro x w1 ⟨rfl, rfl⟩
          go_wp2_with fail
          refine (B2.out _ H2.out).mono ?_
          rintro x w1 ⟨rfl, rfl⟩
          go_wp2_with fail
          go_roundw
          case rel => exact ⟨i, by omega, rfl, HN, trivial⟩
          case measure => first | (simp [intOf]; done) | (simp [intOf]; omega)
        · have B1 := Lib.hid (fun W hW => bit_any l a n ca i 1 W hW y1)
          have B2 := Lib.hid (fun W hW => bit_any m c k cc i 0 W hW y2)
          have HG := Lib.hid (above_gt HB.out x1 x2)
          clear x1 x2 y1 y2 hi
          go_wp2_with fail
          refine (B1.out _ H1.out).mono ?_
          rintro x w1 ⟨rfl, rfl⟩
          go_wp2_with fail
          refine (B2.out _ H2.out).mono ?_
          rintro x w1 ⟨rfl, rfl⟩
          go_wp2_with fail
          refine (B1.out _ H1.out).mono ?_
          rintro x w1 ⟨rfl, rfl⟩
          go_wp2_with fail
          refine (B2.out _ H2.out).mono ?_
          rintro x w1 ⟨rfl, rfl⟩
          go_wp2_with fail
          go_ret
          exact ⟨⟨1, rfl, by have := HG.out; constructor <;> omega⟩, rfl⟩
        · have B1 := Lib.hid (fun W hW => bit_any l a n ca i 0 W hW y1)
          have B2 := Lib.hid (fun W hW => bit_any m c k cc i 1 W hW y2)
          have HG := Lib.hid (above_gt HB.out.symm x2 x1)
          clear x1 x2 y1 y2 hi
          go_wp2_with fail
          refine (B1.out _ H1.out).mono ?_
          rintro x w1 ⟨rfl, rfl⟩
          go_wp2_with fail
          refine (B2.out _ H2.out).mono ?_
          rintro x w1 ⟨rfl, rfl⟩
          go_wp2_with fail
          refine (B1.out _ H1.out).mono ?_
          rintro x w1 ⟨rfl, rfl⟩
          go_wp2_with fail
          refine (B2.out _ H2.out).mono ?_
          rintro x w1 ⟨rfl, rfl⟩
          go_wp2_with fail
          go_ret
          exact ⟨⟨-1, rfl, by have := HG.out; constructor <;> omega⟩, rfl⟩
        · have B1 := Lib.hid (fun W hW => bit_any l a n ca i 0 W hW y1)
          have B2 := Lib.hid (fun W hW => bit_any m c k cc i 0 W hW y2)
          have HN := Lib.hid (above_next HB.out (x1.trans x2.symm))
          clear x1 x2 y1 y2 hi
          go_wp2_with fail
          refine (B1.out _ H1.out).mono ?_
          rintro x w1 ⟨rfl, rfl⟩
          go_wp2_with fail
          refine (B2.out _ H2.out).mono ?_
          rintro x w1 ⟨rfl, rfl⟩
          go_wp2_with fail
          go_roundw
          case rel => exact ⟨i, by omega, rfl, HN, trivial⟩
          case measure => first | (simp [intOf]; done) | (simp [intOf]; omega)
end Go.Proofs.Ytibhfclkdbmmoaa
