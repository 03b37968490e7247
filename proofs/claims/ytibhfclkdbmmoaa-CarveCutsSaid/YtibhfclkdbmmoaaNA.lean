/- Plain laws: numbers as rows of bits, the lowest first. No condition beyond what each theorem states. By an AI agent. -/
import Derived.Test.YtibhfclkdbmmoaaProg
import Derived.Test.YtibhfclkdbmmoaaLI
import Derived.Handy
import Derived.Laws.OwnMore
import Derived.RegionTactic
import Derived.Deep.CutRange
import Derived.Deep.RegionHeld3
import Derived.Test.YtibhfclkdbmmoaaSF
set_option linter.unusedVariables false
set_option linter.unusedSimpArgs false
namespace Go.Proofs.Ytibhfclkdbmmoaa
def bval : List Bool → Nat
  | [] => 0
  | b :: l => b.toNat + 2 * bval l
theorem toNat_le (b : Bool) : b.toNat ≤ 1 := by cases b <;> simp
theorem bval_append (l m : List Bool) : bval (l ++ m) = bval l + 2 ^ l.length * bval m := by
  induction l with
  | nil => simp [bval]
  | cons b l ih =>
    rw [List.cons_append, bval, bval, ih, List.length_cons, Nat.pow_succ, Nat.mul_add, Nat.mul_comm (2 ^ l.length) 2, Nat.mul_assoc]
    omega
theorem bval_lt (l : List Bool) : bval l < 2 ^ l.length := by
  induction l with
  | nil => simp [bval]
  | cons b l ih =>
    have := toNat_le b
    rw [bval, List.length_cons, Nat.pow_succ]
    omega
theorem bval_one (b : Bool) : bval [b] = b.toNat := by simp [bval]
theorem bval_zeros (n : Nat) : bval (List.replicate n false) = 0 := by
  induction n with
  | zero => rfl
  | succ n ih => rw [List.replicate_succ, bval, ih]; rfl
/-- The i-th bit. -/
def bt (l : List Bool) (i : Nat) : Bool := l.getD i false
theorem bt_of {l : List Bool} {i : Nat} {b : Bool} (h : l[i]? = some b) : bt l i = b := by simp [bt, List.getD_eq_getElem?_getD, h]
theorem bt_past {l : List Bool} {i : Nat} (h : l.length ≤ i) : bt l i = false := by simp [bt, List.getD_eq_getElem?_getD, List.getElem?_eq_none h]
/-- What the i lowest bits are. -/
def low (l : List Bool) (i : Nat) : Nat := bval (l.take i)
theorem low_zero (l : List Bool) : low l 0 = 0 := by simp [low, bval]
theorem low_all {l : List Bool} {i : Nat} (h : l.length ≤ i) : low l i = bval l := by rw [low, List.take_of_length_le h]
theorem low_succ (l : List Bool) (i : Nat) : low l (i + 1) = low l i + 2 ^ i * (bt l i).toNat := by
  rcases Nat.lt_or_ge i l.length with h | h
  · rw [low, List.take_succ_eq_append_getElem h, bval_append, List.length_take, Nat.min_eq_left (Nat.le_of_lt h), bval_one, bt_of (List.getElem?_eq_getElem h)]
    rfl
  · rw [low_all (by omega), low_all h, bt_past h]; simp
theorem low_lt (l : List Bool) (i : Nat) : low l i < 2 ^ i := by
  have h1 := bval_lt (l.take i)
  have h2 : 2 ^ (l.take i).length ≤ 2 ^ i := Nat.pow_le_pow_right (by omega) (by rw [List.length_take]; omega)
  exact Nat.lt_of_lt_of_le h1 h2
theorem low_high (l : List Bool) (i : Nat) : bval l = low l i + 2 ^ i * bval (l.drop i) := by
  rcases Nat.lt_or_ge i l.length with h | h
  · have e : l = l.take i ++ l.drop i := (List.take_append_drop i l).symm
    have h2 := bval_append (l.take i) (l.drop i)
    rw [← e, List.length_take, Nat.min_eq_left (Nat.le_of_lt h)] at h2
    exact h2
  · rw [low_all h, List.drop_of_length_le h]; simp [bval]
theorem high_succ (l : List Bool) (i : Nat) : bval (l.drop i) = (bt l i).toNat + 2 * bval (l.drop (i + 1)) := by
  rcases Nat.lt_or_ge i l.length with h | h
  · rw [List.drop_eq_getElem_cons h, bval, bt_of (List.getElem?_eq_getElem h)]
  · rw [List.drop_of_length_le h, List.drop_of_length_le (by omega), bt_past h]; rfl
theorem low_le (l : List Bool) (i : Nat) : low l i ≤ bval l := by rw [low_high l i]; exact Nat.le_add_right _ _
theorem low_eq {l : List Bool} {i : Nat} (h : bval l < 2 ^ i) : low l i = bval l := by
  have h1 := low_high l i
  rcases Nat.eq_zero_or_pos (bval (l.drop i)) with h0 | h0
  · rw [h0] at h1; omega
  · have : 2 ^ i * 1 ≤ 2 ^ i * bval (l.drop i) := Nat.mul_le_mul_left _ h0
    omega
/-- One step of a sum. -/
theorem more_step {out a b : List Bool} {i : Nat} {c d c' : Bool} (hl : out.length = i) (h : bval out + 2 ^ i * c.toNat = low a i + low b i) (hx : (bt a i).toNat + (bt b i).toNat + c.toNat = d.toNat + 2 * c'.toNat) :
    bval (out ++ [d]) + 2 ^ (i + 1) * c'.toNat = low a (i + 1) + low b (i + 1) := by
  rw [bval_append, hl, bval_one, low_succ, low_succ, Nat.pow_succ]
  have h2 : 2 ^ i * ((bt a i).toNat + (bt b i).toNat + c.toNat) = 2 ^ i * (d.toNat + 2 * c'.toNat) := by rw [hx]
  rw [Nat.mul_add, Nat.mul_add, Nat.mul_add, ← Nat.mul_assoc] at h2
  omega
theorem more_done {out a b : List Bool} {i : Nat} (ha : a.length ≤ i) (hb : b.length ≤ i) (h : bval out + 2 ^ i * (false).toNat = low a i + low b i) : bval out = bval a + bval b := by
  rw [low_all ha, low_all hb] at h
  simpa using h
/-- One step of a difference. -/
theorem less_step {out a b : List Bool} {i : Nat} {c d c' : Bool} (hl : out.length = i) (h : low a i + 2 ^ i * c.toNat = bval out + low b i) (hx : (bt a i).toNat + 2 * c'.toNat = d.toNat + (bt b i).toNat + c.toNat) :
    low a (i + 1) + 2 ^ (i + 1) * c'.toNat = bval (out ++ [d]) + low b (i + 1) := by
  rw [bval_append, hl, bval_one, low_succ, low_succ, Nat.pow_succ]
  have h2 : 2 ^ i * ((bt a i).toNat + 2 * c'.toNat) = 2 ^ i * (d.toNat + (bt b i).toNat + c.toNat) := by rw [hx]
  rw [Nat.mul_add, Nat.mul_add, Nat.mul_add, ← Nat.mul_assoc] at h2
  omega
theorem less_done {out a b : List Bool} {i : Nat} {c : Bool} (ha : a.length = i) (hl : out.length = i) (hle : bval b ≤ bval a) (h : low a i + 2 ^ i * c.toNat = bval out + low b i) : bval out + bval b = bval a := by
  have h1 := bval_lt a
  have h2 := bval_lt out
  rw [ha] at h1
  rw [hl] at h2
  rw [low_all (by omega), low_eq (by omega : bval b < 2 ^ i)] at h
  cases c
  · simp at h; omega
  · simp at h; omega
/-- The first difference from above. -/
theorem above_gt {a b : List Bool} {i : Nat} (h : bval (a.drop (i + 1)) = bval (b.drop (i + 1))) (ha : bt a i = true) (hb : bt b i = false) : bval b < bval a := by
  rw [low_high a i, low_high b i, high_succ a i, high_succ b i, h, ha, hb]
  have h1 := low_lt b i
  simp only [Bool.toNat_true, Bool.toNat_false, Nat.mul_add]
  omega
theorem above_next {a b : List Bool} {i : Nat} (h : bval (a.drop (i + 1)) = bval (b.drop (i + 1))) (hab : bt a i = bt b i) : bval (a.drop i) = bval (b.drop i) := by
  rw [high_succ a i, high_succ b i, h, hab]
/-- Without noughts above. -/
def Canon (l : List Bool) : Prop := ∀ k, l.length = k + 1 → bt l k = true
theorem canon_nil : Canon [] := fun k h => by simp at h
theorem canon_pos {l : List Bool} (h : Canon l) (hne : l ≠ []) : 2 ^ (l.length - 1) ≤ bval l := by
  obtain ⟨k, hk⟩ : ∃ k, l.length = k + 1 := ⟨l.length - 1, by have := List.length_pos_iff.2 hne; omega⟩
  have h1 := low_high l k
  have h2 := high_succ l k
  rw [h k hk] at h2
  rw [hk, Nat.add_sub_cancel, h1, h2]
  simp only [Bool.toNat_true, Nat.mul_add, Nat.mul_one]
  omega
theorem canon_len {l : List Bool} {n : Nat} (h : Canon l) (hv : bval l < 2 ^ n) : l.length ≤ n := by
  by_cases hne : l = []
  · subst hne; simp
  · have h1 := canon_pos h hne
    rcases Nat.lt_or_ge n l.length with h2 | h2
    · have : 2 ^ n ≤ 2 ^ (l.length - 1) := Nat.pow_le_pow_right (by omega) (by omega)
      omega
    · exact h2
theorem canon_zero {l : List Bool} (h : Canon l) : bval l = 0 ↔ l = [] := by
  constructor
  · intro hz
    by_cases hne : l = []
    · exact hne
    · have h1 := canon_pos h hne
      have := Nat.two_pow_pos (l.length - 1)
      omega
  · rintro rfl; rfl
theorem trim_step {l : List Bool} {k : Nat} (h : bt l k = false) : low l (k + 1) = low l k := by rw [low_succ, h]; simp
/-- One step of a quotient. -/
theorem floor_step {a d q r : Nat} {i : Nat} {l : List Bool} {x : Bool} (h : bval (l.drop (i + 1)) = q * d + r) (hx : bt l i = x) : bval (l.drop i) = (2 * q) * d + (x.toNat + 2 * r) := by
  rw [high_succ l i, h, hx, Nat.mul_add, Nat.mul_assoc]
  omega
end Go.Proofs.Ytibhfclkdbmmoaa

/- Proof text: rows of bits of the document's numbers; bit, above (rastrumref02). By an AI agent. No condition beyond what each theorem states. -/
set_option linter.unusedVariables false
set_option linter.unusedSimpArgs false
namespace Go.Proofs.Ytibhfclkdbmmoaa
open Go.RowKit
/-- A bit's value; a row of bits. -/
def bN (b : Bool) : Int := if b then 1 else 0
@[reducible] def bV (b : Bool) : Value := .int .u8 (bN b)
def brw (l : List Bool) : List Value := l.map fun b => .int .u8 (bN b)
theorem brw_len (l : List Bool) : (brw l).length = l.length := by simp [brw]
theorem brw_get {l : List Bool} {j : Nat} {b : Bool} (h : l[j]? = some b) : (brw l)[j]? = some (.int .u8 (bN b)) := by simp [brw, h]
theorem brw_one (l : List Bool) : ∀ u ∈ brw l, u.oneCell' = true := by
  intro u hu
  obtain ⟨b, _, rfl⟩ := List.mem_map.1 hu
  rfl
theorem brw_append (l m : List Bool) : brw (l ++ m) = brw l ++ brw m := by simp [brw]
theorem brw_take (l : List Bool) (k : Nat) : brw (l.take k) = (brw l).take k := by simp [brw]
theorem bit_at {w : World} {b off n cap j : Nat} {l : List Bool} {x : Bool} (h : Rd w 1 (some ⟨b, off, none⟩) n cap (brw l)) (hs : l[j]? = some x) : w.cell? ⟨b, off + j, none⟩ = some (.int .u8 (bN x)) := h.get rfl (brw_get hs)
theorem rd_len {w : World} {a : Option Addr} {n cap : Nat} {l : List Bool} (h : Rd w 1 a n cap (brw l)) : l.length = n := by
  have := h.len
  rw [brw_len] at this
  omega
theorem bit_any (l : List Bool) (a : Option Addr) (n cap j : Nat) (z : Int) (w : World) (h : Rd w 1 a n cap (brw l)) (hz : bN (bt l j) = z) : Calls Try.prog 67 #[.slice a n cap, .int .i64 j] w fun x w' => x = .returned (.int .u8 z) ∧ w' = w := by
  have hl := rd_len h
  have hj0 : (0 : Int) ≤ j := by omega
  by_cases hj : j < n
  · obtain ⟨x, hx⟩ : ∃ x, l[j]? = some x := ⟨_, List.getElem?_eq_getElem (by omega)⟩
    have hb : bt l j = x := bt_of hx
    obtain ⟨b, off, rfl, -, -⟩ := h.at_ (by omega)
    have c0 := bit_at h hx
    rw [hb] at hz
    rw [hz] at c0
    have hji : (j : Int) < n := by omega
    clear h hl hx hb hz
    go_enter Try.func67, Try.ntmps67
    go_wp2_with fail
    go_ret
    exact ⟨rfl, rfl⟩
  · have hb : bt l j = false := bt_past (by omega)
    rw [hb] at hz
    obtain rfl : z = 0 := by rw [← hz]; rfl
    have hji : ¬ (j : Int) < n := by omega
    clear h hl hb hz
    go_enter Try.func67, Try.ntmps67
    go_wp2_with fail
    go_ret
    exact ⟨rfl, rfl⟩
theorem bN_cases (b : Bool) : (b = true ∧ bN b = 1) ∨ (b = false ∧ bN b = 0) := by cases b <;> simp [bN]
set_option maxHeartbeats 1000000 in
/-- Which one is greater. -/
theorem above_any (l m : List Bool) (a c : Option Addr) (n ca k cc : Nat) (w : World) (h1 : Rd w 1 a n ca (brw l)) (h2 : Rd w 1 c k cc (brw m)) (hn : n ≤ 1000) (hk : k ≤ 1000) :
    Calls Try.prog 64 #[.slice a n ca, .slice c k cc] w fun x w' => (∃ z : Int, x = .returned (.int .i64 z) ∧ (0 ≤ z ↔ bval m ≤ bval l)) ∧ w' = w := by
  have l1 := rd_len h1
  have l2 := rd_len h2
  have H1 := Lib.hid h1; have H2 := Lib.hid h2
  have L1 := Lib.hid l1; have L2 := Lib.hid l2
  have n1 : (n : Int) ≤ 1000 := by omega
  have k1 : (k : Int) ≤ 1000 := by omega
  obtain ⟨q, hq⟩ : ∃ q : Nat, q = max n k := ⟨_, rfl⟩
  have hmx : max (n : Int) (k : Int) = (q : Int) := by omega
  have HQ := Lib.hid hq
  have q1 : (q : Int) ≤ 1000 := by omega
  clear h1 h2 l1 l2 hn hk hq
  go_enter Try.func64, Try.ntmps64
  go_wp2_with fail
  all_goals
    go_loopw [5] (fun i wr => ∃ j : Nat, j ≤ q ∧ i = .int .i64 ((j : Int) - 1) ∧ Hid (bval (l.drop j) = bval (m.drop j)) ∧ wr = w) (fun i _ => (intOf i + 1).toNat)
    case atStart =>
      refine ⟨q, Nat.le_refl _, congrArg (Value.int .i64) (by have := HQ.out; omega), Lib.hid ?_, rfl⟩
      have := HQ.out
      rw [List.drop_of_length_le (by rw [L1.out]; omega), List.drop_of_length_le (by rw [L2.out]; omega)]
    case round =>
      obtain ⟨j, hj, rfl, HB, rfl⟩ := hrel
      rcases j with _ | i
      · have HE : Hid (bval m = bval l) := Lib.hid (by have := HB.out; simpa using this.symm)
        go_wp2_with fail
        go_ret
        exact ⟨⟨0, rfl, by rw [HE.out]; simp⟩, rfl⟩
      · have hi : ((i + 1 : Nat) : Int) - 1 = (i : Int) := by omega
        rw [hi]
        have hii : (i : Int) < 1000 := by omega
        have hi0 : (0 : Int) ≤ i := by omega
        rcases bN_cases (bt l i) with ⟨x1, y1⟩ | ⟨x1, y1⟩ <;> rcases bN_cases (bt m i) with ⟨x2, y2⟩ | ⟨x2, y2⟩
        · have B1 := Lib.hid (fun W hW => bit_any l a n ca i 1 W hW y1)
          have B2 := Lib.hid (fun W hW => bit_any m c k cc i 1 W hW y2)
          have HN := Lib.hid (above_next HB.out (x1.trans x2.symm))
          clear x1 x2 y1 y2 hi
          go_wp2_with fail
          refine (B1.out _ H1.out).mono ?_
          rintro x w1 ⟨rfl, rfl⟩
          go_wp2_with fail
          refine (B2.out _ H2.out).mono ?_
          rintro x w1 ⟨rfl, rfl⟩
          go_wp2_with fail
          go_roundw
          case rel => exact ⟨i, by omega, rfl, HN, trivial⟩
          case measure => first | (simp [intOf]; done) | (simp [intOf]; omega)
        · have B1 := Lib.hid (fun W hW => bit_any l a n ca i 1 W hW y1)
          have B2 := Lib.hid (fun W hW => bit_any m c k cc i 0 W hW y2)
          have HG := Lib.hid (above_gt HB.out x1 x2)
          clear x1 x2 y1 y2 hi
          go_wp2_with fail
          refine (B1.out _ H1.out).mono ?_
          rintro x w1 ⟨rfl, rfl⟩
          go_wp2_with fail
          refine (B2.out _ H2.out).mono ?_
          rintro x w1 ⟨rfl, rfl⟩
          go_wp2_with fail
          refine (B1.out _ H1.out).mono ?_
          rintro x w1 ⟨rfl, rfl⟩
          go_wp2_with fail
          refine (B2.out _ H2.out).mono ?_
          rintro x w1 ⟨rfl, rfl⟩
          go_wp2_with fail
          go_ret
          exact ⟨⟨1, rfl, by have := HG.out; constructor <;> omega⟩, rfl⟩
        · have B1 := Lib.hid (fun W hW => bit_any l a n ca i 0 W hW y1)
          have B2 := Lib.hid (fun W hW => bit_any m c k cc i 1 W hW y2)
          have HG := Lib.hid (above_gt HB.out.symm x2 x1)
          clear x1 x2 y1 y2 hi
          go_wp2_with fail
          refine (B1.out _ H1.out).mono ?_
          rintro x w1 ⟨rfl, rfl⟩
          go_wp2_with fail
          refine (B2.out _ H2.out).mono ?_
          rintro x w1 ⟨rfl, rfl⟩
          go_wp2_with fail
          refine (B1.out _ H1.out).mono ?_
          rintro x w1 ⟨rfl, rfl⟩
          go_wp2_with fail
          refine (B2.out _ H2.out).mono ?_
          rintro x w1 ⟨rfl, rfl⟩
          go_wp2_with fail
          go_ret
          exact ⟨⟨-1, rfl, by have := HG.out; constructor <;> omega⟩, rfl⟩
        · have B1 := Lib.hid (fun W hW => bit_any l a n ca i 0 W hW y1)
          have B2 := Lib.hid (fun W hW => bit_any m c k cc i 0 W hW y2)
          have HN := Lib.hid (above_next HB.out (x1.trans x2.symm))
          clear x1 x2 y1 y2 hi
          go_wp2_with fail
          refine (B1.out _ H1.out).mono ?_
          rintro x w1 ⟨rfl, rfl⟩
          go_wp2_with fail
          refine (B2.out _ H2.out).mono ?_
          rintro x w1 ⟨rfl, rfl⟩
          go_wp2_with fail
          go_roundw
          case rel => exact ⟨i, by omega, rfl, HN, trivial⟩
          case measure => first | (simp [intOf]; done) | (simp [intOf]; omega)
end Go.Proofs.Ytibhfclkdbmmoaa

/- Proof text: sums and differences of rows of bits (rastrumref02). By an AI agent. No condition beyond what each theorem states. -/
set_option linter.unusedVariables false
set_option linter.unusedSimpArgs false
namespace Go.Proofs.Ytibhfclkdbmmoaa
open Go.RowKit
theorem info_u8 : (Try.prog.info? 5).map (fun i => (i.zero, i.size, i.bytes)) = some (some (.int .u8 0), 1, 1) := by kernel_rfl
theorem size_u8 : (Try.prog.info? 5).map (·.size) = some 1 := by kernel_rfl
theorem bN_nat (b : Bool) : bN b = (b.toNat : Int) := by cases b <;> rfl
theorem bN_range (b : Bool) : 0 ≤ bN b ∧ bN b ≤ 1 := by cases b <;> simp [bN]
/-- Three bits added. -/
theorem three_bits (a b c : Bool) : ∃ d e : Bool, a.toNat + b.toNat + c.toNat = d.toNat + 2 * e.toNat ∧ (bN a + bN b + bN c).tmod 2 = bN d ∧ (bN a + bN b + bN c).tdiv 2 % 256 = bN e ∧ (bN a + bN b + bN c) % 2 = bN d := by
  cases a <;> cases b <;> cases c
  · exact ⟨false, false, by decide, by decide, by decide, by decide⟩
  · exact ⟨true, false, by decide, by decide, by decide, by decide⟩
  · exact ⟨true, false, by decide, by decide, by decide, by decide⟩
  · exact ⟨false, true, by decide, by decide, by decide, by decide⟩
  · exact ⟨true, false, by decide, by decide, by decide, by decide⟩
  · exact ⟨false, true, by decide, by decide, by decide, by decide⟩
  · exact ⟨false, true, by decide, by decide, by decide, by decide⟩
  · exact ⟨true, true, by decide, by decide, by decide, by decide⟩
theorem u8_small {x : Int} (h0 : 0 ≤ x) (h1 : x ≤ 255) : IntKind.u8.wrap x = x := by
  simp [IntKind.wrap, IntKind.bits, IntKind.signed]
  omega
def MoreP (l m : List Bool) (w : World) (x : Ending) (w' : World) : Prop :=
  ∃ v out, x = .returned v ∧ w'.ownsRow w.heap.size 5 1 v out.length (brw out) ∧ bval out = bval l + bval m ∧ out.length ≤ max l.length m.length + 1 ∧ Ext w w'
set_option maxRecDepth 10000 in
set_option maxHeartbeats 2000000 in
theorem more_any (l m : List Bool) (a c : Option Addr) (n ca k cc : Nat) (w : World) (h1 : Rd w 1 a n ca (brw l)) (h2 : Rd w 1 c k cc (brw m)) (hn : n ≤ 1000) (hk : k ≤ 1000) :
    Calls Try.prog 66 #[.slice a n ca, .slice c k cc] w (MoreP l m w) := by
  have l1 := rd_len h1
  have l2 := rd_len h2
  have H1 := Lib.hid h1; have H2 := Lib.hid h2
  have L1 := Lib.hid l1; have L2 := Lib.hid l2
  have n1 : (n : Int) ≤ 1000 := by omega
  have k1 : (k : Int) ≤ 1000 := by omega
  clear h1 h2 l1 l2 hn hk
  go_enter Try.func66, Try.ntmps66
  go_wp2_with fail
  go_loopw [5, 6, 7, 8] (fun ov cv iv _ wr => ∃ (j : Nat) (cb : Bool) (out : List Bool) (v : Value), j ≤ max n k + 1 ∧ v = ov ∧ cv = .int .u8 (bN cb) ∧ iv = .int .i64 j ∧ out.length = j ∧ wr.ownsRow w.heap.size 5 1 v j (brw out) ∧ Hid (bval out + 2 ^ j * cb.toNat = low l j + low m j) ∧ Ext w wr) (fun _ _ iv _ _ => max n k + 1 - (intOf iv).toNat)
  case atStart => exact ⟨0, false, [], _, Nat.zero_le _, rfl, rfl, rfl, rfl, World.ownsRow_nil _ _ _ _, Lib.hid (by simp [bval, low_zero]), Ext.refl _⟩
  case round =>
    obtain ⟨j, cb, out, v, hj, rfl, rfl, rfl, hl, ho, HV, hE⟩ := hrel
    have HO := Lib.hid ho; have HL := Lib.hid hl; have HE := Lib.hid hE
    have hj1 : (j : Int) ≤ 1001 := by omega
    have hz := hE.size
    have HZ := Lib.hid hz
    clear ho hl hE hz
    by_cases hgo : j < n ∨ j < k ∨ cb = true
    · have hjq : j ≤ max n k := by
        rcases Nat.lt_or_ge (max n k) j with h | h
        · exfalso
          have hcb : cb = true := by
            rcases hgo with h2 | h2 | h2
            · omega
            · omega
            · exact h2
          have hv := HV.out
          rw [hcb] at hv
          have b1 : bval l < 2 ^ (max n k) := Nat.lt_of_lt_of_le (bval_lt l) (Nat.pow_le_pow_right (by omega) (by rw [L1.out]; omega))
          have b2 : bval m < 2 ^ (max n k) := Nat.lt_of_lt_of_le (bval_lt m) (Nat.pow_le_pow_right (by omega) (by rw [L2.out]; omega))
          have b3 := low_le l j
          have b4 := low_le m j
          have b5 : j = max n k + 1 := by omega
          rw [b5, Nat.pow_succ] at hv
          simp only [Bool.toNat_true, Nat.mul_one] at hv
          rw [b5] at b3 b4
          omega
        · exact h
      obtain ⟨d, e, x1, x2, x3, x4⟩ := three_bits (bt l j) (bt m j) cb
      obtain ⟨z1, hz1⟩ : ∃ z, z = bN (bt l j) := ⟨_, rfl⟩
      obtain ⟨z2, hz2⟩ : ∃ z, z = bN (bt m j) := ⟨_, rfl⟩
      obtain ⟨z3, hz3⟩ : ∃ z, z = bN cb := ⟨_, rfl⟩
      have r1 := bN_range (bt l j)
      have r2 := bN_range (bt m j)
      have r3 := bN_range cb
      have B1 := Lib.hid (fun W hW => bit_any l a n ca j z1 W hW hz1.symm)
      have B2 := Lib.hid (fun W hW => bit_any m c k cc j z2 W hW hz2.symm)
      rw [← hz1, ← hz2, ← hz3] at x2 x3 x4
      rw [← hz1] at r1
      rw [← hz2] at r2
      rw [← hz3] at r3 ⊢
      have f1 : IntKind.u8.wrap (z1 + z2) = z1 + z2 := u8_small (by omega) (by omega)
      have f2 : IntKind.u8.wrap (z1 + z2 + z3) = z1 + z2 + z3 := u8_small (by omega) (by omega)
      have hs : bval (out ++ [d]) + 2 ^ (j + 1) * e.toNat = low l (j + 1) + low m (j + 1) := more_step HL.out HV.out x1
      have HS := Lib.hid hs
      have hc : (j : Int) < n ∨ (¬ (j : Int) < n ∧ (j : Int) < k) ∨ (¬ (j : Int) < n ∧ ¬ (j : Int) < k ∧ 0 < z3) := by
        by_cases g1 : j < n
        · left; omega
        · by_cases g2 : j < k
          · right; left; omega
          · right; right
            rcases hgo with h | h | h
            · exact absurd h g1
            · exact absurd h g2
            · refine ⟨by omega, by omega, ?_⟩
              rw [hz3, h]; decide
      have HQ := Lib.hid hjq
      clear hs x1 hz1 hz2 hz3 hgo hjq HV r1 r2 r3
      rcases hc with g1 | ⟨g1, g2⟩ | ⟨g1, g2, g3⟩
      all_goals
        go_wp2_with fail
        refine (B1.out _ (H1.out.ext HE.out)).mono ?_
        rintro x w1 ⟨rfl, rfl⟩
        go_wp2_with fail
        refine (B2.out _ (H2.out.ext HE.out)).mono ?_
        rintro x w2 ⟨rfl, rfl⟩
        go_wp2_with (refine wpList_append_src rfl (.tmp 34) (.tmp 37) 76 rfl w.heap.size 5 _ 1 1 Try.underlying76 info_u8 rfl (by decide) v j (brw out) rfl (ownsRow_ext HO.out (Ext.alloc (Ext.refl _) _)) ⟨_, 0, none⟩ 1 1 (brw [d]) rfl rfl ?c1 ?c2 ?c3 (by decide) ?c5 ?_)
        case c1 => exact news_at w2 (brw [d]) 5
        case c2 => exact brw_one [d]
        case c3 => omega
        case c5 => exact Nat.le_trans HZ.out (by simp)
        intro v' w' ho' hg' _
        have hE' : Ext w w' := Ext.grown (HE.out.alloc _) hg' (fun k hk => (HO.out.lt _ hk).1)
        have HE' := Lib.hid hE'
        have HO' := Lib.hid ho'
        clear ho' hg' hE'
        go_wp2_with fail
        go_roundw
        case rel => exact ⟨j + 1, e, out ++ [d], v', by have := HQ.out; omega, rfl, congrArg (Value.int .u8) x3, by trivial, by simp [HL.out], by have := HO'.out; rw [← brw_append] at this; exact this, HS, HE'.out⟩
        case measure => have := HQ.out; simp [intOf]; omega
    · have hcb : cb = false := by
        rcases cb with _ | _
        · rfl
        · exact absurd (Or.inr (Or.inr rfl)) hgo
      have g1 : ¬ (j : Int) < n := fun h => hgo (Or.inl (by omega))
      have g2 : ¬ (j : Int) < k := fun h => hgo (Or.inr (Or.inl (by omega)))
      subst hcb
      have hd := more_done (by have := L1.out; omega : l.length ≤ j) (by have := L2.out; omega : m.length ≤ j) HV.out
      have HD := Lib.hid hd
      have hle : out.length ≤ max l.length m.length + 1 := by rw [HL.out, L1.out, L2.out]; exact hj
      have HLE := Lib.hid hle
      have hb0 : bN false = 0 := rfl
      rw [hb0]
      clear hd HV hgo hle
      go_wp2_with fail
      go_ret
      refine ⟨_, out, rfl, ?_, HD.out, HLE.out, HE.out⟩
      rw [HL.out]; exact HO.out
end Go.Proofs.Ytibhfclkdbmmoaa

/- Proof text: differences of rows of bits (rastrumref02). By an AI agent. No condition beyond what each theorem states. -/
set_option linter.unusedVariables false
set_option linter.unusedSimpArgs false
namespace Go.Proofs.Ytibhfclkdbmmoaa
open Go.RowKit
/-- Two bits taken away. -/
theorem three_less (a b c : Bool) : ∃ d e : Bool, a.toNat + 2 * e.toNat = d.toNat + b.toNat + c.toNat ∧ (2 + bN a - bN b - bN c).tmod 2 = bN d ∧ (1 - (2 + bN a - bN b - bN c).tdiv 2 % 256) % 256 = bN e ∧ (1 - (2 + bN a - bN b - bN c).tdiv 2) % 256 = bN e ∧ (2 + bN a - bN b - bN c) % 2 = bN d := by
  cases a <;> cases b <;> cases c
  · exact ⟨false, false, by decide, by decide, by decide, by decide, by decide⟩
  · exact ⟨true, true, by decide, by decide, by decide, by decide, by decide⟩
  · exact ⟨true, true, by decide, by decide, by decide, by decide, by decide⟩
  · exact ⟨false, true, by decide, by decide, by decide, by decide, by decide⟩
  · exact ⟨true, false, by decide, by decide, by decide, by decide, by decide⟩
  · exact ⟨false, false, by decide, by decide, by decide, by decide, by decide⟩
  · exact ⟨false, false, by decide, by decide, by decide, by decide, by decide⟩
  · exact ⟨true, true, by decide, by decide, by decide, by decide, by decide⟩
theorem bit_ext (l : List Bool) (a : Option Addr) (n cap j : Nat) (z : Int) (w : World) (h : Rd w 1 a n cap (brw l)) (hz : bN (bt l j) = z) : Calls Try.prog 67 #[.slice a n cap, .int .i64 j] w fun x w' => x = .returned (.int .u8 z) ∧ Ext w w' :=
  (bit_any l a n cap j z w h hz).mono fun _ _ ⟨h1, h2⟩ => ⟨h1, h2 ▸ Ext.refl _⟩
def LessP (l m : List Bool) (w : World) (x : Ending) (w' : World) : Prop :=
  ∃ v out, x = .returned v ∧ w'.ownsRow w.heap.size 5 1 v out.length (brw out) ∧ bval out + bval m = bval l ∧ out.length = l.length ∧ Ext w w'
set_option maxRecDepth 10000 in
set_option maxHeartbeats 2000000 in
theorem nless_any (l m : List Bool) (a c : Option Addr) (n ca k cc : Nat) (w : World) (h1 : Rd w 1 a n ca (brw l)) (h2 : Rd w 1 c k cc (brw m)) (hn : n ≤ 1000) (hv : bval m ≤ bval l) :
    Calls Try.prog 61 #[.slice a n ca, .slice c k cc] w (LessP l m w) := by
  have l1 := rd_len h1
  have H1 := Lib.hid h1; have H2 := Lib.hid h2
  have L1 := Lib.hid l1
  have HVV := Lib.hid hv
  have n1 : (n : Int) ≤ 1000 := by omega
  clear h1 h2 l1 hn hv
  go_enter Try.func61, Try.ntmps61
  go_wp2_with fail
  go_loopw [5, 6, 7, 8] (fun ov cv iv _ wr => ∃ (j : Nat) (cb : Bool) (out : List Bool) (v : Value), j ≤ n ∧ v = ov ∧ cv = .int .u8 (bN cb) ∧ iv = .int .i64 j ∧ out.length = j ∧ wr.ownsRow w.heap.size 5 1 v j (brw out) ∧ Hid (low l j + 2 ^ j * cb.toNat = bval out + low m j) ∧ Ext w wr) (fun _ _ iv _ _ => n - (intOf iv).toNat)
  case atStart => exact ⟨0, false, [], _, Nat.zero_le _, rfl, rfl, rfl, rfl, World.ownsRow_nil _ _ _ _, Lib.hid (by simp [bval, low_zero]), Ext.refl _⟩
  case round =>
    obtain ⟨j, cb, out, v, hj, rfl, rfl, rfl, hl, ho, HV, hE⟩ := hrel
    have HO := Lib.hid ho; have HL := Lib.hid hl; have HE := Lib.hid hE
    have hj1 : (j : Int) ≤ 1000 := by omega
    have hz := hE.size
    have HZ := Lib.hid hz
    clear ho hl hE hz
    by_cases hgo : j < n
    · obtain ⟨b, off, rfl, -, -⟩ := H1.out.at_ (by omega)
      obtain ⟨x, hx⟩ : ∃ x, l[j]? = some x := ⟨_, List.getElem?_eq_getElem (by have := L1.out; omega)⟩
      have hbx : bt l j = x := bt_of hx
      have c0 := bit_at (H1.out.ext HE.out) hx
      obtain ⟨d, e, x1, x2, x3, x4, x5⟩ := three_less (bt l j) (bt m j) cb
      obtain ⟨z1, hz1⟩ : ∃ z, z = bN (bt l j) := ⟨_, rfl⟩
      obtain ⟨z2, hz2⟩ : ∃ z, z = bN (bt m j) := ⟨_, rfl⟩
      obtain ⟨z3, hz3⟩ : ∃ z, z = bN cb := ⟨_, rfl⟩
      have r1 := bN_range (bt l j)
      have r2 := bN_range (bt m j)
      have r3 := bN_range cb
      have B2 := Lib.hid (fun W hW => bit_ext m c k cc j z2 W hW hz2.symm)
      rw [← hbx] at c0
      rw [← hz1, ← hz2, ← hz3] at x2 x3 x4 x5
      rw [← hz1] at r1 c0
      rw [← hz2] at r2
      rw [← hz3] at r3 ⊢
      have f1 : IntKind.u8.wrap (2 + z1) = 2 + z1 := u8_small (by omega) (by omega)
      have f2 : IntKind.u8.wrap (2 + z1 - z2) = 2 + z1 - z2 := u8_small (by omega) (by omega)
      have f3 : IntKind.u8.wrap (2 + z1 - z2 - z3) = 2 + z1 - z2 - z3 := u8_small (by omega) (by omega)
      have hs : low l (j + 1) + 2 ^ (j + 1) * e.toNat = bval (out ++ [d]) + low m (j + 1) := less_step HL.out HV.out x1
      have HS := Lib.hid hs
      have hgi : (j : Int) < n := by omega
      have HQ := Lib.hid hgo
      clear hs x1 hz1 hz2 hz3 hgo HV r1 r2 r3 hx hbx
      go_upto_region 6 with fail
      refine wp_region_later (by kernel_rfl) (by kernel_rfl) ?_
      repeat (go_big_quiet_step ((go_at_call 67; with_reducible exact Calls.later _ (B2.out _ (H2.out.ext (HE.out.later _))))))
      refine wpQuiet_nil ?_
      intro y
      have HE2 := Lib.hid (HE.out.later y)
      have HO2 := Lib.hid (ownsRow_ext HO.out y.ext)
      have HZ2 := Lib.hid (Nat.le_trans HZ.out y.le)
      go_wp2_with (refine wpList_append_src rfl (.tmp 26) (.tmp 29) 76 rfl w.heap.size 5 _ 1 1 Try.underlying76 info_u8 rfl (by decide) v j (brw out) rfl (ownsRow_ext HO2.out (Ext.alloc (Ext.refl _) _)) ⟨_, 0, none⟩ 1 1 (brw [d]) rfl rfl ?c1 ?c2 ?c3 (by decide) ?c5 ?_)
      case c1 => exact news_at y.w (brw [d]) 5
      case c2 => exact brw_one [d]
      case c3 => omega
      case c5 => exact Nat.le_trans HZ2.out (by simp)
      intro v' w' ho' hg' _
      have hE' : Ext w w' := Ext.grown (HE2.out.alloc _) hg' (fun k hk => (HO2.out.lt _ hk).1)
      have HE' := Lib.hid hE'
      have HO' := Lib.hid ho'
      clear ho' hg' hE'
      go_wp2_with fail
      go_roundw
      case rel => exact ⟨j + 1, e, out ++ [d], v', by have := HQ.out; omega, rfl, by first | exact congrArg (Value.int .u8) x3 | exact congrArg (Value.int .u8) x4, by trivial, by simp [HL.out], by have := HO'.out; rw [← brw_append] at this; exact this, HS, HE'.out⟩
      case measure => have := HQ.out; simp [intOf]; omega
    · have g1 : ¬ (j : Int) < n := by omega
      have hd := less_done (by have := L1.out; omega : l.length = j) HL.out HVV.out HV.out
      have HD := Lib.hid hd
      have hle : out.length = l.length := by rw [HL.out, L1.out]; omega
      have HLE := Lib.hid hle
      clear hd HV hgo hle
      go_wp2_with fail
      go_ret
      refine ⟨_, out, rfl, ?_, HD.out, HLE.out, HE.out⟩
      rw [HL.out]; exact HO.out
end Go.Proofs.Ytibhfclkdbmmoaa

/- Proof text: numbers without noughts above (rastrumref02.trim). By an AI agent. No condition beyond what each theorem states. -/
set_option linter.unusedVariables false
set_option linter.unusedSimpArgs false
namespace Go.Proofs.Ytibhfclkdbmmoaa
open Go.RowKit
theorem run_to {P : Program} {t e : TypeId} {size : Nat} (hu : P.underlying t = some (.slice e)) (hs : (P.info? e).map (·.size) = some size) (a : Option Addr) (n cap : Nat) (H : Int) (hi : Nat) (hH : H = hi) (h1 : hi ≤ cap) (w : World) :
    (Instr.slice t (.slice a n cap) none (some (.int .i64 H)) none).run P w = .ok (.slice (if cap = 0 then a else a.map (·.add (0 * size))) (hi - 0) (cap - 0)) w := by
  subst hH
  obtain ⟨i, hi1, hi2⟩ := Option.map_eq_some_iff.1 hs
  simp [Instr.slice, run_underlying hu, Instr.sliceBounds, run_sliceBound, h1, sizeOf, typeInfo, hi1, hi2]
theorem to_ex {P : Program} {t e : TypeId} {size : Nat} (hu : P.underlying t = some (.slice e)) (hs : (P.info? e).map (·.size) = some size) {W : World} {a : Option Addr} {n cap : Nat} {xs : List Value}
    (h : Rd W size a n cap xs) (H : Int) (hi : Nat) (hH : H = hi) (h1 : hi ≤ n) :
    ∃ a' c, (∀ w, (Instr.slice t (.slice a n cap) none (some (.int .i64 H)) none).run P w = .ok (.slice a' hi c) w) ∧ (∀ W', Rd W' size a n cap xs → Rd W' size a' hi c (xs.take (hi * size))) := by
  refine ⟨if cap = 0 then a else a.map (·.add (0 * size)), cap, fun w => run_to hu hs a n cap H hi hH (Nat.le_trans h1 h.le) w, fun W' h' => ?_⟩
  have h2 := part_rd h' 0 hi cap (Nat.zero_le _) h1 (Nat.le_trans h1 h.le) (Nat.le_refl _)
  rw [Nat.zero_mul, List.drop_zero, Nat.sub_zero] at h2
  rw [Nat.zero_mul]
  exact h2
theorem ownsRow_same {w W : World} {base : Nat} {e : TypeId} {size : Nat} {v : Value} {n : Nat} {xs : List Value} (h : w.ownsRow base e size v n xs) (hk : ∀ k, base ≤ k → W.heap[k]? = w.heap[k]?) : W.ownsRow base e size v n xs := by
  refine ⟨h.1, ?_⟩
  rcases h.2 with h2 | ⟨g, cap, cur, h2, hb, hg, h3⟩
  · exact .inl h2
  · exact .inr ⟨g, cap, cur, h2, hb, (hk g hb).trans hg, h3⟩
def lenV : Value → Nat
  | .slice _ n _ => n
  | _ => 0
/-- A row stands in all worlds that are alike from a block on. -/
def RdF (w : World) (base : Nat) (a : Option Addr) (n c : Nat) (xs : List Value) : Prop := ∀ W : World, (∀ k, base ≤ k → W.heap[k]? = w.heap[k]?) → Rd W 1 a n c xs
theorem RdF.rd {w : World} {base : Nat} {a : Option Addr} {n c : Nat} {xs : List Value} (h : RdF w base a n c xs) : Rd w 1 a n c xs := h w fun _ _ => rfl
theorem set2_far (w : World) {g base : Nat} (hg : g < base) (u v : Value) : ∀ k, base ≤ k → ((w.setCell ⟨g, 0, none⟩ u).setCell ⟨g, 1, none⟩ v).heap[k]? = w.heap[k]? := fun k hk =>
  (Below.heap_setCell _ ⟨g, 1, none⟩ v k (by show k ≠ g; omega)).trans (Below.heap_setCell _ ⟨g, 0, none⟩ u k (by show k ≠ g; omega))
theorem RdF.set2 {w : World} {b b' g : Nat} {a : Option Addr} {n c : Nat} {xs : List Value} (h : RdF w b a n c xs) (hg : g < b) (hb : b' ≤ b) (u v : Value) : RdF ((w.setCell ⟨g, 0, none⟩ u).setCell ⟨g, 1, none⟩ v) b' a n c xs :=
  fun W hW => h W fun k hk => (hW k (Nat.le_trans hb hk)).trans (set2_far w hg u v k hk)
/-- A number as the document has it: is it below 0, its bits. -/
def sg (m : Bool) (k : Nat) : Int := if m then -(k : Int) else k
def NumV (w : World) (v : Value) (z : Int) : Prop :=
  ∃ (m : Bool) (a : Option Addr) (n c : Nat) (bs : List Bool), v = .agg #[.bool m, .slice a n c] ∧ Rd w 1 a n c (brw bs) ∧ Canon bs ∧ (m = true → bs ≠ []) ∧ z = sg m (bval bs)
theorem NumV.ext {w w' : World} {v : Value} {z : Int} (h : NumV w v z) (e : Ext w w') : NumV w' v z := by
  obtain ⟨m, a, n, c, bs, h1, h2, h3⟩ := h
  exact ⟨m, a, n, c, bs, h1, h2.ext e, h3⟩
/-- The same, where what lies below a block may be written. -/
def NumF (w : World) (base : Nat) (v : Value) (z : Int) : Prop :=
  ∃ (m : Bool) (a : Option Addr) (n c : Nat) (bs : List Bool), v = .agg #[.bool m, .slice a n c] ∧ RdF w base a n c (brw bs) ∧ Canon bs ∧ (m = true → bs ≠ []) ∧ z = sg m (bval bs)
theorem NumF.num {w : World} {base : Nat} {v : Value} {z : Int} (h : NumF w base v z) : NumV w v z := by
  obtain ⟨m, a, n, c, bs, h1, h2, h3⟩ := h
  exact ⟨m, a, n, c, bs, h1, h2.rd, h3⟩
def NumP (z : Int) (w : World) (x : Ending) (w' : World) : Prop := ∃ v, x = .returned v ∧ NumF w' w.heap.size v z ∧ Ext w w'
theorem Blk.grown2 {w w' : World} {g : Nat} {t : TypeId} {cs : Array Value} {row : Option Nat} (h : Blk w g t cs) (hg : w.grownBy w' row) (hne : row ≠ some g) : Blk w' g t cs :=
  (hg.block g h.lt (fun e => hne e.symm)).trans h
theorem num2 {w : World} {g : Nat} {t : TypeId} {u v : Value} (h : Blk w g t #[u, v]) : w.cell? ⟨g, 0, none⟩ = some u ∧ w.cell? ⟨g, 1, none⟩ = some v ∧ w.frozen? ⟨g, 0, none⟩ = false ∧ w.frozen? ⟨g, 1, none⟩ = false :=
  ⟨h.cell 0, h.cell 1, h.frozen 0, h.frozen 1⟩
theorem set2_same {w : World} {g : Nat} {t : TypeId} {u v : Value} (h : Blk w g t #[u, v]) : (∀ x, (w.setCell ⟨g, 0, none⟩ x).cell? ⟨g, 0, none⟩ = some x) ∧ (∀ x y, ((w.setCell ⟨g, 0, none⟩ x).setCell ⟨g, 1, none⟩ y).cell? ⟨g, 1, none⟩ = some y) :=
  ⟨fun x => (h.set_ 0 x).cell 0, fun x y => ((h.set_ 0 x).set_ 1 y).cell 1⟩
set_option maxRecDepth 10000 in
set_option maxHeartbeats 2000000 in
theorem ntrim_any (m : Bool) (l : List Bool) (a : Option Addr) (n ca : Nat) (w : World) (h1 : Rd w 1 a n ca (brw l)) (hn : n ≤ 1000) :
    Calls Try.prog 60 #[.agg #[.bool m, .slice a n ca]] w (NumP (sg m (bval l)) w) := by
  have l1 := rd_len h1
  have H1 := Lib.hid h1
  have L1 := Lib.hid l1
  have n1 : (n : Int) ≤ 1000 := by omega
  have N1 := Lib.hid hn
  clear h1 l1 hn
  go_enter Try.func60, Try.ntmps60
  go_wp2_with (refine wpList_append_rd rfl (.tmp 4) (.tmp 6) 76 rfl (w.heap.size + 2) 5 _ 1 1 Try.underlying76 info_u8 rfl (by decide) _ 0 [] rfl ?c0 a n ca (brw l) rfl ?c1 (brw_one l) ?c3 (by decide) ?c5 ?_)
  case c0 =>
    have := World.ownsRow_lit (base := w.heap.size + 2) (e := 5) (size := 1) ((w.alloc (.cells #[.bool m, .slice a n ca] 78)).alloc (.cells #[.bool false, .slice none 0 0] 78)) #[] 0 (by simp) (by decide) rfl
    rw [World.size_alloc, World.size_alloc] at this
    exact this
  case c1 => exact H1.out.ext (((Ext.refl w).alloc _).alloc _ |>.alloc _)
  case c3 => have := N1.out; omega
  case c5 => simp
  intro v' w' ho' hg'
  have b1 : Blk w' w.heap.size 78 #[.bool m, .slice a n ca] := Blk.grown2 (((Blk.new w _ _).alloc _).alloc _) hg' (by simp [Value.ownBlock]; omega)
  have b2 : Blk w' (w.heap.size + 1) 78 #[.bool false, .slice none 0 0] := Blk.grown2 ((Blk.new' _ _ _ (by simp)).alloc _) hg' (by simp [Value.ownBlock])
  have hE' : Ext w w' := Ext.grown (((Ext.refl w).alloc _).alloc _ |>.alloc _) hg' (fun k hk => by simp [Value.ownBlock] at hk; omega)
  have HE' := Lib.hid hE'
  obtain ⟨a', c', rfl, hr⟩ := ownsRow_rd ho'
  have hrf : RdF w' (w.heap.size + 2) a' n c' (brw l) := fun W hW => by
    obtain ⟨a2, c2, he, hr2⟩ := ownsRow_rd (ownsRow_same ho' hW)
    cases he
    exact hr2
  have HR := Lib.hid hrf
  have B1 := Lib.hid b1
  have B2 := Lib.hid b2
  have HZ := Lib.hid hE'.size
  clear ho' hg' hE' hr hrf b1 b2
  go_wp2_with fail
  go_loopw [3] (fun v wr => ∃ (j : Nat) (a2 : Option Addr) (c2 : Nat), j ≤ n ∧ v = .slice a2 j c2 ∧ Hid (RdF w' (w.heap.size + 2) a2 j c2 (brw (l.take j))) ∧ Hid (low l j = bval l) ∧ wr = w') (fun v _ => lenV v)
  case atStart => exact ⟨n, a', c', Nat.le_refl _, rfl, Lib.hid (by rw [List.take_of_length_le (by rw [L1.out]; exact Nat.le_refl _)]; exact HR.out), Lib.hid (low_all (by rw [L1.out]; exact Nat.le_refl _)), rfl⟩
  case round =>
    obtain ⟨j, a2, c2, hj, rfl, HR2, HL2, rfl⟩ := hrel
    rcases j with _ | i
    · obtain ⟨q0, q1, -, -⟩ := num2 B1.out
      obtain ⟨p0, p1, f0, f1⟩ := num2 B2.out
      obtain ⟨s0, s1⟩ := set2_same B2.out
      go_wp2_with fail
      all_goals
        try simp only [Exit.inBlock, Exit.then]
        refine bodyPost_ret (by simp [results, Try.results60, go_sem, s0, s1]; try rfl) rfl ?_
        have E := HE'.out
        exact ⟨_, rfl, ⟨false, a2, 0, c2, [], rfl, HR2.out.set2 (Nat.lt_succ_self _) (Nat.le_add_right _ 2) _ _, canon_nil, fun h => by simp at h, by rw [← HL2.out, low_zero]; cases m <;> rfl⟩, by (repeat (first | with_reducible exact Ext.refl _ | with_reducible assumption | with_reducible refine Ext.alloc ?_ _ | with_reducible refine Ext.drew ?_ | with_reducible refine Ext.drewN ?_ _ | with_reducible refine Ext.later ?_ _ | (with_reducible refine Ext.setCell ?_ _ ?hp; case hp => first | (simp; done) | (simp; omega) | omega)))⟩
    · obtain ⟨x, hx⟩ : ∃ x, (l.take (i + 1))[i]? = some x := ⟨_, List.getElem?_eq_getElem (by rw [List.length_take, L1.out]; omega)⟩
      have hbx : bt l i = x := bt_of (by rw [← hx, List.getElem?_take, if_pos (by omega)])
      obtain ⟨b, off, rfl, -, -⟩ := HR2.out.rd.at_ (by omega)
      have c0 := bit_at HR2.out.rd hx
      have hj1 : (i : Int) + 1 ≤ n := by omega
      have e1 : ((i + 1 : Nat) : Int) - 1 = i := by omega
      rcases bN_cases x with ⟨x1, y1⟩ | ⟨x1, y1⟩
      · rw [y1] at c0
        have hcn : Canon (l.take (i + 1)) := fun k hk => by
          have : k = i := by rw [List.length_take, L1.out] at hk; omega
          subst this
          exact (bt_of hx).trans x1
        have HC := Lib.hid hcn
        obtain ⟨q0, q1, -, -⟩ := num2 B1.out
        obtain ⟨p0, p1, f0, f1⟩ := num2 B2.out
        obtain ⟨s0, s1⟩ := set2_same B2.out
        have hne : l.take (i + 1) ≠ [] := fun h0 => by rw [h0] at hx; simp at hx
        have HNE := Lib.hid hne
        clear hcn x1 y1 hbx hx hj hne
        go_wp2_with fail
        all_goals
          try simp only [Exit.inBlock, Exit.then]
          refine bodyPost_ret (by simp [results, Try.results60, go_sem, s0, s1]; try rfl) rfl ?_
          have E := HE'.out
          refine ⟨_, rfl, ⟨_, some ⟨b, off, none⟩, i + 1, c2, l.take (i + 1), rfl, HR2.out.set2 (Nat.lt_succ_self _) (Nat.le_add_right _ 2) _ _, HC.out, fun _ => HNE.out, ?_⟩, by (repeat (first | with_reducible exact Ext.refl _ | with_reducible assumption | with_reducible refine Ext.alloc ?_ _ | with_reducible refine Ext.drew ?_ | with_reducible refine Ext.drewN ?_ _ | with_reducible refine Ext.later ?_ _ | (with_reducible refine Ext.setCell ?_ _ ?hp; case hp => first | (simp; done) | (simp; omega) | omega)))⟩
          rw [← HL2.out]; first | (rename_i hm; rw [hm]; rfl) | (rename_i hm; rw [eq_false_of_ne_true hm]; rfl)
      · rw [y1] at c0
        obtain ⟨a3, c3, hp, hr3⟩ := to_ex (P := Try.prog) Try.underlying76 size_u8 HR2.out.rd (i : Int) i rfl (by omega)
        have HR3 : Hid (RdF wr (w.heap.size + 2) a3 i c3 (brw (l.take i))) := Lib.hid (fun W hW => by
          have := hr3 W (HR2.out W hW)
          rw [Nat.mul_one, ← brw_take, List.take_take, Nat.min_eq_left (by omega)] at this
          exact this)
        have HL3 : Hid (low l i = bval l) := Lib.hid (by rw [← HL2.out]; exact (trim_step (hbx.trans x1)).symm)
        clear x1 y1 hbx hx hj hr3
        go_wp2_with fail
        go_roundw
        case rel => exact ⟨i, a3, c3, by omega, rfl, HR3, HL3, trivial⟩
        case measure => simp [lenV]
end Go.Proofs.Ytibhfclkdbmmoaa
