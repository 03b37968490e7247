/- Proof text: the plain law of where a way meets a side. By an AI agent. No condition beyond what each theorem states. -/
import Derived.Test.YtplljnfjkkloeaaGreatDoorQV
import Derived.RegionTactic
import Derived.Deep.CutRange
import Derived.Deep.LoopGhost
import Derived.Deep.CutBlock
import Derived.Deep.RegionHeld3
set_option linter.unusedVariables false
set_option linter.unusedSimpArgs false
set_option maxHeartbeats 4000000
namespace Go.Proofs.YtplljnfjkkloeaaGreatDoor
open Go.RowKit
theorem mid_in {p q n d m k : Int} (hn : 0 ≤ n) (hnd : n ≤ d) (hd : 1 ≤ d) (p1 : m ≤ p) (p2 : p ≤ k) (q1 : m ≤ q) (q2 : q ≤ k) : m ≤ mid p q n d ∧ mid p q n d ≤ k := by
 have := mid_between (p := p) (q := q) hn hnd hd
 omega
theorem part_rest (X d : Int) (hd : 1 ≤ d) : ∃ f r, X / d = f ∧ X = f * d + r ∧ 0 ≤ r ∧ r < d :=
 ⟨X / d, X % d, rfl, by rw [Int.mul_comm]; exact (Int.mul_ediv_add_emod X d).symm, Int.emod_nonneg _ (by omega), Int.emod_lt_of_pos _ (by omega)⟩
theorem two_floor {A B d p : Int} (hd : 1 ≤ d) (h : A + B = -d) : A * p / d + B * p / d = -p ∨ A * p / d + B * p / d = -p - 1 := by
 obtain ⟨f, r, e1, e2, r0, r1⟩ := part_rest (A * p) d hd
 obtain ⟨g, s, e3, e4, s0, s1⟩ := part_rest (B * p) d hd
 rw [e1, e3]
 have e5 : A * p + B * p = -(d * p) := by rw [← Int.add_mul, h, Int.neg_mul]
 have e6 : (f + g + p) * d + (r + s) = 0 := by
  rw [Int.add_mul, Int.add_mul, Int.mul_comm p d]; omega
 generalize hK : f + g + p = K at e6
 have hK0 : K = 0 ∨ K = -1 := by
  rcases Int.lt_or_le K (-1) with h1 | h1
  ·have := Int.mul_le_mul_of_nonneg_right (show K ≤ -2 by omega) (show 0 ≤ d by omega); omega
  ·rcases Int.lt_or_le 0 K with h2 | h2
   ·have := Int.mul_le_mul_of_nonneg_right (show 1 ≤ K by omega) (show 0 ≤ d by omega); omega
   ·omega
 omega
theorem minus_floor {A B d p : Int} (hd : 1 ≤ d) (h : A - B = -d) : A * p / d - B * p / d = -p := by
 have e : A * p = B * p + (-p) * d := by
  have : A = B - d := by omega
  rw [this, Int.sub_mul, Int.neg_mul, Int.mul_comm p d]; omega
 rw [e, Int.add_mul_ediv_right _ _ (by omega)]; omega
theorem whole_floor {A d p : Int} (hd : 1 ≤ d) (h : A = -d) : A * p / d = -p := by
 subst h
 rw [Int.neg_mul, ← Int.mul_neg, Int.mul_comm, Int.mul_ediv_cancel _ (by omega)]
def slackOf (s : Sd) : Int := max s.p0 (0 - s.p0) + max s.p1 (0 - s.p1) + max s.p2 (0 - s.p2) + max s.p3 (0 - s.p3)
theorem coef_rest (P r d : Int) (r0 : 0 ≤ r) (r1 : r < d) : P * r ≤ max P (0 - P) * d ∧ -(max P (0 - P) * d) ≤ P * r := by
 rcases Int.le_total 0 P with h | h
 ·rw [show max P (0 - P) = P by omega]
  have h1 := Int.mul_le_mul_of_nonneg_left (show r ≤ d by omega) h
  have h2 := Int.mul_nonneg h r0
  have h3 := Int.mul_nonneg h (show 0 ≤ d by omega)
  omega
 ·rw [show max P (0 - P) = 0 - P by omega, Int.sub_mul]
  have h1 := Int.mul_le_mul_of_nonneg_left (show r ≤ d by omega) (show 0 ≤ -P by omega)
  have h2 := Int.mul_nonneg (show 0 ≤ -P by omega) r0
  have h3 := Int.mul_nonneg (show 0 ≤ -P by omega) (show 0 ≤ d by omega)
  rw [Int.neg_mul, Int.neg_mul] at h1
  rw [Int.neg_mul] at h2 h3
  omega
theorem four_floor {P0 P1 P2 P3 A0 A1 A2 A3 a0 a1 a2 a3 p d : Int} (hd : 1 ≤ d) (hp : P0 * a0 + P1 * a1 + P2 * a2 + P3 * a3 = p) (hq : P0 * A0 + P1 * A1 + P2 * A2 + P3 * A3 = -d) :
  let x := P0 * (a0 + A0 * p / d) + P1 * (a1 + A1 * p / d) + P2 * (a2 + A2 * p / d) + P3 * (a3 + A3 * p / d)
  let M := max P0 (0 - P0) + max P1 (0 - P1) + max P2 (0 - P2) + max P3 (0 - P3)
  x ≤ M ∧ 0 - M ≤ x := by
 intro x M
 obtain ⟨f0, r0, e0, g0, l0, u0⟩ := part_rest (A0 * p) d hd
 obtain ⟨f1, r1, e1, g1, l1, u1⟩ := part_rest (A1 * p) d hd
 obtain ⟨f2, r2, e2, g2, l2, u2⟩ := part_rest (A2 * p) d hd
 obtain ⟨f3, r3, e3, g3, l3, u3⟩ := part_rest (A3 * p) d hd
 have hx : x = P0 * (a0 + f0) + P1 * (a1 + f1) + P2 * (a2 + f2) + P3 * (a3 + f3) := by
  show P0 * (a0 + A0 * p / d) + P1 * (a1 + A1 * p / d) + P2 * (a2 + A2 * p / d) + P3 * (a3 + A3 * p / d) = _
  rw [e0, e1, e2, e3]
 have key : ∀ P A f r : Int, A * p = f * d + r → P * f * d = P * A * p - P * r := by
  intro P A f r h
  rw [Int.mul_assoc P A p, h, Int.mul_add, Int.mul_assoc]; omega
 have k0 := key P0 A0 f0 r0 g0
 have k1 := key P1 A1 f1 r1 g1
 have k2 := key P2 A2 f2 r2 g2
 have k3 := key P3 A3 f3 r3 g3
 have hs : P0 * A0 * p + P1 * A1 * p + P2 * A2 * p + P3 * A3 * p = -(d * p) := by
  rw [← Int.add_mul, ← Int.add_mul, ← Int.add_mul, hq, Int.neg_mul]
 have hxd : x * d = -(P0 * r0 + P1 * r1 + P2 * r2 + P3 * r3) := by
  have e : x = p + (P0 * f0 + P1 * f1 + P2 * f2 + P3 * f3) := by
   rw [hx, Int.mul_add, Int.mul_add, Int.mul_add, Int.mul_add, ← hp]; omega
  rw [e, Int.add_mul, Int.add_mul, Int.add_mul, Int.add_mul, k0, k1, k2, k3, Int.mul_comm p d]
  omega
 have b0 := coef_rest P0 r0 d l0 u0
 have b1 := coef_rest P1 r1 d l1 u1
 have b2 := coef_rest P2 r2 d l2 u2
 have b3 := coef_rest P3 r3 d l3 u3
 have hM : M * d = max P0 (0 - P0) * d + max P1 (0 - P1) * d + max P2 (0 - P2) * d + max P3 (0 - P3) * d := by
  show (max P0 (0 - P0) + max P1 (0 - P1) + max P2 (0 - P2) + max P3 (0 - P3)) * d = _
  rw [Int.add_mul, Int.add_mul, Int.add_mul]
 have c1 : x * d ≤ M * d := by omega
 have c2 : (0 - M) * d ≤ x * d := by rw [Int.sub_mul, Int.zero_mul]; omega
 exact ⟨Int.le_of_mul_le_mul_right c1 (by omega), Int.le_of_mul_le_mul_right c2 (by omega)⟩
theorem meets (s : Sd) (a b : Vx) (hp : 0 ≤ dist s a) (hq : dist s b < 0) (hk : 0 ≤ s.k ∧ s.k ≤ 3) :
  let x := dist s (at_ a b (dist s a) (dist s a - dist s b))
  (s.k = 0 → x = 0) ∧ (s.k = 1 → x = 0 ∨ x = -1) ∧ (s.k = 2 → x = 0) ∧ (s.k = 3 → x ≤ slackOf s ∧ 0 - slackOf s ≤ x) := by
 intro x
 have hd : 1 ≤ dist s a - dist s b := by omega
 refine ⟨fun h => ?_, fun h => ?_, fun h => ?_, fun h => ?_⟩
 ·have e : ∀ v : Vx, dist s v = v.w - 1 := fun v => by unfold dist; rw [if_pos h]
  have := whole_floor (A := b.w - a.w) (p := dist s a) hd (by rw [e, e]; omega)
  show dist s (at_ a b (dist s a) (dist s a - dist s b)) = 0
  rw [e]
  show a.w + (b.w - a.w) * dist s a / (dist s a - dist s b) - 1 = 0
  rw [this, e]; omega
 ·have e : ∀ v : Vx, dist s v = v.z + v.w := fun v => by unfold dist; rw [if_neg (by omega), if_pos h]
  have := two_floor (A := b.z - a.z) (B := b.w - a.w) (p := dist s a) hd (by rw [e, e]; omega)
  have e2 : x = a.z + (b.z - a.z) * dist s a / (dist s a - dist s b) + (a.w + (b.w - a.w) * dist s a / (dist s a - dist s b)) := e _
  have e3 := e a
  omega
 ·have e : ∀ v : Vx, dist s v = v.w - v.z := fun v => by unfold dist; rw [if_neg (by omega), if_neg (by omega), if_pos h]
  have := minus_floor (A := b.w - a.w) (B := b.z - a.z) (p := dist s a) hd (by rw [e, e]; omega)
  have e2 : x = a.w + (b.w - a.w) * dist s a / (dist s a - dist s b) - (a.z + (b.z - a.z) * dist s a / (dist s a - dist s b)) := e _
  have e3 := e a
  omega
 ·have e : ∀ v : Vx, dist s v = s.p0 * v.x + s.p1 * v.y + s.p2 * v.z + s.p3 * v.w := fun v => by unfold dist; rw [if_neg (by omega), if_neg (by omega), if_neg (by omega)]
  have := four_floor (P0 := s.p0) (P1 := s.p1) (P2 := s.p2) (P3 := s.p3) (A0 := b.x - a.x) (A1 := b.y - a.y) (A2 := b.z - a.z) (A3 := b.w - a.w) (a0 := a.x) (a1 := a.y) (a2 := a.z) (a3 := a.w) hd (e a).symm
   (by rw [e, e, Int.mul_sub, Int.mul_sub, Int.mul_sub, Int.mul_sub]; omega)
  show dist s (at_ a b (dist s a) (dist s a - dist s b)) ≤ slackOf s ∧ 0 - slackOf s ≤ dist s (at_ a b (dist s a) (dist s a - dist s b))
  rw [e (at_ a b (dist s a) (dist s a - dist s b))]
  exact this
end Go.Proofs.YtplljnfjkkloeaaGreatDoor
set_option linter.unusedVariables false
set_option linter.unusedSimpArgs false
namespace Go.Proofs.YtplljnfjkkloeaaGreatDoor
open Go.RowKit
end Go.Proofs.YtplljnfjkkloeaaGreatDoor
set_option linter.unusedVariables false
set_option linter.unusedSimpArgs false
namespace Go.Proofs.YtplljnfjkkloeaaGreatDoor
def less (x y : Int × Int) : Prop := x.1 * y.2 < y.1 * x.2
instance (x y : Int × Int) : Decidable (less x y) := inferInstanceAs (Decidable (_ < _))
def ins (c : Int × Int) : Prop := c.1 < 0 ∧ 0 ≤ c.2
def outs (c : Int × Int) : Prop := 0 ≤ c.1 ∧ c.2 < 0
def gone (c : Int × Int) : Prop := c.1 < 0 ∧ c.2 < 0
instance (c : Int × Int) : Decidable (ins c) := inferInstanceAs (Decidable (_ ∧ _))
instance (c : Int × Int) : Decidable (outs c) := inferInstanceAs (Decidable (_ ∧ _))
instance (c : Int × Int) : Decidable (gone c) := inferInstanceAs (Decidable (_ ∧ _))
def inCut (c : Int × Int) : Int × Int := (-c.1, c.2 - c.1)
def outCut (c : Int × Int) : Int × Int := (c.1, c.1 - c.2)
theorem inCut_pos {c : Int × Int} (h : ins c) : 0 < (inCut c).2 := by
 obtain ⟨h1, h2⟩ := h; simp only [inCut]; omega
theorem outCut_pos {c : Int × Int} (h : outs c) : 0 < (outCut c).2 := by
 obtain ⟨h1, h2⟩ := h; simp only [outCut]; omega
def First (l : List (Int × Int)) (f : Int × Int) : Prop :=
 (f = (0, 0) ∧ ∀ c ∈ l, ¬ ins c) ∨ (∃ c ∈ l, ins c ∧ f = inCut c ∧ ∀ c' ∈ l, ins c' → ¬ less f (inCut c'))
def Last (l : List (Int × Int)) (g : Int × Int) : Prop :=
 (g = (0, 0) ∧ ∀ c ∈ l, ¬ outs c) ∨ (∃ c ∈ l, outs c ∧ g = outCut c ∧ ∀ c' ∈ l, outs c' → ¬ less (outCut c') g)
def Bad (l : List (Int × Int)) : Prop :=
 (∃ c ∈ l, gone c) ∨ ∃ c ∈ l, ∃ c' ∈ l, ins c ∧ outs c' ∧ less (outCut c') (inCut c)
theorem Bad.mono {l m : List (Int × Int)} (h : Bad l) (hs : ∀ c ∈ l, c ∈ m) : Bad m := by
 rcases h with ⟨c, hc, h⟩ | ⟨c, hc, c', hc', h⟩
 ·exact .inl ⟨c, hs c hc, h⟩
 ·exact .inr ⟨c, hs c hc, c', hs c' hc', h⟩
theorem First.zero {l : List (Int × Int)} {f : Int × Int} (h : First l f) : f.2 = 0 ∨ 0 < f.2 := by
 rcases h with ⟨rfl, _⟩ | ⟨c, _, h, rfl, _⟩
 ·exact .inl rfl
 ·exact .inr (inCut_pos h)
theorem Last.zero {l : List (Int × Int)} {g : Int × Int} (h : Last l g) : g.2 = 0 ∨ 0 < g.2 := by
 rcases h with ⟨rfl, _⟩ | ⟨c, _, h, rfl, _⟩
 ·exact .inl rfl
 ·exact .inr (outCut_pos h)
theorem First.same {l : List (Int × Int)} {f c : Int × Int} (h : First l f) (hc : ¬ ins c) : First (l ++ [c]) f := by
 rcases h with ⟨rfl, h⟩ | ⟨d, hd, h, rfl, hm⟩
 ·exact .inl ⟨rfl, by simp only [List.mem_append, List.mem_singleton]; rintro x (hx | rfl); exact h x hx; exact hc⟩
 ·exact .inr ⟨d, by simp [hd], h, rfl, by simp only [List.mem_append, List.mem_singleton]; rintro x (hx | rfl) hi; exact hm x hx hi; exact absurd hi hc⟩
theorem Last.same {l : List (Int × Int)} {g c : Int × Int} (h : Last l g) (hc : ¬ outs c) : Last (l ++ [c]) g := by
 rcases h with ⟨rfl, h⟩ | ⟨d, hd, h, rfl, hm⟩
 ·exact .inl ⟨rfl, by simp only [List.mem_append, List.mem_singleton]; rintro x (hx | rfl); exact h x hx; exact hc⟩
 ·exact .inr ⟨d, by simp [hd], h, rfl, by simp only [List.mem_append, List.mem_singleton]; rintro x (hx | rfl) hi; exact hm x hx hi; exact absurd hi hc⟩
def swap (c : Int × Int) : Int × Int := (c.2, c.1)
def rest (f : Int × Int) : Int × Int := (f.2 - f.1, f.2)
theorem ins_swap (c : Int × Int) : ins (swap c) ↔ outs c := by simp only [ins, outs, swap]; omega
theorem outs_swap (c : Int × Int) : outs (swap c) ↔ ins c := by simp only [ins, outs, swap]; omega
theorem gone_swap (c : Int × Int) : gone (swap c) ↔ gone c := by simp only [gone, swap]; omega
theorem inCut_swap (c : Int × Int) : inCut (swap c) = rest (outCut c) := by
 refine Prod.ext ?_ ?_
 ·show -c.2 = c.1 - c.2 - c.1; omega
 ·rfl
theorem outCut_swap (c : Int × Int) : outCut (swap c) = rest (inCut c) := by
 refine Prod.ext ?_ ?_
 ·show c.2 = c.2 - c.1 - -c.1; omega
 ·rfl
theorem less_rest (x y : Int × Int) : less (rest x) (rest y) ↔ less y x := by
 simp only [less, rest, Int.sub_mul, Int.mul_comm x.2 y.2]
 omega
theorem Last.turned {l : List (Int × Int)} {g : Int × Int} (h : Last l g) : First (l.map swap) (rest g) := by
 rcases h with ⟨rfl, h⟩ | ⟨c, hc, hi, rfl, h⟩
 ·refine .inl ⟨rfl, ?_⟩
  simp only [List.mem_map]; rintro _ ⟨c, hc, rfl⟩; rw [ins_swap]; exact h c hc
 ·refine .inr ⟨swap c, List.mem_map_of_mem hc, (ins_swap c).2 hi, (inCut_swap c).symm, ?_⟩
  simp only [List.mem_map]; rintro _ ⟨c', hc', rfl⟩ hi'
  rw [inCut_swap, less_rest]; exact h c' hc' ((ins_swap c').1 hi')
theorem First.turned {l : List (Int × Int)} {f : Int × Int} (h : First l f) : Last (l.map swap) (rest f) := by
 rcases h with ⟨rfl, h⟩ | ⟨c, hc, hi, rfl, h⟩
 ·refine .inl ⟨rfl, ?_⟩
  simp only [List.mem_map]; rintro _ ⟨c, hc, rfl⟩; rw [outs_swap]; exact h c hc
 ·refine .inr ⟨swap c, List.mem_map_of_mem hc, (outs_swap c).2 hi, (outCut_swap c).symm, ?_⟩
  simp only [List.mem_map]; rintro _ ⟨c', hc', rfl⟩ hi'
  rw [outCut_swap, less_rest]; exact h c' hc' ((outs_swap c').1 hi')
theorem Bad.turned {l : List (Int × Int)} (h : Bad l) : Bad (l.map swap) := by
 rcases h with ⟨c, hc, h⟩ | ⟨c, hc, c', hc', h1, h2, h3⟩
 ·exact .inl ⟨swap c, List.mem_map_of_mem hc, (gone_swap c).2 h⟩
 ·refine .inr ⟨swap c', List.mem_map_of_mem hc', swap c, List.mem_map_of_mem hc, (ins_swap c').2 h2, (outs_swap c).2 h1, ?_⟩
  rw [inCut_swap, outCut_swap, less_rest]; exact h3
end Go.Proofs.YtplljnfjkkloeaaGreatDoor
set_option linter.unusedVariables false
set_option linter.unusedSimpArgs false
namespace Go.Proofs.YtplljnfjkkloeaaGreatDoor
open Go.RowKit
def Pt (p q k n d : Int) : Prop :=
 (p < 0 ∧ q < 0 ∧ k = 3 ∧ n = 0 ∧ d = 0) ∨ (p < 0 ∧ 0 ≤ q ∧ k = 1 ∧ n = -p ∧ d = q - p) ∨ (0 ≤ p ∧ q < 0 ∧ k = 2 ∧ n = p ∧ d = p - q) ∨ (0 ≤ p ∧ 0 ≤ q ∧ k = 0 ∧ n = 0 ∧ d = 0)
theorem part_of (s : Sd) (a b : Vx) (w : World) (hs : s.Ok) (ha : a.Fit) (hb : b.Fit) (k n d : Int) (h : Pt (dist s a) (dist s b) k n d) :
  Calls Tryz.prog 127 #[s.v, a.v, b.v] w fun e w' => e = .returned (.tuple #[.int .i64 k, .int .i64 n, .int .i64 d]) ∧ Ext w w' := by
 obtain ⟨g1, g2⟩ := dist_bound hs ha
 obtain ⟨g3, g4⟩ := dist_bound hs hb
 have HS := Lib.hid hs; clear hs
 have HA := Lib.hid ha; clear ha
 have HB := Lib.hid hb; clear hb
 have hd : (decide (dist s a < 0) = true ∧ decide (dist s b < 0) = true ∧ k = 3 ∧ n = 0 ∧ d = 0) ∨ (decide (dist s a < 0) = true ∧ decide (dist s b < 0) = false ∧ k = 1 ∧ n = -dist s a ∧ d = dist s b - dist s a) ∨
   (decide (dist s a < 0) = false ∧ decide (dist s b < 0) = true ∧ k = 2 ∧ n = dist s a ∧ d = dist s a - dist s b) ∨ (decide (dist s a < 0) = false ∧ decide (dist s b < 0) = false ∧ k = 0 ∧ n = 0 ∧ d = 0) := by
  rcases h with ⟨h1, h2, h3⟩ | ⟨h1, h2, h3⟩ | ⟨h1, h2, h3⟩ | ⟨h1, h2, h3⟩
  ·exact .inl ⟨by simpa using h1, by simpa using h2, h3⟩
  ·exact .inr (.inl ⟨by simpa using h1, by simpa using h2, h3⟩)
  ·exact .inr (.inr (.inl ⟨by simpa using h1, by simpa using h2, h3⟩))
  ·exact .inr (.inr (.inr ⟨by simpa using h1, by simpa using h2, h3⟩))
 clear h
 rcases hd with ⟨d1, d2, rfl, rfl, rfl⟩ | ⟨d1, d2, rfl, rfl, rfl⟩ | ⟨d1, d2, rfl, rfl, rfl⟩ | ⟨d1, d2, rfl, rfl, rfl⟩
 all_goals
  go_enter Tryz.func127, Tryz.ntmps127
  go_wp2_with fail
  refine wp_region_later (by kernel_rfl) (by kernel_rfl) ?_
  repeat (go_big_quiet_step ((first | (go_at_call 84; with_reducible exact Calls.later _ (dist_any s a _ HS.out HA.out)) | (go_at_call 84; with_reducible exact Calls.later _ (dist_any s b _ HS.out HB.out)))))
  refine wpQuiet_nil ?_
  intro y
  go_wp2_with fail
  go_ret3
  exact ⟨rfl, by (repeat (first | with_reducible (first | exact eR_ _ | assumption | refine eA_ ?_ _ | refine eD_ ?_ | refine eN_ ?_ _ | refine eL_ ?_ _) | (with_reducible refine eS_ ?_ _ ?hp; case hp => first | (simp; done) | (simp; omega) | omega)))⟩
end Go.Proofs.YtplljnfjkkloeaaGreatDoor
set_option linter.unusedVariables false
set_option linter.unusedSimpArgs false
namespace Go.Proofs.YtplljnfjkkloeaaGreatDoor
open Go.RowKit
@[reducible] def put8 (w : World) (g : Nat) (u : Vx) : World := (((((((w.setCell ⟨g, 0, none⟩ (.int .i64 u.x)).setCell ⟨g, 1, none⟩ (.int .i64 u.y)).setCell ⟨g, 2, none⟩ (.int .i64 u.z)).setCell ⟨g, 3, none⟩ (.int .i64 u.w)).setCell ⟨g, 4, none⟩ (.int .i64 u.c0)).setCell ⟨g, 5, none⟩ (.int .i64 u.c1)).setCell ⟨g, 6, none⟩ (.int .i64 u.c2)).setCell ⟨g, 7, none⟩ (.int .i64 u.c3)
theorem Blk.far8 {w : World} {g g' : Nat} {t : TypeId} {cs : Array Value} (h : Blk w g t cs) (hne : g ≠ g') (u : Vx) : Blk (put8 w g' u) g t cs :=
 (((((((h.far hne _).far hne _).far hne _).far hne _).far hne _).far hne _).far hne _).far hne _
theorem put8_ext {w wr : World} {g : Nat} (h : Ext w wr) (hg : w.heap.size ≤ g) (u : Vx) : Ext w (put8 wr g u) :=
 (((((((h.setCell _ hg).setCell _ hg).setCell _ hg).setCell _ hg).setCell _ hg).setCell _ hg).setCell _ hg).setCell _ hg
theorem both8 {w : World} {g g' : Nat} {t : TypeId} {v v' : Vx} (h : Blk w g t v.row) (h' : Blk w g' t v'.row) (hne : g ≠ g') (u u' : Vx) :
  Blk (put8 (put8 w g u) g' u') g t u.row ∧ Blk (put8 (put8 w g u) g' u') g' t u'.row :=
 ⟨(h.set8 u).far8 hne u', (h'.far8 (Ne.symm hne) u).set8 u'⟩
def cuts (l : List Sd) (a b : Vx) : List (Int × Int) := l.map fun s => (dist s a, dist s b)
@[reducible] def cutR (x : Int × Int) : Array Value := #[.int .i64 x.1, .int .i64 x.2]
def TrimB (a b : Vx) (f g : Int × Int) (w wr : World) : Prop :=
 Blk wr w.heap.size 149 a.row ∧ Blk wr (w.heap.size + 1) 149 b.row ∧ Blk wr (w.heap.size + 1 + 1) 149 V0.row ∧ Blk wr (w.heap.size + 1 + 1 + 1) 149 V0.row ∧
  Blk wr (w.heap.size + 1 + 1 + 1 + 1) 231 (cutR f) ∧ Blk wr (w.heap.size + 1 + 1 + 1 + 1 + 1) 231 (cutR g) ∧ Ext w wr
theorem TrimB.later {a b : Vx} {f g : Int × Int} {w wr : World} (h : TrimB a b f g w wr) (x : Later wr) : TrimB a b f g w x.w := by
 obtain ⟨h1, h2, h3, h4, h5, h6, h7⟩ := h
 exact ⟨h1.later x, h2.later x, h3.later x, h4.later x, h5.later x, h6.later x, h7.later x⟩
theorem TrimB.alloc {a b : Vx} {f g : Int × Int} {w wr : World} (h : TrimB a b f g w wr) (o : Obj) : TrimB a b f g w (wr.alloc o) := by
 obtain ⟨h1, h2, h3, h4, h5, h6, h7⟩ := h
 exact ⟨h1.alloc _, h2.alloc _, h3.alloc _, h4.alloc _, h5.alloc _, h6.alloc _, h7.alloc _⟩
theorem TrimB.drew {a b : Vx} {f g : Int × Int} {w wr : World} (h : TrimB a b f g w wr) : TrimB a b f g w wr.drew := by
 obtain ⟨h1, h2, h3, h4, h5, h6, h7⟩ := h
 exact ⟨h1, h2, h3, h4, h5, h6, h7.drew⟩
def TrimE (a b u v : Vx) (f g : Int × Int) (w wr : World) (P Q : Nat) : Prop :=
 w.heap.size + 5 < P ∧ w.heap.size + 5 < Q ∧ P ≠ Q ∧ Blk wr P 149 u.row ∧ Blk wr Q 149 v.row ∧ TrimB a b f g w wr
theorem TrimE.later {a b u v : Vx} {f g : Int × Int} {w wr : World} {P Q : Nat} (h : TrimE a b u v f g w wr P Q) (x : Later wr) : TrimE a b u v f g w x.w P Q := by
 obtain ⟨h1, h2, h3, h4, h5, h6⟩ := h
 exact ⟨h1, h2, h3, h4.later x, h5.later x, h6.later x⟩
theorem TrimB.far8 {a b : Vx} {f g : Int × Int} {w wr : World} (h : TrimB a b f g w wr) {P : Nat} (hP : w.heap.size + 5 < P) (u : Vx) : TrimB a b f g w (put8 wr P u) := by
 obtain ⟨h1, h2, h3, h4, h5, h6, h7⟩ := h
 exact ⟨h1.far8 (by omega) u, h2.far8 (by omega) u, h3.far8 (by omega) u, h4.far8 (by omega) u, h5.far8 (by omega) u, h6.far8 (by omega) u, put8_ext h7 (by omega) u⟩
theorem cells2 {w : World} {g : Nat} {t : TypeId} {x : Int × Int} (h : Blk w g t (cutR x)) : w.cell? ⟨g, 0, none⟩ = some (.int .i64 x.1) ∧ w.cell? ⟨g, 1, none⟩ = some (.int .i64 x.2) ∧ w.frozen? ⟨g, 0, none⟩ = false ∧ w.frozen? ⟨g, 1, none⟩ = false :=
 ⟨h.cell 0, h.cell 1, h.frozen 0, h.frozen 1⟩
end Go.Proofs.YtplljnfjkkloeaaGreatDoor
set_option linter.unusedVariables false
set_option linter.unusedSimpArgs false
namespace Go.Proofs.YtplljnfjkkloeaaGreatDoor
attribute [local go_sem] Go.Oper.semAt_some
open Go.RowKit
set_option maxRecDepth 100000 in
theorem trim_zero (l : List Sd) (a b : Vx) (A : Option Addr) (n cap : Nat) (w : World) (hr : Rd w 5 A n cap (srow l)) (hl : l.length = n) (hok : ∀ s ∈ l, s.Ok) (ha : a.Fit) (hb : b.Fit) (hz : ∀ s ∈ l, 0 ≤ dist s a ∧ 0 ≤ dist s b) :
  Calls Tryz.prog 88 #[a.v, b.v, .slice A n cap] w fun e w' => e = .returned (.tuple #[a.v, b.v, .bool true]) ∧ Ext w w' := by
 have hn : (n : Int) ≤ 9223372036854775807 := hr.nat_le
 have HR := Lib.hid hr; clear hr
 have HL := Lib.hid hl; clear hl
 have HO := Lib.hid hok; clear hok
 have HZ := Lib.hid hz; clear hz
 have HA := Lib.hid ha; clear ha
 have HB := Lib.hid hb; clear hb
 go_enter Tryz.func88, Tryz.ntmps88
 go_wp2_with fail
 go_loopg [12, 13, 14, 15, 16, 21] n (fun gh _ _ _ _ _ i wr => ∃ j : Nat, j ≤ n ∧ gh = n - j ∧ i = .int .i64 j ∧ TrimB a b (0, 0) (0, 0) w wr)
 case atStart =>
  refine ⟨0, Nat.zero_le _, rfl, rfl, ⟨?_, ?_, ?_, ?_, ?_, ?_, by (repeat (first | with_reducible (first | exact eR_ _ | assumption | refine eA_ ?_ _ | refine eD_ ?_ | refine eN_ ?_ _ | refine eL_ ?_ _) | (with_reducible refine eS_ ?_ _ ?hp; case hp => first | (simp; done) | (simp; omega) | omega)))⟩⟩
  all_goals (try unfold V0)
  all_goals (repeat (first | (with_reducible refine Blk.new' _ _ _ ?_; (simp; done)) | with_reducible refine Blk.alloc ?_ _))
 case round =>
  obtain ⟨j, hj, rfl, rfl, hT⟩ := hrel
  have HT := Lib.hid hT; clear hT
  by_cases hlt : j < n
  ·obtain ⟨s, hs⟩ : ∃ s, l[j]? = some s := ⟨_, List.getElem?_eq_getElem (by rw [HL.out]; exact hlt)⟩
   have hRr := HR.out.ext HT.out.2.2.2.2.2.2
   obtain ⟨ab, ao, hA, hAb, hcell⟩ := hRr.at_ (by omega)
   subst hA
   obtain ⟨c0, c1, c2, c3, c4⟩ := side_at hRr hs
   clear hRr hcell hAb
   have hsm := List.mem_of_getElem? hs
   have HSO : Hid s.Ok := Lib.hid (HO.out s hsm)
   have hP : Pt (dist s a) (dist s b) 0 0 0 := .inr (.inr (.inr ⟨(HZ.out s hsm).1, (HZ.out s hsm).2, rfl, rfl, rfl⟩))
   have HP := Lib.hid hP
   clear hs hsm hP
   obtain ⟨a0, a1, a2, a3, a4, a5, a6, a7⟩ := cells8 HT.out.1
   obtain ⟨b0, b1, b2, b3, b4, b5, b6, b7⟩ := cells8 HT.out.2.1
   have hsz : w.heap.size + 1 + 1 + 1 + 1 + 1 < wr.heap.size := HT.out.2.2.2.2.2.1.lt
   have hz1 : w.heap.size < wr.heap.size := by omega
   have hz2 : w.heap.size + 1 < wr.heap.size := by omega
   go_upto_region 5 with fail
   go_wp2_with fail
   refine (part_of s a b _ HSO.out HA.out HB.out 0 0 0 HP.out).mono ?_
   rintro e w1 ⟨rfl, hE⟩
   obtain ⟨x, rfl⟩ := Later.mk' hE
   clear hE
   have HT2 := Lib.hid ((((HT.out.alloc (.cells s.row.toArray 38)).later x).alloc (.cells (cutR (0, 0)) 231)))
   clear hsz hz1 hz2 c0 c1 c2 c3 c4 a0 a1 a2 a3 a4 a5 a6 a7 b0 b1 b2 b3 b4 b5 b6 b7
   obtain ⟨f0, f1, f2, f3⟩ := cells2 HT2.out.2.2.2.2.1
   obtain ⟨g0, g1, g2, g3⟩ := cells2 HT2.out.2.2.2.2.2.1
   go_wp2_with fail
   go_roundg (n - (j + 1))
   case measure => omega
   case rel => exact ⟨j + 1, by omega, rfl, by go_num, HT2.out⟩
  ·obtain rfl : j = n := by omega
   obtain ⟨a0, a1, a2, a3, a4, a5, a6, a7⟩ := cells8 HT.out.1
   obtain ⟨b0, b1, b2, b3, b4, b5, b6, b7⟩ := cells8 HT.out.2.1
   have KA := HT.out.1
   have KB := HT.out.2.1
   have hz := HT.out.2.2.2.2.2.1.lt
   go_upto_region 19 with fail
   go_cut [17, 18] from 79 to 80 (fun p q wx => ∃ P Q : Nat, p = .pointer (some ⟨P, 0, none⟩) ∧ q = .pointer (some ⟨Q, 0, none⟩) ∧ TrimE a b a b (0, 0) (0, 0) w wx P Q)
   case first =>
    go_region_held3 (fun w' => w'.cell? ⟨w.heap.size, 0, none⟩ = some (.int .i64 a.x) ∧ w'.cell? ⟨w.heap.size, 1, none⟩ = some (.int .i64 a.y) ∧ w'.cell? ⟨w.heap.size, 2, none⟩ = some (.int .i64 a.z) ∧ w'.cell? ⟨w.heap.size, 3, none⟩ = some (.int .i64 a.w) ∧ w'.cell? ⟨w.heap.size, 4, none⟩ = some (.int .i64 a.c0) ∧ w'.cell? ⟨w.heap.size, 5, none⟩ = some (.int .i64 a.c1) ∧ w'.cell? ⟨w.heap.size, 6, none⟩ = some (.int .i64 a.c2) ∧ w'.cell? ⟨w.heap.size, 7, none⟩ = some (.int .i64 a.c3) ∧ w'.cell? ⟨w.heap.size + 1, 0, none⟩ = some (.int .i64 b.x) ∧ w'.cell? ⟨w.heap.size + 1, 1, none⟩ = some (.int .i64 b.y) ∧ w'.cell? ⟨w.heap.size + 1, 2, none⟩ = some (.int .i64 b.z) ∧ w'.cell? ⟨w.heap.size + 1, 3, none⟩ = some (.int .i64 b.w) ∧ w'.cell? ⟨w.heap.size + 1, 4, none⟩ = some (.int .i64 b.c0) ∧ w'.cell? ⟨w.heap.size + 1, 5, none⟩ = some (.int .i64 b.c1) ∧ w'.cell? ⟨w.heap.size + 1, 6, none⟩ = some (.int .i64 b.c2) ∧ w'.cell? ⟨w.heap.size + 1, 7, none⟩ = some (.int .i64 b.c3)) ((refine vcells (t := 149) ?_ ?_ <;> (repeat (first | with_reducible assumption | with_reducible refine Blk.alloc ?_ _ | with_reducible refine Blk.drew ?_ | with_reducible refine Blk.far ?_ ?_ _ | (dsimp only; omega))))) (fail)
    all_goals
     go_wp2_with fail
     go_meet
     refine ⟨_, _, rfl, rfl, by omega, by omega, by omega, ?_, ?_, ((HT.out.alloc _).alloc _).drew⟩
     all_goals (repeat (first | with_reducible refine Blk.drew ?_ | (with_reducible refine Blk.new' _ _ _ ?_; (simp; done)) | with_reducible refine Blk.alloc ?_ _))
   case rest =>
    clear HT KA KB hz a0 a1 a2 a3 a4 a5 a6 a7 b0 b1 b2 b3 b4 b5 b6 b7
    obtain ⟨P, Q, rfl, rfl, hTE⟩ := hcut
    have HTE := Lib.hid hTE; clear hTE
    obtain ⟨f0, f1, f2, f3⟩ := cells2 HTE.out.2.2.2.2.2.2.2.2.2.1
    obtain ⟨g0, g1, g2, g3⟩ := cells2 HTE.out.2.2.2.2.2.2.2.2.2.2.1
    have KP := HTE.out.2.2.2.1
    have KQ := HTE.out.2.2.2.2.1
    have hP := HTE.out.1
    have hQ := HTE.out.2.1
    obtain ⟨q0, q1, q2, q3, q4, q5, q6, q7⟩ := cells8 HTE.out.2.2.2.2.2.2.2.1
    obtain ⟨r0, r1, r2, r3, r4, r5, r6, r7⟩ := frees8 HTE.out.2.2.2.2.2.2.2.1
    obtain ⟨s0, s1, s2, s3, s4, s5, s6, s7⟩ := cells8 HTE.out.2.2.2.2.2.2.2.2.1
    obtain ⟨t0, t1, t2, t3, t4, t5, t6, t7⟩ := frees8 HTE.out.2.2.2.2.2.2.2.2.1
    go_upto_region 24 with fail
    clear f0 f1 f2 f3 g0 g1 g2 g3
    go_region_held3 (fun w' => w'.cell? ⟨P, 0, none⟩ = some (.int .i64 a.x) ∧ w'.cell? ⟨P, 1, none⟩ = some (.int .i64 a.y) ∧ w'.cell? ⟨P, 2, none⟩ = some (.int .i64 a.z) ∧ w'.cell? ⟨P, 3, none⟩ = some (.int .i64 a.w) ∧ w'.cell? ⟨P, 4, none⟩ = some (.int .i64 a.c0) ∧ w'.cell? ⟨P, 5, none⟩ = some (.int .i64 a.c1) ∧ w'.cell? ⟨P, 6, none⟩ = some (.int .i64 a.c2) ∧ w'.cell? ⟨P, 7, none⟩ = some (.int .i64 a.c3) ∧ w'.cell? ⟨Q, 0, none⟩ = some (.int .i64 b.x) ∧ w'.cell? ⟨Q, 1, none⟩ = some (.int .i64 b.y) ∧ w'.cell? ⟨Q, 2, none⟩ = some (.int .i64 b.z) ∧ w'.cell? ⟨Q, 3, none⟩ = some (.int .i64 b.w) ∧ w'.cell? ⟨Q, 4, none⟩ = some (.int .i64 b.c0) ∧ w'.cell? ⟨Q, 5, none⟩ = some (.int .i64 b.c1) ∧ w'.cell? ⟨Q, 6, none⟩ = some (.int .i64 b.c2) ∧ w'.cell? ⟨Q, 7, none⟩ = some (.int .i64 b.c3)) ((refine vcells (t := 149) ?_ ?_ <;> (repeat (first | with_reducible assumption | with_reducible refine Blk.alloc ?_ _ | with_reducible refine Blk.drew ?_ | with_reducible refine Blk.far ?_ ?_ _ | (dsimp only; omega))))) (fail)
    clear q0 q1 q2 q3 q4 q5 q6 q7 r0 r1 r2 r3 r4 r5 r6 r7 s0 s1 s2 s3 s4 s5 s6 s7 t0 t1 t2 t3 t4 t5 t6 t7
    go_wp2_with fail
    obtain ⟨R1, R2⟩ := both8 (HTE.out.2.2.2.2.2.2.2.1) (HTE.out.2.2.2.2.2.2.2.2.1) (by omega) a b
    obtain ⟨q0, q1, q2, q3, q4, q5, q6, q7⟩ := cells8 R1
    obtain ⟨s0, s1, s2, s3, s4, s5, s6, s7⟩ := cells8 R2
    refine bodyPost_ret (v := .tuple #[a.v, b.v, .bool true]) (by simp [results, Tryz.results88, q0, q1, q2, q3, q4, q5, q6, q7, s0, s1, s2, s3, s4, s5, s6, s7, go_sem]) rfl ⟨rfl, ?_⟩
    exact (put8_ext (put8_ext HTE.out.2.2.2.2.2.2.2.2.2.2.2 (by omega) _) (by omega) _).drew
end Go.Proofs.YtplljnfjkkloeaaGreatDoor
set_option linter.unusedVariables false
set_option linter.unusedSimpArgs false
namespace Go.Proofs.YtplljnfjkkloeaaGreatDoor
attribute [local go_sem] Go.Oper.semAt_some
open Go.RowKit
def Ps.ds (s : Ps) (p : Hp) (l : Sl) (r : Rc) (A : Option Addr) (c : Nat) (d : Da) (out : Value) (whole : Bool) : Array Value := #[.int .i64 s.err, .int .i64 s.W, .int .i64 s.H, .slice l.c p.C.length l.cc, .slice l.z p.Z.length l.cz, .int .i64 s.f0, .int .i64 s.f1, .int .i64 s.f2, .int .i64 s.f3, .int .i64 s.far, .int .i64 s.port.x0, .int .i64 s.port.y0, .int .i64 s.port.x1, .int .i64 s.port.y1, .int .i64 s.mm, .slice l.a 1 l.ca, .slice l.b 1 l.cb, .int .i64 s.s0.k, .int .i64 s.s0.p0, .int .i64 s.s0.p1, .int .i64 s.s0.p2, .int .i64 s.s0.p3, .int .i64 s.s1.k, .int .i64 s.s1.p0, .int .i64 s.s1.p1, .int .i64 s.s1.p2, .int .i64 s.s1.p3, .int .i64 s.s2.k, .int .i64 s.s2.p0, .int .i64 s.s2.p1, .int .i64 s.s2.p2, .int .i64 s.s2.p3, .int .i64 s.s3.k, .int .i64 s.s3.p0, .int .i64 s.s3.p1, .int .i64 s.s3.p2, .int .i64 s.s3.p3, .int .i64 s.s4.k, .int .i64 s.s4.p0, .int .i64 s.s4.p1, .int .i64 s.s4.p2, .int .i64 s.s4.p3, .int .i64 s.s5.k, .int .i64 s.s5.p0, .int .i64 s.s5.p1, .int .i64 s.s5.p2, .int .i64 s.s5.p3, .bool s.o0, .bool s.o1, .bool s.o2, .bool s.o3, .bool s.o4, .bool s.o5, .int .i64 s.c0, .int .i64 s.c1, .int .i64 s.c2, .int .i64 s.c3, .bool s.flag, .bool s.op, .int .i64 s.mode, .slice l.v p.V.length l.cv, .slice l.f p.F.length l.cf, .int .i64 s.width, .bool s.soft, .bool s.dashed, .int .i64 s.dash.bits, .int .i64 s.dash.every, .int .i64 s.dash.done, .int .i64 s.size, .int .i64 s.kind, .int .i64 s.front, .int .i64 s.back, .bool s.ccw, .int .i64 s.cull, .bool s.offset, .int .i64 s.factor, .int .i64 s.units, .bool s.flat, .bool s.first, .bool s.cut, .int .i64 s.box.x0, .int .i64 s.box.y0, .int .i64 s.box.x1, .int .i64 s.box.y1, .bool s.deep, .int .i64 s.func, .bool s.keep, .bool s.mix, .int .i64 s.sf, .int .i64 s.df, .bool s.k0, .bool s.k1, .bool s.k2, .bool s.k3, .int .i64 r.x0, .int .i64 r.y0, .int .i64 r.x1, .int .i64 r.y1, .slice A 3 c, .int .i64 d.bits, .int .i64 d.every, .int .i64 d.done, out, .bool whole]
def Vx.Inside (v : Vx) : Prop := 1 ≤ v.w ∧ 0 ≤ v.z + v.w ∧ 0 ≤ v.w - v.z
theorem Vx.Seen.fit {v : Vx} (h : v.Seen) : v.Fit := by
 obtain ⟨⟨w0, w1⟩, ⟨x0, x1⟩, ⟨y0, y1⟩, ⟨z0, z1⟩, ⟨c00, c01⟩, ⟨c10, c11⟩, ⟨c20, c21⟩, ⟨c30, c31⟩⟩ := h
 refine ⟨four_cases ⟨?_, ?_, ?_, ?_⟩, four_cases ⟨⟨c00, c01⟩, ⟨c10, c11⟩, ⟨c20, c21⟩, ⟨c30, c31⟩⟩⟩ <;> (unfold inMost; simp only [Vx.e]; omega)
theorem base3_ok : ∀ s ∈ base3 3, s.Ok := by
 intro s hs
 simp only [base3, List.mem_cons, List.not_mem_nil, or_false] at hs
 rcases hs with rfl | rfl | rfl
 ·exact .inr ⟨by simp, by simp, four_cases ⟨rfl, rfl, rfl, rfl⟩⟩
 ·exact .inr ⟨by simp, by simp, four_cases ⟨rfl, rfl, rfl, rfl⟩⟩
 ·exact .inr ⟨by simp, by simp, four_cases ⟨rfl, rfl, rfl, rfl⟩⟩
theorem trim_in (a b : Vx) (A : Option Addr) (c : Nat) (w : World) (hr : Rd w 5 A 3 c (srow (base3 3))) (ha : a.Seen) (hb : b.Seen) (ia : a.Inside) (ib : b.Inside) :
  Calls Tryz.prog 88 #[a.v, b.v, .slice A 3 c] w fun e w' => e = .returned (.tuple #[a.v, b.v, .bool true]) ∧ Ext w w' := by
 refine trim_zero (base3 3) a b A 3 c w hr rfl base3_ok ha.fit hb.fit (fun s hs => ?_)
 unfold Vx.Inside at ia ib
 simp only [base3, List.mem_cons, List.not_mem_nil, or_false] at hs
 rcases hs with rfl | rfl | rfl <;> simp [dist] <;> omega
theorem Blk.cast {w : World} {g : Nat} {t : TypeId} {cs cs' : Array Value} (h : Blk w g t cs) (e : cs = cs') : Blk w g t cs' := e ▸ h
end Go.Proofs.YtplljnfjkkloeaaGreatDoor
