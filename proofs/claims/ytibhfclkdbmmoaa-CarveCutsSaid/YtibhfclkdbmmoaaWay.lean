/- Proof text: the plain law of where a way meets a side. By an AI agent. No condition beyond what each theorem states. -/
import Derived.Test.YtibhfclkdbmmoaaSM
set_option linter.unusedVariables false
set_option linter.unusedSimpArgs false
namespace Go.Proofs.Ytibhfclkdbmmoaa
open Go.RowKit
theorem mid_in {p q n d m k : Int} (hn : 0 ≤ n) (hnd : n ≤ d) (hd : 1 ≤ d) (p1 : m ≤ p) (p2 : p ≤ k) (q1 : m ≤ q) (q2 : q ≤ k) : m ≤ mid p q n d ∧ mid p q n d ≤ k := by
  have := mid_between (p := p) (q := q) hn hnd hd
  omega
theorem at_fit {a b : Vx} {n d : Int} (ha : a.Fit) (hb : b.Fit) (hn : 0 ≤ n) (hnd : n ≤ d) (hd : 1 ≤ d) : (at_ a b n d).Fit := by
  constructor
  · intro k hk
    rw [← at_e a b n d k hk]
    exact mid_in hn hnd hd (ha.1 k hk).1 (ha.1 k hk).2 (hb.1 k hk).1 (hb.1 k hk).2
  · intro k hk
    rw [← at_c a b n d k hk]
    exact mid_in hn hnd hd (ha.2 k hk).1 (ha.2 k hk).2 (hb.2 k hk).1 (hb.2 k hk).2
/-- A part f of the way with a rest r. -/
theorem part_rest (X d : Int) (hd : 1 ≤ d) : ∃ f r, X / d = f ∧ X = f * d + r ∧ 0 ≤ r ∧ r < d :=
  ⟨X / d, X % d, rfl, by rw [Int.mul_comm]; exact (Int.mul_ediv_add_emod X d).symm, Int.emod_nonneg _ (by omega), Int.emod_lt_of_pos _ (by omega)⟩
theorem two_floor {A B d p : Int} (hd : 1 ≤ d) (h : A + B = -d) : A * p / d + B * p / d = -p ∨ A * p / d + B * p / d = -p - 1 := by
  obtain ⟨f, r, e1, e2, r0, r1⟩ := part_rest (A * p) d hd
  obtain ⟨g, s, e3, e4, s0, s1⟩ := part_rest (B * p) d hd
  rw [e1, e3]
  have e5 : A * p + B * p = -(d * p) := by rw [← Int.add_mul, h, Int.neg_mul]
  have e6 : (f + g + p) * d + (r + s) = 0 := by
    rw [Int.add_mul, Int.add_mul, Int.mul_comm p d]; omega
  generalize hK : f + g + p = K at e6
  have hK0 : K = 0 ∨ K = -1 := by
    rcases Int.lt_or_le K (-1) with h1 | h1
    · have := Int.mul_le_mul_of_nonneg_right (show K ≤ -2 by omega) (show 0 ≤ d by omega); omega
    · rcases Int.lt_or_le 0 K with h2 | h2
      · have := Int.mul_le_mul_of_nonneg_right (show 1 ≤ K by omega) (show 0 ≤ d by omega); omega
      · omega
  omega
theorem minus_floor {A B d p : Int} (hd : 1 ≤ d) (h : A - B = -d) : A * p / d - B * p / d = -p := by
  have e : A * p = B * p + (-p) * d := by
    have : A = B - d := by omega
    rw [this, Int.sub_mul, Int.neg_mul, Int.mul_comm p d]; omega
  rw [e, Int.add_mul_ediv_right _ _ (by omega)]; omega
theorem whole_floor {A d p : Int} (hd : 1 ≤ d) (h : A = -d) : A * p / d = -p := by
  subst h
  rw [Int.neg_mul, ← Int.mul_neg, Int.mul_comm, Int.mul_ediv_cancel _ (by omega)]
/-- How much a sum of coefficients may be out. -/
def slackOf (s : Sd) : Int := max s.p0 (0 - s.p0) + max s.p1 (0 - s.p1) + max s.p2 (0 - s.p2) + max s.p3 (0 - s.p3)
theorem coef_rest (P r d : Int) (r0 : 0 ≤ r) (r1 : r < d) : P * r ≤ max P (0 - P) * d ∧ -(max P (0 - P) * d) ≤ P * r := by
  rcases Int.le_total 0 P with h | h
  · rw [show max P (0 - P) = P by omega]
    have h1 := Int.mul_le_mul_of_nonneg_left (show r ≤ d by omega) h
    have h2 := Int.mul_nonneg h r0
    have h3 := Int.mul_nonneg h (show 0 ≤ d by omega)
    omega
  · rw [show max P (0 - P) = 0 - P by omega, Int.sub_mul]
    have h1 := Int.mul_le_mul_of_nonneg_left (show r ≤ d by omega) (show 0 ≤ -P by omega)
    have h2 := Int.mul_nonneg (show 0 ≤ -P by omega) r0
    have h3 := Int.mul_nonneg (show 0 ≤ -P by omega) (show 0 ≤ d by omega)
    rw [Int.neg_mul, Int.neg_mul] at h1
    rw [Int.neg_mul] at h2 h3
    omega
theorem four_floor {P0 P1 P2 P3 A0 A1 A2 A3 a0 a1 a2 a3 p d : Int} (hd : 1 ≤ d) (hp : P0 * a0 + P1 * a1 + P2 * a2 + P3 * a3 = p) (hq : P0 * A0 + P1 * A1 + P2 * A2 + P3 * A3 = -d) :
    let x := P0 * (a0 + A0 * p / d) + P1 * (a1 + A1 * p / d) + P2 * (a2 + A2 * p / d) + P3 * (a3 + A3 * p / d)
    let M := max P0 (0 - P0) + max P1 (0 - P1) + max P2 (0 - P2) + max P3 (0 - P3)
    x ≤ M ∧ 0 - M ≤ x := by
  intro x M
  obtain ⟨f0, r0, e0, g0, l0, u0⟩ := part_rest (A0 * p) d hd
  obtain ⟨f1, r1, e1, g1, l1, u1⟩ := part_rest (A1 * p) d hd
  obtain ⟨f2, r2, e2, g2, l2, u2⟩ := part_rest (A2 * p) d hd
  obtain ⟨f3, r3, e3, g3, l3, u3⟩ := part_rest (A3 * p) d hd
  have hx : x = P0 * (a0 + f0) + P1 * (a1 + f1) + P2 * (a2 + f2) + P3 * (a3 + f3) := by
    show P0 * (a0 + A0 * p / d) + P1 * (a1 + A1 * p / d) + P2 * (a2 + A2 * p / d) + P3 * (a3 + A3 * p / d) = _
    rw [e0, e1, e2, e3]
  have key : ∀ P A f r : Int, A * p = f * d + r → P * f * d = P * A * p - P * r := by
    intro P A f r h
    rw [Int.mul_assoc P A p, h, Int.mul_add, Int.mul_assoc]; omega
  have k0 := key P0 A0 f0 r0 g0
  have k1 := key P1 A1 f1 r1 g1
  have k2 := key P2 A2 f2 r2 g2
  have k3 := key P3 A3 f3 r3 g3
  have hs : P0 * A0 * p + P1 * A1 * p + P2 * A2 * p + P3 * A3 * p = -(d * p) := by
    rw [← Int.add_mul, ← Int.add_mul, ← Int.add_mul, hq, Int.neg_mul]
  have hxd : x * d = -(P0 * r0 + P1 * r1 + P2 * r2 + P3 * r3) := by
    have e : x = p + (P0 * f0 + P1 * f1 + P2 * f2 + P3 * f3) := by
      rw [hx, Int.mul_add, Int.mul_add, Int.mul_add, Int.mul_add, ← hp]; omega
    rw [e, Int.add_mul, Int.add_mul, Int.add_mul, Int.add_mul, k0, k1, k2, k3, Int.mul_comm p d]
    omega
  have b0 := coef_rest P0 r0 d l0 u0
  have b1 := coef_rest P1 r1 d l1 u1
  have b2 := coef_rest P2 r2 d l2 u2
  have b3 := coef_rest P3 r3 d l3 u3
  have hM : M * d = max P0 (0 - P0) * d + max P1 (0 - P1) * d + max P2 (0 - P2) * d + max P3 (0 - P3) * d := by
    show (max P0 (0 - P0) + max P1 (0 - P1) + max P2 (0 - P2) + max P3 (0 - P3)) * d = _
    rw [Int.add_mul, Int.add_mul, Int.add_mul]
  have c1 : x * d ≤ M * d := by omega
  have c2 : (0 - M) * d ≤ x * d := by rw [Int.sub_mul, Int.zero_mul]; omega
  exact ⟨Int.le_of_mul_le_mul_right c1 (by omega), Int.le_of_mul_le_mul_right c2 (by omega)⟩
/-- Where a way from inside to outside meets a side. -/
theorem meets (s : Sd) (a b : Vx) (hp : 0 ≤ dist s a) (hq : dist s b < 0) (hk : 0 ≤ s.k ∧ s.k ≤ 3) :
    let x := dist s (at_ a b (dist s a) (dist s a - dist s b))
    (s.k = 0 → x = 0) ∧ (s.k = 1 → x = 0 ∨ x = -1) ∧ (s.k = 2 → x = 0) ∧ (s.k = 3 → x ≤ slackOf s ∧ 0 - slackOf s ≤ x) := by
  intro x
  have hd : 1 ≤ dist s a - dist s b := by omega
  refine ⟨fun h => ?_, fun h => ?_, fun h => ?_, fun h => ?_⟩
  · have e : ∀ v : Vx, dist s v = v.w - 1 := fun v => by unfold dist; rw [if_pos h]
    have := whole_floor (A := b.w - a.w) (p := dist s a) hd (by rw [e, e]; omega)
    show dist s (at_ a b (dist s a) (dist s a - dist s b)) = 0
    rw [e]
    show a.w + (b.w - a.w) * dist s a / (dist s a - dist s b) - 1 = 0
    rw [this, e]; omega
  · have e : ∀ v : Vx, dist s v = v.z + v.w := fun v => by unfold dist; rw [if_neg (by omega), if_pos h]
    have := two_floor (A := b.z - a.z) (B := b.w - a.w) (p := dist s a) hd (by rw [e, e]; omega)
    have e2 : x = a.z + (b.z - a.z) * dist s a / (dist s a - dist s b) + (a.w + (b.w - a.w) * dist s a / (dist s a - dist s b)) := e _
    have e3 := e a
    omega
  · have e : ∀ v : Vx, dist s v = v.w - v.z := fun v => by unfold dist; rw [if_neg (by omega), if_neg (by omega), if_pos h]
    have := minus_floor (A := b.w - a.w) (B := b.z - a.z) (p := dist s a) hd (by rw [e, e]; omega)
    have e2 : x = a.w + (b.w - a.w) * dist s a / (dist s a - dist s b) - (a.z + (b.z - a.z) * dist s a / (dist s a - dist s b)) := e _
    have e3 := e a
    omega
  · have e : ∀ v : Vx, dist s v = s.p0 * v.x + s.p1 * v.y + s.p2 * v.z + s.p3 * v.w := fun v => by unfold dist; rw [if_neg (by omega), if_neg (by omega), if_neg (by omega)]
    have := four_floor (P0 := s.p0) (P1 := s.p1) (P2 := s.p2) (P3 := s.p3) (A0 := b.x - a.x) (A1 := b.y - a.y) (A2 := b.z - a.z) (A3 := b.w - a.w) (a0 := a.x) (a1 := a.y) (a2 := a.z) (a3 := a.w) hd (e a).symm
      (by rw [e, e, Int.mul_sub, Int.mul_sub, Int.mul_sub, Int.mul_sub]; omega)
    show dist s (at_ a b (dist s a) (dist s a - dist s b)) ≤ slackOf s ∧ 0 - slackOf s ≤ dist s (at_ a b (dist s a) (dist s a - dist s b))
    rw [e (at_ a b (dist s a) (dist s a - dist s b))]
    exact this
end Go.Proofs.Ytibhfclkdbmmoaa
