/- Proof text: how far in a vertex is. By an AI agent. No condition beyond what each theorem states. -/
import Derived.Test.YtibhfclkdbmmoaaSC
set_option linter.unusedVariables false
set_option linter.unusedSimpArgs false
namespace Go.Proofs.Ytibhfclkdbmmoaa
open Go.RowKit
/-- How far in a vertex is. -/
def dist (s : Sd) (v : Vx) : Int :=
  if s.k = 0 then v.w - 1 else if s.k = 1 then v.z + v.w else if s.k = 2 then v.w - v.z else s.p0 * v.x + s.p1 * v.y + s.p2 * v.z + s.p3 * v.w
/-- The sum's first k parts. -/
def psum (s : Sd) (v : Vx) : Nat → Int
  | 0 => 0
  | 1 => s.p0 * v.x
  | 2 => s.p0 * v.x + s.p1 * v.y
  | 3 => s.p0 * v.x + s.p1 * v.y + s.p2 * v.z
  | _ => s.p0 * v.x + s.p1 * v.y + s.p2 * v.z + s.p3 * v.w
theorem mul_bound {a b m n : Int} (ha : inMost a m) (hb : inMost b n) (hm : 0 ≤ m) (hn : 0 ≤ n) : inMost (a * b) (m * n) := by
  obtain ⟨a1, a2⟩ := ha
  obtain ⟨b1, b2⟩ := hb
  have h : (a * b).natAbs ≤ (m * n).natAbs := by
    rw [Int.natAbs_mul, Int.natAbs_mul]
    exact Nat.mul_le_mul (by omega) (by omega)
  have hp : 0 ≤ m * n := Int.mul_nonneg hm hn
  constructor <;> omega
/-- A side of the user's: its coefficients. -/
def Sd.Pl (s : Sd) : Prop := ∀ j, j < 4 → inMost (s.p j) 32768
theorem parts_bound {s : Sd} {v : Vx} (hs : s.Pl) (hv : v.Fit) (k : Nat) (hk : k < 4) : inMost (s.p k * v.e k) 2251799813685248 :=
  mul_bound (hs k hk) (hv.1 k hk) (by omega) (by omega)
theorem psum_step {s : Sd} {v : Vx} (hs : s.Pl) (hv : v.Fit) (k : Nat) (hk : k < 4) :
    wrap64 (s.p k * v.e k) = s.p k * v.e k ∧ wrap64 (psum s v k + s.p k * v.e k) = psum s v (k + 1) := by
  have b0 := parts_bound hs hv 0 (by omega)
  have b1 := parts_bound hs hv 1 (by omega)
  have b2 := parts_bound hs hv 2 (by omega)
  have b3 := parts_bound hs hv 3 (by omega)
  simp only [inMost, Sd.p, Vx.e] at b0 b1 b2 b3
  have hk4 : k = 0 ∨ k = 1 ∨ k = 2 ∨ k = 3 := by omega
  rcases hk4 with rfl | rfl | rfl | rfl <;> simp only [Sd.p, Vx.e, psum, Nat.reduceAdd] <;> refine ⟨wrap64_of (by omega) (by omega), ?_⟩ <;> rw [wrap64_of (by omega) (by omega)] <;> omega
theorem Sd.Ok.pl {s : Sd} (h : s.Ok) (h3 : s.k = 3) : s.Pl := by
  rcases h with ⟨_, h⟩ | ⟨h, _⟩
  · exact h
  · exact absurd h3 h
theorem Sd.Ok.kind {s : Sd} (h : s.Ok) : 0 ≤ s.k ∧ s.k ≤ 3 := by
  rcases h with ⟨h, _⟩ | ⟨_, h, _⟩ <;> omega
theorem Vx.Fit.lin {v : Vx} (h : v.Fit) : (-68719476736 ≤ v.x ∧ v.x ≤ 68719476736) ∧ (-68719476736 ≤ v.y ∧ v.y ≤ 68719476736) ∧ (-68719476736 ≤ v.z ∧ v.z ≤ 68719476736) ∧ (-68719476736 ≤ v.w ∧ v.w ≤ 68719476736) := by
  have h0 := h.1 0 (by omega); have h1 := h.1 1 (by omega); have h2 := h.1 2 (by omega); have h3 := h.1 3 (by omega)
  simp only [inMost, Vx.e] at h0 h1 h2 h3
  exact ⟨h0, h1, h2, h3⟩
theorem dist_bound {s : Sd} {v : Vx} (hs : s.Ok) (hv : v.Fit) : inMost (dist s v) 9007199254740992 := by
  obtain ⟨⟨x1, x2⟩, ⟨y1, y2⟩, ⟨z1, z2⟩, ⟨w1, w2⟩⟩ := hv.lin
  have hk := hs.kind
  unfold dist
  split
  · constructor <;> omega
  split
  · constructor <;> omega
  split
  · constructor <;> omega
  have hp := hs.pl (by omega)
  have b0 := parts_bound hp hv 0 (by omega)
  have b1 := parts_bound hp hv 1 (by omega)
  have b2 := parts_bound hp hv 2 (by omega)
  have b3 := parts_bound hp hv 3 (by omega)
  simp only [inMost, Sd.p, Vx.e] at b0 b1 b2 b3
  constructor <;> omega
set_option maxHeartbeats 1000000 in
theorem dist_any (s : Sd) (v : Vx) (w : World) (hs : s.Ok) (hv : v.Fit) : Calls Try.prog 27 #[s.v, v.v] w fun e w' => e = .returned (.int .i64 (dist s v)) ∧ Ext w w' := by
  have hk := hs.kind
  have hk4 : s.k = 0 ∨ s.k = 1 ∨ s.k = 2 ∨ s.k = 3 := by omega
  clear hk
  rcases hk4 with h | h | h | h
  · have e : dist s v = v.w - 1 := by unfold dist; rw [if_pos h]
    rw [e]
    obtain ⟨⟨x1, x2⟩, ⟨y1, y2⟩, ⟨z1, z2⟩, ⟨w1, w2⟩⟩ := hv.lin
    have d0 : (s.k == 0) = true := by simp [h]
    clear hs hv h e
    go_enter Try.func27, Try.ntmps27
    go_wp2_with fail
    go_ret
    exact ⟨rfl, by (repeat (first | with_reducible exact Ext.refl _ | with_reducible assumption | with_reducible refine Ext.alloc ?_ _ | with_reducible refine Ext.drew ?_ | with_reducible refine Ext.drewN ?_ _ | with_reducible refine Ext.later ?_ _ | (with_reducible refine Ext.setCell ?_ _ ?hp; case hp => first | (simp; done) | (simp; omega) | omega)))⟩
  · have e : dist s v = v.z + v.w := by unfold dist; rw [if_neg (by omega), if_pos h]
    rw [e]
    obtain ⟨⟨x1, x2⟩, ⟨y1, y2⟩, ⟨z1, z2⟩, ⟨w1, w2⟩⟩ := hv.lin
    have d0 : (s.k == 0) = false := by simp [h]
    have d1 : (s.k == 1) = true := by simp [h]
    clear hs hv h e
    go_enter Try.func27, Try.ntmps27
    go_wp2_with fail
    go_ret
    exact ⟨rfl, by (repeat (first | with_reducible exact Ext.refl _ | with_reducible assumption | with_reducible refine Ext.alloc ?_ _ | with_reducible refine Ext.drew ?_ | with_reducible refine Ext.drewN ?_ _ | with_reducible refine Ext.later ?_ _ | (with_reducible refine Ext.setCell ?_ _ ?hp; case hp => first | (simp; done) | (simp; omega) | omega)))⟩
  · have e : dist s v = v.w - v.z := by unfold dist; rw [if_neg (by omega), if_neg (by omega), if_pos h]
    rw [e]
    obtain ⟨⟨x1, x2⟩, ⟨y1, y2⟩, ⟨z1, z2⟩, ⟨w1, w2⟩⟩ := hv.lin
    have d0 : (s.k == 0) = false := by simp [h]
    have d1 : (s.k == 1) = false := by simp [h]
    have d2 : (s.k == 2) = true := by simp [h]
    clear hs hv h e
    go_enter Try.func27, Try.ntmps27
    go_wp2_with fail
    go_ret
    exact ⟨rfl, by (repeat (first | with_reducible exact Ext.refl _ | with_reducible assumption | with_reducible refine Ext.alloc ?_ _ | with_reducible refine Ext.drew ?_ | with_reducible refine Ext.drewN ?_ _ | with_reducible refine Ext.later ?_ _ | (with_reducible refine Ext.setCell ?_ _ ?hp; case hp => first | (simp; done) | (simp; omega) | omega)))⟩
  · have e : dist s v = psum s v 4 := by unfold dist; rw [if_neg (by omega), if_neg (by omega), if_neg (by omega)]; rfl
    rw [e]
    have HS := Lib.hid (fun k hk => psum_step (hs.pl h) hv k hk)
    have d0 : (s.k == 0) = false := by simp [h]
    have d1 : (s.k == 1) = false := by simp [h]
    have d2 : (s.k == 2) = false := by simp [h]
    clear hs hv h e
    go_enter Try.func27, Try.ntmps27
    go_wp2_with fail
    refine (four_any v _).mono ?_
    rintro e w1 ⟨rfl, hE⟩
    obtain ⟨x1, rfl⟩ := Later.mk' hE
    clear hE
    go_wp2_with fail
    go_loop [5, 6, 7, 31] (fun a _ _ i => ∃ k : Nat, k ≤ 4 ∧ i = .int .i64 k ∧ a = .int .i64 (psum s v k)) (fun _ _ _ i => 4 - (intOf i).toNat)
    case atStart => exact ⟨0, by omega, rfl, rfl⟩
    case round =>
      obtain ⟨k, hk, rfl, rfl⟩ := hrel
      by_cases hlt : k < 4
      · obtain ⟨m1, m2⟩ := HS.out k hlt
        have i0 := fun W => (index_lit v W).1
        have i1 := fun W => (index_lit v W).2.1
        have i2 := fun W => (index_lit v W).2.2.1
        have i3 := fun W => (index_lit v W).2.2.2
        have hk4 : k = 0 ∨ k = 1 ∨ k = 2 ∨ k = 3 := by omega
        rcases hk4 with rfl | rfl | rfl | rfl
        all_goals
          clear hk hlt
          simp only [Sd.p, Vx.e] at m1 m2
          go_wp2_with fail
          go_round
          case rel => first | exact ⟨1, by decide, rfl, congrArg _ m2⟩ | exact ⟨2, by decide, rfl, congrArg _ m2⟩ | exact ⟨3, by decide, rfl, congrArg _ m2⟩ | exact ⟨4, by decide, rfl, congrArg _ m2⟩
          case measure => simp [intOf]
      · obtain rfl : k = 4 := by omega
        go_wp2_with fail
        go_ret
        exact ⟨rfl, by (repeat (first | with_reducible exact Ext.refl _ | with_reducible assumption | with_reducible refine Ext.alloc ?_ _ | with_reducible refine Ext.drew ?_ | with_reducible refine Ext.drewN ?_ _ | with_reducible refine Ext.later ?_ _ | (with_reducible refine Ext.setCell ?_ _ ?hp; case hp => first | (simp; done) | (simp; omega) | omega)))⟩
set_option maxHeartbeats 1000000 in
theorem rdist_any (s : Sd) (v : Vx) (w : World) (hs : s.Ok) (hv : v.Fit) : Calls Try.prog 37 #[s.v, v.v] w fun e w' => e = .returned (.int .i64 (dist s v)) ∧ Ext w w' := by
  have hk := hs.kind
  have hk4 : s.k = 0 ∨ s.k = 1 ∨ s.k = 2 ∨ s.k = 3 := by omega
  clear hk
  rcases hk4 with h | h | h | h
  · have e : dist s v = v.w - 1 := by unfold dist; rw [if_pos h]
    rw [e]
    obtain ⟨⟨x1, x2⟩, ⟨y1, y2⟩, ⟨z1, z2⟩, ⟨w1, w2⟩⟩ := hv.lin
    have d0 : (s.k == 0) = true := by simp [h]
    clear hs hv h e
    go_enter Try.func37, Try.ntmps37
    go_wp2_with fail
    go_ret
    exact ⟨rfl, by (repeat (first | with_reducible exact Ext.refl _ | with_reducible assumption | with_reducible refine Ext.alloc ?_ _ | with_reducible refine Ext.drew ?_ | with_reducible refine Ext.drewN ?_ _ | with_reducible refine Ext.later ?_ _ | (with_reducible refine Ext.setCell ?_ _ ?hp; case hp => first | (simp; done) | (simp; omega) | omega)))⟩
  · have e : dist s v = v.w + v.z := by unfold dist; rw [if_neg (by omega), if_pos h, Int.add_comm]
    rw [e]
    obtain ⟨⟨x1, x2⟩, ⟨y1, y2⟩, ⟨z1, z2⟩, ⟨w1, w2⟩⟩ := hv.lin
    have d0 : (s.k == 0) = false := by simp [h]
    have d1 : (s.k == 1) = true := by simp [h]
    clear hs hv h e
    go_enter Try.func37, Try.ntmps37
    go_wp2_with fail
    go_ret
    exact ⟨rfl, by (repeat (first | with_reducible exact Ext.refl _ | with_reducible assumption | with_reducible refine Ext.alloc ?_ _ | with_reducible refine Ext.drew ?_ | with_reducible refine Ext.drewN ?_ _ | with_reducible refine Ext.later ?_ _ | (with_reducible refine Ext.setCell ?_ _ ?hp; case hp => first | (simp; done) | (simp; omega) | omega)))⟩
  · have e : dist s v = v.w - v.z := by unfold dist; rw [if_neg (by omega), if_neg (by omega), if_pos h]
    rw [e]
    obtain ⟨⟨x1, x2⟩, ⟨y1, y2⟩, ⟨z1, z2⟩, ⟨w1, w2⟩⟩ := hv.lin
    have d0 : (s.k == 0) = false := by simp [h]
    have d1 : (s.k == 1) = false := by simp [h]
    have d2 : (s.k == 2) = true := by simp [h]
    clear hs hv h e
    go_enter Try.func37, Try.ntmps37
    go_wp2_with fail
    go_ret
    exact ⟨rfl, by (repeat (first | with_reducible exact Ext.refl _ | with_reducible assumption | with_reducible refine Ext.alloc ?_ _ | with_reducible refine Ext.drew ?_ | with_reducible refine Ext.drewN ?_ _ | with_reducible refine Ext.later ?_ _ | (with_reducible refine Ext.setCell ?_ _ ?hp; case hp => first | (simp; done) | (simp; omega) | omega)))⟩
  · have e : dist s v = psum s v 4 := by unfold dist; rw [if_neg (by omega), if_neg (by omega), if_neg (by omega)]; rfl
    rw [e]
    obtain ⟨a1, b1⟩ := psum_step (hs.pl h) hv 0 (by omega)
    obtain ⟨a2, b2⟩ := psum_step (hs.pl h) hv 1 (by omega)
    obtain ⟨a3, b3⟩ := psum_step (hs.pl h) hv 2 (by omega)
    obtain ⟨a4, b4⟩ := psum_step (hs.pl h) hv 3 (by omega)
    simp only [Sd.p, Vx.e, Nat.reduceAdd] at a1 a2 a3 a4 b1 b2 b3 b4
    have q1 : psum s v 1 = s.p0 * v.x := rfl
    rw [q1] at b2
    clear b1 q1
    have d0 : (s.k == 0) = false := by simp [h]
    have d1 : (s.k == 1) = false := by simp [h]
    have d2 : (s.k == 2) = false := by simp [h]
    clear hs hv h e
    go_enter Try.func37, Try.ntmps37
    go_wp2_with fail
    go_ret
    refine ⟨?_, by (repeat (first | with_reducible exact Ext.refl _ | with_reducible assumption | with_reducible refine Ext.alloc ?_ _ | with_reducible refine Ext.drew ?_ | with_reducible refine Ext.drewN ?_ _ | with_reducible refine Ext.later ?_ _ | (with_reducible refine Ext.setCell ?_ _ ?hp; case hp => first | (simp; done) | (simp; omega) | omega)))⟩
    show Ending.returned (Value.int .i64 (wrap64 (psum s v 3 + s.p3 * v.w))) = _
    rw [b4]
end Go.Proofs.Ytibhfclkdbmmoaa
