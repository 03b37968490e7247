/- Plain: points on a way, one behind the other: the line's pixels are its parts'. By an AI agent. No condition beyond what each theorem states. -/
import Derived.Test.YtplljnfjkkloeaaGreatDoorWD
import Derived.Test.YtplljnfjkkloeaaGreatDoorQH
import Derived.Test.YtplljnfjkkloeaaGreatDoorQJ
import Derived.Test.YtplljnfjkkloeaaGreatDoorQC
set_option linter.unusedVariables false
set_option linter.unusedSimpArgs false
namespace Go.Proofs.YtplljnfjkkloeaaGreatDoor
theorem mul_abs {n d : Int} (hn : 0 ≤ n) : max (n * d) (-(n * d)) = n * max d (-d) := by
  rcases Int.le_total 0 d with h | h
  · have := Int.mul_nonneg hn h
    rw [show max (n * d) (-(n * d)) = n * d by omega, show max d (-d) = d by omega]
  · have := Int.mul_nonneg hn (show 0 ≤ -d by omega)
    have e : n * -d = -(n * d) := by grind
    rw [show max (n * d) (-(n * d)) = -(n * d) by omega, show max d (-d) = -d by omega, e]
theorem mul_lt_iff {n x y : Int} (hn : 0 < n) : n * x < n * y ↔ x < y :=
  ⟨fun h => Int.lt_of_mul_lt_mul_left h (Int.le_of_lt hn), fun h => Int.mul_lt_mul_of_pos_left h hn⟩
theorem mul_pos_iff' {n d : Int} (hn : 0 < n) : 0 < n * d ↔ 0 < d := by
  have := mul_lt_iff (x := 0) (y := d) hn
  rwa [Int.mul_zero] at this
theorem mul_neg_iff' {n d : Int} (hn : 0 < n) : n * d < 0 ↔ d < 0 := by
  have := mul_lt_iff (x := d) (y := 0) hn
  rwa [Int.mul_zero] at this
theorem wayOf_mul {ax ay bx by_ dx dy n : Int} (hn : 0 < n) (hx : bx - ax = n * dx) (hy : by_ - ay = n * dy) :
    wayOf ax ay bx by_ = if max dx (-dx) < max dy (-dy) then ⟨ay, ax, by_, bx, true, 1⟩ else ⟨ax, ay, bx, by_, false, if (0 < dx ∧ 0 < dy) ∨ (dx < 0 ∧ dy < 0) then 0 else 1⟩ := by
  unfold wayOf
  simp only [hx, hy, mul_abs (Int.le_of_lt hn), mul_lt_iff hn, mul_pos_iff' hn, mul_neg_iff' hn]
theorem scale_L {n D O back : Int} (hn : 0 < n) (hb : back = 0 ∨ back = 1) : (-128 * (n * D) ≤ n * O - back ∧ n * O - back < 128 * (n * D)) ↔ (-128 * D ≤ O - back ∧ O - back < 128 * D) := by
  have e1 : -128 * (n * D) ≤ n * O - back ↔ -128 * D ≤ O - back := by
    rcases hb with rfl | rfl
    · constructor
      · intro h
        refine Classical.byContradiction fun k => ?_
        have := Int.mul_lt_mul_of_pos_left (show O < -128 * D by omega) hn
        grind
      · intro h
        have := Int.mul_le_mul_of_nonneg_left (show -128 * D ≤ O by omega) (Int.le_of_lt hn)
        grind
    · constructor
      · intro h
        refine Classical.byContradiction fun k => ?_
        have := Int.mul_le_mul_of_nonneg_left (show O ≤ -128 * D by omega) (Int.le_of_lt hn)
        grind
      · intro h
        have := Int.mul_le_mul_of_nonneg_left (show 1 ≤ O + 128 * D by omega) (Int.le_of_lt hn)
        grind
  have e2 : n * O - back < 128 * (n * D) ↔ O - back < 128 * D := by
    rcases hb with rfl | rfl
    · constructor
      · intro h
        refine Classical.byContradiction fun k => ?_
        have := Int.mul_le_mul_of_nonneg_left (show 128 * D ≤ O by omega) (Int.le_of_lt hn)
        grind
      · intro h
        have := Int.mul_lt_mul_of_pos_left (show O < 128 * D by omega) hn
        grind
    · constructor
      · intro h
        refine Classical.byContradiction fun k => ?_
        have := Int.mul_le_mul_of_nonneg_left (show 1 ≤ O - 128 * D by omega) (Int.le_of_lt hn)
        grind
      · intro h
        have := Int.mul_le_mul_of_nonneg_left (show O ≤ 128 * D by omega) (Int.le_of_lt hn)
        grind
  rw [e1, e2]
theorem mul_comb (n a b x y : Int) : n * a * x - n * b * y = n * (a * x - b * y) := by grind
theorem L_mul {W : Way} {n eu ev : Int} (hn : 0 < n) (hu : W.bu - W.au = n * eu) (hv : W.bv - W.av = n * ev) (hb : W.back = 0 ∨ W.back = 1) (hne : eu ≠ 0) (u v : Int) :
    W.L u v ↔ (-128 * (if eu < 0 then -eu else eu) ≤ ((if eu < 0 then -eu else eu) * (W.av - 256 * v - 128) - (if eu < 0 then -ev else ev) * (W.au - 256 * u - 128)) - W.back ∧
      ((if eu < 0 then -eu else eu) * (W.av - 256 * v - 128) - (if eu < 0 then -ev else ev) * (W.au - 256 * u - 128)) - W.back < 128 * (if eu < 0 then -eu else eu)) := by
  unfold Way.L Way.off Way.du Way.dv
  have hneg := mul_neg_iff' (d := eu) hn
  by_cases he : eu < 0
  · simp only [if_pos he]
    have hlt : W.bu < W.au := by have := hneg.2 he; omega
    simp only [if_pos hlt]
    refine Iff.trans ?_ (scale_L hn hb)
    rw [show W.au - W.bu = n * -eu by grind, show W.av - W.bv = n * -ev by grind, mul_comb]
  · simp only [if_neg he]
    have hlt : ¬ W.bu < W.au := by intro h; exact he (hneg.1 (by omega))
    simp only [if_neg hlt]
    refine Iff.trans ?_ (scale_L hn hb)
    rw [hu, hv, mul_comb]
theorem shift_off (p q j a b x y : Int) : -p * (b + j * q - x - 128) - -q * (a + j * p - y - 128) = -p * (b - x - 128) - -q * (a - y - 128) := by grind
theorem shift_off' (p q j a b x y : Int) : p * (b + j * q - x - 128) - q * (a + j * p - y - 128) = p * (b - x - 128) - q * (a - y - 128) := by grind
theorem parts_mul {ax ay bx by_ cx cy dx dy j m : Int} (hd : ¬ (dx = 0 ∧ dy = 0)) (hj : 0 < j) (hm : 0 < m) (hx : bx - ax = j * dx) (hy : by_ - ay = j * dy) (kx : cx - bx = m * dx) (ky : cy - by_ = m * dy) :
    Parts (wayOf ax ay cx cy) (wayOf ax ay bx by_) (wayOf bx by_ cx cy) := by
  have hjm : 0 < j + m := by omega
  have lx : cx - ax = (j + m) * dx := by grind
  have ly : cy - ay = (j + m) * dy := by grind
  have n1 : ¬ (ax = cx ∧ ay = cy) := by
    rintro ⟨rfl, rfl⟩
    have := mul_pos_iff' (d := dx) hjm
    have := mul_neg_iff' (d := dx) hjm
    have := mul_pos_iff' (d := dy) hjm
    have := mul_neg_iff' (d := dy) hjm
    omega
  have n2 : ¬ (ax = bx ∧ ay = by_) := by
    rintro ⟨rfl, rfl⟩
    have := mul_pos_iff' (d := dx) hj
    have := mul_neg_iff' (d := dx) hj
    have := mul_pos_iff' (d := dy) hj
    have := mul_neg_iff' (d := dy) hj
    omega
  have n3 : ¬ (bx = cx ∧ by_ = cy) := by
    rintro ⟨rfl, rfl⟩
    have := mul_pos_iff' (d := dx) hm
    have := mul_neg_iff' (d := dx) hm
    have := mul_pos_iff' (d := dy) hm
    have := mul_neg_iff' (d := dy) hm
    omega
  have o1 := wayOf_ok n1
  have o2 := wayOf_ok n2
  have o3 := wayOf_ok n3
  have p1 := mul_pos_iff' (d := dx) hj
  have p2 := mul_neg_iff' (d := dx) hj
  have p3 := mul_pos_iff' (d := dx) hm
  have p4 := mul_neg_iff' (d := dx) hm
  have q1 := mul_pos_iff' (d := dy) hj
  have q2 := mul_neg_iff' (d := dy) hj
  have q3 := mul_pos_iff' (d := dy) hm
  have q4 := mul_neg_iff' (d := dy) hm
  by_cases ht : max dx (-dx) < max dy (-dy)
  · rw [wayOf_mul hjm lx ly, if_pos ht] at o1 ⊢
    rw [wayOf_mul hj hx hy, if_pos ht] at o2 ⊢
    rw [wayOf_mul hm kx ky, if_pos ht] at o3 ⊢
    have hne : dy ≠ 0 := by omega
    refine ⟨rfl, rfl, rfl, rfl, rfl, rfl, rfl, rfl, rfl, rfl, o1, o2, o3, ?_, ?_, ?_⟩
    · intro u v
      rw [L_mul hj hy hx (.inr rfl) hne, L_mul hjm ly lx (.inr rfl) hne]
    · intro u v
      rw [L_mul hm ky kx (.inr rfl) hne, L_mul hjm ly lx (.inr rfl) hne]
      dsimp only
      rw [show bx = ax + j * dx by omega, show by_ = ay + j * dy by omega]
      split
      · rw [shift_off]
      · rw [shift_off']
    · dsimp only; omega
  · rw [wayOf_mul hjm lx ly, if_neg ht] at o1 ⊢
    rw [wayOf_mul hj hx hy, if_neg ht] at o2 ⊢
    rw [wayOf_mul hm kx ky, if_neg ht] at o3 ⊢
    have hne : dx ≠ 0 := by omega
    have hb : (if (0 < dx ∧ 0 < dy) ∨ (dx < 0 ∧ dy < 0) then (0 : Int) else 1) = 0 ∨ (if (0 < dx ∧ 0 < dy) ∨ (dx < 0 ∧ dy < 0) then (0 : Int) else 1) = 1 := by split <;> simp
    generalize (if (0 < dx ∧ 0 < dy) ∨ (dx < 0 ∧ dy < 0) then (0 : Int) else 1) = back at *
    refine ⟨rfl, rfl, rfl, rfl, rfl, rfl, rfl, rfl, rfl, rfl, o1, o2, o3, ?_, ?_, ?_⟩
    · intro u v
      rw [L_mul hj hx hy hb hne, L_mul hjm lx ly hb hne]
    · intro u v
      rw [L_mul hm kx ky hb hne, L_mul hjm lx ly hb hne]
      dsimp only
      rw [show bx = ax + j * dx by omega, show by_ = ay + j * dy by omega]
      split
      · rw [shift_off]
      · rw [shift_off']
    · dsimp only; omega
theorem lpix_parts {ax ay bx by_ cx cy dx dy j m : Int} (hj : 0 ≤ j) (hm : 0 ≤ m) (hx : bx - ax = j * dx) (hy : by_ - ay = j * dy) (kx : cx - bx = m * dx) (ky : cy - by_ = m * dy) :
    lpix ax ay cx cy = lpix ax ay bx by_ ++ lpix bx by_ cx cy := by
  by_cases h1 : ax = bx ∧ ay = by_
  · obtain ⟨rfl, rfl⟩ := h1
    rw [show lpix ax ay ax ay = [] by unfold lpix; rw [if_pos ⟨rfl, rfl⟩], List.nil_append]
  by_cases h2 : bx = cx ∧ by_ = cy
  · obtain ⟨rfl, rfl⟩ := h2
    rw [show lpix bx by_ bx by_ = [] by unfold lpix; rw [if_pos ⟨rfl, rfl⟩], List.append_nil]
  have hj0 : 0 < j := by
    rcases Int.lt_or_le 0 j with h | h
    · exact h
    · obtain rfl : j = 0 := by omega
      rw [Int.zero_mul] at hx hy
      omega
  have hm0 : 0 < m := by
    rcases Int.lt_or_le 0 m with h | h
    · exact h
    · obtain rfl : m = 0 := by omega
      rw [Int.zero_mul] at kx ky
      omega
  have hd : ¬ (dx = 0 ∧ dy = 0) := by
    rintro ⟨rfl, rfl⟩
    rw [Int.mul_zero] at hx hy
    omega
  have S := parts_mul hd hj0 hm0 hx hy kx ky
  have h3 : ¬ (ax = cx ∧ ay = cy) := by
    have o := S.oa.pos
    rintro ⟨rfl, rfl⟩
    unfold Way.du wayOf at o
    simp at o
  unfold lpix
  rw [if_neg h1, if_neg h2, if_neg h3, S.pix, S.tb, S.tc, List.map_append]
end Go.Proofs.YtplljnfjkkloeaaGreatDoor
set_option linter.unusedVariables false
set_option linter.unusedSimpArgs false
namespace Go.Proofs.YtplljnfjkkloeaaGreatDoor
def numbered (P : Int → Int → Prop) [∀ x y, Decidable (P x y)] (l : List (Int × Int)) (k : Nat) : List (Int × Int × Int) :=
  (l.zipIdx k).flatMap fun p => if P p.1.1 p.1.2 then [((p.2 : Int), p.1.1, p.1.2)] else []
section
variable {P : Int → Int → Prop} [∀ x y, Decidable (P x y)]
theorem numbered_append (l m : List (Int × Int)) (k : Nat) : numbered P (l ++ m) k = numbered P l k ++ numbered P m (k + l.length) := by
  unfold numbered
  rw [List.zipIdx_append, List.flatMap_append]
theorem numbered_range (f : Nat → Int × Int) (n k : Nat) : numbered P ((List.range n).map f) k = (List.range n).flatMap fun i => if P (f i).1 (f i).2 then [(((k + i : Nat) : Int), (f i).1, (f i).2)] else [] := by
  induction n with
  | zero => rfl
  | succ n ih =>
    rw [List.range_succ, List.map_append, numbered_append, ih, List.flatMap_append, List.length_map, List.length_range]
    congr 1
theorem flatMap_none {α β : Type} {l : List α} {f : α → List β} (h : ∀ x ∈ l, f x = []) : l.flatMap f = [] := by
  induction l with
  | nil => rfl
  | cons x l ih => rw [List.flatMap_cons, h x (by simp), ih (fun y hy => h y (by simp [hy]))]; rfl
theorem flatMap_part {β : Type} {f : Nat → List β} {m b n : Nat} (hm : b + n ≤ m) (h : ∀ i, i < m → i < b ∨ b + n ≤ i → f i = []) : (List.range m).flatMap f = (List.range n).flatMap fun i => f (b + i) := by
  obtain ⟨q, rfl⟩ : ∃ q, m = b + (n + q) := ⟨m - (b + n), by omega⟩
  rw [List.range_add, List.flatMap_append, flatMap_none (l := List.range b), List.nil_append, List.range_add, List.map_append, List.flatMap_append]
  · rw [flatMap_none (l := List.map (fun x => b + x) (List.map (fun x => n + x) (List.range q))), List.append_nil, List.flatMap_map]
    intro x hx
    simp only [List.mem_map, List.mem_range] at hx
    obtain ⟨y, ⟨z, hz, rfl⟩, rfl⟩ := hx
    exact h _ (by omega) (by omega)
  · intro x hx
    have := List.mem_range.1 hx
    exact h _ (by omega) (by omega)
end
end Go.Proofs.YtplljnfjkkloeaaGreatDoor
set_option linter.unusedVariables false
set_option linter.unusedSimpArgs false
namespace Go.Proofs.YtplljnfjkkloeaaGreatDoor
open Go.RowKit
instance (r : Rc) : ∀ x y, Decidable (r.Has x y) := fun x y => inferInstance
def stepL (ax ay bx by_ : Int) (r : Rc) : List (Int × Int × Int) := numbered r.Has (lpix ax ay bx by_) 0
theorem Way.swap_px (W : Way) (p : Int × Int) : (if W.turned = true then (p.2, p.1) else p) = (W.px p.1 p.2, W.py p.1 p.2) := by
  unfold Way.px Way.py
  split <;> rfl
theorem far_low {W : Way} {r : Rc} {u v : Int} (h : r.Has (W.px u v) (W.py u v)) : lowU W r ≤ u ∧ u < highU W r := by
  unfold lowU highU
  unfold Rc.Has Way.px Way.py at h
  by_cases k : W.turned = true
  · simp only [if_pos k] at h ⊢; omega
  · simp only [if_neg k] at h ⊢; omega
theorem witL_is (W : Way) (r : Rc) : witL W r = numbered r.Has (W.pix.map fun p => if W.turned = true then (p.2, p.1) else p) 0 := by
  have hf : (fun p : Int × Int => if W.turned = true then (p.2, p.1) else p) = fun p => (W.px p.1 p.2, W.py p.1 p.2) := funext W.swap_px
  rw [hf]
  unfold witL Way.pix
  rw [List.map_append, numbered_append]
  have hh : hdL W r = numbered r.Has (W.head.map fun p => (W.px p.1 p.2, W.py p.1 p.2)) 0 := by
    unfold hdL Way.head
    by_cases he : W.extra = true
    · obtain ⟨u, v, hp, -, -⟩ := W.extra_is.1 he
      have hu : W.xu = u ∧ W.xv = v := by
        unfold Way.xu Way.xv
        rw [if_pos he, if_pos he, hp]
        exact ⟨rfl, rfl⟩
      rw [if_pos he, hp, hu.1, hu.2]
      simp [numbered, he]
    · rw [if_neg he, if_neg (fun h => he h.1)]
      rfl
  rw [hh]
  congr 1
  have hlen : (0 : Nat) + (W.head.map fun p => (W.px p.1 p.2, W.py p.1 p.2)).length = if W.extra = true then 1 else 0 := by
    rw [List.length_map, W.head_len]; omega
  rw [hlen]
  unfold Way.body
  rw [List.map_map]
  have hcomp : ((fun p : Int × Int => (W.px p.1 p.2, W.py p.1 p.2)) ∘ fun n => (W.mid n, W.across (W.mid n))) = fun n => (W.px (W.mid n) (W.across (W.mid n)), W.py (W.mid n) (W.across (W.mid n))) := rfl
  rw [hcomp, numbered_range]
  have hstep : W.step = 1 ∨ W.step = -1 := by unfold Way.step; split <;> simp
  by_cases hle : beginN W r ≤ endN W r
  · have hb0 : 0 ≤ beginN W r := by unfold beginN; omega
    have he1 : endN W r ≤ W.many - 1 := by unfold endN; omega
    obtain ⟨b, hb⟩ : ∃ b : Nat, (b : Int) = beginN W r := ⟨(beginN W r).toNat, by omega⟩
    obtain ⟨n, hn⟩ : ∃ n : Nat, n = (endN W r - beginN W r + 1).toNat := ⟨_, rfl⟩
    rw [flatMap_part (b := b) (n := n) (by omega), ← hn]
    · unfold bodL
      congr 1
      funext i
      unfold oneL
      rw [← hb, at_mid]
      split
      · congr 2
        split <;> omega
      · rfl
    · intro i hi hout
      rw [if_neg]
      intro hh
      obtain ⟨h1, h2⟩ := far_low hh
      unfold Way.mid at h1 h2
      have e1 : beginN W r = max (if W.step < 0 then W.first - highU W r + 1 else lowU W r - W.first) 0 := rfl
      have e2 : endN W r = min (if W.step < 0 then W.first - lowU W r else highU W r - 1 - W.first) (W.many - 1) := rfl
      rcases hstep with hs | hs <;> rw [hs] at h1 h2 e1 e2 <;> simp only [show ¬ ((1 : Int) < 0) by omega, show ((-1 : Int) < 0) by omega, if_true, if_false] at e1 e2 <;> omega
  · have e0 : (endN W r - beginN W r + 1).toNat = 0 := by omega
    rw [e0]
    symm
    rw [show bodL W r 0 = [] from rfl]
    refine flatMap_none fun i hi => ?_
    have hi' := List.mem_range.1 hi
    rw [if_neg]
    intro hh
    obtain ⟨h1, h2⟩ := far_low hh
    unfold Way.mid at h1 h2
    have e1 : beginN W r = max (if W.step < 0 then W.first - highU W r + 1 else lowU W r - W.first) 0 := rfl
    have e2 : endN W r = min (if W.step < 0 then W.first - lowU W r else highU W r - 1 - W.first) (W.many - 1) := rfl
    rcases hstep with hs | hs <;> rw [hs] at h1 h2 e1 e2 <;> simp only [show ¬ ((1 : Int) < 0) by omega, show ((-1 : Int) < 0) by omega, if_true, if_false] at e1 e2 <;> omega
theorem within_any (ax ay bx by_ : Int) (r : Rc) (w : World) (h1 : Pl ax) (h2 : Pl ay) (h3 : Pl bx) (h4 : Pl by_) (hr : r.Ok) :
    Calls Tryz.prog 187 #[.agg #[.int .i64 ax, .int .i64 ay], .agg #[.int .i64 bx, .int .i64 by_], r.v] w (WithinP (stepL ax ay bx by_ r) w) := by
  by_cases hne : ax = bx ∧ ay = by_
  · obtain ⟨rfl, rfl⟩ := hne
    have e : stepL ax ay ax ay r = [] := by
      unfold stepL lpix
      rw [if_pos ⟨rfl, rfl⟩]
      rfl
    rw [e]
    exact (within_none ax ay r w).mono fun e w' h => ⟨_, h.1, World.ownsRow_nil _ _ _ _, h.2⟩
  · have := within_way ax ay bx by_ r w h1 h2 h3 h4 hne hr
    rw [witL_is] at this
    unfold stepL lpix
    rw [if_neg hne]
    exact this
set_option maxHeartbeats 1000000 in
theorem lcount_any (ax ay bx by_ : Int) (w : World) (h1 : Pl ax) (h2 : Pl ay) (h3 : Pl bx) (h4 : Pl by_) :
    Calls Tryz.prog 184 #[.agg #[.int .i64 ax, .int .i64 ay], .agg #[.int .i64 bx, .int .i64 by_]] w fun e w' => e = .returned (.int .i64 ((lpix ax ay bx by_).length : Nat)) ∧ Ext w w' := by
  by_cases hne : ax = bx ∧ ay = by_
  · obtain ⟨rfl, rfl⟩ := hne
    have e : (lpix ax ay ax ay).length = 0 := by unfold lpix; rw [if_pos ⟨rfl, rfl⟩]; rfl
    rw [e]
    have he : ∀ W', (Op.equalIn 10000 79 (.agg #[.int .i64 ax, .int .i64 ay]) (.agg #[.int .i64 ax, .int .i64 ay])).run Tryz.prog W' = .ok true W' := by
      intro W'; rw [eq_pt]; simp
    clear e
    go_enter Tryz.func184, Tryz.ntmps184
    go_wp2_with fail
    go_ret
    exact ⟨rfl, by (repeat (first | with_reducible exact Ext.refl _ | with_reducible assumption | with_reducible refine Ext.alloc ?_ _ | with_reducible refine Ext.drew ?_ | with_reducible refine Ext.drewN ?_ _ | with_reducible refine Ext.later ?_ _ | (with_reducible refine Ext.setCell ?_ _ ?hp; case hp => first | (simp; done) | (simp; omega) | omega)))⟩
  · have hl : (lpix ax ay bx by_).length = (wayOf ax ay bx by_).count := by rw [lpix_len]; unfold lcount; rw [if_neg hne]
    have HNW := Lib.hid (fun w' => newWay_any ax ay bx by_ w' h1 h2 h3 h4 hne)
    have HIN := Lib.hid (wayOf_in h1 h2 h3 h4)
    have he : ∀ W', (Op.equalIn 10000 79 (.agg #[.int .i64 ax, .int .i64 ay]) (.agg #[.int .i64 bx, .int .i64 by_])).run Tryz.prog W' = .ok false W' := by
      intro W'
      rw [eq_pt]
      congr 1
      cases c1 : (ax == bx) <;> cases c2 : (ay == by_) <;> simp
      simp at c1 c2
      exact hne ⟨c1, c2⟩
    rw [hl]
    clear h1 h2 h3 h4 hne hl
    generalize wayOf ax ay bx by_ = W at *
    have HCT : Hid (((W.last - W.first).natAbs : Nat) - (if W.open_ = true then 1 else 0) + (if W.extra = true then 1 else 0) = (W.count : Int)) := Lib.hid (by
      unfold Way.count Way.many Way.size
      by_cases ho : W.open_ = true
      · have := (W.open_is.1 ho).1
        unfold Way.size at this
        rw [if_pos ho, if_pos ho]
        split <;> omega
      · rw [if_neg ho, if_neg ho]
        split <;> omega)
    go_enter Tryz.func184, Tryz.ntmps184
    go_wp2_with fail
    clear he
    refine (HNW.out _).mono ?_
    rintro e w2 ⟨g, rfl, hg, hB, hE⟩
    have HY := Lib.hid hB
    have HE := Lib.hid hE
    clear hg hB hE
    go_wp2_with fail
    refine (count_any W g W.first W.last W.extra W.open_ W.xu W.xv _ HY.out HIN.out.first.1 HIN.out.first.2).mono ?_
    rintro e w1 ⟨rfl, hE⟩
    obtain ⟨y, rfl⟩ := Later.mk' hE
    clear hE
    go_wp2_with fail
    all_goals
      go_ret
      refine ⟨?_, (((Ext.refl w).alloc _).alloc _).trans (HE.out.trans y.ext)⟩
      have hh := HCT.out
      (split at hh) <;> first | contradiction | skip
      all_goals
        rw [← hh]
        first | rfl | (refine congrArg (fun z => Ending.returned (Value.int .i64 z)) ?_; omega)
end Go.Proofs.YtplljnfjkkloeaaGreatDoor
set_option linter.unusedVariables false
set_option linter.unusedSimpArgs false
namespace Go.Proofs.YtplljnfjkkloeaaGreatDoor
attribute [local go_sem] Go.Oper.semAt_some
open Go.RowKit
def alongP (a b : Wv) (x y : Int) : Int × Int := if max (b.x - a.x) (-(b.x - a.x)) < max (b.y - a.y) (-(b.y - a.y)) then (y * 256 + 128 - a.y, b.y - a.y) else (x * 256 + 128 - a.x, b.x - a.x)
def along (a b : Wv) (x y : Int) : Int × Int := if (alongP a b x y).2 < 0 then (-(alongP a b x y).1, -(alongP a b x y).2) else alongP a b x y
theorem along_bound {a b : Wv} {x y : Int} (h1 : Pl a.x) (h2 : Pl a.y) (h3 : Pl b.x) (h4 : Pl b.y) : (along a b x y).2 < 9223372036854775808 := by
  unfold Pl at *
  unfold along alongP
  repeat' split
  all_goals (simp only at *; omega)
theorem agg_win (W : World) : (isAgg 177).run Tryz.prog W = .ok true W := by kernel_rfl
set_option maxRecDepth 100000 in
set_option maxHeartbeats 4000000 in
theorem along_any (a b : Wv) (x y : Int) (w : World) (ha : a.Ok) (hb : b.Ok) (h1 : Pl a.x) (h2 : Pl a.y) (h3 : Pl b.x) (h4 : Pl b.y) (hx : Pl x) (hy : Pl y) :
    Calls Tryz.prog 190 #[a.v, b.v, .int .i64 x, .int .i64 y] w fun e w' =>
      e = .returned (.tuple #[.int .i64 (lmid a.z b.z (along a b x y).1 (along a b x y).2), .agg #[.int .i64 (lmid a.c0 b.c0 (along a b x y).1 (along a b x y).2), .int .i64 (lmid a.c1 b.c1 (along a b x y).1 (along a b x y).2),
        .int .i64 (lmid a.c2 b.c2 (along a b x y).1 (along a b x y).2), .int .i64 (lmid a.c3 b.c3 (along a b x y).1 (along a b x y).2)]]) ∧ Ext w w' := by
  have hbd := along_bound (x := x) (y := y) h1 h2 h3 h4
  obtain ⟨h11, h12⟩ := h1
  obtain ⟨h21, h22⟩ := h2
  obtain ⟨h31, h32⟩ := h3
  obtain ⟨h41, h42⟩ := h4
  obtain ⟨hx1, hx2⟩ := hx
  obtain ⟨hy1, hy2⟩ := hy
  have HBD := Lib.hid hbd
  have HO := Lib.hid (And.intro ha hb)
  clear hbd ha hb
  go_enter Tryz.func190, Tryz.ntmps190
  go_wp2_with fail
  refine wp_region_later (by kernel_rfl) (by kernel_rfl) ?_
  repeat (go_big_quiet_step ((first | fail | fail)))
  refine wpQuiet_nil ?_
  intro y1
  have HB1 : Hid (Bo a b w y1.w) := Lib.hid ⟨by (repeat (first | with_reducible exact Hid.out (by assumption) | (with_reducible refine Blk.new' _ _ _ ?_; (simp; done)) | with_reducible refine Blk.alloc ?_ _ | with_reducible refine Blk.drew ?_ | with_reducible refine Blk.drewN ?_ _ | with_reducible refine Blk.later ?_ _ | (with_reducible refine Blk.far ?_ ?hp _; case hp => first | (simp; done) | (simp; omega) | omega))), by (repeat (first | with_reducible exact Hid.out (by assumption) | (with_reducible refine Blk.new' _ _ _ ?_; (simp; done)) | with_reducible refine Blk.alloc ?_ _ | with_reducible refine Blk.drew ?_ | with_reducible refine Blk.drewN ?_ _ | with_reducible refine Blk.later ?_ _ | (with_reducible refine Blk.far ?_ ?hp _; case hp => first | (simp; done) | (simp; omega) | omega))), by (repeat (first | with_reducible exact Hid.out (by assumption) | (with_reducible refine Blk.new' _ _ _ ?_; (simp; done)) | with_reducible refine Blk.alloc ?_ _ | with_reducible refine Blk.drew ?_ | with_reducible refine Blk.drewN ?_ _ | with_reducible refine Blk.later ?_ _ | (with_reducible refine Blk.far ?_ ?hp _; case hp => first | (simp; done) | (simp; omega) | omega))), by (repeat (first | with_reducible exact Ext.refl _ | with_reducible assumption | with_reducible refine Ext.alloc ?_ _ | with_reducible refine Ext.drew ?_ | with_reducible refine Ext.drewN ?_ _ | with_reducible refine Ext.later ?_ _ | (with_reducible refine Ext.setCell ?_ _ ?hp; case hp => first | (simp; done) | (simp; omega) | omega)))⟩
  generalize y1.w = W1 at *
  clear y1
  have ca := HB1.out.a.c7
  have cb := HB1.out.b.c7
  go_upto_if 39 with (fail)
  go_cut [12, 13] from 40 to 46 (fun n d wx => n = .int .i64 (alongP a b x y).1 ∧ d = .int .i64 (alongP a b x y).2 ∧ Hid (wx = W1))
  case first =>
    go_wp2_with fail
    all_goals
      go_meet
      case rel =>
        refine ⟨?_, ?_, Lib.hid rfl⟩
        all_goals
          congr 1
          unfold alongP
          split
          all_goals first | rfl | (exfalso; omega)
  case rest =>
  obtain ⟨rfl, rfl, hw⟩ := hcut
  have hw := hw.out
  subst hw
  have hp : (-100000000000 ≤ (alongP a b x y).1 ∧ (alongP a b x y).1 ≤ 100000000000) ∧ -100000000000 ≤ (alongP a b x y).2 ∧ (alongP a b x y).2 ≤ 100000000000 := by
    unfold alongP
    split <;> (simp only; omega)
  obtain ⟨⟨p1, p2⟩, p3, p4⟩ := hp
  have HAL : Hid (along a b x y = if (alongP a b x y).2 < 0 then (-(alongP a b x y).1, -(alongP a b x y).2) else alongP a b x y) := Lib.hid rfl
  generalize alongP a b x y = q at *
  obtain ⟨n0, d0⟩ := q
  simp only at p1 p2 p3 p4
  go_upto_if 48 with (fail)
  go_cut [12, 13] from 48 to 52 (fun n d wx => n = .int .i64 (along a b x y).1 ∧ d = .int .i64 (along a b x y).2 ∧ Hid (wx = wc))
  case first =>
    go_wp2_with fail
    all_goals
      go_meet
      case rel =>
        refine ⟨?_, ?_, Lib.hid rfl⟩
        all_goals
          congr 1
          rw [HAL.out]
          try simp only
          split
          all_goals first | rfl | (exfalso; omega)
  case rest =>
  obtain ⟨rfl, rfl, hw⟩ := hcut
  have hw := hw.out
  subst hw
  clear HAL p1 p2 p3 p4
  generalize hq : along a b x y = q at *
  have HQ := Lib.hid hq
  clear hq
  obtain ⟨n, d⟩ := q
  simp only at HBD
  go_upto_region 7 with fail
  have HR1 := Lib.hid HB1.out.r
  have HE1 := Lib.hid HB1.out.e
  have ca := HB1.out.a.c7
  have cb := HB1.out.b.c7
  go_region_with (first | (go_at_call 224; refine (mixer_any _ _ _).mono ?_; rintro e w1 ⟨rfl, rfl⟩) | (go_at_call 223; refine (both_any _ _ a b _ _ _ (by (repeat (first | with_reducible exact Hid.out (by assumption) | (with_reducible refine Blk.new' _ _ _ ?_; (simp; done)) | with_reducible refine Blk.alloc ?_ _ | with_reducible refine Blk.drew ?_ | with_reducible refine Blk.drewN ?_ _ | with_reducible refine Blk.later ?_ _ | (with_reducible refine Blk.far ?_ ?hp _; case hp => first | (simp; done) | (simp; omega) | omega)))) (by (repeat (first | with_reducible exact Hid.out (by assumption) | (with_reducible refine Blk.new' _ _ _ ?_; (simp; done)) | with_reducible refine Blk.alloc ?_ _ | with_reducible refine Blk.drew ?_ | with_reducible refine Blk.drewN ?_ _ | with_reducible refine Blk.later ?_ _ | (with_reducible refine Blk.far ?_ ?hp _; case hp => first | (simp; done) | (simp; omega) | omega)))) HO.out.1 HO.out.2 HBD.out).mono ?_; rintro e w1 ⟨rfl, hE⟩; obtain ⟨y2, rfl⟩ := Later.mk' hE; clear hE; have HR2 : Blk y2.w (w.heap.size + 1 + 1) 30 #[.int .i64 0, .int .i64 0, .int .i64 0, .int .i64 0] := (by (repeat (first | with_reducible exact Hid.out (by assumption) | (with_reducible refine Blk.new' _ _ _ ?_; (simp; done)) | with_reducible refine Blk.alloc ?_ _ | with_reducible refine Blk.drew ?_ | with_reducible refine Blk.drewN ?_ _ | with_reducible refine Blk.later ?_ _ | (with_reducible refine Blk.far ?_ ?hp _; case hp => first | (simp; done) | (simp; omega) | omega)))); have cr := HR2.c4; have fr := HR2.f4; have HR3 := Lib.hid HR2; have HE3 : Hid (Ext w y2.w) := Lib.hid (by have := HE1.out; (repeat (first | with_reducible exact Ext.refl _ | with_reducible assumption | with_reducible refine Ext.alloc ?_ _ | with_reducible refine Ext.drew ?_ | with_reducible refine Ext.drewN ?_ _ | with_reducible refine Ext.later ?_ _ | (with_reducible refine Ext.setCell ?_ _ ?hp; case hp => first | (simp; done) | (simp; omega) | omega)))); clear HR2; generalize y2.w = W9 at *))
  all_goals
    clear ca cb cr fr
    have HZ := Lib.hid (HR3.out.s4 (.int .i64 (lmid a.c0 b.c0 n d)) (.int .i64 (lmid a.c1 b.c1 n d)) (.int .i64 (lmid a.c2 b.c2 n d)) (.int .i64 (lmid a.c3 b.c3 n d)))
    have HE : Hid (Ext w ((((W9.setCell ⟨w.heap.size + 1 + 1, 0, none⟩ (.int .i64 (lmid a.c0 b.c0 n d))).setCell ⟨w.heap.size + 1 + 1, 1, none⟩ (.int .i64 (lmid a.c1 b.c1 n d))).setCell ⟨w.heap.size + 1 + 1, 2, none⟩ (.int .i64 (lmid a.c2 b.c2 n d))).setCell ⟨w.heap.size + 1 + 1, 3, none⟩ (.int .i64 (lmid a.c3 b.c3 n d)))) :=
      Lib.hid ((((HE3.out.setCell _ (by simp; omega)).setCell _ (by simp; omega)).setCell _ (by simp; omega)).setCell _ (by simp; omega))
    generalize (((W9.setCell ⟨w.heap.size + 1 + 1, 0, none⟩ (.int .i64 (lmid a.c0 b.c0 n d))).setCell ⟨w.heap.size + 1 + 1, 1, none⟩ (.int .i64 (lmid a.c1 b.c1 n d))).setCell ⟨w.heap.size + 1 + 1, 2, none⟩ (.int .i64 (lmid a.c2 b.c2 n d))).setCell ⟨w.heap.size + 1 + 1, 3, none⟩ (.int .i64 (lmid a.c3 b.c3 n d)) = WF at *
    go_wp2_with fail
    refine bodyPost_ret (results_tmp_cell rfl _ _ _ (ad := ⟨w.heap.size + 1 + 1, 0, none⟩) rfl (run_load_blk HZ.out 30 0 4 agg_color (by kernel_rfl) (by simp))) rfl ⟨by rw [HQ.out]; rfl, HE.out⟩
end Go.Proofs.YtplljnfjkkloeaaGreatDoor
