/- Plain: the pixels of a line in parts are the line's, one part's behind the other's (the lists). By an AI agent. No condition beyond what each theorem states. -/
import Derived.Test.YtplljnfjkkloeaaGreatDoorQC
set_option linter.unusedVariables false
set_option linter.unusedSimpArgs false
namespace Go.Proofs.YtplljnfjkkloeaaGreatDoor
theorem Tri.far {tn : Bool} {au av bu bv cu cv : Int} (T : Tri au av bu bv cu cv) {u v x : Int} (ha : Din tn au av u v) (h1 : Cr au bu x) (h2 : Cr bu cu u) : False := by
 obtain ⟨m⟩ := T
 unfold Din Cr at *
 cases tn <;> simp only [if_true, Bool.false_eq_true, if_false] at * <;> omega
theorem small_ext {α : Type} {l m : List α} (hl : l.length ≤ 1) (hm : m.length ≤ 1) (h : ∀ x, x ∈ l ↔ x ∈ m) : l = m := by
 match l, m, hl, hm with
 | [], [], _, _ => rfl
 | [], [y], _, _ => exact absurd ((h y).2 (List.mem_singleton.2 rfl)) (by simp)
 | [x], [], _, _ => exact absurd ((h x).1 (List.mem_singleton.2 rfl)) (by simp)
 | [x], [y], _, _ => rw [List.mem_singleton.1 ((h x).1 (List.mem_singleton.2 rfl))]
namespace Way
theorem head_le (W : Way) : W.head.length ≤ 1 := by rw [W.head_len]; split <;> omega
def raw (W : Way) : List (Int × Int) := (List.range W.size).map fun n => (W.mid n, W.across (W.mid n))
theorem body_raw (W : Way) : W.body = if W.open_ = true then W.raw.dropLast else W.raw := by
 unfold body raw many
 split
 ·rw [List.dropLast_eq_take, ← List.map_take, List.take_range, List.length_map, List.length_range]
  congr 2
  omega
 ·rfl
theorem raw_last (W : Way) (h : 0 < W.size) : W.raw.dropLast ++ [(W.last - W.step, W.across (W.last - W.step))] = W.raw := by
 rw [W.last_is h]
 unfold raw
 obtain ⟨k, hk⟩ : ∃ k, W.size = k + 1 := ⟨W.size - 1, by omega⟩
 rw [hk, List.range_succ, List.map_append]
 simp
theorem size_cr (W : Way) : 0 < W.size ↔ ∃ x, W.crossed x :=
 ⟨fun h => ⟨_, (W.crossed_is _).2 ⟨0, h, rfl⟩⟩, fun ⟨x, hx⟩ => by obtain ⟨n, hn, _⟩ := (W.crossed_is x).1 hx; omega⟩
theorem open_of {W : Way} (h : W.Ok) {u v : Int} (hi : W.inW W.bu W.bv u v) (hc : W.crossed u) : W.open_ = true ∧ u = W.last - W.step ∧ v = W.across (W.last - W.step) := by
 obtain ⟨h1, h2⟩ := pb_last hi hc
 have hL := (Way.across_is h.pos u v).2 (Way.in_meets h (.inr hi)).2.2
 refine ⟨W.open_is.2 ⟨h1, ?_⟩, h2, by rw [← h2, hL]⟩
 rw [← h2, hL]
 exact hi
end Way
namespace Parts
variable {A B C : Way} (S : Parts A B C)
include S
theorem raws : A.raw = B.raw ++ C.raw := by
 obtain ⟨h1, h2, h3⟩ := S.sizes
 unfold Way.raw
 rw [h1, List.range_add, List.map_append, List.map_map]
 congr 1
 ·apply List.map_congr_left
  intro n hn
  rw [h2 n (List.mem_range.1 hn), S.ab]
 ·apply List.map_congr_left
  intro n hn
  simp only [Function.comp_apply]
  rw [h3 n (List.mem_range.1 hn), S.ac]
omit S in
theorem inA (pu pv u v : Int) : A.inW pu pv u v ↔ Din A.turned pu pv u v := Iff.rfl
theorem inB (pu pv u v : Int) : B.inW pu pv u v ↔ Din A.turned pu pv u v := by rw [Way.inW_is, S.tb]
theorem inC (pu pv u v : Int) : C.inW pu pv u v ↔ Din A.turned pu pv u v := by rw [Way.inW_is, S.tc]
omit S in
theorem hA (u v : Int) : (u, v) ∈ A.head ↔ ¬ Cr A.au A.bu u ∧ Din A.turned A.au A.av u v ∧ ¬ Din A.turned A.bu A.bv u v := A.head_mem u v
theorem hB (u v : Int) : (u, v) ∈ B.head ↔ ¬ Cr A.au B.bu u ∧ Din A.turned A.au A.av u v ∧ ¬ Din A.turned B.bu B.bv u v := by
 rw [B.head_mem, S.inB, S.inB, Way.crossed_cr, S.au, S.av]
theorem hC (u v : Int) : (u, v) ∈ C.head ↔ ¬ Cr B.bu A.bu u ∧ Din A.turned B.bu B.bv u v ∧ ¬ Din A.turned A.bu A.bv u v := by
 rw [C.head_mem, S.inC, S.inC, Way.crossed_cr, S.mu, S.mv, S.bu, S.bv]
theorem crB (u : Int) : B.crossed u ↔ Cr A.au B.bu u := by rw [Way.crossed_cr, S.au]
theorem crC (u : Int) : C.crossed u ↔ Cr B.bu A.bu u := by rw [Way.crossed_cr, S.mu, S.bu]
theorem x1 {u v : Int} (ha : Din A.turned A.au A.av u v) (hc : Cr B.bu A.bu u) : Din A.turned B.bu B.bv u v := by
 have hL : A.L u v := (Way.in_meets S.oa (.inl ha)).2.2
 have hm := Way.cross_meets S.oc ((S.crC u).2 hc) ((S.lc u v).2 hL)
 obtain ⟨m1, m2, -⟩ := hm
 rw [S.tc, S.mu, S.mv, S.bu, S.bv] at m2
 rw [S.mu, S.mv, S.bu, S.bv] at m1
 obtain ⟨m⟩ := S.tri
 unfold Din Cr at *
 generalize A.turned = tn at *
 cases tn <;> simp only [if_true, Bool.false_eq_true, if_false] at * <;> omega
theorem x2 {u v : Int} (hb : Din A.turned A.bu A.bv u v) (hc : Cr A.au B.bu u) : Din A.turned B.bu B.bv u v := by
 have hL : A.L u v := (Way.in_meets S.oa (.inr hb)).2.2
 have hm := Way.cross_meets S.ob ((S.crB u).2 hc) ((S.lb u v).2 hL)
 obtain ⟨m1, m2, -⟩ := hm
 rw [S.tb, S.au, S.av] at m2
 rw [S.au, S.av] at m1
 obtain ⟨m⟩ := S.tri
 unfold Din Cr at *
 generalize A.turned = tn at *
 cases tn <;> simp only [if_true, Bool.false_eq_true, if_false] at * <;> omega
theorem head_some (hx : 0 < B.size) : A.head = B.head := by
 obtain ⟨x, hx⟩ := B.size_cr.1 hx
 rw [S.crB] at hx
 refine small_ext A.head_le B.head_le fun ⟨u, v⟩ => ?_
 rw [hA, S.hB]
 constructor
 ·rintro ⟨h1, h2, h3⟩
  rw [S.tri.cr] at h1
  refine ⟨fun h => h1 (.inl h), h2, fun h => ?_⟩
  have := two_in h2 h hx
  subst this
  exact h1 (.inl hx)
 ·rintro ⟨h1, h2, h3⟩
  refine ⟨fun h => ?_, h2, fun h => h3 (S.tri.mid_in h2 h)⟩
  rcases (S.tri.cr u).1 h with h | h
  ·exact h1 h
  ·exact S.tri.far h2 hx h
theorem head_none (hx : B.size = 0) : A.head = B.head ++ C.head := by
 have hn : ∀ x, ¬ Cr A.au B.bu x := fun x h => by
  have := B.size_cr.2 ⟨x, (S.crB x).2 h⟩
  omega
 have hexc : ∀ p q, p ∈ B.head → q ∈ C.head → False := by
  rintro ⟨u, v⟩ ⟨u', v'⟩ hp hq
  obtain ⟨h1, h2, h3⟩ := (S.hB u v).1 hp
  obtain ⟨k1, k2, k3⟩ := (S.hC u' v').1 hq
  exact k3 (S.tri.out_next h2 h1 h3 k2 k1 hn)
 refine small_ext A.head_le ?_ fun ⟨u, v⟩ => ?_
 ·rw [List.length_append]
  have h1 := B.head_le
  have h2 := C.head_le
  rcases hb : B.head with _ | ⟨p, l⟩
  ·simp only [List.length_nil]; omega
  ·rcases hc : C.head with _ | ⟨q, m⟩
   ·rw [hb] at h1; simp only [List.length_nil]; omega
   ·exact absurd (hexc p q (by rw [hb]; simp) (by rw [hc]; simp)) id
 ·rw [List.mem_append, hA, S.hB, S.hC]
  constructor
  ·rintro ⟨h1, h2, h3⟩
   rw [S.tri.cr] at h1
   by_cases hb : Din A.turned B.bu B.bv u v
   ·exact .inr ⟨fun h => h1 (.inr h), hb, h3⟩
   ·exact .inl ⟨fun h => h1 (.inl h), h2, hb⟩
  ·rintro (⟨h1, h2, h3⟩ | ⟨h1, h2, h3⟩)
   ·refine ⟨fun h => ?_, h2, fun h => h3 (S.tri.mid_in h2 h)⟩
    rcases (S.tri.cr u).1 h with h | h
    ·exact h1 h
    ·exact h3 (S.x1 h2 h)
   ·refine ⟨fun h => ?_, ?_, h3⟩
    ·rcases (S.tri.cr u).1 h with h | h
     ·exact hn u h
     ·exact h1 h
    ·rcases S.tri.end_in h2 (hn u) h1 with h | h
     ·exact h
     ·exact absurd h h3
theorem openB_of {u v : Int} (h : (u, v) ∈ C.head) (hc : Cr A.au B.bu u) : B.open_ = true := by
 obtain ⟨h1, h2, h3⟩ := (S.hC u v).1 h
 exact (Way.open_of S.ob ((S.inB _ _ _ _).2 h2) ((S.crB u).2 hc)).1
theorem openB_in (h : B.open_ = true) : 0 < B.size ∧ Cr A.au B.bu (B.last - B.step) ∧ Din A.turned B.bu B.bv (B.last - B.step) (B.across (B.last - B.step)) := by
 obtain ⟨h1, h2⟩ := B.open_is.1 h
 refine ⟨h1, (S.crB _).1 ?_, (S.inB _ _ _ _).1 h2⟩
 rw [B.last_is h1]
 exact (B.crossed_is _).2 ⟨_, by omega, rfl⟩
theorem body_some (hb : 0 < B.size) (hc : 0 < C.size) : B.raw = B.body ++ C.head := by
 obtain ⟨y, hy⟩ := C.size_cr.1 hc
 obtain ⟨x, hx⟩ := B.size_cr.1 hb
 rw [S.crC] at hy
 rw [S.crB] at hx
 rw [B.body_raw]
 split
 ·rename_i ho
  obtain ⟨-, k1, k2⟩ := S.openB_in ho
  have hh : C.head = [(B.last - B.step, B.across (B.last - B.step))] := by
   refine small_ext C.head_le (by simp) fun ⟨u, v⟩ => ?_
   rw [S.hC, List.mem_singleton, Prod.mk.injEq]
   constructor
   ·rintro ⟨h1, h2, h3⟩
    exact Din.one h2 k2
   ·rintro ⟨rfl, rfl⟩
    refine ⟨S.tri.cr_not k1, k2, fun h => ?_⟩
    have := two_in k2 h hy
    subst this
    exact S.tri.cr_not k1 hy
  rw [hh, B.raw_last hb]
 ·rename_i ho
  have hh : C.head = [] := by
   refine small_ext C.head_le (by simp) fun ⟨u, v⟩ => ⟨fun h => ?_, fun h => by cases h⟩
   obtain ⟨h1, h2, h3⟩ := (S.hC u v).1 h
   rcases S.tri.both h2 hx hy with k | k
   ·exact absurd (S.openB_of h k) ho
   ·exact absurd k h1
  rw [hh, List.append_nil]
theorem open_some (hc : 0 < C.size) : A.open_ = C.open_ := by
 obtain ⟨h1, h2, h3⟩ := S.sizes
 rw [Bool.eq_iff_iff, A.open_is, C.open_is, S.inC, inA, S.bu, S.bv]
 have e : A.last - A.step = C.last - C.step := by
  rw [A.last_is (by omega), C.last_is hc, ← h3 (C.size - 1) (by omega)]
  congr 1
  omega
 rw [e, S.ac]
 constructor
 ·rintro ⟨_, k⟩; exact ⟨hc, k⟩
 ·rintro ⟨_, k⟩; exact ⟨by omega, k⟩
theorem body_none (hb : 0 < B.size) (hc : C.size = 0) : A.body = B.body ++ C.head := by
 obtain ⟨h1, h2, h3⟩ := S.sizes
 have hn : ∀ x, ¬ Cr B.bu A.bu x := fun x h => by
  have := C.size_cr.2 ⟨x, (S.crC x).2 h⟩
  omega
 obtain ⟨x, hx⟩ := B.size_cr.1 hb
 rw [S.crB] at hx
 have hrC : C.raw = [] := by unfold Way.raw; rw [hc]; rfl
 have hr : A.raw = B.raw := by rw [S.raws, hrC, List.append_nil]
 have e : A.last - A.step = B.last - B.step := by
  rw [A.last_is (by omega), B.last_is hb, ← h2 (B.size - 1) (by omega)]
  congr 1
  omega
 have oA : A.open_ = true ↔ Din A.turned A.bu A.bv (B.last - B.step) (B.across (B.last - B.step)) := by
  rw [A.open_is, inA, e, S.ab]
  exact ⟨fun h => h.2, fun h => ⟨by omega, h⟩⟩
 rw [A.body_raw, B.body_raw, hr]
 by_cases ob : B.open_ = true
 ·rw [if_pos ob]
  obtain ⟨-, k1, k2⟩ := S.openB_in ob
  by_cases oa : A.open_ = true
  ·rw [if_pos oa]
   have hh : C.head = [] := by
    refine small_ext C.head_le (by simp) fun ⟨u, v⟩ => ⟨fun h => ?_, fun h => by cases h⟩
    obtain ⟨h1, h2, h3⟩ := (S.hC u v).1 h
    obtain ⟨rfl, rfl⟩ := Din.one h2 k2
    exact absurd (oA.1 oa) h3
   rw [hh, List.append_nil]
  ·rw [if_neg oa]
   have hh : C.head = [(B.last - B.step, B.across (B.last - B.step))] := by
    refine small_ext C.head_le (by simp) fun ⟨u, v⟩ => ?_
    rw [S.hC, List.mem_singleton, Prod.mk.injEq]
    constructor
    ·rintro ⟨h1, h2, h3⟩
     exact Din.one h2 k2
    ·rintro ⟨rfl, rfl⟩
     exact ⟨hn _, k2, fun h => oa (oA.2 h)⟩
   rw [hh, B.raw_last hb]
 ·rw [if_neg ob]
  by_cases oa : A.open_ = true
  ·exfalso
   have k := oA.1 oa
   have k1 : Cr A.au B.bu (B.last - B.step) := (S.crB _).1 ((B.crossed_is _).2 ⟨B.size - 1, by omega, B.last_is hb⟩)
   have := S.x2 k k1
   exact ob (B.open_is.2 ⟨hb, (S.inB _ _ _ _).2 this⟩)
  ·rw [if_neg oa]
   have hh : C.head = [] := by
    refine small_ext C.head_le (by simp) fun ⟨u, v⟩ => ⟨fun h => ?_, fun h => by cases h⟩
    obtain ⟨h1, h2, h3⟩ := (S.hC u v).1 h
    rcases S.tri.fore h2 hx with k | k | k
    ·exact absurd (S.openB_of h k) ob
    ·exact absurd k h1
    ·exact absurd k h3
   rw [hh, List.append_nil]
theorem pix : A.pix = B.pix ++ C.pix := by
 unfold Way.pix
 rcases Nat.eq_zero_or_pos B.size with hb | hb
 ·have hrB : B.raw = [] := by unfold Way.raw; rw [hb]; rfl
  have hbB : B.body = [] := by rw [B.body_raw, hrB]; split <;> rfl
  have hbA : A.body = C.body := by
   rw [A.body_raw, C.body_raw, S.raws, hrB, List.nil_append]
   rcases Nat.eq_zero_or_pos C.size with hc | hc
   ·have hrC : C.raw = [] := by unfold Way.raw; rw [hc]; rfl
    rw [hrC]
    split <;> split <;> rfl
   ·rw [S.open_some hc]
  rw [S.head_none hb, hbA, hbB]
  simp
 ·rw [S.head_some hb]
  rcases Nat.eq_zero_or_pos C.size with hc | hc
  ·have hrC : C.raw = [] := by unfold Way.raw; rw [hc]; rfl
   have hbC : C.body = [] := by rw [C.body_raw, hrC]; split <;> rfl
   rw [S.body_none hb hc, hbC]
   simp
  ·rw [A.body_raw, S.open_some hc, S.raws, S.body_some hb hc, C.body_raw]
   split
   ·have hne : C.raw ≠ [] := by
     intro h
     have := congrArg List.length h
     unfold Way.raw at this
     simp at this
     omega
    rw [List.dropLast_append_of_ne_nil hne]
    simp
   ·simp
end Parts
end Go.Proofs.YtplljnfjkkloeaaGreatDoor
set_option linter.unusedVariables false
set_option linter.unusedSimpArgs false
namespace Go.Proofs.YtplljnfjkkloeaaGreatDoor
def wayOf (ax ay bx by_ : Int) : Way :=
 if max (bx - ax) (-(bx - ax)) < max (by_ - ay) (-(by_ - ay)) then ⟨ay, ax, by_, bx, true, 1⟩
 else ⟨ax, ay, bx, by_, false, if (0 < bx - ax ∧ 0 < by_ - ay) ∨ (bx - ax < 0 ∧ by_ - ay < 0) then 0 else 1⟩
theorem wayOf_ok {ax ay bx by_ : Int} (h : ¬ (ax = bx ∧ ay = by_)) : (wayOf ax ay bx by_).Ok := by
 unfold wayOf
 split
 ·refine ⟨?_, ?_, ?_, ?_, ?_⟩ <;> simp only [Way.du, Way.dv] <;> split <;> (try simp) <;> omega
 ·split
  ·refine ⟨?_, ?_, ?_, ?_, ?_⟩ <;> simp only [Way.du, Way.dv] <;> split <;> (try simp) <;> omega
  ·refine ⟨?_, ?_, ?_, ?_, ?_⟩ <;> simp only [Way.du, Way.dv] <;> split <;> (try simp) <;> omega
def rIn (px py x y : Int) : Prop := (px - 256 * x - 128) + (py - 256 * y - 128) ≤ 128 ∧ -128 < (px - 256 * x - 128) + (py - 256 * y - 128) ∧
 (px - 256 * x - 128) - (py - 256 * y - 128) ≤ 128 ∧ -128 < (px - 256 * x - 128) - (py - 256 * y - 128)
def rOff (ax ay bx by_ x y : Int) : Int := (bx - ax) * (ay - 256 * y - 128) - (by_ - ay) * (ax - 256 * x - 128)
def rFar (ax ay bx by_ : Int) : Int := 128 * max (max (bx - ax) (-(bx - ax))) (max (by_ - ay) (-(by_ - ay)))
def rThrough (ax ay bx by_ x y : Int) : Prop :=
 (rOff ax ay bx by_ x y - rFar ax ay bx by_ < 0 ∨ (rOff ax ay bx by_ x y - rFar ax ay bx by_ = 0 ∧ (by_ - ay < 0 ∨ (by_ - ay = 0 ∧ 0 < bx - ax)))) ∧
 (0 < rOff ax ay bx by_ x y + rFar ax ay bx by_ ∨ (rOff ax ay bx by_ x y + rFar ax ay bx by_ = 0 ∧ (0 < by_ - ay ∨ (by_ - ay = 0 ∧ bx - ax < 0))))
def rMeets (ax ay bx by_ x y : Int) : Prop :=
 (min ((ax - 256 * x - 128) + (ay - 256 * y - 128)) ((bx - 256 * x - 128) + (by_ - 256 * y - 128)) ≤ 128 ∧
  -128 < max ((ax - 256 * x - 128) + (ay - 256 * y - 128)) ((bx - 256 * x - 128) + (by_ - 256 * y - 128))) ∧
 (min ((ax - 256 * x - 128) - (ay - 256 * y - 128)) ((bx - 256 * x - 128) - (by_ - 256 * y - 128)) ≤ 128 ∧
  -128 < max ((ax - 256 * x - 128) - (ay - 256 * y - 128)) ((bx - 256 * x - 128) - (by_ - 256 * y - 128))) ∧
 ((ax = bx ∧ ay = by_) ∨ rThrough ax ay bx by_ x y)
def rExits (ax ay bx by_ x y : Int) : Prop := rMeets ax ay bx by_ x y ∧ ¬ rIn bx by_ x y
def lpix (ax ay bx by_ : Int) : List (Int × Int) :=
 if ax = bx ∧ ay = by_ then [] else (wayOf ax ay bx by_).pix.map fun p => if (wayOf ax ay bx by_).turned = true then (p.2, p.1) else p
theorem exits_same {ax ay x y : Int} : ¬ rExits ax ay ax ay x y := by
 rintro ⟨⟨h1, h2, _⟩, h3⟩
 exact h3 ⟨by omega, by omega, by omega, by omega⟩
theorem abs_of {w h : Int} : (max w (-w) < max h (-h) → max (max w (-w)) (max h (-h)) = max h (-h)) ∧ (¬ max w (-w) < max h (-h) → max (max w (-w)) (max h (-h)) = max w (-w)) := by omega
theorem through_is {ax ay bx by_ x y : Int} (hne : ¬ (ax = bx ∧ ay = by_)) :
  rThrough ax ay bx by_ x y ↔ (if (wayOf ax ay bx by_).turned = true then (wayOf ax ay bx by_).L y x else (wayOf ax ay bx by_).L x y) := by
 unfold rThrough rFar wayOf
 by_cases ht : max (bx - ax) (-(bx - ax)) < max (by_ - ay) (-(by_ - ay))
 ·rw [if_pos ht, abs_of.1 ht]
  simp only [if_true, Way.L, Way.off, Way.du, Way.dv]
  have e : rOff ax ay bx by_ x y = (bx - ax) * (ay - 256 * y - 128) - (by_ - ay) * (ax - 256 * x - 128) := rfl
  by_cases hs : by_ < ay
  ·simp only [if_pos hs]
   have e2 : (ay - by_) * (ax - 256 * x - 128) - (ax - bx) * (ay - 256 * y - 128) = rOff ax ay bx by_ x y := by rw [e]; grind
   rw [e2]
   generalize rOff ax ay bx by_ x y = o
   omega
  ·simp only [if_neg hs]
   have e2 : (by_ - ay) * (ax - 256 * x - 128) - (bx - ax) * (ay - 256 * y - 128) = -rOff ax ay bx by_ x y := by rw [e]; grind
   rw [e2]
   generalize rOff ax ay bx by_ x y = o
   omega
 ·rw [if_neg ht, abs_of.2 ht]
  simp only [Bool.false_eq_true, if_false, Way.L, Way.off, Way.du, Way.dv]
  have e : rOff ax ay bx by_ x y = (bx - ax) * (ay - 256 * y - 128) - (by_ - ay) * (ax - 256 * x - 128) := rfl
  by_cases hs : bx < ax
  ·simp only [if_pos hs]
   have e2 : (ax - bx) * (ay - 256 * y - 128) - (ay - by_) * (ax - 256 * x - 128) = -rOff ax ay bx by_ x y := by rw [e]; grind
   rw [e2]
   generalize rOff ax ay bx by_ x y = o
   split <;> omega
  ·simp only [if_neg hs]
   rw [← e]
   generalize rOff ax ay bx by_ x y = o
   split <;> omega
theorem rIn_is {ax ay bx by_ x y px py : Int} :
  rIn px py x y ↔ (if (wayOf ax ay bx by_).turned = true then (wayOf ax ay bx by_).inW py px y x else (wayOf ax ay bx by_).inW px py x y) := by
 unfold rIn Way.inW
 split <;> omega
theorem rMeets_is {ax ay bx by_ x y : Int} (hne : ¬ (ax = bx ∧ ay = by_)) :
  rMeets ax ay bx by_ x y ↔ (if (wayOf ax ay bx by_).turned = true then (wayOf ax ay bx by_).meets y x else (wayOf ax ay bx by_).meets x y) := by
 have ht := through_is (x := x) (y := y) hne
 unfold rMeets Way.meets
 rw [ht]
 have e : wayOf ax ay bx by_ = wayOf ax ay bx by_ := rfl
 by_cases h : max (bx - ax) (-(bx - ax)) < max (by_ - ay) (-(by_ - ay))
 ·have hw : wayOf ax ay bx by_ = ⟨ay, ax, by_, bx, true, 1⟩ := by unfold wayOf; rw [if_pos h]
  rw [hw]
  simp only [if_true]
  generalize Way.L _ y x = l
  constructor
  ·rintro ⟨h1, h2, h3 | h3⟩
   ·exact absurd h3 hne
   ·exact ⟨by omega, by omega, h3⟩
  ·rintro ⟨h1, h2, h3⟩
   exact ⟨by omega, by omega, .inr h3⟩
 ·have hw : (wayOf ax ay bx by_).turned = false ∧ (wayOf ax ay bx by_).au = ax ∧ (wayOf ax ay bx by_).av = ay ∧ (wayOf ax ay bx by_).bu = bx ∧ (wayOf ax ay bx by_).bv = by_ := by
   unfold wayOf; rw [if_neg h]; exact ⟨rfl, rfl, rfl, rfl, rfl⟩
  obtain ⟨w1, w2, w3, w4, w5⟩ := hw
  rw [w1, w2, w3, w4, w5]
  simp only [Bool.false_eq_true, if_false]
  generalize Way.L _ x y = l
  constructor
  ·rintro ⟨h1, h2, h3 | h3⟩
   ·exact absurd h3 hne
   ·exact ⟨by omega, by omega, h3⟩
  ·rintro ⟨h1, h2, h3⟩
   exact ⟨by omega, by omega, .inr h3⟩
theorem wayOf_end (ax ay bx by_ : Int) : (if (wayOf ax ay bx by_).turned = true then (wayOf ax ay bx by_).bu = by_ ∧ (wayOf ax ay bx by_).bv = bx else (wayOf ax ay bx by_).bu = bx ∧ (wayOf ax ay bx by_).bv = by_) := by
 unfold wayOf
 by_cases h : max (bx - ax) (-(bx - ax)) < max (by_ - ay) (-(by_ - ay))
 ·rw [if_pos h]; exact ⟨rfl, rfl⟩
 ·rw [if_neg h]; exact ⟨rfl, rfl⟩
theorem lpix_mem (ax ay bx by_ x y : Int) : (x, y) ∈ lpix ax ay bx by_ ↔ rExits ax ay bx by_ x y := by
 unfold lpix
 by_cases he : ax = bx ∧ ay = by_
 ·rw [if_pos he]
  obtain ⟨rfl, rfl⟩ := he
  exact ⟨fun h => (by cases h), fun h => absurd h exits_same⟩
 ·rw [if_neg he]
  unfold rExits
  rw [rMeets_is he, rIn_is (ax := ax) (ay := ay) (bx := bx) (by_ := by_)]
  have hend := wayOf_end ax ay bx by_
  have hok := wayOf_ok he
  generalize wayOf ax ay bx by_ = W at *
  rw [List.mem_map]
  by_cases ht : W.turned = true
  ·simp only [ht, if_true] at hend ⊢
   obtain ⟨e1, e2⟩ := hend
   rw [← e1, ← e2, ← Way.pix_mem hok]
   constructor
   ·rintro ⟨⟨u, v⟩, hp, hq⟩
    simp only [Prod.mk.injEq] at hq
    obtain ⟨rfl, rfl⟩ := hq
    exact hp
   ·intro hp
    exact ⟨_, hp, rfl⟩
  ·simp only [ht] at hend ⊢
   simp only [Bool.false_eq_true, if_false] at hend ⊢
   obtain ⟨e1, e2⟩ := hend
   rw [← e1, ← e2, ← Way.pix_mem hok]
   constructor
   ·rintro ⟨⟨u, v⟩, hp, hq⟩
    simp only [Prod.mk.injEq] at hq
    obtain ⟨rfl, rfl⟩ := hq
    exact hp
   ·intro hp
    exact ⟨_, hp, rfl⟩
def Goes (d : Nat) (ax ay bx by_ : Int) : Prop :=
 (d = 0 ∧ bx - ax > by_ - ay ∧ bx - ax > ay - by_) ∨ (d = 1 ∧ ax - bx > by_ - ay ∧ ax - bx > ay - by_) ∨
 (d = 2 ∧ by_ - ay > bx - ax ∧ by_ - ay > ax - bx) ∨ (d = 3 ∧ ay - by_ > bx - ax ∧ ay - by_ > ax - bx)
def GoesOn (d : Nat) (ax ay bx by_ : Int) : Prop :=
 (d = 0 ∧ bx - ax ≥ by_ - ay ∧ bx - ax ≥ ay - by_) ∨ (d = 1 ∧ ax - bx ≥ by_ - ay ∧ ax - bx ≥ ay - by_) ∨
 (d = 2 ∧ by_ - ay ≥ bx - ax ∧ by_ - ay ≥ ax - bx) ∨ (d = 3 ∧ ay - by_ ≥ bx - ax ∧ ay - by_ ≥ ax - bx)
theorem GoesOn.refl {d : Nat} (h : d < 4) (ax ay : Int) : GoesOn d ax ay ax ay := by
 unfold GoesOn
 omega
theorem GoesOn.trans {d : Nat} {ax ay bx by_ cx cy : Int} (h : GoesOn d ax ay bx by_) (k : GoesOn d bx by_ cx cy) : GoesOn d ax ay cx cy := by
 unfold GoesOn at *
 omega
theorem Goes.on {d : Nat} {ax ay bx by_ : Int} (h : Goes d ax ay bx by_) : GoesOn d ax ay bx by_ := by
 unfold Goes at h
 unfold GoesOn
 omega
end Go.Proofs.YtplljnfjkkloeaaGreatDoor
