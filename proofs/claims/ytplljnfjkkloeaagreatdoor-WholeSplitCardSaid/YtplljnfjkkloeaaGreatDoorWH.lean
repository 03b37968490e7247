/- Plain: a line's pixels as the document numbers and sorts them. By an AI agent. No condition beyond what each theorem states. -/
import Derived.Test.YtplljnfjkkloeaaGreatDoorWF
import Derived.Test.YtplljnfjkkloeaaGreatDoorQR
import Derived.Test.YtplljnfjkkloeaaGreatDoorPH
import Derived.Test.YtplljnfjkkloeaaGreatDoorQX
set_option linter.unusedVariables false
set_option linter.unusedSimpArgs false
namespace Go.Proofs.YtplljnfjkkloeaaGreatDoor
instance decExits (ax ay bx by_ x y : Int) : Decidable (rExits ax ay bx by_ x y) := by
  unfold rExits rMeets rIn rThrough
  infer_instance
section
variable {P : Int → Int → Prop} [∀ x y, Decidable (P x y)]
theorem numbered_cons (p : Int × Int) (l : List (Int × Int)) (k : Nat) : numbered P (p :: l) k = (if P p.1 p.2 then [((k : Int), p.1, p.2)] else []) ++ numbered P l (k + 1) := by
  have h := numbered_append (P := P) [p] l k
  simp only [List.singleton_append, List.length_singleton] at h
  rw [h]
  congr 1
  simp [numbered]
end
def pixels (x0 y0 x1 y1 : Int) : List (Int × Int) := (List.range (x1 - x0).toNat).flatMap fun (i : Nat) => (List.range (y1 - y0).toNat).map fun (j : Nat) => (x0 + i, y0 + j)
end Go.Proofs.YtplljnfjkkloeaaGreatDoor
set_option linter.unusedVariables false
set_option linter.unusedSimpArgs false
namespace Go.Proofs.YtplljnfjkkloeaaGreatDoor
def uv (p : Int × Int) : Wv := ⟨p.1, p.2, 8388607, 1, 1, 1, 1⟩
def ufr (x y : Int) : Fr := ⟨x, y, 8388607, 1, 1, 1, 1, 64⟩
theorem wfrag_uv (p q : Int × Int) (x y x' y' : Int) : wfrag (uv p) (uv q) x y x' y' = ufr x' y' := by
  unfold wfrag uv ufr
  simp only [lmid_same]
theorem lit_next (d : Da) (n k : Int) (he : 1 ≤ d.every) : (d.next n).lit k = d.lit (n + k) := by
  unfold Da.lit Da.next
  simp only
  have h1 := Int.emod_add_mul_ediv (d.done + n) (d.every * 16)
  have h2 : (d.done + (n + k)) / d.every = ((d.done + n) % (d.every * 16) + k) / d.every + 16 * ((d.done + n) / (d.every * 16)) := by
    rw [← Int.add_mul_ediv_left _ _ (show d.every ≠ 0 by omega)]
    congr 1
    have e : d.every * (16 * ((d.done + n) / (d.every * 16))) = d.every * 16 * ((d.done + n) / (d.every * 16)) := by grind
    rw [e]
    omega
  have h3 : (d.done + (n + k)) / d.every % 16 = ((d.done + n) % (d.every * 16) + k) / d.every % 16 := by rw [h2]; omega
  rw [h3]
def Da.Low (d : Da) : Prop := 1 ≤ d.every ∧ d.done % (d.every * 16) = d.done
theorem Da.Low.next {d : Da} (h : d.Low) (n : Int) : (d.next n).Low := ⟨h.1, by unfold Da.next; simp only; rw [Int.emod_emod]⟩
theorem Da.Low.zero {d : Da} (h : d.Low) : d.next 0 = d := by
  unfold Da.next
  rw [Int.add_zero, h.2]
theorem wnext_low {dashed : Bool} {d : Da} (h : d.Low) (n : Nat) : (wnext dashed d n).Low := by
  unfold wnext
  split
  · exact h.next _
  · exact h
theorem wnext_ok {dashed : Bool} {d : Da} (h : d.Ok) (n : Nat) : (wnext dashed d n).Ok := by
  unfold wnext
  split
  · obtain ⟨b0, b1, e0, e1, d0, d1⟩ := h
    have h1 := Int.emod_nonneg (d.done + n) (show d.every * 16 ≠ 0 by omega)
    have h2 := Int.emod_lt_of_pos (d.done + n) (show 0 < d.every * 16 by omega)
    exact ⟨b0, b1, e0, e1, h1, by unfold Da.next; simp only; omega⟩
  · exact h
section
variable {P : Int → Int → Prop} [∀ x y, Decidable (P x y)]
theorem numbered_shift : ∀ (l : List (Int × Int)) (k m : Nat), numbered P l (k + m) = (numbered P l m).map fun s => ((k : Int) + s.1, s.2.1, s.2.2)
  | [], k, m => rfl
  | p :: l, k, m => by
    rw [numbered_cons, numbered_cons, List.map_append, ← numbered_shift l k (m + 1)]
    congr 1
    · split
      · simp only [List.map_cons, List.map_nil, List.cons.injEq, Prod.mk.injEq, and_true]; omega
      · rfl
end
theorem flatMap_same {α β : Type} {f g : α → List β} : ∀ {l : List α}, (∀ x ∈ l, f x = g x) → l.flatMap f = l.flatMap g
  | [], _ => rfl
  | x :: l, h => by
    rw [List.flatMap_cons, List.flatMap_cons, h x (by simp), flatMap_same (l := l) (fun y hy => h y (by simp [hy]))]
def stripL (n : Nat) (dashed : Bool) (r : Rc) : Da → List Wv → List Fr
  | d, a :: b :: l => wlist a b n dashed d r ++ stripL n dashed r (wnext dashed d (wcount a b n)) (b :: l)
  | _, _ => []
def flatOf (dx dy : Int) : Bool := decide (max dx (-dx) ≥ max dy (-dy))
theorem core_uv {a b : Int × Int} {n : Nat} {dx dy j : Int} (hj : 0 < j) (hx : b.1 - a.1 = j * dx) (hy : b.2 - a.2 = j * dy) :
    coreOf (uv a) (uv b) n = ⟨a.1 - (if flatOf dx dy = true then 0 else ((n : Int) - 1) * 128), a.2 - (if flatOf dx dy = true then ((n : Int) - 1) * 128 else 0), b.1 - (if flatOf dx dy = true then 0 else ((n : Int) - 1) * 128), b.2 - (if flatOf dx dy = true then ((n : Int) - 1) * 128 else 0), flatOf dx dy⟩ := by
  unfold coreOf uv flatOf
  simp only
  rw [hx, hy, mul_abs (by omega), mul_abs (by omega)]
  have hle : j * max dx (-dx) ≥ j * max dy (-dy) ↔ max dx (-dx) ≥ max dy (-dy) := by
    have := mul_lt_iff (n := j) (x := max dx (-dx)) (y := max dy (-dy)) hj
    omega
  by_cases h : max dx (-dx) ≥ max dy (-dy)
  · rw [if_pos (hle.2 h)]
    simp [h]
  · rw [if_neg (fun k => h (hle.1 k))]
    simp [h]
theorem stepL_same (ax ay : Int) (r : Rc) : stepL ax ay ax ay r = [] := by
  unfold stepL lpix
  rw [if_pos ⟨rfl, rfl⟩]
  rfl
theorem core_same (a : Int × Int) (n : Nat) : (coreOf (uv a) (uv a) n).ax = (coreOf (uv a) (uv a) n).bx ∧ (coreOf (uv a) (uv a) n).ay = (coreOf (uv a) (uv a) n).by_ := by
  unfold coreOf uv
  split <;> exact ⟨rfl, rfl⟩
theorem wlist_same (a : Int × Int) (n : Nat) (dashed : Bool) (d : Da) (r : Rc) : wlist (uv a) (uv a) n dashed d r = [] ∧ wcount (uv a) (uv a) n = 0 := by
  obtain ⟨h1, h2⟩ := core_same a n
  unfold wlist wsteps wcount
  rw [h1, h2]
  refine ⟨by rw [stepL_same]; rfl, ?_⟩
  unfold lpix
  rw [if_pos ⟨rfl, rfl⟩]
  rfl
theorem wlist_cat {a b c : Int × Int} {dx dy j m : Int} (n : Nat) (dashed : Bool) (d : Da) (r : Rc) (hd : d.Low) (hj : 0 ≤ j) (hm : 0 ≤ m) (hx : b.1 - a.1 = j * dx) (hy : b.2 - a.2 = j * dy) (kx : c.1 - b.1 = m * dx) (ky : c.2 - b.2 = m * dy) :
    wlist (uv a) (uv b) n dashed d r ++ wlist (uv b) (uv c) n dashed (wnext dashed d (wcount (uv a) (uv b) n)) r = wlist (uv a) (uv c) n dashed d r ∧
      wcount (uv a) (uv b) n + wcount (uv b) (uv c) n = wcount (uv a) (uv c) n := by
  by_cases j0 : j = 0
  · subst j0
    have e : b = a := Prod.ext (by omega) (by omega)
    subst e
    obtain ⟨e1, e2⟩ := wlist_same b n dashed d r
    rw [e1, e2]
    have : wnext dashed d 0 = d := by
      unfold wnext
      split
      · exact hd.zero
      · rfl
    rw [this]
    exact ⟨rfl, by omega⟩
  by_cases m0 : m = 0
  · subst m0
    have e : c = b := Prod.ext (by omega) (by omega)
    subst e
    obtain ⟨e1, e2⟩ := wlist_same c n dashed (wnext dashed d (wcount (uv a) (uv c) n)) r
    rw [e1, e2]
    exact ⟨by simp, by omega⟩
  have lx : c.1 - a.1 = (j + m) * dx := by rw [Int.add_mul]; omega
  have ly : c.2 - a.2 = (j + m) * dy := by rw [Int.add_mul]; omega
  have c1 := core_uv (n := n) (show 0 < j by omega) hx hy
  have c2 := core_uv (n := n) (show 0 < m by omega) kx ky
  have c3 := core_uv (n := n) (show 0 < j + m by omega) lx ly
  generalize flatOf dx dy = fl at *
  generalize hsx : (if fl = true then 0 else ((n : Int) - 1) * 128) = sx at *
  generalize hsy : (if fl = true then ((n : Int) - 1) * 128 else 0) = sy at *
  have hp := lpix_parts (ax := a.1 - sx) (ay := a.2 - sy) (bx := b.1 - sx) (by_ := b.2 - sy) (cx := c.1 - sx) (cy := c.2 - sy) (dx := dx) (dy := dy) hj hm (by omega) (by omega) (by omega) (by omega)
  have hw1 : wcount (uv a) (uv b) n = (lpix (a.1 - sx) (a.2 - sy) (b.1 - sx) (b.2 - sy)).length := by unfold wcount; rw [c1]
  have hw2 : wcount (uv b) (uv c) n = (lpix (b.1 - sx) (b.2 - sy) (c.1 - sx) (c.2 - sy)).length := by unfold wcount; rw [c2]
  have hw3 : wcount (uv a) (uv c) n = (lpix (a.1 - sx) (a.2 - sy) (c.1 - sx) (c.2 - sy)).length := by unfold wcount; rw [c3]
  refine ⟨?_, by rw [hw1, hw2, hw3, hp, List.length_append]⟩
  unfold wlist wsteps stepL
  rw [c1, c2, c3]
  simp only
  rw [hp, numbered_append, List.flatMap_append, Nat.zero_add]
  have hr : ∀ (p q p' q' : Int), Co.reach ⟨p, q, p', q', fl⟩ r n = Co.reach ⟨0, 0, 0, 0, fl⟩ r n := fun p q p' q' => rfl
  rw [hr (a.1 - sx) (a.2 - sy) (b.1 - sx), hr (b.1 - sx), hr (a.1 - sx)]
  congr 1
  · refine flatMap_same fun s _ => ?_
    unfold wstep
    rw [c1, c3]
    simp only
    split
    · rfl
    · congr 1
      funext k
      unfold wone
      simp only [wfrag_uv]
  · have hs := numbered_shift (P := (Co.reach ⟨0, 0, 0, 0, fl⟩ r n).Has) (lpix (b.1 - sx) (b.2 - sy) (c.1 - sx) (c.2 - sy)) (lpix (a.1 - sx) (a.2 - sy) (b.1 - sx) (b.2 - sy)).length 0
    rw [Nat.add_zero] at hs
    rw [hs, List.flatMap_map]
    refine flatMap_same fun s _ => ?_
    unfold wstep
    rw [c2, c3, hw1]
    simp only
    have hl : dashed = true → (wnext dashed d (lpix (a.1 - sx) (a.2 - sy) (b.1 - sx) (b.2 - sy)).length).lit s.1 = d.lit (((lpix (a.1 - sx) (a.2 - sy) (b.1 - sx) (b.2 - sy)).length : Int) + s.1) := by
      intro hda
      unfold wnext
      rw [if_pos hda, lit_next _ _ _ hd.1]
    have hiff : (dashed = true ∧ (wnext dashed d (lpix (a.1 - sx) (a.2 - sy) (b.1 - sx) (b.2 - sy)).length).lit s.1 = false) ↔ (dashed = true ∧ d.lit (((lpix (a.1 - sx) (a.2 - sy) (b.1 - sx) (b.2 - sy)).length : Int) + s.1) = false) := by
      constructor
      · rintro ⟨h1, h2⟩
        rw [hl h1] at h2
        exact ⟨h1, h2⟩
      · rintro ⟨h1, h2⟩
        rw [← hl h1] at h2
        exact ⟨h1, h2⟩
    by_cases hc : dashed = true ∧ d.lit (((lpix (a.1 - sx) (a.2 - sy) (b.1 - sx) (b.2 - sy)).length : Int) + s.1) = false
    · rw [if_pos (hiff.2 hc), if_pos hc]
    · rw [if_neg (fun h => hc (hiff.1 h)), if_neg hc]
      refine flatMap_same fun k _ => ?_
      unfold wone
      simp only [wfrag_uv]
theorem stripL_line {dx dy : Int} (n : Nat) (dashed : Bool) (r : Rc) : ∀ (l : List Int) (a : Int × Int) (d : Da), d.Low → (∀ m ∈ l, 0 ≤ m) → ∀ (pts : List (Int × Int)),
    (∀ (k : Nat) p q, (a :: pts)[k]? = some p → (a :: pts)[k + 1]? = some q → ∃ m, l[k]? = some m ∧ q.1 - p.1 = m * dx ∧ q.2 - p.2 = m * dy) → pts.length = l.length →
    stripL n dashed r d ((a :: pts).map uv) = wlist (uv a) (uv ((a :: pts).getLast (by simp))) n dashed d r ∧ ∃ s, 0 ≤ s ∧ ((a :: pts).getLast (by simp)).1 - a.1 = s * dx ∧ ((a :: pts).getLast (by simp)).2 - a.2 = s * dy
  | [], a, d, hd, hl, pts, h, hn => by
    have : pts = [] := List.eq_nil_of_length_eq_zero (by simpa using hn)
    subst this
    refine ⟨?_, 0, by omega, by simp, by simp⟩
    simp only [List.map_cons, List.map_nil, List.getLast_singleton]
    rw [(wlist_same a n dashed d r).1]
    rfl
  | m :: l, a, d, hd, hl, [], h, hn => by simp at hn
  | m :: l, a, d, hd, hl, b :: pts, h, hn => by
    obtain ⟨m', hm', hx, hy⟩ := h 0 a b rfl rfl
    simp only [List.getElem?_cons_zero, Option.some.injEq] at hm'
    subst hm'
    have hm0 : 0 ≤ m := hl m (by simp)
    obtain ⟨ih, s, s0, sx, sy⟩ := stripL_line n dashed r l b (wnext dashed d (wcount (uv a) (uv b) n)) (wnext_low hd _) (fun x hx => hl x (by simp [hx])) pts (fun k p q hp hq => by
      have := h (k + 1) p q (by simpa using hp) (by simpa using hq)
      simpa using this) (by simpa using hn)
    have hlast : (a :: b :: pts).getLast (by simp) = (b :: pts).getLast (by simp) := by rw [List.getLast_cons]
    rw [hlast]
    refine ⟨?_, m + s, by omega, by rw [Int.add_mul]; omega, by rw [Int.add_mul]; omega⟩
    show wlist (uv a) (uv b) n dashed d r ++ stripL n dashed r (wnext dashed d (wcount (uv a) (uv b) n)) ((b :: pts).map uv) = _
    rw [ih]
    exact (wlist_cat n dashed d r hd hm0 s0 hx hy sx sy).1
end Go.Proofs.YtplljnfjkkloeaaGreatDoor
set_option linter.unusedVariables false
set_option linter.unusedSimpArgs false
namespace Go.Proofs.YtplljnfjkkloeaaGreatDoor
section
variable {P : Int → Int → Prop} [∀ x y, Decidable (P x y)]
end
def r98 : Rc := ⟨0, 0, 9, 8⟩
theorem r98_ok : r98.Ok := by unfold r98 Rc.Ok; decide
theorem strip_in (n : Nat) (dashed : Bool) (r : Rc) : ∀ (l : List (Int × Int)) (d : Da), ∀ f ∈ stripL n dashed r d (l.map uv), f = ufr f.x f.y ∧ r.Has f.x f.y
  | [], d, f, h => by simp [stripL] at h
  | [a], d, f, h => by simp [stripL] at h
  | a :: b :: l, d, f, h => by
    simp only [List.map_cons, stripL, List.mem_append] at h
    rcases h with h | h
    · unfold wlist at h
      rw [List.mem_flatMap] at h
      obtain ⟨s, -, h⟩ := h
      unfold wstep at h
      split at h
      · cases h
      · rw [List.mem_flatMap] at h
        obtain ⟨k, -, h⟩ := h
        unfold wone at h
        simp only [wfrag_uv] at h
        split at h <;> split at h
        · simp only [List.mem_singleton] at h; subst h; exact ⟨rfl, by assumption⟩
        · cases h
        · simp only [List.mem_singleton] at h; subst h; exact ⟨rfl, by assumption⟩
        · cases h
    · exact strip_in n dashed r (b :: l) _ f (by simpa using h)
end Go.Proofs.YtplljnfjkkloeaaGreatDoor
set_option linter.unusedVariables false
set_option linter.unusedSimpArgs false
namespace Go.Proofs.YtplljnfjkkloeaaGreatDoor
attribute [local go_sem] Go.Oper.semAt_some
open Go.RowKit
@[go_sem] theorem and32 (x : Int) : bits .and .i64 x 4294967295 = x % 4294967296 := and_mask 32 (by omega) x 4294967295 (by decide)
theorem andNot32 (n : Nat) (h : n < 4294967296) : bits .andNot .i64 (n : Int) 4294967295 = 0 := by
  show IntKind.i64.wrap ((BitVec.ofInt 64 (n : Int) &&& ~~~ BitVec.ofInt 64 4294967295).toNat : Int) = 0
  have e : BitVec.ofInt 64 (n : Int) &&& ~~~ BitVec.ofInt 64 4294967295 = 0#64 := by
    apply BitVec.eq_of_getLsbD_eq
    intro i hi
    rw [BitVec.getLsbD_and, BitVec.getLsbD_not, BitVec.ofInt_natCast, show (4294967295 : Int) = ((4294967295 : Nat) : Int) from rfl, BitVec.ofInt_natCast, BitVec.getLsbD_ofNat, BitVec.getLsbD_ofNat]
    by_cases h32 : i < 32
    · have : Nat.testBit 4294967295 i = true := by
        have := Nat.testBit_two_pow_sub_one 32 i
        simpa [h32] using this
      simp [this]
    · have : Nat.testBit n i = false := Nat.testBit_lt_two_pow (Nat.lt_of_lt_of_le h (by have := Nat.pow_le_pow_right (show 0 < 2 by omega) (show 32 ≤ i by omega); simpa using this))
      simp [this]
  rw [e]
  decide
theorem or0 (n : Nat) (h : n < 4611686018427387904) : bits .or .i64 0 (n : Int) = (n : Int) := by
  have := or_i64_nat 0 n (by omega) h
  simpa using this
theorem pack_int (c : C4) (w : World) (h : c.Ok) : Calls Tryz.prog 155 #[c.v] w fun e w' => e = .returned (.int .i64 (pk c.a c.b c.c c.d)) ∧ Ext w w' := by
  obtain ⟨⟨a0, a1⟩, ⟨b0, b1⟩, ⟨c0, c1⟩, ⟨d0, d1⟩⟩ := h
  obtain ⟨a, ha⟩ := Int.eq_ofNat_of_zero_le a0
  obtain ⟨b, hb⟩ := Int.eq_ofNat_of_zero_le b0
  obtain ⟨c', hc⟩ := Int.eq_ofNat_of_zero_le c0
  obtain ⟨d, hd⟩ := Int.eq_ofNat_of_zero_le d0
  unfold C4.v
  rw [ha, hb, hc, hd]
  exact pack_any a b c' d w (by omega) (by omega) (by omega) (by omega)
theorem pk_range {c : C4} (h : c.Ok) : 0 ≤ pk c.a c.b c.c c.d ∧ pk c.a c.b c.c c.d ≤ 4294967295 := by
  obtain ⟨⟨a0, a1⟩, ⟨b0, b1⟩, ⟨c0, c1⟩, ⟨d0, d1⟩⟩ := h
  unfold pk
  omega
def irow (C : List Int) : Array Value := (ivs C).toArray
theorem irow_get {C : List Int} {i : Nat} (h : i < C.length) : (irow C)[i]? = some (.int .i64 (C.getD i 0)) := by
  unfold irow
  rw [List.getElem?_toArray]
  exact ivs_get C i h
theorem irow_set (C : List Int) (i : Nat) (x : Int) : (irow C).setIfInBounds i (.int .i64 x) = irow (C.set i x) := by
  unfold irow
  rw [List.setIfInBounds_toArray]
  congr 1
  exact (List.map_set ..).symm
theorem irow_size (C : List Int) : (irow C).size = C.length := by simp [irow]
structure Op3 where
  b : Rc
  func : Int
  keep : Bool
  mix : Bool
  sf : Int
  df : Int
@[reducible] def Op3.row (o : Op3) : Array Value := #[.bool false, .int .i64 o.b.x0, .int .i64 o.b.y0, .int .i64 o.b.x1, .int .i64 o.b.y1, .bool false, .int .i64 o.func, .bool o.keep, .bool o.mix, .int .i64 o.sf, .int .i64 o.df, .bool true, .bool true, .bool true, .bool true]
@[reducible] def Op3.v (o : Op3) : Value := .agg o.row
structure Op3.Ok (o : Op3) : Prop where
  f0 : 0 ≤ o.func
  f1 : o.func < 8
  s0 : 0 ≤ o.sf
  s1 : o.sf < 8
  d0 : 0 ≤ o.df
  d1 : o.df < 8
set_option maxRecDepth 100000 in
set_option maxHeartbeats 4000000 in
theorem fright_any (o : Op3) (w : World) (h : o.Ok) : Calls Tryz.prog 250 #[o.v] w fun e w' => e = .returned (.bool true) ∧ Ext w w' := by
  obtain ⟨f0, f1, s0, s1, d0, d1⟩ := h
  go_enter Tryz.func250, Tryz.ntmps250
  go_wp2_with fail
  go_ret
  exact ⟨rfl, by (repeat (first | with_reducible exact Ext.refl _ | with_reducible assumption | with_reducible refine Ext.alloc ?_ _ | with_reducible refine Ext.drew ?_ | with_reducible refine Ext.drewN ?_ _ | with_reducible refine Ext.later ?_ _ | (with_reducible refine Ext.setCell ?_ _ ?hp; case hp => first | (simp; done) | (simp; omega) | omega)))⟩
set_option maxRecDepth 100000 in
set_option maxHeartbeats 4000000 in
theorem ffits_any (f : Fr) (w : World) (h : f.Fits) : Calls Tryz.prog 251 #[f.v] w fun e w' => e = .returned (.bool true) ∧ Ext w w' := by
  obtain ⟨⟨c00, c01⟩, ⟨c10, c11⟩, ⟨c20, c21⟩, ⟨c30, c31⟩, ⟨z0, z1⟩, ⟨m0, m1⟩⟩ := h
  have i0 := fun w => (idx_c f.c0 f.c1 f.c2 f.c3 w).1
  have i1 := fun w => (idx_c f.c0 f.c1 f.c2 f.c3 w).2.1
  have i2 := fun w => (idx_c f.c0 f.c1 f.c2 f.c3 w).2.2.1
  have i3 := fun w => (idx_c f.c0 f.c1 f.c2 f.c3 w).2.2.2
  go_enter Tryz.func251, Tryz.ntmps251
  go_wp2_with fail
  refine wp_loop_rounds 5 ?_
  rw [rounds_succ]
  go_wp2_with fail
  rw [rounds_succ]
  go_wp2_with fail
  rw [rounds_succ]
  go_wp2_with fail
  rw [rounds_succ]
  go_wp2_with fail
  rw [rounds_succ]
  go_wp2_with fail
  go_ret
  exact ⟨rfl, by (repeat (first | with_reducible exact Ext.refl _ | with_reducible assumption | with_reducible refine Ext.alloc ?_ _ | with_reducible refine Ext.drew ?_ | with_reducible refine Ext.drewN ?_ _ | with_reducible refine Ext.later ?_ _ | (with_reducible refine Ext.setCell ?_ _ ?hp; case hp => first | (simp; done) | (simp; omega) | omega)))⟩
theorem at_pix {W H x y : Int} (x0 : 0 ≤ x) (x1 : x < W) (y0 : 0 ≤ y) (y1 : y < H) (w1 : W ≤ 1024) (h1 : H ≤ 1024) : 0 ≤ y * W ∧ y * W + x < W * H ∧ W * H ≤ 1048576 := by
  have e1 : 0 ≤ y * W := Int.mul_nonneg y0 (by omega)
  have e2 : (y + 1) * W ≤ H * W := Int.mul_le_mul_of_nonneg_right (by omega) (by omega)
  have e3 : W * H ≤ 1024 * 1024 := Int.mul_le_mul w1 h1 (by omega) (by omega)
  rw [Int.add_mul] at e2
  rw [Int.mul_comm W H]
  rw [Int.mul_comm W H] at e3
  omega
end Go.Proofs.YtplljnfjkkloeaaGreatDoor
set_option linter.unusedVariables false
set_option linter.unusedSimpArgs false
namespace Go.Proofs.YtplljnfjkkloeaaGreatDoor
attribute [local go_sem] Go.Oper.semAt_some
open Go.RowKit
set_option maxRecDepth 100000 in
set_option maxHeartbeats 4000000 in
theorem get_yes (W H x y c z : Int) (X Y n : Nat) (w : World) (x0 : 0 ≤ x) (x1 : x < W) (y0 : 0 ≤ y) (y1 : y < H) (w1 : W ≤ 1024) (h1 : H ≤ 1024) (hn : W * H = n)
    (hc : w.cell? ⟨X, (y * W + x).toNat, none⟩ = some (.int .i64 c)) (hz : w.cell? ⟨Y, (y * W + x).toNat, none⟩ = some (.int .i64 z)) (c0 : 0 ≤ c) (c1 : c < 4294967296) :
    Calls Tryz.prog 254 #[.agg #[.int .i64 W, .int .i64 H, .slice (some ⟨X, 0, none⟩) n n, .slice (some ⟨Y, 0, none⟩) n n], .int .i64 x, .int .i64 y] w fun e w' =>
      e = .returned (.tuple #[.agg #[.int .i64 (c / 16777216 % 256), .int .i64 (c / 65536 % 256), .int .i64 (c / 256 % 256), .int .i64 (c % 256)], .int .i64 z, .bool true]) ∧ Ext w w' := by
  obtain ⟨p0, p1, p2⟩ := at_pix x0 x1 y0 y1 w1 h1
  have HIN := Lib.hid (fun (w' : World) hw hh => sin_yes w.heap.size W H x y w' hw hh x0 x1 y0 y1 (by omega) (by omega))
  have HUN := Lib.hid (fun w => sunpack_any c w c0 c1)
  obtain ⟨k, hk⟩ := Int.eq_ofNat_of_zero_le (show 0 ≤ y * W + x by omega)
  have hk2 : (y * W + x).toNat = k := by omega
  rw [hk2] at hc hz
  have hkn : k < n := by omega
  have hni : (n : Int) ≤ 1048576 := by omega
  have HK := Lib.hid hk
  have kn : (0 : Int) ≤ k ∧ (k : Int) < n := by omega
  have HC := Lib.hid hc
  have HZ := Lib.hid hz
  have xl : X < w.heap.size := World.block_lt_of_cell? w _ hc
  have yl : Y < w.heap.size := World.block_lt_of_cell? w _ hz
  have ny : ¬ (Y = w.heap.size + 1) := by omega
  have ny' : ¬ (w.heap.size + 1 = Y) := by omega
  clear hc hz hn
  have yw : -9223372036854775808 ≤ y * W ∧ y * W ≤ 9223372036854775807 := by omega
  have hsum : IntKind.i64.wrap (y * W + x) = k := by rw [hk]; exact IntWalk.i64_in _ (by omega)
  have hmul : IntKind.i64.wrap (y * W) = y * W := IntWalk.i64_in _ (by omega)
  go_enter Tryz.func254, Tryz.ntmps254
  go_wp2_with fail
  refine (HIN.out _ (by simp [go_sem]) (by simp [go_sem])).mono ?_
  rintro e w1 ⟨rfl, rfl⟩
  have HM : Hid (Blk ((w.alloc (.cells #[.int .i64 W, .int .i64 H, .slice (some ⟨X, 0, none⟩) n n, .slice (some ⟨Y, 0, none⟩) n n] 28)).alloc (.cells #[.int .i64 0, .int .i64 0, .int .i64 0, .int .i64 0] 30)) w.heap.size 28 #[.int .i64 W, .int .i64 H, .slice (some ⟨X, 0, none⟩) n n, .slice (some ⟨Y, 0, none⟩) n n]) := Lib.hid (by (repeat (first | with_reducible exact Hid.out (by assumption) | (with_reducible refine Blk.new' _ _ _ ?_; (simp; done)) | with_reducible refine Blk.alloc ?_ _ | with_reducible refine Blk.drew ?_ | with_reducible refine Blk.drewN ?_ _ | with_reducible refine Blk.later ?_ _ | (with_reducible refine Blk.far ?_ ?hp _; case hp => first | (simp; done) | (simp; omega) | omega))))
  have HR : Hid (Blk ((w.alloc (.cells #[.int .i64 W, .int .i64 H, .slice (some ⟨X, 0, none⟩) n n, .slice (some ⟨Y, 0, none⟩) n n] 28)).alloc (.cells #[.int .i64 0, .int .i64 0, .int .i64 0, .int .i64 0] 30)) (w.heap.size + 1) 30 #[.int .i64 0, .int .i64 0, .int .i64 0, .int .i64 0]) := Lib.hid (by (repeat (first | with_reducible exact Hid.out (by assumption) | (with_reducible refine Blk.new' _ _ _ ?_; (simp; done)) | with_reducible refine Blk.alloc ?_ _ | with_reducible refine Blk.drew ?_ | with_reducible refine Blk.drewN ?_ _ | with_reducible refine Blk.later ?_ _ | (with_reducible refine Blk.far ?_ ?hp _; case hp => first | (simp; done) | (simp; omega) | omega))))
  have HE : Hid (Ext w ((w.alloc (.cells #[.int .i64 W, .int .i64 H, .slice (some ⟨X, 0, none⟩) n n, .slice (some ⟨Y, 0, none⟩) n n] 28)).alloc (.cells #[.int .i64 0, .int .i64 0, .int .i64 0, .int .i64 0] 30))) := Lib.hid (by (repeat (first | with_reducible exact Ext.refl _ | with_reducible assumption | with_reducible refine Ext.alloc ?_ _ | with_reducible refine Ext.drew ?_ | with_reducible refine Ext.drewN ?_ _ | with_reducible refine Ext.later ?_ _ | (with_reducible refine Ext.setCell ?_ _ ?hp; case hp => first | (simp; done) | (simp; omega) | omega))))
  generalize (w.alloc (.cells #[.int .i64 W, .int .i64 H, .slice (some ⟨X, 0, none⟩) n n, .slice (some ⟨Y, 0, none⟩) n n] 28)).alloc (.cells #[.int .i64 0, .int .i64 0, .int .i64 0, .int .i64 0] 30) = W1 at *
  have cm := HM.out.c4
  go_upto_region 4 with fail
  have hc := HE.out.cell_some HC.out
  have hz := HE.out.cell_some HZ.out
  have fr := HR.out.f4
  have cr := HR.out.c4
  go_region_with (first | (go_at_call 282; refine (HUN.out _).mono ?_; rintro e w1 ⟨rfl, hE⟩; obtain ⟨y1, rfl⟩ := Later.mk' hE; clear hE; have HY : Hid (Ext W1 y1.w) := Lib.hid (by (repeat (first | with_reducible exact Ext.refl _ | with_reducible assumption | with_reducible refine Ext.alloc ?_ _ | with_reducible refine Ext.drew ?_ | with_reducible refine Ext.drewN ?_ _ | with_reducible refine Ext.later ?_ _ | (with_reducible refine Ext.setCell ?_ _ ?hp; case hp => first | (simp; done) | (simp; omega) | omega)))); have fr2 := (HR.out.ext HY.out).f4; have cr2 := (HR.out.ext HY.out).c4; have hz2 := HY.out.cell_some hz; have cm2 := (HM.out.ext HY.out).c4; generalize y1.w = W2 at *))
  all_goals
    go_wp2_with fail
    have HS := (HR.out.ext HY.out).s4 (.int .i64 (c / 16777216 % 256)) (.int .i64 (c / 65536 % 256)) (.int .i64 (c / 256 % 256)) (.int .i64 (c % 256))
    obtain ⟨s0, s1, s2, s3⟩ := HS.c4
    have HE3 := HE.out.trans HY.out
    refine bodyPost_ret (v := .tuple #[.agg #[.int .i64 (c / 16777216 % 256), .int .i64 (c / 65536 % 256), .int .i64 (c / 256 % 256), .int .i64 (c % 256)], .int .i64 z, .bool true]) (by simp [results, Tryz.results254, go_sem, s0, s1, s2, s3]) rfl ⟨rfl, by (repeat (first | with_reducible exact Ext.refl _ | with_reducible assumption | with_reducible refine Ext.alloc ?_ _ | with_reducible refine Ext.drew ?_ | with_reducible refine Ext.drewN ?_ _ | with_reducible refine Ext.later ?_ _ | (with_reducible refine Ext.setCell ?_ _ ?hp; case hp => first | (simp; done) | (simp; omega) | omega)))⟩
end Go.Proofs.YtplljnfjkkloeaaGreatDoor
set_option linter.unusedVariables false
set_option linter.unusedSimpArgs false
namespace Go.Proofs.YtplljnfjkkloeaaGreatDoor
attribute [local go_sem] Go.Oper.semAt_some
open Go.RowKit
set_option maxHeartbeats 1000000 in
theorem sin_one (g : Nat) (W H x y : Int) (w : World) (hw : w.cell? ⟨g, 1, none⟩ = some (.int .i64 W)) (hh : w.cell? ⟨g, 2, none⟩ = some (.int .i64 H)) (x0 : 0 ≤ x) (x1 : x < W) (y0 : 0 ≤ y) (y1 : y < H) (w1 : W ≤ 1099511627776) (h1 : H ≤ 1099511627776) :
    Calls Tryz.prog 281 #[.pointer (some ⟨g, 1, none⟩), .int .i64 x, .int .i64 y] w fun e w' => e = .returned (.bool true) ∧ w = w' := by
  go_enter Tryz.func281, Tryz.ntmps281
  go_wp2_with fail
  go_ret
  exact ⟨rfl, rfl⟩
structure Pic (js : Array Value) (W H n X Y : Nat) : Prop where
  w : js[1]? = some (.int .i64 (W : Int))
  h : js[2]? = some (.int .i64 (H : Int))
  c : js[3]? = some (.slice (some ⟨X, 0, none⟩) n n)
  z : js[4]? = some (.slice (some ⟨Y, 0, none⟩) n n)
  n : W * H = n
  w0 : 1 ≤ W
  h0 : 1 ≤ H
  w1 : W ≤ 1024
  h1 : H ≤ 1024
set_option maxRecDepth 100000 in
set_option maxHeartbeats 4000000 in
theorem put_yes {T : TypeId} {js : Array Value} {W H n X Y J : Nat} (x y : Int) (c : C4) (C : List Int) (w : World) (hJ : Blk w J T js) (hp : Pic js W H n X Y) (hX : Blk w X 3 (irow C)) (hl : C.length = n) (hne : X ≠ J)
    (x0 : 0 ≤ x) (x1 : x < W) (y0 : 0 ≤ y) (y1 : y < H) (hc : c.Ok) (hr : ∀ v ∈ C, 0 ≤ v ∧ v < 4294967296) :
    Calls Tryz.prog 256 #[.pointer (some ⟨J, 1, none⟩), .int .i64 x, .int .i64 y, c.v, .agg #[.bool true, .bool true, .bool true, .bool true]] w fun e w' =>
      e = .returned (.bool true) ∧ Blk w' X 3 (irow (C.set (y * W + x).toNat (pk c.a c.b c.c c.d))) ∧ Kp (· ≠ X) w w' := by
  obtain ⟨pw, ph, pc, pz, pn, w0, h0, w1, h1⟩ := hp
  obtain ⟨p0, p1, p2⟩ := at_pix x0 x1 y0 y1 (by omega) (by omega)
  obtain ⟨k, hk⟩ := Int.eq_ofNat_of_zero_le (show 0 ≤ y * W + x by omega)
  have hk2 : (y * W + x).toNat = k := by omega
  have hkn : k < n := by
    have : (W : Int) * H = n := by rw [← pn]; simp
    omega
  rw [hk2]
  have hnn : n ≤ 1048576 := by
    have : (W : Int) * H = n := by rw [← pn]; simp
    omega
  obtain ⟨old, hold⟩ : ∃ old : Nat, C.getD k 0 = old ∧ old < 4294967296 := by
    have h2 : C.getD k 0 ∈ C := by
      rw [List.getD_eq_getElem?_getD, List.getElem?_eq_getElem (by omega)]
      exact List.getElem_mem _
    have h3 := hr _ h2
    exact ⟨(C.getD k 0).toNat, by omega, by omega⟩
  obtain ⟨ho1, ho2⟩ := hold
  have hg := irow_get (C := C) (i := k) (by omega)
  rw [ho1] at hg
  obtain ⟨pk0, pk1⟩ := pk_range hc
  have HPK := Lib.hid (fun w => pack_int c w hc)
  obtain ⟨q, hq⟩ := Int.eq_ofNat_of_zero_le pk0
  rw [hq] at HPK pk1
  rw [hq]
  have hmod : ((q : Nat) : Int) % 4294967296 = q := by omega
  have hnot := andNot32 old ho2
  have hor := or0 q (by omega)
  have HIN := Lib.hid (fun (w' : World) hw hh => sin_one J W H x y w' hw hh x0 x1 y0 y1 (by omega) (by omega))
  have HBI := Lib.hid bits_all
  have HJ := Lib.hid hJ
  have HX := Lib.hid hX
  have HC1 := Lib.hid ((hJ.cell 1).trans pw)
  have HC2 := Lib.hid ((hJ.cell 2).trans ph)
  have HC3 := Lib.hid ((hJ.cell 3).trans pc)
  have HG := Lib.hid ((hX.cell k).trans hg)
  have HNE := Lib.hid hne
  have kn : (0 : Int) ≤ k ∧ (k : Int) < n := by omega
  have hmul : IntKind.i64.wrap (y * W) = y * W := IntWalk.i64_in _ (by omega)
  have hsum : IntKind.i64.wrap (y * W + x) = k := by rw [hk]; exact IntWalk.i64_in _ (by omega)
  clear hJ hX pw ph pc pz hg hr hc hne hl hk hk2 hq ho1
  go_enter Tryz.func256, Tryz.ntmps256
  go_wp2_with fail
  have HE0 : Hid (Ext w ((w.alloc (.cells #[.int .i64 c.a, .int .i64 c.b, .int .i64 c.c, .int .i64 c.d] 30)).alloc (.cells #[.bool true, .bool true, .bool true, .bool true] 49))) := Lib.hid (by (repeat (first | with_reducible exact Ext.refl _ | with_reducible assumption | with_reducible refine Ext.alloc ?_ _ | with_reducible refine Ext.drew ?_ | with_reducible refine Ext.drewN ?_ _ | with_reducible refine Ext.later ?_ _ | (with_reducible refine Ext.setCell ?_ _ ?hp; case hp => first | (simp; done) | (simp; omega) | omega))))
  have HCC : Hid (Blk ((w.alloc (.cells #[.int .i64 c.a, .int .i64 c.b, .int .i64 c.c, .int .i64 c.d] 30)).alloc (.cells #[.bool true, .bool true, .bool true, .bool true] 49)) w.heap.size 30 #[.int .i64 c.a, .int .i64 c.b, .int .i64 c.c, .int .i64 c.d]) := Lib.hid (by (repeat (first | with_reducible exact Hid.out (by assumption) | (with_reducible refine Blk.new' _ _ _ ?_; (simp; done)) | with_reducible refine Blk.alloc ?_ _ | with_reducible refine Blk.drew ?_ | with_reducible refine Blk.drewN ?_ _ | with_reducible refine Blk.later ?_ _ | (with_reducible refine Blk.far ?_ ?hp _; case hp => first | (simp; done) | (simp; omega) | omega))))
  have HMM : Hid (Blk ((w.alloc (.cells #[.int .i64 c.a, .int .i64 c.b, .int .i64 c.c, .int .i64 c.d] 30)).alloc (.cells #[.bool true, .bool true, .bool true, .bool true] 49)) (w.heap.size + 1) 49 #[.bool true, .bool true, .bool true, .bool true]) := Lib.hid (by (repeat (first | with_reducible exact Hid.out (by assumption) | (with_reducible refine Blk.new' _ _ _ ?_; (simp; done)) | with_reducible refine Blk.alloc ?_ _ | with_reducible refine Blk.drew ?_ | with_reducible refine Blk.drewN ?_ _ | with_reducible refine Blk.later ?_ _ | (with_reducible refine Blk.far ?_ ?hp _; case hp => first | (simp; done) | (simp; omega) | omega))))
  refine (HIN.out _ (HE0.out.cell_some HC1.out) (HE0.out.cell_some HC2.out)).mono ?_
  rintro e w1 ⟨rfl, rfl⟩
  generalize (w.alloc (.cells #[.int .i64 c.a, .int .i64 c.b, .int .i64 c.c, .int .i64 c.d] 30)).alloc (.cells #[.bool true, .bool true, .bool true, .bool true] 49) = W1 at *
  have c1 := HE0.out.cell_some HC1.out
  have c3 := HE0.out.cell_some HC3.out
  have cmm := HMM.out.c4
  go_upto_region 3 with fail
  refine wp_region_later (by kernel_rfl) (by kernel_rfl) ?_
  repeat (go_big_quiet_step ((first | (go_at_call 154; with_reducible exact Calls.later _ (HBI.out _)) | fail)))
  refine wpQuiet_nil ?_
  intro y1
  have HE1 := Lib.hid (HE0.out.trans y1.ext)
  have HCC1 := Lib.hid (HCC.out.ext y1.ext)
  clear c1 c3 cmm HMM HCC HE0
  generalize y1.w = W2 at *
  have ccc := HCC1.out.c4
  have cg := HE1.out.cell_some HG.out
  have hXb := HX.out.ext HE1.out
  have fg := hXb.frozen k
  have HXB := Lib.hid hXb
  clear hXb
  go_upto_region 4 with fail
  refine wp_region_later_tail 12 (by kernel_rfl) (by kernel_rfl) ?_
  simp only [List.take_succ_cons, List.take_zero, List.drop_succ_cons, List.drop_zero]
  repeat (go_big_quiet_step ((first | (go_at_call 155; with_reducible exact Calls.later _ (HPK.out _)) | fail)))
  refine wpQuiet_nil ?_
  intro y2
  have HXC := Lib.hid (HXB.out.ext y2.ext)
  have HK2 : Hid (Ext w y2.w) := Lib.hid (HE1.out.trans y2.ext)
  have fg3 := HXC.out.frozen k
  have cg3 := HK2.out.cell_some HG.out
  generalize y2.w = W3 at *
  clear cg fg
  go_wp2_with fail
  go_ret
  refine ⟨rfl, ?_, (Kp.of_ext HK2.out).setCell _ (fun h => h rfl)⟩
  have := HXC.out.set_ k (.int .i64 (q : Int))
  rw [irow_set] at this
  exact this
end Go.Proofs.YtplljnfjkkloeaaGreatDoor
