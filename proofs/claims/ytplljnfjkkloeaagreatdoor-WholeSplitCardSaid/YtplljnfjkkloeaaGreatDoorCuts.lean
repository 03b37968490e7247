/- The plain side of trimming: which cuts are first and last, whatever the order. No program in sight. -/
import Derived.Test.YtplljnfjkkloeaaGreatDoorRG
set_option linter.unusedVariables false
set_option linter.unusedSimpArgs false
namespace Go.Proofs.YtplljnfjkkloeaaGreatDoor
def less (x y : Int × Int) : Prop := x.1 * y.2 < y.1 * x.2
instance (x y : Int × Int) : Decidable (less x y) := inferInstanceAs (Decidable (_ < _))
def ins (c : Int × Int) : Prop := c.1 < 0 ∧ 0 ≤ c.2
def outs (c : Int × Int) : Prop := 0 ≤ c.1 ∧ c.2 < 0
def gone (c : Int × Int) : Prop := c.1 < 0 ∧ c.2 < 0
instance (c : Int × Int) : Decidable (ins c) := inferInstanceAs (Decidable (_ ∧ _))
instance (c : Int × Int) : Decidable (outs c) := inferInstanceAs (Decidable (_ ∧ _))
instance (c : Int × Int) : Decidable (gone c) := inferInstanceAs (Decidable (_ ∧ _))
def inCut (c : Int × Int) : Int × Int := (-c.1, c.2 - c.1)
def outCut (c : Int × Int) : Int × Int := (c.1, c.1 - c.2)
theorem inCut_pos {c : Int × Int} (h : ins c) : 0 < (inCut c).2 := by
  obtain ⟨h1, h2⟩ := h; simp only [inCut]; omega
theorem outCut_pos {c : Int × Int} (h : outs c) : 0 < (outCut c).2 := by
  obtain ⟨h1, h2⟩ := h; simp only [outCut]; omega
theorem less_irrefl (x : Int × Int) : ¬ less x x := by simp only [less]; omega
theorem not_less_trans {x y z : Int × Int} (hx : 0 < x.2) (hy : 0 < y.2) (hz : 0 < z.2) (h1 : ¬ less x y) (h2 : ¬ less y z) : ¬ less x z := by
  simp only [less, Int.not_lt] at *
  have a : y.1 * x.2 * z.2 ≤ x.1 * y.2 * z.2 := Int.mul_le_mul_of_nonneg_right h1 (by omega)
  have b : z.1 * y.2 * x.2 ≤ y.1 * z.2 * x.2 := Int.mul_le_mul_of_nonneg_right h2 (by omega)
  have e1 : y.1 * z.2 * x.2 = y.1 * x.2 * z.2 := by rw [Int.mul_assoc, Int.mul_comm z.2, ← Int.mul_assoc]
  have e2 : z.1 * y.2 * x.2 = (z.1 * x.2) * y.2 := by rw [Int.mul_assoc, Int.mul_comm y.2, ← Int.mul_assoc]
  have e3 : x.1 * y.2 * z.2 = (x.1 * z.2) * y.2 := by rw [Int.mul_assoc, Int.mul_comm y.2, ← Int.mul_assoc]
  have c : (z.1 * x.2) * y.2 ≤ (x.1 * z.2) * y.2 := by omega
  exact Int.le_of_mul_le_mul_right c hy
theorem less_asymm {x y : Int × Int} (h : less x y) : ¬ less y x := by simp only [less] at *; omega
def First (l : List (Int × Int)) (f : Int × Int) : Prop :=
  (f = (0, 0) ∧ ∀ c ∈ l, ¬ ins c) ∨ (∃ c ∈ l, ins c ∧ f = inCut c ∧ ∀ c' ∈ l, ins c' → ¬ less f (inCut c'))
def Last (l : List (Int × Int)) (g : Int × Int) : Prop :=
  (g = (0, 0) ∧ ∀ c ∈ l, ¬ outs c) ∨ (∃ c ∈ l, outs c ∧ g = outCut c ∧ ∀ c' ∈ l, outs c' → ¬ less (outCut c') g)
def Left (l : List (Int × Int)) (f g : Int × Int) : Prop :=
  (∀ c ∈ l, ¬ gone c) ∧ First l f ∧ Last l g ∧ (0 < f.2 → 0 < g.2 → ¬ less g f)
def Bad (l : List (Int × Int)) : Prop :=
  (∃ c ∈ l, gone c) ∨ ∃ c ∈ l, ∃ c' ∈ l, ins c ∧ outs c' ∧ less (outCut c') (inCut c)
theorem Bad.mono {l m : List (Int × Int)} (h : Bad l) (hs : ∀ c ∈ l, c ∈ m) : Bad m := by
  rcases h with ⟨c, hc, h⟩ | ⟨c, hc, c', hc', h⟩
  · exact .inl ⟨c, hs c hc, h⟩
  · exact .inr ⟨c, hs c hc, c', hs c' hc', h⟩
theorem First.zero {l : List (Int × Int)} {f : Int × Int} (h : First l f) : f.2 = 0 ∨ 0 < f.2 := by
  rcases h with ⟨rfl, _⟩ | ⟨c, _, h, rfl, _⟩
  · exact .inl rfl
  · exact .inr (inCut_pos h)
theorem Last.zero {l : List (Int × Int)} {g : Int × Int} (h : Last l g) : g.2 = 0 ∨ 0 < g.2 := by
  rcases h with ⟨rfl, _⟩ | ⟨c, _, h, rfl, _⟩
  · exact .inl rfl
  · exact .inr (outCut_pos h)
theorem first_nil : First [] (0, 0) := .inl ⟨rfl, by simp⟩
theorem last_nil : Last [] (0, 0) := .inl ⟨rfl, by simp⟩
theorem left_nil : Left [] (0, 0) (0, 0) := ⟨by simp, first_nil, last_nil, by simp⟩
theorem First.same {l : List (Int × Int)} {f c : Int × Int} (h : First l f) (hc : ¬ ins c) : First (l ++ [c]) f := by
  rcases h with ⟨rfl, h⟩ | ⟨d, hd, h, rfl, hm⟩
  · exact .inl ⟨rfl, by simp only [List.mem_append, List.mem_singleton]; rintro x (hx | rfl); exact h x hx; exact hc⟩
  · exact .inr ⟨d, by simp [hd], h, rfl, by simp only [List.mem_append, List.mem_singleton]; rintro x (hx | rfl) hi; exact hm x hx hi; exact absurd hi hc⟩
theorem Last.same {l : List (Int × Int)} {g c : Int × Int} (h : Last l g) (hc : ¬ outs c) : Last (l ++ [c]) g := by
  rcases h with ⟨rfl, h⟩ | ⟨d, hd, h, rfl, hm⟩
  · exact .inl ⟨rfl, by simp only [List.mem_append, List.mem_singleton]; rintro x (hx | rfl); exact h x hx; exact hc⟩
  · exact .inr ⟨d, by simp [hd], h, rfl, by simp only [List.mem_append, List.mem_singleton]; rintro x (hx | rfl) hi; exact hm x hx hi; exact absurd hi hc⟩
theorem First.stay {l : List (Int × Int)} {f c : Int × Int} (h : First l f) (hf : f.2 ≠ 0) (hc : ¬ less f (inCut c)) : First (l ++ [c]) f := by
  rcases h with ⟨rfl, h⟩ | ⟨d, hd, h, rfl, hm⟩
  · exact absurd rfl hf
  · exact .inr ⟨d, by simp [hd], h, rfl, by simp only [List.mem_append, List.mem_singleton]; rintro x (hx | rfl) hi; exact hm x hx hi; exact hc⟩
theorem Last.stay {l : List (Int × Int)} {g c : Int × Int} (h : Last l g) (hf : g.2 ≠ 0) (hc : ¬ less (outCut c) g) : Last (l ++ [c]) g := by
  rcases h with ⟨rfl, h⟩ | ⟨d, hd, h, rfl, hm⟩
  · exact absurd rfl hf
  · exact .inr ⟨d, by simp [hd], h, rfl, by simp only [List.mem_append, List.mem_singleton]; rintro x (hx | rfl) hi; exact hm x hx hi; exact hc⟩
theorem First.move {l : List (Int × Int)} {f c : Int × Int} (h : First l f) (hi : ins c) (hc : f.2 = 0 ∨ less f (inCut c)) : First (l ++ [c]) (inCut c) := by
  refine .inr ⟨c, by simp, hi, rfl, ?_⟩
  simp only [List.mem_append, List.mem_singleton]
  rintro x (hx | rfl) hxi
  · rcases h with ⟨rfl, h⟩ | ⟨d, hd, h, rfl, hm⟩
    · exact absurd hxi (h x hx)
    · rcases hc with hc | hc
      · have := inCut_pos h; omega
      · exact not_less_trans (inCut_pos hi) (inCut_pos h) (inCut_pos hxi) (less_asymm hc) (hm x hx hxi)
  · exact less_irrefl _
theorem Last.move {l : List (Int × Int)} {g c : Int × Int} (h : Last l g) (hi : outs c) (hc : g.2 = 0 ∨ less (outCut c) g) : Last (l ++ [c]) (outCut c) := by
  refine .inr ⟨c, by simp, hi, rfl, ?_⟩
  simp only [List.mem_append, List.mem_singleton]
  rintro x (hx | rfl) hxi
  · rcases h with ⟨rfl, h⟩ | ⟨d, hd, h, rfl, hm⟩
    · exact absurd hxi (h x hx)
    · rcases hc with hc | hc
      · have := outCut_pos h; omega
      · exact not_less_trans (outCut_pos hxi) (outCut_pos h) (outCut_pos hi) (hm x hx hxi) (less_asymm hc)
  · exact less_irrefl _
theorem bad_of {l : List (Int × Int)} {f g : Int × Int} (hf : First l f) (hg : Last l g) (h1 : 0 < f.2) (h2 : 0 < g.2) (h : less g f) : Bad l := by
  rcases hf with ⟨rfl, _⟩ | ⟨c, hc, hi, rfl, _⟩
  · simp at h1
  rcases hg with ⟨rfl, _⟩ | ⟨c', hc', ho, rfl, _⟩
  · simp at h2
  exact .inr ⟨c, hc, c', hc', hi, ho, h⟩
def swap (c : Int × Int) : Int × Int := (c.2, c.1)
def rest (f : Int × Int) : Int × Int := (f.2 - f.1, f.2)
theorem ins_swap (c : Int × Int) : ins (swap c) ↔ outs c := by simp only [ins, outs, swap]; omega
theorem outs_swap (c : Int × Int) : outs (swap c) ↔ ins c := by simp only [ins, outs, swap]; omega
theorem gone_swap (c : Int × Int) : gone (swap c) ↔ gone c := by simp only [gone, swap]; omega
theorem inCut_swap (c : Int × Int) : inCut (swap c) = rest (outCut c) := by
  refine Prod.ext ?_ ?_
  · show -c.2 = c.1 - c.2 - c.1; omega
  · rfl
theorem outCut_swap (c : Int × Int) : outCut (swap c) = rest (inCut c) := by
  refine Prod.ext ?_ ?_
  · show c.2 = c.2 - c.1 - -c.1; omega
  · rfl
theorem less_rest (x y : Int × Int) : less (rest x) (rest y) ↔ less y x := by
  simp only [less, rest, Int.sub_mul, Int.mul_comm x.2 y.2]
  omega
theorem Last.turned {l : List (Int × Int)} {g : Int × Int} (h : Last l g) : First (l.map swap) (rest g) := by
  rcases h with ⟨rfl, h⟩ | ⟨c, hc, hi, rfl, h⟩
  · refine .inl ⟨rfl, ?_⟩
    simp only [List.mem_map]; rintro _ ⟨c, hc, rfl⟩; rw [ins_swap]; exact h c hc
  · refine .inr ⟨swap c, List.mem_map_of_mem hc, (ins_swap c).2 hi, (inCut_swap c).symm, ?_⟩
    simp only [List.mem_map]; rintro _ ⟨c', hc', rfl⟩ hi'
    rw [inCut_swap, less_rest]; exact h c' hc' ((ins_swap c').1 hi')
theorem First.turned {l : List (Int × Int)} {f : Int × Int} (h : First l f) : Last (l.map swap) (rest f) := by
  rcases h with ⟨rfl, h⟩ | ⟨c, hc, hi, rfl, h⟩
  · refine .inl ⟨rfl, ?_⟩
    simp only [List.mem_map]; rintro _ ⟨c, hc, rfl⟩; rw [outs_swap]; exact h c hc
  · refine .inr ⟨swap c, List.mem_map_of_mem hc, (outs_swap c).2 hi, (outCut_swap c).symm, ?_⟩
    simp only [List.mem_map]; rintro _ ⟨c', hc', rfl⟩ hi'
    rw [outCut_swap, less_rest]; exact h c' hc' ((outs_swap c').1 hi')
theorem Bad.turned {l : List (Int × Int)} (h : Bad l) : Bad (l.map swap) := by
  rcases h with ⟨c, hc, h⟩ | ⟨c, hc, c', hc', h1, h2, h3⟩
  · exact .inl ⟨swap c, List.mem_map_of_mem hc, (gone_swap c).2 h⟩
  · refine .inr ⟨swap c', List.mem_map_of_mem hc', swap c, List.mem_map_of_mem hc, (ins_swap c').2 h2, (outs_swap c).2 h1, ?_⟩
    rw [inCut_swap, outCut_swap, less_rest]; exact h3
end Go.Proofs.YtplljnfjkkloeaaGreatDoor
set_option linter.unusedVariables false
set_option linter.unusedSimpArgs false
namespace Go.Proofs.YtplljnfjkkloeaaGreatDoor
open Go.RowKit
def Pt (p q k n d : Int) : Prop :=
  (p < 0 ∧ q < 0 ∧ k = 3 ∧ n = 0 ∧ d = 0) ∨ (p < 0 ∧ 0 ≤ q ∧ k = 1 ∧ n = -p ∧ d = q - p) ∨ (0 ≤ p ∧ q < 0 ∧ k = 2 ∧ n = p ∧ d = p - q) ∨ (0 ≤ p ∧ 0 ≤ q ∧ k = 0 ∧ n = 0 ∧ d = 0)
theorem pt_ex (p q : Int) : ∃ k n d, Pt p q k n d := by
  unfold Pt
  by_cases hp : p < 0 <;> by_cases hq : q < 0
  · exact ⟨3, 0, 0, .inl ⟨hp, hq, rfl, rfl, rfl⟩⟩
  · exact ⟨1, -p, q - p, .inr (.inl ⟨hp, by omega, rfl, rfl, rfl⟩)⟩
  · exact ⟨2, p, p - q, .inr (.inr (.inl ⟨by omega, hq, rfl, rfl, rfl⟩))⟩
  · exact ⟨0, 0, 0, .inr (.inr (.inr ⟨by omega, by omega, rfl, rfl, rfl⟩))⟩
set_option maxHeartbeats 2000000 in
theorem part_of (s : Sd) (a b : Vx) (w : World) (hs : s.Ok) (ha : a.Fit) (hb : b.Fit) (k n d : Int) (h : Pt (dist s a) (dist s b) k n d) :
    Calls Tryz.prog 127 #[s.v, a.v, b.v] w fun e w' => e = .returned (.tuple #[.int .i64 k, .int .i64 n, .int .i64 d]) ∧ Ext w w' := by
  obtain ⟨g1, g2⟩ := dist_bound hs ha
  obtain ⟨g3, g4⟩ := dist_bound hs hb
  have HS := Lib.hid hs; clear hs
  have HA := Lib.hid ha; clear ha
  have HB := Lib.hid hb; clear hb
  have hd : (decide (dist s a < 0) = true ∧ decide (dist s b < 0) = true ∧ k = 3 ∧ n = 0 ∧ d = 0) ∨ (decide (dist s a < 0) = true ∧ decide (dist s b < 0) = false ∧ k = 1 ∧ n = -dist s a ∧ d = dist s b - dist s a) ∨
      (decide (dist s a < 0) = false ∧ decide (dist s b < 0) = true ∧ k = 2 ∧ n = dist s a ∧ d = dist s a - dist s b) ∨ (decide (dist s a < 0) = false ∧ decide (dist s b < 0) = false ∧ k = 0 ∧ n = 0 ∧ d = 0) := by
    rcases h with ⟨h1, h2, h3⟩ | ⟨h1, h2, h3⟩ | ⟨h1, h2, h3⟩ | ⟨h1, h2, h3⟩
    · exact .inl ⟨by simpa using h1, by simpa using h2, h3⟩
    · exact .inr (.inl ⟨by simpa using h1, by simpa using h2, h3⟩)
    · exact .inr (.inr (.inl ⟨by simpa using h1, by simpa using h2, h3⟩))
    · exact .inr (.inr (.inr ⟨by simpa using h1, by simpa using h2, h3⟩))
  clear h
  rcases hd with ⟨d1, d2, rfl, rfl, rfl⟩ | ⟨d1, d2, rfl, rfl, rfl⟩ | ⟨d1, d2, rfl, rfl, rfl⟩ | ⟨d1, d2, rfl, rfl, rfl⟩
  all_goals
    go_enter Tryz.func127, Tryz.ntmps127
    go_wp2_with fail
    refine wp_region_later (by kernel_rfl) (by kernel_rfl) ?_
    repeat (go_big_quiet_step ((first | (go_at_call 84; with_reducible exact Calls.later _ (dist_any s a _ HS.out HA.out)) | (go_at_call 84; with_reducible exact Calls.later _ (dist_any s b _ HS.out HB.out)))))
    refine wpQuiet_nil ?_
    intro y
    go_wp2_with fail
    go_ret3
    exact ⟨rfl, by (repeat (first | with_reducible exact Ext.refl _ | with_reducible assumption | with_reducible refine Ext.alloc ?_ _ | with_reducible refine Ext.drew ?_ | with_reducible refine Ext.drewN ?_ _ | with_reducible refine Ext.later ?_ _ | (with_reducible refine Ext.setCell ?_ _ ?hp; case hp => first | (simp; done) | (simp; omega) | omega)))⟩
@[reducible] def cutV (x : Int × Int) : Value := .agg #[.int .i64 x.1, .int .i64 x.2]
set_option maxHeartbeats 2000000 in
theorem less_cells (x1 x2 y1 y2 A B : Int) (h1 l1 h2 l2 : Int) (w : World) (r : Bool)
    (c1 : ∀ W, Calls Tryz.prog 174 #[.int .i64 x1, .int .i64 y2] W fun e w' => e = .returned (.agg #[.int .i64 h1, .int .u64 l1]) ∧ Ext W w')
    (c2 : ∀ W, Calls Tryz.prog 174 #[.int .i64 y1, .int .i64 x2] W fun e w' => e = .returned (.agg #[.int .i64 h2, .int .u64 l2]) ∧ Ext W w')
    (g : Int) (c3 : ∀ W, Calls Tryz.prog 173 #[.agg #[.int .i64 h1, .int .u64 l1], .agg #[.int .i64 h2, .int .u64 l2]] W fun e w' => e = .returned (.int .i64 g) ∧ Ext W w') (hg : decide (g < 0) = r) :
    Calls Tryz.prog 128 #[.agg #[.int .i64 x1, .int .i64 x2], .agg #[.int .i64 y1, .int .i64 y2]] w fun e w' => e = .returned (.bool r) ∧ Ext w w' := by
  have C1 := Lib.hid c1; clear c1
  have C2 := Lib.hid c2; clear c2
  have C3 := Lib.hid c3; clear c3
  subst hg
  go_enter Tryz.func128, Tryz.ntmps128
  go_wp2_with fail
  refine wp_region_later (by kernel_rfl) (by kernel_rfl) ?_
  repeat (go_big_quiet_step ((first | (go_at_call 174; with_reducible exact Calls.later _ (C1.out _)) | (go_at_call 174; with_reducible exact Calls.later _ (C2.out _)) | (go_at_call 173; with_reducible exact Calls.later _ (C3.out _)))))
  refine wpQuiet_nil ?_
  intro y
  go_wp2_with fail
  go_ret
  exact ⟨rfl, by (repeat (first | with_reducible exact Ext.refl _ | with_reducible assumption | with_reducible refine Ext.alloc ?_ _ | with_reducible refine Ext.drew ?_ | with_reducible refine Ext.drewN ?_ _ | with_reducible refine Ext.later ?_ _ | (with_reducible refine Ext.setCell ?_ _ ?hp; case hp => first | (simp; done) | (simp; omega) | omega)))⟩
def I64 (n : Int) : Prop := -9223372036854775808 ≤ n ∧ n < 9223372036854775808
theorem sgn_neg (a b : Int) : decide (sgn a b < 0) = decide (a < b) := by
  unfold sgn
  split
  · simp [*]
  · split <;> simp [*]
theorem less_any (x y : Int × Int) (w : World) (hx1 : I64 x.1) (hx2 : I64 x.2) (hy1 : I64 y.1) (hy2 : I64 y.2) :
    Calls Tryz.prog 128 #[cutV x, cutV y] w fun e w' => e = .returned (.bool (decide (less x y))) ∧ Ext w w' := by
  have := less_cells x.1 x.2 y.1 y.2 0 0 _ _ _ _ w (decide (less x y)) (fun W => mul_any x.1 y.2 W hx1.1 hx1.2 hy2.1 hy2.2) (fun W => mul_any y.1 x.2 W hy1.1 hy1.2 hx2.1 hx2.2) _ (fun W => cmp_any (x.1 * y.2) (y.1 * x.2) W) (by rw [sgn_neg]; rfl)
  exact this
end Go.Proofs.YtplljnfjkkloeaaGreatDoor
