/- The plain side of trimming: which cuts are first and last, whatever the order. No program in sight. -/
set_option linter.unusedVariables false
set_option linter.unusedSimpArgs false
namespace Go.Proofs.Ytibhfclkdbmmoaa
/-- Is a part of a way (n of d) less than another one? -/
def less (x y : Int × Int) : Prop := x.1 * y.2 < y.1 * x.2
instance (x y : Int × Int) : Decidable (less x y) := inferInstanceAs (Decidable (_ < _))
/-- A line comes in at a side: how far in both ends are. -/
def ins (c : Int × Int) : Prop := c.1 < 0 ∧ 0 ≤ c.2
def outs (c : Int × Int) : Prop := 0 ≤ c.1 ∧ c.2 < 0
def gone (c : Int × Int) : Prop := c.1 < 0 ∧ c.2 < 0
instance (c : Int × Int) : Decidable (ins c) := inferInstanceAs (Decidable (_ ∧ _))
instance (c : Int × Int) : Decidable (outs c) := inferInstanceAs (Decidable (_ ∧ _))
instance (c : Int × Int) : Decidable (gone c) := inferInstanceAs (Decidable (_ ∧ _))
def inCut (c : Int × Int) : Int × Int := (-c.1, c.2 - c.1)
def outCut (c : Int × Int) : Int × Int := (c.1, c.1 - c.2)
theorem inCut_pos {c : Int × Int} (h : ins c) : 0 < (inCut c).2 := by
  obtain ⟨h1, h2⟩ := h; simp only [inCut]; omega
theorem outCut_pos {c : Int × Int} (h : outs c) : 0 < (outCut c).2 := by
  obtain ⟨h1, h2⟩ := h; simp only [outCut]; omega
theorem less_irrefl (x : Int × Int) : ¬ less x x := by simp only [less]; omega
/-- What isn't less than one that isn't less than a third one. -/
theorem not_less_trans {x y z : Int × Int} (hx : 0 < x.2) (hy : 0 < y.2) (hz : 0 < z.2) (h1 : ¬ less x y) (h2 : ¬ less y z) : ¬ less x z := by
  simp only [less, Int.not_lt] at *
  -- y.1 * x.2 ≤ x.1 * y.2, z.1 * y.2 ≤ y.1 * z.2
  have a : y.1 * x.2 * z.2 ≤ x.1 * y.2 * z.2 := Int.mul_le_mul_of_nonneg_right h1 (by omega)
  have b : z.1 * y.2 * x.2 ≤ y.1 * z.2 * x.2 := Int.mul_le_mul_of_nonneg_right h2 (by omega)
  have e1 : y.1 * z.2 * x.2 = y.1 * x.2 * z.2 := by rw [Int.mul_assoc, Int.mul_comm z.2, ← Int.mul_assoc]
  have e2 : z.1 * y.2 * x.2 = (z.1 * x.2) * y.2 := by rw [Int.mul_assoc, Int.mul_comm y.2, ← Int.mul_assoc]
  have e3 : x.1 * y.2 * z.2 = (x.1 * z.2) * y.2 := by rw [Int.mul_assoc, Int.mul_comm y.2, ← Int.mul_assoc]
  have c : (z.1 * x.2) * y.2 ≤ (x.1 * z.2) * y.2 := by omega
  exact Int.le_of_mul_le_mul_right c hy
theorem less_asymm {x y : Int × Int} (h : less x y) : ¬ less y x := by simp only [less] at *; omega
/-- The first cut so far. -/
def First (l : List (Int × Int)) (f : Int × Int) : Prop :=
  (f = (0, 0) ∧ ∀ c ∈ l, ¬ ins c) ∨ (∃ c ∈ l, ins c ∧ f = inCut c ∧ ∀ c' ∈ l, ins c' → ¬ less f (inCut c'))
def Last (l : List (Int × Int)) (g : Int × Int) : Prop :=
  (g = (0, 0) ∧ ∀ c ∈ l, ¬ outs c) ∨ (∃ c ∈ l, outs c ∧ g = outCut c ∧ ∀ c' ∈ l, outs c' → ¬ less (outCut c') g)
def Left (l : List (Int × Int)) (f g : Int × Int) : Prop :=
  (∀ c ∈ l, ¬ gone c) ∧ First l f ∧ Last l g ∧ (0 < f.2 → 0 < g.2 → ¬ less g f)
/-- Nothing is left. -/
def Bad (l : List (Int × Int)) : Prop :=
  (∃ c ∈ l, gone c) ∨ ∃ c ∈ l, ∃ c' ∈ l, ins c ∧ outs c' ∧ less (outCut c') (inCut c)
theorem Bad.mono {l m : List (Int × Int)} (h : Bad l) (hs : ∀ c ∈ l, c ∈ m) : Bad m := by
  rcases h with ⟨c, hc, h⟩ | ⟨c, hc, c', hc', h⟩
  · exact .inl ⟨c, hs c hc, h⟩
  · exact .inr ⟨c, hs c hc, c', hs c' hc', h⟩
theorem First.zero {l : List (Int × Int)} {f : Int × Int} (h : First l f) : f.2 = 0 ∨ 0 < f.2 := by
  rcases h with ⟨rfl, _⟩ | ⟨c, _, h, rfl, _⟩
  · exact .inl rfl
  · exact .inr (inCut_pos h)
theorem Last.zero {l : List (Int × Int)} {g : Int × Int} (h : Last l g) : g.2 = 0 ∨ 0 < g.2 := by
  rcases h with ⟨rfl, _⟩ | ⟨c, _, h, rfl, _⟩
  · exact .inl rfl
  · exact .inr (outCut_pos h)
theorem first_nil : First [] (0, 0) := .inl ⟨rfl, by simp⟩
theorem last_nil : Last [] (0, 0) := .inl ⟨rfl, by simp⟩
theorem left_nil : Left [] (0, 0) (0, 0) := ⟨by simp, first_nil, last_nil, by simp⟩
theorem First.same {l : List (Int × Int)} {f c : Int × Int} (h : First l f) (hc : ¬ ins c) : First (l ++ [c]) f := by
  rcases h with ⟨rfl, h⟩ | ⟨d, hd, h, rfl, hm⟩
  · exact .inl ⟨rfl, by simp only [List.mem_append, List.mem_singleton]; rintro x (hx | rfl); exact h x hx; exact hc⟩
  · exact .inr ⟨d, by simp [hd], h, rfl, by simp only [List.mem_append, List.mem_singleton]; rintro x (hx | rfl) hi; exact hm x hx hi; exact absurd hi hc⟩
theorem Last.same {l : List (Int × Int)} {g c : Int × Int} (h : Last l g) (hc : ¬ outs c) : Last (l ++ [c]) g := by
  rcases h with ⟨rfl, h⟩ | ⟨d, hd, h, rfl, hm⟩
  · exact .inl ⟨rfl, by simp only [List.mem_append, List.mem_singleton]; rintro x (hx | rfl); exact h x hx; exact hc⟩
  · exact .inr ⟨d, by simp [hd], h, rfl, by simp only [List.mem_append, List.mem_singleton]; rintro x (hx | rfl) hi; exact hm x hx hi; exact absurd hi hc⟩
/-- One that is no greater changes nothing. -/
theorem First.stay {l : List (Int × Int)} {f c : Int × Int} (h : First l f) (hf : f.2 ≠ 0) (hc : ¬ less f (inCut c)) : First (l ++ [c]) f := by
  rcases h with ⟨rfl, h⟩ | ⟨d, hd, h, rfl, hm⟩
  · exact absurd rfl hf
  · exact .inr ⟨d, by simp [hd], h, rfl, by simp only [List.mem_append, List.mem_singleton]; rintro x (hx | rfl) hi; exact hm x hx hi; exact hc⟩
theorem Last.stay {l : List (Int × Int)} {g c : Int × Int} (h : Last l g) (hf : g.2 ≠ 0) (hc : ¬ less (outCut c) g) : Last (l ++ [c]) g := by
  rcases h with ⟨rfl, h⟩ | ⟨d, hd, h, rfl, hm⟩
  · exact absurd rfl hf
  · exact .inr ⟨d, by simp [hd], h, rfl, by simp only [List.mem_append, List.mem_singleton]; rintro x (hx | rfl) hi; exact hm x hx hi; exact hc⟩
theorem First.move {l : List (Int × Int)} {f c : Int × Int} (h : First l f) (hi : ins c) (hc : f.2 = 0 ∨ less f (inCut c)) : First (l ++ [c]) (inCut c) := by
  refine .inr ⟨c, by simp, hi, rfl, ?_⟩
  simp only [List.mem_append, List.mem_singleton]
  rintro x (hx | rfl) hxi
  · rcases h with ⟨rfl, h⟩ | ⟨d, hd, h, rfl, hm⟩
    · exact absurd hxi (h x hx)
    · rcases hc with hc | hc
      · have := inCut_pos h; omega
      · exact not_less_trans (inCut_pos hi) (inCut_pos h) (inCut_pos hxi) (less_asymm hc) (hm x hx hxi)
  · exact less_irrefl _
theorem Last.move {l : List (Int × Int)} {g c : Int × Int} (h : Last l g) (hi : outs c) (hc : g.2 = 0 ∨ less (outCut c) g) : Last (l ++ [c]) (outCut c) := by
  refine .inr ⟨c, by simp, hi, rfl, ?_⟩
  simp only [List.mem_append, List.mem_singleton]
  rintro x (hx | rfl) hxi
  · rcases h with ⟨rfl, h⟩ | ⟨d, hd, h, rfl, hm⟩
    · exact absurd hxi (h x hx)
    · rcases hc with hc | hc
      · have := outCut_pos h; omega
      · exact not_less_trans (outCut_pos hxi) (outCut_pos h) (outCut_pos hi) (hm x hx hxi) (less_asymm hc)
  · exact less_irrefl _
/-- The last cut ahead of the first one: nothing is left. -/
theorem bad_of {l : List (Int × Int)} {f g : Int × Int} (hf : First l f) (hg : Last l g) (h1 : 0 < f.2) (h2 : 0 < g.2) (h : less g f) : Bad l := by
  rcases hf with ⟨rfl, _⟩ | ⟨c, hc, hi, rfl, _⟩
  · simp at h1
  rcases hg with ⟨rfl, _⟩ | ⟨c', hc', ho, rfl, _⟩
  · simp at h2
  exact .inr ⟨c, hc, c', hc', hi, ho, h⟩
/-- What is left isn't nothing. -/
theorem Left.not_bad {l : List (Int × Int)} {f g : Int × Int} (h : Left l f g) : ¬ Bad l := by
  obtain ⟨h1, h2, h3, h4⟩ := h
  rintro (⟨c, hc, hg⟩ | ⟨c, hc, c', hc', hi, ho, hl⟩)
  · exact h1 c hc hg
  · rcases h2 with ⟨rfl, h2⟩ | ⟨d, hd, hdi, rfl, h2⟩
    · exact h2 c hc hi
    rcases h3 with ⟨rfl, h3⟩ | ⟨d', hd', hdo, rfl, h3⟩
    · exact h3 c' hc' ho
    have hn := h4 (inCut_pos hdi) (outCut_pos hdo)
    have a := not_less_trans (outCut_pos ho) (outCut_pos hdo) (inCut_pos hdi) (h3 c' hc' ho) hn
    exact not_less_trans (outCut_pos ho) (inCut_pos hdi) (inCut_pos hi) a (h2 c hc hi) hl
/-- Two that are first, of the same sides. -/
theorem First.unique {l m : List (Int × Int)} {f f' : Int × Int} (hs : ∀ c, c ∈ l ↔ c ∈ m) (h : First l f) (h' : First m f') :
    (f = (0, 0) ∧ f' = (0, 0)) ∨ (0 < f.2 ∧ 0 < f'.2 ∧ f.1 * f'.2 = f'.1 * f.2) := by
  rcases h with ⟨rfl, h⟩ | ⟨c, hc, hi, rfl, h⟩
  · rcases h' with ⟨rfl, h'⟩ | ⟨c', hc', hi', rfl, h'⟩
    · exact .inl ⟨rfl, rfl⟩
    · exact absurd hi' (h c' ((hs c').2 hc'))
  · rcases h' with ⟨rfl, h'⟩ | ⟨c', hc', hi', rfl, h'⟩
    · exact absurd hi (h' c ((hs c).1 hc))
    · have a := h c' ((hs c').2 hc') hi'
      have b := h' c ((hs c).1 hc) hi
      simp only [less] at a b
      exact .inr ⟨inCut_pos hi, inCut_pos hi', by omega⟩
theorem Last.unique {l m : List (Int × Int)} {f f' : Int × Int} (hs : ∀ c, c ∈ l ↔ c ∈ m) (h : Last l f) (h' : Last m f') :
    (f = (0, 0) ∧ f' = (0, 0)) ∨ (0 < f.2 ∧ 0 < f'.2 ∧ f.1 * f'.2 = f'.1 * f.2) := by
  rcases h with ⟨rfl, h⟩ | ⟨c, hc, hi, rfl, h⟩
  · rcases h' with ⟨rfl, h'⟩ | ⟨c', hc', hi', rfl, h'⟩
    · exact .inl ⟨rfl, rfl⟩
    · exact absurd hi' (h c' ((hs c').2 hc'))
  · rcases h' with ⟨rfl, h'⟩ | ⟨c', hc', hi', rfl, h'⟩
    · exact absurd hi (h' c ((hs c).1 hc))
    · have a := h c' ((hs c').2 hc') hi'
      have b := h' c ((hs c).1 hc) hi
      simp only [less] at a b
      exact .inr ⟨outCut_pos hi, outCut_pos hi', by omega⟩
/-- From the other end. -/
def swap (c : Int × Int) : Int × Int := (c.2, c.1)
def rest (f : Int × Int) : Int × Int := (f.2 - f.1, f.2)
theorem ins_swap (c : Int × Int) : ins (swap c) ↔ outs c := by simp only [ins, outs, swap]; omega
theorem outs_swap (c : Int × Int) : outs (swap c) ↔ ins c := by simp only [ins, outs, swap]; omega
theorem gone_swap (c : Int × Int) : gone (swap c) ↔ gone c := by simp only [gone, swap]; omega
theorem inCut_swap (c : Int × Int) : inCut (swap c) = rest (outCut c) := by
  refine Prod.ext ?_ ?_
  · show -c.2 = c.1 - c.2 - c.1; omega
  · rfl
theorem outCut_swap (c : Int × Int) : outCut (swap c) = rest (inCut c) := by
  refine Prod.ext ?_ ?_
  · show c.2 = c.2 - c.1 - -c.1; omega
  · rfl
theorem less_rest (x y : Int × Int) : less (rest x) (rest y) ↔ less y x := by
  simp only [less, rest, Int.sub_mul, Int.mul_comm x.2 y.2]
  omega
theorem rest_zero : rest (0, 0) = (0, 0) := rfl
theorem Last.turned {l : List (Int × Int)} {g : Int × Int} (h : Last l g) : First (l.map swap) (rest g) := by
  rcases h with ⟨rfl, h⟩ | ⟨c, hc, hi, rfl, h⟩
  · refine .inl ⟨rfl, ?_⟩
    simp only [List.mem_map]; rintro _ ⟨c, hc, rfl⟩; rw [ins_swap]; exact h c hc
  · refine .inr ⟨swap c, List.mem_map_of_mem hc, (ins_swap c).2 hi, (inCut_swap c).symm, ?_⟩
    simp only [List.mem_map]; rintro _ ⟨c', hc', rfl⟩ hi'
    rw [inCut_swap, less_rest]; exact h c' hc' ((ins_swap c').1 hi')
theorem First.turned {l : List (Int × Int)} {f : Int × Int} (h : First l f) : Last (l.map swap) (rest f) := by
  rcases h with ⟨rfl, h⟩ | ⟨c, hc, hi, rfl, h⟩
  · refine .inl ⟨rfl, ?_⟩
    simp only [List.mem_map]; rintro _ ⟨c, hc, rfl⟩; rw [outs_swap]; exact h c hc
  · refine .inr ⟨swap c, List.mem_map_of_mem hc, (outs_swap c).2 hi, (outCut_swap c).symm, ?_⟩
    simp only [List.mem_map]; rintro _ ⟨c', hc', rfl⟩ hi'
    rw [outCut_swap, less_rest]; exact h c' hc' ((outs_swap c').1 hi')
theorem swap_swap (c : Int × Int) : swap (swap c) = c := rfl
theorem Bad.turned {l : List (Int × Int)} (h : Bad l) : Bad (l.map swap) := by
  rcases h with ⟨c, hc, h⟩ | ⟨c, hc, c', hc', h1, h2, h3⟩
  · exact .inl ⟨swap c, List.mem_map_of_mem hc, (gone_swap c).2 h⟩
  · refine .inr ⟨swap c', List.mem_map_of_mem hc', swap c, List.mem_map_of_mem hc, (ins_swap c').2 h2, (outs_swap c).2 h1, ?_⟩
    rw [inCut_swap, outCut_swap, less_rest]; exact h3
end Go.Proofs.Ytibhfclkdbmmoaa
