/- The plain side of carving: what comes of a ring of corners, wherever it begins. No program in sight. -/
set_option linter.unusedVariables false
set_option linter.unusedSimpArgs false
namespace Go.Proofs.Ytibhfclkdbmmoaa
variable {α β : Type}
/-- Each corner with the next one around. -/
def ring (l : List α) : List (α × α) := l.zip (l.drop 1 ++ l.take 1)
/-- The same ring, begun elsewhere. -/
def Rolled (l m : List α) : Prop := ∃ x y, l = x ++ y ∧ m = y ++ x
theorem Rolled.refl (l : List α) : Rolled l l := ⟨[], l, rfl, by simp⟩
theorem Rolled.length {l m : List α} (h : Rolled l m) : m.length = l.length := by
  obtain ⟨x, y, rfl, rfl⟩ := h; simp [Nat.add_comm]
theorem Rolled.map (f : α → β) {l m : List α} (h : Rolled l m) : Rolled (l.map f) (m.map f) := by
  obtain ⟨x, y, rfl, rfl⟩ := h; exact ⟨x.map f, y.map f, by simp, by simp⟩
theorem Rolled.flatMap (f : α → List β) {l m : List α} (h : Rolled l m) : Rolled (l.flatMap f) (m.flatMap f) := by
  obtain ⟨x, y, rfl, rfl⟩ := h; exact ⟨x.flatMap f, y.flatMap f, by simp, by simp⟩
theorem Rolled.ring {l m : List α} (h : Rolled l m) : Rolled (ring l) (Proofs.Ytibhfclkdbmmoaa.ring m) := by
  obtain ⟨x, y, rfl, rfl⟩ := h
  cases x with
  | nil => exact ⟨[], Proofs.Ytibhfclkdbmmoaa.ring y, by simp, by simp⟩
  | cons a x =>
    cases y with
    | nil => exact ⟨[], Proofs.Ytibhfclkdbmmoaa.ring (a :: x), by simp, by simp⟩
    | cons b y =>
      refine ⟨(a :: x).zip (x ++ [b]), (b :: y).zip (y ++ [a]), ?_, ?_⟩
      · have e : Proofs.Ytibhfclkdbmmoaa.ring (a :: x ++ b :: y) = ((a :: x) ++ (b :: y)).zip ((x ++ [b]) ++ (y ++ [a])) := by
          simp [Proofs.Ytibhfclkdbmmoaa.ring]
        rw [e, List.zip_append (by simp)]
      · have e : Proofs.Ytibhfclkdbmmoaa.ring (b :: y ++ a :: x) = ((b :: y) ++ (a :: x)).zip ((y ++ [a]) ++ (x ++ [b])) := by
          simp [Proofs.Ytibhfclkdbmmoaa.ring]
        rw [e, List.zip_append (by simp)]
/-- What comes of corners at a side; fewer than three are none. -/
def cutBy (f : α → α → List α) (l : List α) : List α :=
  let o := (ring l).flatMap fun c => f c.1 c.2
  if o.length < 3 then [] else o
theorem Rolled.cutBy (f : α → α → List α) {l m : List α} (h : Rolled l m) : Rolled (cutBy f l) (Proofs.Ytibhfclkdbmmoaa.cutBy f m) := by
  have hr := (h.ring).flatMap (fun c : α × α => f c.1 c.2)
  have hl := hr.length
  unfold Proofs.Ytibhfclkdbmmoaa.cutBy
  simp only
  rw [hl]
  by_cases hc : ((Proofs.Ytibhfclkdbmmoaa.ring l).flatMap fun c => f c.1 c.2).length < 3
  · rw [if_pos hc, if_pos hc]; exact .refl []
  · rw [if_neg hc, if_neg hc]; exact hr
/-- A row of sides, one behind the other. -/
def cutAll {σ : Type} (f : σ → α → α → List α) (s : List σ) (l : List α) : List α := s.foldl (fun l s => cutBy (f s) l) l
theorem Rolled.cutAll {σ : Type} (f : σ → α → α → List α) (s : List σ) {l m : List α} (h : Rolled l m) : Rolled (cutAll f s l) (Proofs.Ytibhfclkdbmmoaa.cutAll f s m) := by
  induction s generalizing l m with
  | nil => exact h
  | cons a s ih => exact ih (h.cutBy (f a))
/-- A rolled ring that isn't empty begins at one of its corners. -/
theorem Rolled.at {l m : List α} (h : Rolled l m) (hl : l ≠ []) : ∃ k, k < l.length ∧ m = l.drop k ++ l.take k := by
  obtain ⟨x, y, rfl, rfl⟩ := h
  cases y with
  | nil =>
    refine ⟨0, ?_, by simp⟩
    cases x with
    | nil => exact absurd rfl hl
    | cons a x => simp
  | cons b y => exact ⟨x.length, by simp, by simp⟩
theorem cutBy_len (f : α → α → List α) (l : List α) : cutBy f l = [] ∨ 3 ≤ (cutBy f l).length := by
  unfold cutBy
  simp only
  split
  · exact .inl rfl
  · right; omega
theorem ring_length (l : List α) : (ring l).length = l.length := by
  simp only [ring, List.length_zip, List.length_append, List.length_drop, List.length_take]; omega
theorem ring_mem {l : List α} {c : α × α} (h : c ∈ ring l) : c.1 ∈ l ∧ c.2 ∈ l := by
  have := List.of_mem_zip (a := c.1) (b := c.2) h
  refine ⟨this.1, ?_⟩
  rcases List.mem_append.1 this.2 with h | h
  · exact List.mem_of_mem_drop h
  · exact List.mem_of_mem_take h
theorem zip_fst {l : List α} : ∀ {m : List β}, m.length = l.length → (l.zip m).map Prod.fst = l := by
  induction l with
  | nil => intro m _; simp
  | cons a l ih =>
    intro m hm
    cases m with
    | nil => simp at hm
    | cons b m => simp only [List.zip_cons_cons, List.map_cons]; rw [ih (by simpa using hm)]
/-- A ring of which every corner stays. -/
theorem cutBy_keep {f : α → α → List α} {l : List α} (h3 : 3 ≤ l.length) (h : ∀ p ∈ l, ∀ q ∈ l, f p q = [p]) : cutBy f l = l := by
  have e : (ring l).flatMap (fun c => f c.1 c.2) = l := by
    have e1 : (ring l).flatMap (fun c => f c.1 c.2) = (ring l).flatMap (fun c => [c.1]) := by
      have : ∀ (r : List (α × α)), (∀ c ∈ r, f c.1 c.2 = [c.1]) → r.flatMap (fun c => f c.1 c.2) = r.flatMap (fun c => [c.1]) := by
        intro r hr
        induction r with
        | nil => rfl
        | cons a r ih => simp only [List.flatMap_cons]; rw [hr a (by simp), ih (fun c hc => hr c (by simp [hc]))]
      exact this _ fun c hc => h _ (ring_mem hc).1 _ (ring_mem hc).2
    rw [e1]
    have e2 : (ring l).flatMap (fun c => [c.1]) = (ring l).map Prod.fst := by
      induction (ring l) with
      | nil => rfl
      | cons a r ih => simp only [List.flatMap_cons, List.map_cons, ih, List.singleton_append]
    rw [e2]
    exact zip_fst (by simp only [List.length_append, List.length_drop, List.length_take]; omega)
  unfold cutBy
  simp only [e]
  rw [if_neg (by omega)]
theorem cutBy_gone {f : α → α → List α} {l : List α} (h : ∀ p ∈ l, ∀ q ∈ l, f p q = []) : cutBy f l = [] := by
  have e : (ring l).flatMap (fun c => f c.1 c.2) = [] := by
    rw [List.flatMap_eq_nil_iff]
    exact fun c hc => h _ (ring_mem hc).1 _ (ring_mem hc).2
  unfold cutBy
  simp only [e]
  rfl
theorem cutAll_nil {σ : Type} (f : σ → α → α → List α) (s : List σ) : cutAll f s ([] : List α) = [] := by
  induction s with
  | nil => rfl
  | cons a s ih => exact ih
/-- What holds for all corners that come of a cut. -/
theorem cutBy_all {f : α → α → List α} {l : List α} {P : α → Prop} (h : ∀ p ∈ l, ∀ q ∈ l, ∀ c ∈ f p q, P c) : ∀ c ∈ cutBy f l, P c := by
  unfold cutBy
  simp only
  split
  · simp
  · intro c hc
    obtain ⟨d, hd, hc⟩ := List.mem_flatMap.1 hc
    exact h _ (ring_mem hd).1 _ (ring_mem hd).2 _ hc
end Go.Proofs.Ytibhfclkdbmmoaa
