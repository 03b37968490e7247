/- The plain side: what each command asks, as a function; the reference's rows; that both tables are one. No program in sight. -/
set_option linter.unusedVariables false
set_option linter.unusedSimpArgs false
namespace Go.Proofs.YtaklnijmcidpkaaDoor
def lk (op : Int) : List (Int × List (Int × Int)) → Option (List (Int × Int))
  | [] => none
  | (k, l) :: r => if k = op then some l else lk op r
def stateTab : List (Int × List (Int × Int)) := [(1, List.replicate 2 (1, 1024)), (2, List.replicate 4 (0, 255)), (14, List.replicate 4 (0, 255)), (3, [(0, 16777215)]), (4, [(0, 3)]), (5, [(-8192, 8192), (-8192, 8192), (0, 4096), (0, 4096)]), (6, [(0, 1), (-8192, 8192), (-8192, 8192), (0, 8192), (0, 8192)]), (8, List.replicate 16 ((-268435456), 268435456)), (9, List.replicate 16 ((-268435456), 268435456)), (13, [(0, 5), (0, 1), (-32768, 32768), (-32768, 32768), (-32768, 32768), (-32768, 32768)]), (7, [(0, 1)]), (15, [(0, 1)]), (22, [(0, 1)]), (10, []), (11, []), (12, []), (18, [])]
def drawTab : List (Int × List (Int × Int)) := [(16, [(0, 9)]), (17, List.replicate 4 ((-1048576), 1048576)), (19, [(1, 64)]), (20, [(0, 1), (1, 256), (0, 65535)]), (21, [(1, 64), (0, 2)]), (23, List.replicate 2 (0, 2)), (24, [(0, 1), (0, 3)]), (25, [(0, 1), (-65536, 65536), (-16777216, 16777216)]), (26, [(0, 1), (0, 7), (0, 1)]), (27, [(0, 1), (0, 7), (0, 7)]), (28, List.replicate 4 (0, 1)), (29, List.replicate 2 (0, 1)), (30, List.replicate 4 ((-9223372036854775808), 9223372036854775807)), (31, List.replicate 16 ((-9223372036854775808), 9223372036854775807)), (32, [(-9223372036854775808, 9223372036854775807)])]
def askT (op : Int) : Option (List (Int × Int)) :=
  match lk op stateTab with
  | some l => some l
  | none => lk op drawTab

/-- What 'Right' says. -/
def within (p : Int × Int) (x : Int) : Bool := decide (p.1 ≤ x) && decide (x ≤ p.2)
def allIn : List (Int × Int) → List Int → Bool
  | p :: l, x :: r => within p x && allIn l r
  | _, _ => true
def rightT (o : Option (List (Int × Int))) (A : List Int) : Int :=
  match o with
  | none => 5
  | some l => if l.length = A.length then (if allIn l A then 0 else 4) else 1
/-- What 'Range' says. -/
def rangeT (o : Option (List (Int × Int))) (i : Int) : Int × Int × Bool :=
  if i < 0 ∨ ((o.getD []).length : Int) ≤ i then (0, 0, false) else (((o.getD []).getD i.toNat (0, 0)).1, ((o.getD []).getD i.toNat (0, 0)).2, true)

/-- The reference's rows. -/
def rowsT : List (List Int) := [[1, 2, 1, 1024], [2, 4, 0, 255], [3, 1, 0, 16777215], [4, 1, 0, 3], [5, 2, -8192, 8192, 2, 0, 4096], [6, 1, 0, 1, 2, -8192, 8192, 2, 0, 8192], [7, 1, 0, 1], [8, 16, -268435456, 268435456], [9, 16, -268435456, 268435456], [10], [11], [12], [13, 1, 0, 5, 1, 0, 1, 4, -32768, 32768], [14, 4, 0, 255], [15, 1, 0, 1], [16, 1, 0, 9], [17, 4, -1048576, 1048576], [18], [19, 1, 1, 64], [20, 1, 0, 1, 1, 1, 256, 1, 0, 65535], [21, 1, 1, 64, 1, 0, 2], [22, 1, 0, 1], [23, 2, 0, 2], [24, 1, 0, 1, 1, 0, 3], [25, 1, 0, 1, 1, -65536, 65536, 1, -16777216, 16777216], [26, 1, 0, 1, 1, 0, 7, 1, 0, 1], [27, 1, 0, 1, 2, 0, 7], [28, 4, 0, 1], [29, 2, 0, 1], [30, 4, -9223372036854775808, 9223372036854775807], [31, 16, -9223372036854775808, 9223372036854775807], [32, 1, -9223372036854775808, 9223372036854775807]]
def groups : List Int → List (Int × Int)
  | n :: a :: b :: r => List.replicate n.toNat (a, b) ++ groups r
  | _ => []
def bfind (op : Int) : List (List Int) → Option (List (Int × Int))
  | [] => none
  | r :: t => if r.headD 0 = op then some (groups (r.drop 1)) else bfind op t
def boundsT (op : Int) : Option (List (Int × Int)) := bfind op rowsT
theorem ask_bounds (op : Int) : askT op = boundsT op := by
  by_cases h : 1 ≤ op ∧ op ≤ 32
  · obtain ⟨h1, h2⟩ := h
    have : op = 1 ∨ op = 2 ∨ op = 3 ∨ op = 4 ∨ op = 5 ∨ op = 6 ∨ op = 7 ∨ op = 8 ∨ op = 9 ∨ op = 10 ∨ op = 11 ∨ op = 12 ∨ op = 13 ∨ op = 14 ∨ op = 15 ∨ op = 16 ∨ op = 17 ∨ op = 18 ∨ op = 19 ∨ op = 20 ∨ op = 21 ∨ op = 22 ∨ op = 23 ∨ op = 24 ∨ op = 25 ∨ op = 26 ∨ op = 27 ∨ op = 28 ∨ op = 29 ∨ op = 30 ∨ op = 31 ∨ op = 32 := by omega
    rcases this with h | h | h | h | h | h | h | h | h | h | h | h | h | h | h | h | h | h | h | h | h | h | h | h | h | h | h | h | h | h | h | h <;> subst h <;> rfl
  · have hn : ∀ k : Int, 1 ≤ k → k ≤ 32 → ¬ k = op := fun k h1 h2 e => h ⟨by omega, by omega⟩
    have e1 : lk op stateTab = none := by simp [lk, stateTab, hn]
    have e2 : lk op drawTab = none := by simp [lk, drawTab, hn]
    have e3 : bfind op rowsT = none := by simp [bfind, rowsT, hn]
    simp [askT, boundsT, e1, e2, e3]
theorem ask_len (op : Int) : ((askT op).getD []).length ≤ 16 := by
  rw [ask_bounds]
  unfold boundsT
  have : ∀ l : List (List Int), (∀ r ∈ l, (groups (r.drop 1)).length ≤ 16) → ((bfind op l).getD []).length ≤ 16 := by
    intro l
    induction l with
    | nil => intro _; simp [bfind]
    | cons r t ih =>
      intro h
      unfold bfind
      split
      · exact h r (by simp)
      · exact ih (fun r' hr => h r' (by simp [hr]))
  exact this _ (by decide)

theorem allIn_all : ∀ (l : List (Int × Int)) (A : List Int), l.length = A.length → (∀ j, j < A.length → within (l.getD j (0, 0)) (A.getD j 0) = true) → allIn l A = true
  | [], [], _, _ => rfl
  | [], _ :: _, h, _ => by simp at h
  | _ :: _, [], _, _ => rfl
  | p :: l, x :: r, h, hj => by
    have h0 := hj 0 (by simp)
    have ih := allIn_all l r (by simpa using h) (fun j hjl => by simpa using hj (j + 1) (by simpa using hjl))
    simp only [List.getD_cons_zero] at h0
    simp [allIn, h0, ih]
theorem allIn_bad : ∀ (l : List (Int × Int)) (A : List Int) (j : Nat), j < l.length → j < A.length → within (l.getD j (0, 0)) (A.getD j 0) = false → allIn l A = false
  | [], _, _, h, _, _ => by simp at h
  | _ :: _, [], _, _, h, _ => by simp at h
  | p :: l, x :: r, 0, _, _, h => by simp only [List.getD_cons_zero] at h; simp [allIn, h]
  | p :: l, x :: r, j + 1, h1, h2, h => by
    have ih := allIn_bad l r j (by simpa using h1) (by simpa using h2) (by simpa using h)
    simp [allIn, ih]

/-- A row's groups are whole, their counts small. -/
def okT : List Int → Bool
  | [] => true
  | n :: _ :: _ :: r => decide (0 ≤ n) && decide (n ≤ 16) && okT r
  | _ => false
theorem rows_ok : ∀ r ∈ rowsT, okT (r.drop 1) = true ∧ 1 ≤ r.length ∧ r.length ≤ 100 ∧ (groups (r.drop 1)).length ≤ 16 := by decide
theorem okT_cases {l : List Int} (h : okT l = true) : l = [] ∨ ∃ n a b r, l = n :: a :: b :: r ∧ 0 ≤ n ∧ n ≤ 16 ∧ okT r = true := by
  match l, h with
  | [], _ => exact .inl rfl
  | n :: a :: b :: r, h =>
    simp [okT] at h
    exact .inr ⟨n, a, b, r, rfl, h.1.1, h.1.2, h.2⟩
theorem drop3 {r : List Int} {k : Nat} {n a b : Int} {t : List Int} (h : r.drop k = n :: a :: b :: t) : k + 2 < r.length ∧ r.getD k 0 = n ∧ r.getD (k + 1) 0 = a ∧ r.getD (k + 2) 0 = b ∧ r.drop (k + 3) = t := by
  have hl : (r.drop k).length = t.length + 3 := by rw [h]; rfl
  rw [List.length_drop] at hl
  have g : ∀ j, (r.drop k)[j]? = r[k + j]? := fun j => List.getElem?_drop
  rw [h] at g
  have g0 := g 0
  have g1 := g 1
  have g2 := g 2
  simp only [List.getElem?_cons_zero, List.getElem?_cons_succ, Nat.add_zero] at g0 g1 g2
  refine ⟨by omega, by simp [← g0], by simp [← g1], by simp [← g2], ?_⟩
  have : r.drop (k + 3) = (r.drop k).drop 3 := by rw [List.drop_drop]
  rw [this, h]
  rfl
theorem drop_len {r : List Int} {k : Nat} (h : r.drop k = []) : r.length ≤ k := by
  have : (r.drop k).length = 0 := by rw [h]; rfl
  rw [List.length_drop] at this
  omega
theorem bfind_cons {op : Int} {l : List (List Int)} {k : Nat} {o : Option (List (Int × Int))} (hk : k < l.length) (h : bfind op (l.drop k) = o) :
    (if (l.getD k []).headD 0 = op then some (groups ((l.getD k []).drop 1)) else bfind op (l.drop (k + 1))) = o := by
  rw [List.drop_eq_getElem_cons hk] at h
  have e : l.getD k [] = l[k] := by simp [hk]
  rw [e, ← h]
  rfl
end Go.Proofs.YtaklnijmcidpkaaDoor
