/- Rows of commands in memory. -/
import Derived.Test.YtaklnijmcidpkaaDoorG
import Derived.Test.YtaklnijmcidpkaaDoorLB
set_option linter.unusedVariables false
set_option linter.unusedSimpArgs false
namespace Go.Proofs.YtaklnijmcidpkaaDoor
open Go.RowKit
/-- The cells of a row of commands; what is known of each one's numbers' slice: P. -/
def RecCells (P : Option Addr → Nat → Nat → List Value → Prop) : List Value → List R → Prop
  | [], [] => True
  | x :: y :: vs, r :: l => x = .int .i64 r.1 ∧ (∃ a c, y = .slice a r.2.length c ∧ P a r.2.length c (ivs r.2)) ∧ RecCells P vs l
  | _, _ => False
theorem RecCells.mono {P P' : Option Addr → Nat → Nat → List Value → Prop} (hP : ∀ a n c xs, P a n c xs → P' a n c xs) : ∀ {vs : List Value} {l : List R}, RecCells P vs l → RecCells P' vs l
  | [], [], _ => trivial
  | x :: y :: vs, r :: l, ⟨h1, ⟨a, c, h2, h3⟩, h4⟩ => ⟨h1, ⟨a, c, h2, hP _ _ _ _ h3⟩, h4.mono hP⟩
  | [], _ :: _, h => h.elim
  | [_], [], h => h.elim
  | [_], _ :: _, h => h.elim
  | _ :: _ :: _, [], h => h.elim
theorem RecCells.snoc {P : Option Addr → Nat → Nat → List Value → Prop} : ∀ {vs : List Value} {l : List R}, RecCells P vs l → ∀ (op : Int) (A : List Int) (a : Option Addr) (c : Nat), P a A.length c (ivs A) →
    RecCells P (vs ++ [.int .i64 op, .slice a A.length c]) (l ++ [(op, A)])
  | [], [], _, op, A, a, c, h => ⟨rfl, ⟨a, c, rfl, h⟩, trivial⟩
  | x :: y :: vs, r :: l, ⟨h1, h2, h3⟩, op, A, a, c, h => ⟨h1, h2, h3.snoc op A a c h⟩
  | [], _ :: _, h, _, _, _, _, _ => h.elim
  | [_], [], h, _, _, _, _, _ => h.elim
  | [_], _ :: _, h, _, _, _, _, _ => h.elim
  | _ :: _ :: _, [], h, _, _, _, _, _ => h.elim
theorem RecCells.length {P : Option Addr → Nat → Nat → List Value → Prop} : ∀ {vs : List Value} {l : List R}, RecCells P vs l → vs.length = l.length * 2
  | [], [], _ => rfl
  | x :: y :: vs, r :: l, ⟨_, _, h⟩ => by simp [h.length]; omega
  | [], _ :: _, h => h.elim
  | [_], [], h => h.elim
  | [_], _ :: _, h => h.elim
  | _ :: _ :: _, [], h => h.elim
theorem RecCells.get {P : Option Addr → Nat → Nat → List Value → Prop} : ∀ {vs : List Value} {l : List R}, RecCells P vs l → ∀ j, j < l.length →
    vs[j * 2]? = some (.int .i64 (l.getD j (0, [])).1) ∧ ∃ a c, vs[j * 2 + 1]? = some (.slice a (l.getD j (0, [])).2.length c) ∧ P a (l.getD j (0, [])).2.length c (ivs (l.getD j (0, [])).2)
  | [], [], _, j, hj => by simp at hj
  | x :: y :: vs, r :: l, ⟨h1, ⟨a, c, h2, h3⟩, h4⟩, 0, _ => by subst h1; subst h2; exact ⟨rfl, a, c, rfl, h3⟩
  | x :: y :: vs, r :: l, ⟨h1, h2, h4⟩, j + 1, hj => by
    have := h4.get j (by simpa using hj)
    have e : (j + 1) * 2 = j * 2 + 1 + 1 := by omega
    rw [e]
    simpa using this
  | [], _ :: _, h, _, _ => h.elim
  | [_], [], h, _, _ => h.elim
  | [_], _ :: _, h, _, _ => h.elim
  | _ :: _ :: _, [], h, _, _ => h.elim
theorem rec_one (op : Int) (a : Option Addr) (n c : Nat) : ∀ u ∈ [Value.int .i64 op, .slice a n c], u.oneCell' = true := by simp [Value.oneCell']
theorem RecCells.one {P : Option Addr → Nat → Nat → List Value → Prop} : ∀ {vs : List Value} {l : List R}, RecCells P vs l → ∀ u ∈ vs, u.oneCell' = true
  | [], [], _, u, hu => by cases hu
  | x :: y :: vs, r :: l, ⟨h1, ⟨a, c, h2, _⟩, h3⟩, u, hu => by
    subst h1; subst h2
    simp only [List.mem_cons] at hu
    rcases hu with rfl | rfl | hu
    · rfl
    · rfl
    · exact h3.one u hu
  | [], _ :: _, h, _, _ => h.elim
  | [_], [], h, _, _ => h.elim
  | [_], _ :: _, h, _, _ => h.elim
  | _ :: _ :: _, [], h, _, _ => h.elim
theorem RecCells.append {P : Option Addr → Nat → Nat → List Value → Prop} : ∀ {vs vs' : List Value} {l l' : List R}, RecCells P vs l → RecCells P vs' l' → RecCells P (vs ++ vs') (l ++ l')
  | [], _, [], _, _, h => h
  | x :: y :: vs, _, r :: l, _, ⟨h1, h2, h3⟩, h => ⟨h1, h2, h3.append h⟩
  | [], _, _ :: _, _, h, _ => h.elim
  | [_], _, [], _, h, _ => h.elim
  | [_], _, _ :: _, _, h, _ => h.elim
  | _ :: _ :: _, _, [], _, h, _ => h.elim
/-- What the two listed variables hold. -/
def Glob (w : World) : Prop := w.cell? ⟨1, 0, none⟩ = some (.int .i64 0) ∧ w.cell? ⟨1, 1, none⟩ = some (.int .i64 255) ∧ w.cell? ⟨2, 0, none⟩ = some (.int .i64 0) ∧ w.cell? ⟨2, 1, none⟩ = some (.int .i64 1)
theorem Glob.ext {w w' : World} (h : Glob w) (e : Ext w w') : Glob w' := ⟨e.cell_some h.1, e.cell_some h.2.1, e.cell_some h.2.2.1, e.cell_some h.2.2.2⟩

end Go.Proofs.YtaklnijmcidpkaaDoor
