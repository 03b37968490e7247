/- Proof text: what is left of a line, as a plain law: from the other end, in whatever order. By an AI agent. No condition beyond what each theorem states. -/
import Derived.Test.YtibhfclkdbmmoaaTD0
set_option linter.unusedVariables false
set_option linter.unusedSimpArgs false
namespace Go.Proofs.Ytibhfclkdbmmoaa
open Go.RowKit
def TrimVal (l : List Sd) (a b u v : Vx) (ok : Bool) : Prop :=
  (ok = true ∧ ∃ f g, Left (cuts l a b) f g ∧ u = endP a b f ∧ v = endQ a b g) ∨ (ok = false ∧ Bad (cuts l a b) ∧ u = V0 ∧ v = V0)
theorem trim_val (l : List Sd) (a b : Vx) (A : Option Addr) (n cap : Nat) (w : World) (hr : Rd w 5 A n cap (srow l)) (hl : l.length = n) (hok : ∀ s ∈ l, s.Ok) (ha : a.Fit) (hb : b.Fit) :
    Calls Try.prog 12 #[a.v, b.v, .slice A n cap] w fun e w' => ∃ u v ok, Hid (TrimVal l a b u v ok) ∧ e = .returned (.tuple #[u.v, v.v, .bool ok]) ∧ Ext w w' := by
  refine (trim_any l a b A n cap w hr hl hok ha hb).mono ?_
  rintro e w' (⟨f, g, hL, rfl, hE⟩ | ⟨hB, rfl, hE⟩)
  · exact ⟨_, _, true, Lib.hid (.inl ⟨rfl, f, g, hL, rfl, rfl⟩), rfl, hE⟩
  · exact ⟨_, _, false, Lib.hid (.inr ⟨rfl, hB, rfl, rfl⟩), rfl, hE⟩
theorem cuts_swap (l : List Sd) (a b : Vx) : cuts l b a = (cuts l a b).map swap := by
  simp [cuts, swap]
theorem map_swap (m : List (Int × Int)) : (m.map swap).map swap = m := by
  rw [List.map_map]
  have : swap ∘ swap = id := rfl
  rw [this, List.map_id]
theorem at_ratio {a b : Vx} {n d n' d' : Int} (hd : 1 ≤ d) (hd' : 1 ≤ d') (h : n * d' = n' * d) : at_ a b n d = at_ a b n' d' := by
  unfold at_
  simp only [mid_ratio hd hd' h]
theorem at_turn (a b : Vx) {n d : Int} (hd : 1 ≤ d) : at_ b a (d - n) d = at_ a b n d := by
  unfold at_
  simp only [mid_turn _ _ n d hd]
theorem ends_same {a b : Vx} {f f' : Int × Int} (h : (f = (0, 0) ∧ f' = (0, 0)) ∨ (0 < f.2 ∧ 0 < f'.2 ∧ f.1 * f'.2 = f'.1 * f.2)) : endP a b f = endP a b f' ∧ endQ a b f = endQ a b f' := by
  rcases h with ⟨rfl, rfl⟩ | ⟨h1, h2, h3⟩
  · exact ⟨rfl, rfl⟩
  · unfold endP endQ
    rw [if_pos h1, if_pos h2, if_pos h1, if_pos h2, at_ratio (by omega) (by omega) h3]
    exact ⟨rfl, rfl⟩
theorem rest_of_zero {f : Int × Int} (h : rest f = (0, 0)) : f = (0, 0) := by
  obtain ⟨x, y⟩ := f
  simp only [rest, Prod.mk.injEq] at h
  obtain ⟨h1, h2⟩ := h
  subst h2
  have : x = 0 := by omega
  subst this
  rfl
/-- The one's beginning, the other one's end. -/
theorem ends_turned {a b : Vx} {f g : Int × Int} (h : (rest f = (0, 0) ∧ g = (0, 0)) ∨ (0 < (rest f).2 ∧ 0 < g.2 ∧ (rest f).1 * g.2 = g.1 * (rest f).2)) : endP a b f = endQ b a g ∧ endQ a b f = endP b a g := by
  rcases h with ⟨h0, rfl⟩ | ⟨h1, h2, h3⟩
  · rw [rest_of_zero h0]; exact ⟨rfl, rfl⟩
  · have h1' : 0 < f.2 := h1
    unfold endP endQ
    rw [if_pos h1', if_pos h2, if_pos h1', if_pos h2, ← at_turn a b (show 1 ≤ f.2 by omega), at_ratio (a := b) (b := a) (n := f.2 - f.1) (d := f.2) (n' := g.1) (d' := g.2) (by omega) (by omega) h3]
    exact ⟨rfl, rfl⟩
theorem left_turned {m : List (Int × Int)} {f g : Int × Int} (h : Bad (m.map swap)) : Bad m := by
  have := h.turned
  rwa [map_swap] at this
theorem trim_turned {l : List Sd} {a b u v u' v' : Vx} {ok ok' : Bool} (h : TrimVal l a b u v ok) (h' : TrimVal l b a u' v' ok') : u' = v ∧ v' = u ∧ ok' = ok := by
  rcases h with ⟨rfl, f, g, hL, rfl, rfl⟩ | ⟨rfl, hB, rfl, rfl⟩
  · rcases h' with ⟨rfl, f', g', hL', rfl, rfl⟩ | ⟨rfl, hB', rfl, rfl⟩
    · rw [cuts_swap] at hL'
      have e1 := Last.unique (fun c => Iff.rfl) hL.2.1.turned hL'.2.2.1
      have e2 := First.unique (fun c => Iff.rfl) hL.2.2.1.turned hL'.2.1
      exact ⟨(ends_turned e2).2.symm, (ends_turned e1).1.symm, rfl⟩
    · rw [cuts_swap] at hB'
      exact absurd (left_turned (f := f) (g := g) hB') hL.not_bad
  · rcases h' with ⟨rfl, f', g', hL', rfl, rfl⟩ | ⟨rfl, hB', rfl, rfl⟩
    · rw [cuts_swap] at hL'
      exact absurd hB.turned hL'.not_bad
    · exact ⟨rfl, rfl, rfl⟩
theorem cuts_mem {l m : List Sd} (h : ∀ s, s ∈ l ↔ s ∈ m) (a b : Vx) : ∀ c, c ∈ cuts l a b ↔ c ∈ cuts m a b := by
  intro c
  simp only [cuts, List.mem_map]
  constructor
  · rintro ⟨s, hs, rfl⟩; exact ⟨s, (h s).1 hs, rfl⟩
  · rintro ⟨s, hs, rfl⟩; exact ⟨s, (h s).2 hs, rfl⟩
theorem trim_order {l m : List Sd} (hm : ∀ s, s ∈ l ↔ s ∈ m) {a b u v u' v' : Vx} {ok ok' : Bool} (h : TrimVal l a b u v ok) (h' : TrimVal m a b u' v' ok') : u' = u ∧ v' = v ∧ ok' = ok := by
  have hc := cuts_mem hm a b
  rcases h with ⟨rfl, f, g, hL, rfl, rfl⟩ | ⟨rfl, hB, rfl, rfl⟩
  · rcases h' with ⟨rfl, f', g', hL', rfl, rfl⟩ | ⟨rfl, hB', rfl, rfl⟩
    · have e1 := First.unique hc hL.2.1 hL'.2.1
      have e2 := Last.unique hc hL.2.2.1 hL'.2.2.1
      exact ⟨(ends_same e1).1.symm, (ends_same e2).2.symm, rfl⟩
    · exact absurd (hB'.mono fun c => (hc c).2) hL.not_bad
  · rcases h' with ⟨rfl, f', g', hL', rfl, rfl⟩ | ⟨rfl, hB', rfl, rfl⟩
    · exact absurd (hB.mono fun c => (hc c).1) hL'.not_bad
    · exact ⟨rfl, rfl, rfl⟩
/-- An end that is inside all sides stays. -/
theorem trim_keeps {l : List Sd} {a b u v : Vx} {ok : Bool} (h : TrimVal l a b u v ok) :
    (ok = false → ¬ ((∀ s ∈ l, 0 ≤ dist s a) ∧ (∀ s ∈ l, 0 ≤ dist s b)) ∧ u = V0 ∧ v = V0) ∧ (ok = true → ((∀ s ∈ l, 0 ≤ dist s a) → u = a) ∧ ((∀ s ∈ l, 0 ≤ dist s b) → v = b)) := by
  rcases h with ⟨rfl, f, g, hL, rfl, rfl⟩ | ⟨rfl, hB, rfl, rfl⟩
  · refine ⟨fun h => by simp at h, fun _ => ⟨fun hin => ?_, fun hin => ?_⟩⟩
    · rcases hL.2.1 with ⟨rfl, _⟩ | ⟨c, hc, hi, _⟩
      · rfl
      · obtain ⟨s, hs, rfl⟩ := List.mem_map.1 hc
        have := hin s hs
        obtain ⟨h1, _⟩ := hi
        simp only at h1
        omega
    · rcases hL.2.2.1 with ⟨rfl, _⟩ | ⟨c, hc, hi, _⟩
      · rfl
      · obtain ⟨s, hs, rfl⟩ := List.mem_map.1 hc
        have := hin s hs
        obtain ⟨_, h1⟩ := hi
        simp only at h1
        omega
  · refine ⟨fun _ => ⟨fun ⟨h1, h2⟩ => ?_, rfl, rfl⟩, fun h => by simp at h⟩
    rcases hB with ⟨c, hc, hg⟩ | ⟨c, hc, c', hc', hi, ho, _⟩
    · obtain ⟨s, hs, rfl⟩ := List.mem_map.1 hc
      have := h1 s hs
      obtain ⟨h3, _⟩ := hg
      simp only at h3
      omega
    · obtain ⟨s, hs, rfl⟩ := List.mem_map.1 hc
      have := h1 s hs
      obtain ⟨h3, _⟩ := hi
      simp only at h3
      omega
end Go.Proofs.Ytibhfclkdbmmoaa
