/- General laws: a region that draws its order, which loads, calls and fills fresh boxes. No condition beyond what each theorem states. By an AI agent. -/
import Derived.Test.YtplljnfjkkloeaaGreatDoorGM
import Derived.Test.YtplljnfjkkloeaaGreatDoorLI
set_option linter.unusedVariables false
set_option linter.unusedSimpArgs false
namespace Go.Proofs.YtplljnfjkkloeaaGreatDoor
open Go.RowKit
structure RF (W : World) (ks : List (Nat × Nat)) (V : Nat → Value) (bs : List (Nat × Nat × Nat)) (T : Nat → TypeId) (Z R : Nat → Array Value) (st : Nat → Bool) (u : Nat → Value) (x : World) : Prop where
 ext : Ext W x
 val : ∀ q ∈ ks, st q.1 = true → u q.2 = V q.2
 box : ∀ b ∈ bs, st b.1 = true → ∃ P, u b.2.1 = .pointer (some ⟨P, 0, none⟩) ∧ W.heap.size ≤ P ∧ Blk x P (T b.2.1) (if st b.2.2 = true then R b.2.1 else Z b.2.1)
 ne : ∀ b ∈ bs, ∀ c ∈ bs, b.1 ≠ c.1 → st b.1 = true → st c.1 = true → u b.2.1 ≠ u c.2.1
section
variable {W x y : World} {ks : List (Nat × Nat)} {V : Nat → Value} {bs : List (Nat × Nat × Nat)} {T : Nat → TypeId} {Z R : Nat → Array Value} {st : Nat → Bool} {u : Nat → Value}
theorem RF.begin (e : Ext W x) : RF W ks V bs T Z R (fun _ => false) u x :=
 ⟨e, fun _ _ h => by simp at h, fun _ _ h => by simp at h, fun _ _ _ _ _ h => by simp at h⟩
theorem ups_ne {i j : Nat} (h : j ≠ i) : ups st i j = st j := by simp [ups, h]
theorem ups_eq (i : Nat) : ups st i i = true := by simp [ups]
theorem upu_ne {d t : Nat} {v : Value} (h : t ≠ d) : upu u d v t = u t := by simp [upu, h]
theorem upu_eq (d : Nat) (v : Value) : upu u d v d = v := by simp [upu]
theorem RF.call (h : RF W ks V bs T Z R st u x) (e : Ext x y) (i d : Nat) (hk : ∀ q ∈ ks, (q.2 = d ↔ q.1 = i)) (hb : ∀ b ∈ bs, b.1 ≠ i ∧ b.2.1 ≠ d ∧ b.2.2 ≠ i) {v : Value} (hv : v = V d) : RF W ks V bs T Z R (ups st i) (upu u d v) y := by
 subst hv
 refine ⟨h.ext.trans e, fun q hq hs => ?_, fun b hm hs => ?_, fun b hm c hc hne hs ht => ?_⟩
 ·by_cases hi : q.1 = i
  ·rw [(hk q hq).2 hi, upu_eq]
  ·rw [upu_ne (fun hd => hi ((hk q hq).1 hd))]
   rw [ups_ne hi] at hs
   exact h.val q hq hs
 ·obtain ⟨b1, b2, b3⟩ := hb b hm
  rw [ups_ne b1] at hs
  rw [upu_ne b2, ups_ne b3]
  obtain ⟨P, p1, p2, p3⟩ := h.box b hm hs
  exact ⟨P, p1, p2, p3.ext e⟩
 ·obtain ⟨b1, b2, b3⟩ := hb b hm
  obtain ⟨c1, c2, c3⟩ := hb c hc
  rw [ups_ne b1] at hs
  rw [ups_ne c1] at ht
  rw [upu_ne b2, upu_ne c2]
  exact h.ne b hm c hc hne hs ht
theorem RF.alloc (h : RF W ks V bs T Z R st u x) (i d j : Nat) (hk : ∀ q ∈ ks, q.1 ≠ i ∧ q.2 ≠ d) (hb : ∀ b ∈ bs, (b.1 = i → b = (i, d, j)) ∧ (b.2.1 = d → b = (i, d, j)) ∧ b.2.2 ≠ i) (hj : st j = false) {t : TypeId} {z : Array Value} (ht : t = T d) (hz : z = Z d) :
  RF W ks V bs T Z R (ups st i) (upu u d (.pointer (some ⟨x.heap.size, 0, none⟩))) (x.alloc (.cells z t)) := by
 subst ht; subst hz
 refine ⟨h.ext.alloc _, fun q hq hs => ?_, fun b hm hs => ?_, fun b hm c hc hne hs ht => ?_⟩
 ·obtain ⟨q1, q2⟩ := hk q hq
  rw [ups_ne q1] at hs
  rw [upu_ne q2]
  exact h.val q hq hs
 ·obtain ⟨b1, b2, b3⟩ := hb b hm
  by_cases hi : b.1 = i
  ·obtain rfl := b1 hi
   refine ⟨x.heap.size, upu_eq _ _, h.ext.size, ?_⟩
   rw [ups_ne b3, hj]
   exact Blk.new x _ _
  ·rw [ups_ne hi] at hs
   rw [upu_ne (fun hd => hi (by rw [b2 hd])), ups_ne b3]
   obtain ⟨P, p1, p2, p3⟩ := h.box b hm hs
   exact ⟨P, p1, p2, p3.alloc _⟩
 ·obtain ⟨b1, b2, b3⟩ := hb b hm
  obtain ⟨c1, c2, c3⟩ := hb c hc
  by_cases hi : b.1 = i
  ·have hci : c.1 ≠ i := fun hh => hne (hi.trans hh.symm)
   obtain rfl := b1 hi
   rw [ups_ne hci] at ht
   rw [upu_eq, upu_ne (fun hd => hci (by rw [c2 hd]))]
   obtain ⟨P, p1, p2, p3⟩ := h.box c hc ht
   rw [p1]
   intro he
   have := p3.lt
   simp only [Value.pointer.injEq, Option.some.injEq, Addr.mk.injEq] at he
   omega
  ·by_cases hci : c.1 = i
   ·obtain rfl := c1 hci
    rw [ups_ne hi] at hs
    rw [upu_eq, upu_ne (fun hd => hi (by rw [b2 hd]))]
    obtain ⟨P, p1, p2, p3⟩ := h.box b hm hs
    rw [p1]
    intro he
    have := p3.lt
    simp only [Value.pointer.injEq, Option.some.injEq, Addr.mk.injEq] at he
    omega
   ·rw [ups_ne hi] at hs
    rw [ups_ne hci] at ht
    rw [upu_ne (fun hd => hi (by rw [b2 hd])), upu_ne (fun hd => hci (by rw [c2 hd]))]
    exact h.ne b hm c hc hne hs ht
theorem RF.store (h : RF W ks V bs T Z R st u x) (i d j : Nat) (hm : (i, d, j) ∈ bs) (hk : ∀ q ∈ ks, q.1 ≠ j) (hb : ∀ b ∈ bs, b.1 ≠ j ∧ (b.2.2 = j → b = (i, d, j)) ∧ (b.1 = i → b = (i, d, j))) (hi : st i = true) {P : Nat} (hu : u d = .pointer (some ⟨P, 0, none⟩)) (hP : Blk y P (T d) (R d)) (k : Kp (· ≠ P) x y) : RF W ks V bs T Z R (ups st j) u y := by
 obtain ⟨P', p1, p2, -⟩ := h.box _ hm hi
 have hPP : P = P' := by
  rw [hu] at p1
  simp only [Value.pointer.injEq, Option.some.injEq, Addr.mk.injEq] at p1
  exact p1.1
 subst hPP
 refine ⟨k.ext h.ext (fun q hq => by omega), fun q hq hs => ?_, fun b hb' hs => ?_, fun b hb' c hc hne hs ht => ?_⟩
 ·rw [ups_ne (hk q hq)] at hs
  exact h.val q hq hs
 ·obtain ⟨b1, b2, b3⟩ := hb b hb'
  rw [ups_ne b1] at hs
  by_cases hj : b.2.2 = j
  ·obtain rfl := b2 hj
   rw [ups_eq]
   exact ⟨P, hu, p2, hP⟩
  ·rw [ups_ne hj]
   obtain ⟨Q, q1, q2, q3⟩ := h.box b hb' hs
   refine ⟨Q, q1, q2, q3.kp k ?_⟩
   intro hQ
   have hbi : b.1 ≠ i := fun hh => hj (by rw [b3 hh])
   refine h.ne b hb' (i, d, j) hm hbi hs hi ?_
   rw [q1]
   show _ = u d
   rw [hu, hQ]
 ·obtain ⟨b1, _, _⟩ := hb b hb'
  obtain ⟨c1, _, _⟩ := hb c hc
  rw [ups_ne b1] at hs
  rw [ups_ne c1] at ht
  exact h.ne b hb' c hc hne hs ht
theorem st_no {i j : Nat} (h : st j = true → st i = true) (hi : st i = false) : st j = false := by
 cases hj : st j with
 | false => rfl
 | true => rw [h hj] at hi; cases hi
end
theorem wp_store_blk {P : Program} {Q : Exit → Act → World → Prop} {w : World} {g : Nat} {e : TypeId} {cs : Array Value} {o : Oper} {a : Act} {K : Act → World → Prop} (x y : Operand) (t : TypeId) (ho : o.op = .store t x y) (hx : a.eval x = .pointer (some ⟨g, 0, none⟩)) (v : Value) (hy : a.eval y = v)
  (h : Blk w g e cs) (hs : (P.info? t).map (·.size) = some v.cells.size) (h1 : ∀ u ∈ v.cells.toList, u.oneCell' = true) (hfit : v.cells.size = cs.size)
  (hK : ∀ w', Blk w' g e v.cells → Kp (· ≠ g) w w' → K (a.put o.dst undef) w') : o.wp P a w K Q := by
 have hso := run_store_blk (P := P) h t 0 v hs h1 (by omega)
 unfold Oper.wp execOp
 simp only [ho, hx, hy, Instr.storeAt, Instr.sureAddr, Sem.run_bind, Sem.run_pure, Result.andThen_ok, hso]
 refine hK _ ?_ (Kp.setRow _ (fun hf => hf rfl))
 rw [spl_all _ _ hfit]
 exact h.row
end Go.Proofs.YtplljnfjkkloeaaGreatDoor
