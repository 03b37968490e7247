/- Proof text: where a way meets a side (carve.meet), and the plain side of a cut. By an AI agent. No condition beyond what each theorem states. -/
import Derived.Test.YtibhfclkdbmmoaaCP
set_option linter.unusedVariables false
set_option linter.unusedSimpArgs false
namespace Go.Proofs.Ytibhfclkdbmmoaa
open Go.RowKit
theorem frees10 {w : World} {g : Nat} {t : TypeId} {cs : Array Value} (h : Blk w g t cs) : w.frozen? ⟨g, 0, none⟩ = false ∧ w.frozen? ⟨g, 1, none⟩ = false ∧ w.frozen? ⟨g, 2, none⟩ = false ∧ w.frozen? ⟨g, 3, none⟩ = false ∧
    w.frozen? ⟨g, 4, none⟩ = false ∧ w.frozen? ⟨g, 5, none⟩ = false ∧ w.frozen? ⟨g, 6, none⟩ = false ∧ w.frozen? ⟨g, 7, none⟩ = false ∧ w.frozen? ⟨g, 8, none⟩ = false ∧ w.frozen? ⟨g, 9, none⟩ = false :=
  ⟨h.frozen 0, h.frozen 1, h.frozen 2, h.frozen 3, h.frozen 4, h.frozen 5, h.frozen 6, h.frozen 7, h.frozen 8, h.frozen 9⟩
/-- Ten cells written, one behind the other. -/
theorem Blk.set10 {w : World} {g : Nat} {t : TypeId} {c : Cn} (h : Blk w g t c.row) (u : Cn) :
    Blk ((((((((((w.setCell ⟨g, 0, none⟩ (.int .i64 u.v.x)).setCell ⟨g, 1, none⟩ (.int .i64 u.v.y)).setCell ⟨g, 2, none⟩ (.int .i64 u.v.z)).setCell ⟨g, 3, none⟩ (.int .i64 u.v.w)).setCell ⟨g, 4, none⟩ (.int .i64 u.v.c0)).setCell ⟨g, 5, none⟩ (.int .i64 u.v.c1)).setCell ⟨g, 6, none⟩ (.int .i64 u.v.c2)).setCell ⟨g, 7, none⟩ (.int .i64 u.v.c3)).setCell ⟨g, 8, none⟩ (.int .i64 u.i)).setCell ⟨g, 9, none⟩ (.bool u.on)) g t u.row := by
  have h8 := (((((((((h.set_ 0 (.int .i64 u.v.x)).set_ 1 (.int .i64 u.v.y)).set_ 2 (.int .i64 u.v.z)).set_ 3 (.int .i64 u.v.w)).set_ 4 (.int .i64 u.v.c0)).set_ 5 (.int .i64 u.v.c1)).set_ 6 (.int .i64 u.v.c2)).set_ 7 (.int .i64 u.v.c3)).set_ 8 (.int .i64 u.i)).set_ 9 (.bool u.on)
  simpa using h8
set_option maxRecDepth 100000 in
set_option maxHeartbeats 400000 in
theorem meet_any (p q : Cn) (on : Bool) (w : World) (hp : p.v.Fit) (hq : q.v.Fit) (h1 : 0 ≤ p.i) (h2 : q.i < 0) (h3 : p.i ≤ 9007199254740992) (h4 : -9007199254740992 ≤ q.i) :
    Calls Try.prog 53 #[p.val, q.val, .bool on] w fun x w' => x = .returned (Cn.val ⟨at_ p.v q.v p.i (p.i - q.i), 0, on⟩) ∧ Ext w w' := by
  have CA := Lib.hid (fun W => at_may p.v q.v p.i (p.i - q.i) W ⟨hp, hq, by omega, h1, by omega⟩ (by omega))
  have HD : Hid (wrap64 (p.i - q.i) = p.i - q.i) := Lib.hid (by unfold wrap64; omega)
  have HE := Lib.hid ((((Ext.refl w).alloc (.cells p.row 88)).alloc (.cells q.row 88)).alloc (.cells Cn0.row 88))
  obtain ⟨u, hu⟩ : ∃ u, u = at_ p.v q.v p.i (p.i - q.i) := ⟨_, rfl⟩
  rw [← hu] at CA ⊢
  clear hp hq hu h1 h2 h3 h4
  go_enter Try.func53, Try.ntmps53
  go_wp2_with fail
  rw [HD.out]
  refine (CA.out _).mono ?_
  rintro e w1 ⟨rfl, hE⟩
  obtain ⟨x, rfl⟩ := Later.mk' hE
  clear hE
  have B3 : Blk x.w (w.heap.size + 1 + 1) 88 Cn0.row := Blk.later (Blk.new' _ _ _ (by simp)) x
  have HB := Lib.hid (B3.alloc (.cells u.row 25))
  obtain ⟨R0, R1, R2, R3, R4, R5, R6, R7, R8, R9⟩ := cells10 B3
  obtain ⟨F0, F1, F2, F3, F4, F5, F6, F7, F8, F9⟩ := frees10 B3
  simp only [Cn0] at R0 R1 R2 R3 R4 R5 R6 R7 R8 R9
  have HZ := Lib.hid B3.lt
  have HEx := Lib.hid ((HE.out.later x).alloc (.cells u.row 25))
  clear B3 CA HD HE
  go_wp2_with fail
  clear R0 R1 R2 R3 R4 R5 R6 R7 R8 R9 F0 F1 F2 F3 F4 F5 F6 F7 F8 F9
  obtain ⟨q0, q1, q2, q3, q4, q5, q6, q7, q8, q9⟩ := cells10 (HB.out.set10 ⟨u, 0, on⟩)
  refine bodyPost_ret (v := Cn.val ⟨u, 0, on⟩) (by simp [results, Try.results53, q0, q1, q2, q3, q4, q5, q6, q7, q8, q9, go_sem]) rfl ⟨rfl, ?_⟩
  have HE := HEx.out
  repeat (with_reducible refine Ext.setCell ?_ _ ?hp; case hp => simp; omega)
  exact HE
/-- What stays of the way from one corner to the next one. -/
def cutF (s : Sd) (p q : Vx × Bool) : List (Vx × Bool) :=
  if 0 ≤ dist s p.1 then (if 0 ≤ dist s q.1 then [p] else [p, (at_ p.1 q.1 (dist s p.1) (dist s p.1 - dist s q.1), true)])
  else if 0 ≤ dist s q.1 then [(at_ q.1 p.1 (dist s q.1) (dist s q.1 - dist s p.1), p.2)] else []
def Cn.pl (c : Cn) : Vx × Bool := (c.v, c.on)
theorem cutF_len (s : Sd) (p q : Vx × Bool) : (cutF s p q).length ≤ 2 := by
  unfold cutF
  split <;> split <;> simp
theorem flat_len {α β : Type} {f : α → List β} (h : ∀ a, (f a).length ≤ 2) (l : List α) : (l.flatMap f).length ≤ 2 * l.length := by
  induction l with
  | nil => simp
  | cons a l ih => rw [List.flatMap_cons, List.length_append, List.length_cons]; have := h a; omega
theorem cutBy_len2 (s : Sd) (l : List (Vx × Bool)) : (cutBy (cutF s) l).length ≤ 2 * l.length := by
  have h := flat_len (f := fun c : (Vx × Bool) × (Vx × Bool) => cutF s c.1 c.2) (fun c => cutF_len s c.1 c.2) (ring l)
  rw [ring_length] at h
  unfold cutBy
  simp only
  split
  · simp
  · exact h
theorem cutF_fit {s : Sd} {p q : Vx × Bool} (hp : p.1.Fit) (hq : q.1.Fit) : ∀ c ∈ cutF s p q, c.1.Fit := by
  intro c hc
  unfold cutF at hc
  split at hc
  · split at hc
    · simp at hc; exact hc ▸ hp
    · simp at hc
      rcases hc with rfl | rfl
      · exact hp
      · exact at_fit hp hq (by omega) (by omega) (by omega)
  · split at hc
    · simp at hc
      subst hc
      exact at_fit hq hp (by omega) (by omega) (by omega)
    · simp at hc
theorem cutBy_fit {s : Sd} {l : List (Vx × Bool)} (h : ∀ c ∈ l, c.1.Fit) : ∀ c ∈ cutBy (cutF s) l, c.1.Fit :=
  cutBy_all fun p hp q hq => cutF_fit (h p hp) (h q hq)
theorem ring_get {α : Type} {l : List α} {j n : Nat} {c d : α} (hl : l.length = n) (hc : l[j]? = some c) (hd : (if j + 1 < n then l[j + 1]? else l[0]?) = some d) : (ring l)[j]? = some (c, d) := by
  have hj := (List.getElem?_eq_some_iff.1 hc).1
  refine List.getElem?_zip_eq_some.2 ⟨hc, ?_⟩
  by_cases h : j + 1 < n
  · rw [if_pos h] at hd
    rw [List.getElem?_append_left (by simp; omega), List.getElem?_drop, Nat.add_comm 1 j, hd]
  · rw [if_neg h] at hd
    rw [List.getElem?_append_right (by simp; omega), List.length_drop, show j - (l.length - 1) = 0 by omega, List.getElem?_take, if_pos (by omega), hd]
theorem take_flat {α β : Type} {f : α → List β} {l : List α} {j : Nat} {c : α} (h : l[j]? = some c) : (l.take (j + 1)).flatMap f = (l.take j).flatMap f ++ f c := by
  have hj := (List.getElem?_eq_some_iff.1 h).1
  rw [List.take_succ_eq_append_getElem hj, List.flatMap_append, (List.getElem?_eq_some_iff.1 h).2]
  simp
/-- Corners, each told how far in it is. -/
def told (s : Sd) (L : List Cn) : List Cn := L.map fun c => ⟨c.v, dist s c.v, c.on⟩
theorem told_pl (s : Sd) (L : List Cn) : (told s L).map Cn.pl = L.map Cn.pl := by simp [told, Cn.pl, Function.comp_def]
end Go.Proofs.Ytibhfclkdbmmoaa
