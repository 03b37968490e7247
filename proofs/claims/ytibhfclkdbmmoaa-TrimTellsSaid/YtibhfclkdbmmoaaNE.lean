/- Proof text: numbers without noughts above (rastrumref02.trim). By an AI agent. No condition beyond what each theorem states. -/
import Derived.Test.YtibhfclkdbmmoaaND
import Derived.Test.YtibhfclkdbmmoaaSF
set_option linter.unusedVariables false
set_option linter.unusedSimpArgs false
namespace Go.Proofs.Ytibhfclkdbmmoaa
open Go.RowKit
theorem run_to {P : Program} {t e : TypeId} {size : Nat} (hu : P.underlying t = some (.slice e)) (hs : (P.info? e).map (·.size) = some size) (a : Option Addr) (n cap : Nat) (H : Int) (hi : Nat) (hH : H = hi) (h1 : hi ≤ cap) (w : World) :
    (Instr.slice t (.slice a n cap) none (some (.int .i64 H)) none).run P w = .ok (.slice (if cap = 0 then a else a.map (·.add (0 * size))) (hi - 0) (cap - 0)) w := by
  subst hH
  obtain ⟨i, hi1, hi2⟩ := Option.map_eq_some_iff.1 hs
  simp [Instr.slice, run_underlying hu, Instr.sliceBounds, run_sliceBound, h1, sizeOf, typeInfo, hi1, hi2]
theorem to_ex {P : Program} {t e : TypeId} {size : Nat} (hu : P.underlying t = some (.slice e)) (hs : (P.info? e).map (·.size) = some size) {W : World} {a : Option Addr} {n cap : Nat} {xs : List Value}
    (h : Rd W size a n cap xs) (H : Int) (hi : Nat) (hH : H = hi) (h1 : hi ≤ n) :
    ∃ a' c, (∀ w, (Instr.slice t (.slice a n cap) none (some (.int .i64 H)) none).run P w = .ok (.slice a' hi c) w) ∧ (∀ W', Rd W' size a n cap xs → Rd W' size a' hi c (xs.take (hi * size))) := by
  refine ⟨if cap = 0 then a else a.map (·.add (0 * size)), cap, fun w => run_to hu hs a n cap H hi hH (Nat.le_trans h1 h.le) w, fun W' h' => ?_⟩
  have h2 := part_rd h' 0 hi cap (Nat.zero_le _) h1 (Nat.le_trans h1 h.le) (Nat.le_refl _)
  rw [Nat.zero_mul, List.drop_zero, Nat.sub_zero] at h2
  rw [Nat.zero_mul]
  exact h2
theorem ownsRow_same {w W : World} {base : Nat} {e : TypeId} {size : Nat} {v : Value} {n : Nat} {xs : List Value} (h : w.ownsRow base e size v n xs) (hk : ∀ k, base ≤ k → W.heap[k]? = w.heap[k]?) : W.ownsRow base e size v n xs := by
  refine ⟨h.1, ?_⟩
  rcases h.2 with h2 | ⟨g, cap, cur, h2, hb, hg, h3⟩
  · exact .inl h2
  · exact .inr ⟨g, cap, cur, h2, hb, (hk g hb).trans hg, h3⟩
def lenV : Value → Nat
  | .slice _ n _ => n
  | _ => 0
/-- A row stands in all worlds that are alike from a block on. -/
def RdF (w : World) (base : Nat) (a : Option Addr) (n c : Nat) (xs : List Value) : Prop := ∀ W : World, (∀ k, base ≤ k → W.heap[k]? = w.heap[k]?) → Rd W 1 a n c xs
theorem RdF.rd {w : World} {base : Nat} {a : Option Addr} {n c : Nat} {xs : List Value} (h : RdF w base a n c xs) : Rd w 1 a n c xs := h w fun _ _ => rfl
theorem set2_far (w : World) {g base : Nat} (hg : g < base) (u v : Value) : ∀ k, base ≤ k → ((w.setCell ⟨g, 0, none⟩ u).setCell ⟨g, 1, none⟩ v).heap[k]? = w.heap[k]? := fun k hk =>
  (Below.heap_setCell _ ⟨g, 1, none⟩ v k (by show k ≠ g; omega)).trans (Below.heap_setCell _ ⟨g, 0, none⟩ u k (by show k ≠ g; omega))
theorem RdF.set2 {w : World} {b b' g : Nat} {a : Option Addr} {n c : Nat} {xs : List Value} (h : RdF w b a n c xs) (hg : g < b) (hb : b' ≤ b) (u v : Value) : RdF ((w.setCell ⟨g, 0, none⟩ u).setCell ⟨g, 1, none⟩ v) b' a n c xs :=
  fun W hW => h W fun k hk => (hW k (Nat.le_trans hb hk)).trans (set2_far w hg u v k hk)
/-- A number as the document has it: is it below 0, its bits. -/
def sg (m : Bool) (k : Nat) : Int := if m then -(k : Int) else k
def NumV (w : World) (v : Value) (z : Int) : Prop :=
  ∃ (m : Bool) (a : Option Addr) (n c : Nat) (bs : List Bool), v = .agg #[.bool m, .slice a n c] ∧ Rd w 1 a n c (brw bs) ∧ Canon bs ∧ (m = true → bs ≠ []) ∧ z = sg m (bval bs)
theorem NumV.ext {w w' : World} {v : Value} {z : Int} (h : NumV w v z) (e : Ext w w') : NumV w' v z := by
  obtain ⟨m, a, n, c, bs, h1, h2, h3⟩ := h
  exact ⟨m, a, n, c, bs, h1, h2.ext e, h3⟩
/-- The same, where what lies below a block may be written. -/
def NumF (w : World) (base : Nat) (v : Value) (z : Int) : Prop :=
  ∃ (m : Bool) (a : Option Addr) (n c : Nat) (bs : List Bool), v = .agg #[.bool m, .slice a n c] ∧ RdF w base a n c (brw bs) ∧ Canon bs ∧ (m = true → bs ≠ []) ∧ z = sg m (bval bs)
theorem NumF.num {w : World} {base : Nat} {v : Value} {z : Int} (h : NumF w base v z) : NumV w v z := by
  obtain ⟨m, a, n, c, bs, h1, h2, h3⟩ := h
  exact ⟨m, a, n, c, bs, h1, h2.rd, h3⟩
def NumP (z : Int) (w : World) (x : Ending) (w' : World) : Prop := ∃ v, x = .returned v ∧ NumF w' w.heap.size v z ∧ Ext w w'
theorem Blk.grown2 {w w' : World} {g : Nat} {t : TypeId} {cs : Array Value} {row : Option Nat} (h : Blk w g t cs) (hg : w.grownBy w' row) (hne : row ≠ some g) : Blk w' g t cs :=
  (hg.block g h.lt (fun e => hne e.symm)).trans h
theorem num2 {w : World} {g : Nat} {t : TypeId} {u v : Value} (h : Blk w g t #[u, v]) : w.cell? ⟨g, 0, none⟩ = some u ∧ w.cell? ⟨g, 1, none⟩ = some v ∧ w.frozen? ⟨g, 0, none⟩ = false ∧ w.frozen? ⟨g, 1, none⟩ = false :=
  ⟨h.cell 0, h.cell 1, h.frozen 0, h.frozen 1⟩
theorem set2_same {w : World} {g : Nat} {t : TypeId} {u v : Value} (h : Blk w g t #[u, v]) : (∀ x, (w.setCell ⟨g, 0, none⟩ x).cell? ⟨g, 0, none⟩ = some x) ∧ (∀ x y, ((w.setCell ⟨g, 0, none⟩ x).setCell ⟨g, 1, none⟩ y).cell? ⟨g, 1, none⟩ = some y) :=
  ⟨fun x => (h.set_ 0 x).cell 0, fun x y => ((h.set_ 0 x).set_ 1 y).cell 1⟩
set_option maxRecDepth 10000 in
set_option maxHeartbeats 2000000 in
theorem ntrim_any (m : Bool) (l : List Bool) (a : Option Addr) (n ca : Nat) (w : World) (h1 : Rd w 1 a n ca (brw l)) (hn : n ≤ 1000) :
    Calls Try.prog 60 #[.agg #[.bool m, .slice a n ca]] w (NumP (sg m (bval l)) w) := by
  have l1 := rd_len h1
  have H1 := Lib.hid h1
  have L1 := Lib.hid l1
  have n1 : (n : Int) ≤ 1000 := by omega
  have N1 := Lib.hid hn
  clear h1 l1 hn
  go_enter Try.func60, Try.ntmps60
  go_wp2_with (refine wpList_append_rd rfl (.tmp 4) (.tmp 6) 76 rfl (w.heap.size + 2) 5 _ 1 1 Try.underlying76 info_u8 rfl (by decide) _ 0 [] rfl ?c0 a n ca (brw l) rfl ?c1 (brw_one l) ?c3 (by decide) ?c5 ?_)
  case c0 =>
    have := World.ownsRow_lit (base := w.heap.size + 2) (e := 5) (size := 1) ((w.alloc (.cells #[.bool m, .slice a n ca] 78)).alloc (.cells #[.bool false, .slice none 0 0] 78)) #[] 0 (by simp) (by decide) rfl
    rw [World.size_alloc, World.size_alloc] at this
    exact this
  case c1 => exact H1.out.ext (((Ext.refl w).alloc _).alloc _ |>.alloc _)
  case c3 => have := N1.out; omega
  case c5 => simp
  intro v' w' ho' hg'
  have b1 : Blk w' w.heap.size 78 #[.bool m, .slice a n ca] := Blk.grown2 (((Blk.new w _ _).alloc _).alloc _) hg' (by simp [Value.ownBlock]; omega)
  have b2 : Blk w' (w.heap.size + 1) 78 #[.bool false, .slice none 0 0] := Blk.grown2 ((Blk.new' _ _ _ (by simp)).alloc _) hg' (by simp [Value.ownBlock])
  have hE' : Ext w w' := Ext.grown (((Ext.refl w).alloc _).alloc _ |>.alloc _) hg' (fun k hk => by simp [Value.ownBlock] at hk; omega)
  have HE' := Lib.hid hE'
  obtain ⟨a', c', rfl, hr⟩ := ownsRow_rd ho'
  have hrf : RdF w' (w.heap.size + 2) a' n c' (brw l) := fun W hW => by
    obtain ⟨a2, c2, he, hr2⟩ := ownsRow_rd (ownsRow_same ho' hW)
    cases he
    exact hr2
  have HR := Lib.hid hrf
  have B1 := Lib.hid b1
  have B2 := Lib.hid b2
  have HZ := Lib.hid hE'.size
  clear ho' hg' hE' hr hrf b1 b2
  go_wp2_with fail
  go_loopw [3] (fun v wr => ∃ (j : Nat) (a2 : Option Addr) (c2 : Nat), j ≤ n ∧ v = .slice a2 j c2 ∧ Hid (RdF w' (w.heap.size + 2) a2 j c2 (brw (l.take j))) ∧ Hid (low l j = bval l) ∧ wr = w') (fun v _ => lenV v)
  case atStart => exact ⟨n, a', c', Nat.le_refl _, rfl, Lib.hid (by rw [List.take_of_length_le (by rw [L1.out]; exact Nat.le_refl _)]; exact HR.out), Lib.hid (low_all (by rw [L1.out]; exact Nat.le_refl _)), rfl⟩
  case round =>
    obtain ⟨j, a2, c2, hj, rfl, HR2, HL2, rfl⟩ := hrel
    rcases j with _ | i
    · obtain ⟨q0, q1, -, -⟩ := num2 B1.out
      obtain ⟨p0, p1, f0, f1⟩ := num2 B2.out
      obtain ⟨s0, s1⟩ := set2_same B2.out
      go_wp2_with fail
      all_goals
        try simp only [Exit.inBlock, Exit.then]
        refine bodyPost_ret (by simp [results, Try.results60, go_sem, s0, s1]; try rfl) rfl ?_
        have E := HE'.out
        exact ⟨_, rfl, ⟨false, a2, 0, c2, [], rfl, HR2.out.set2 (Nat.lt_succ_self _) (Nat.le_add_right _ 2) _ _, canon_nil, fun h => by simp at h, by rw [← HL2.out, low_zero]; cases m <;> rfl⟩, by (repeat (first | with_reducible exact Ext.refl _ | with_reducible assumption | with_reducible refine Ext.alloc ?_ _ | with_reducible refine Ext.drew ?_ | with_reducible refine Ext.drewN ?_ _ | with_reducible refine Ext.later ?_ _ | (with_reducible refine Ext.setCell ?_ _ ?hp; case hp => first | (simp; done) | (simp; omega) | omega)))⟩
    · obtain ⟨x, hx⟩ : ∃ x, (l.take (i + 1))[i]? = some x := ⟨_, List.getElem?_eq_getElem (by rw [List.length_take, L1.out]; omega)⟩
      have hbx : bt l i = x := bt_of (by rw [← hx, List.getElem?_take, if_pos (by omega)])
      obtain ⟨b, off, rfl, -, -⟩ := HR2.out.rd.at_ (by omega)
      have c0 := bit_at HR2.out.rd hx
      have hj1 : (i : Int) + 1 ≤ n := by omega
      have e1 : ((i + 1 : Nat) : Int) - 1 = i := by omega
      rcases bN_cases x with ⟨x1, y1⟩ | ⟨x1, y1⟩
      · rw [y1] at c0
        have hcn : Canon (l.take (i + 1)) := fun k hk => by
          have : k = i := by rw [List.length_take, L1.out] at hk; omega
          subst this
          exact (bt_of hx).trans x1
        have HC := Lib.hid hcn
        obtain ⟨q0, q1, -, -⟩ := num2 B1.out
        obtain ⟨p0, p1, f0, f1⟩ := num2 B2.out
        obtain ⟨s0, s1⟩ := set2_same B2.out
        have hne : l.take (i + 1) ≠ [] := fun h0 => by rw [h0] at hx; simp at hx
        have HNE := Lib.hid hne
        clear hcn x1 y1 hbx hx hj hne
        go_wp2_with fail
        all_goals
          try simp only [Exit.inBlock, Exit.then]
          refine bodyPost_ret (by simp [results, Try.results60, go_sem, s0, s1]; try rfl) rfl ?_
          have E := HE'.out
          refine ⟨_, rfl, ⟨_, some ⟨b, off, none⟩, i + 1, c2, l.take (i + 1), rfl, HR2.out.set2 (Nat.lt_succ_self _) (Nat.le_add_right _ 2) _ _, HC.out, fun _ => HNE.out, ?_⟩, by (repeat (first | with_reducible exact Ext.refl _ | with_reducible assumption | with_reducible refine Ext.alloc ?_ _ | with_reducible refine Ext.drew ?_ | with_reducible refine Ext.drewN ?_ _ | with_reducible refine Ext.later ?_ _ | (with_reducible refine Ext.setCell ?_ _ ?hp; case hp => first | (simp; done) | (simp; omega) | omega)))⟩
          rw [← HL2.out]; first | (rename_i hm; rw [hm]; rfl) | (rename_i hm; rw [eq_false_of_ne_true hm]; rfl)
      · rw [y1] at c0
        obtain ⟨a3, c3, hp, hr3⟩ := to_ex (P := Try.prog) Try.underlying76 size_u8 HR2.out.rd (i : Int) i rfl (by omega)
        have HR3 : Hid (RdF wr (w.heap.size + 2) a3 i c3 (brw (l.take i))) := Lib.hid (fun W hW => by
          have := hr3 W (HR2.out W hW)
          rw [Nat.mul_one, ← brw_take, List.take_take, Nat.min_eq_left (by omega)] at this
          exact this)
        have HL3 : Hid (low l i = bval l) := Lib.hid (by rw [← HL2.out]; exact (trim_step (hbx.trans x1)).symm)
        clear x1 y1 hbx hx hj hr3
        go_wp2_with fail
        go_roundw
        case rel => exact ⟨i, a3, c3, by omega, rfl, HR3, HL3, trivial⟩
        case measure => simp [lenV]
end Go.Proofs.Ytibhfclkdbmmoaa
