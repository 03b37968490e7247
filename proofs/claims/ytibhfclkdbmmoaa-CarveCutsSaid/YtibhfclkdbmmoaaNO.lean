/- Proof text: rows of bits above a block; what holds in the loop of rastrumref02.Floor. By an AI agent. No condition beyond what each theorem states. -/
import Derived.Test.YtibhfclkdbmmoaaNM
set_option linter.unusedVariables false
set_option linter.unusedSimpArgs false
namespace Go.Proofs.Ytibhfclkdbmmoaa
open Go.RowKit
/-- A row that stands in no block below base. -/
def RdG (w : World) (base : Nat) (a : Option Addr) (n c : Nat) (xs : List Value) : Prop := Rd w 1 a n c xs ∧ (0 < n → ∀ b off, a = some ⟨b, off, none⟩ → base ≤ b)
section
variable {w w' : World} {base base' : Nat} {a : Option Addr} {n c : Nat} {xs : List Value}
theorem RdG.ext (h : RdG w base a n c xs) (e : Ext w w') : RdG w' base a n c xs := ⟨h.1.ext e, h.2⟩
theorem RdG.low (h : RdG w base' a n c xs) (e : base ≤ base') : RdG w base a n c xs := ⟨h.1, fun h0 b off hb => Nat.le_trans e (h.2 h0 b off hb)⟩
theorem RdG.alike {W : World} (h : RdG w base a n c xs) (e : ∀ k, base ≤ k → W.heap[k]? = w.heap[k]?) : RdG W base a n c xs := by
  refine ⟨⟨h.1.len, h.1.le, h.1.mx, fun h0 => ?_⟩, h.2⟩
  obtain ⟨b, off, ha, hb, hc⟩ := h.1.at_ h0
  have hk := e b (h.2 h0 b off ha)
  refine ⟨b, off, ha, ?_, fun j hj => ?_⟩
  · rcases Nat.lt_or_ge b W.heap.size with h1 | h1
    · exact h1
    · rw [Array.getElem?_eq_none h1, Array.getElem?_eq_getElem hb] at hk; cases hk
  · rw [← hc j hj]
    simp only [World.cell?, hk]
theorem RdG.to (h : RdG w base a n c xs) : RdF w base a n c xs := fun W hW => (h.alike hW).1
theorem RdG.far (h : RdG w base a n c xs) {p : Addr} (hp : p.block < base) (u : Value) : RdG (w.setCell p u) base a n c xs :=
  h.alike fun k hk => Below.heap_setCell _ p u k (by omega)
theorem RdF.to (h : RdF w base' a n c xs) (e : base ≤ base') : RdG w base a n c xs := by
  refine RdG.low ⟨h.rd, fun h0 b off ha => ?_⟩ e
  rcases Nat.lt_or_ge b base' with h1 | h1
  · exfalso
    obtain ⟨b2, off2, ha2, hb2, hc2⟩ := h.rd.at_ h0
    rw [ha] at ha2
    obtain ⟨rfl, rfl⟩ : b = b2 ∧ off = off2 := by simpa using ha2
    have hW := h { w with heap := w.heap.setIfInBounds b (.cells #[] 0) } (fun k hk => by
      show (w.heap.setIfInBounds b _)[k]? = _
      rw [Array.getElem?_setIfInBounds, if_neg (by omega)])
    obtain ⟨b3, off3, ha3, hb3, hc3⟩ := hW.at_ h0
    rw [ha] at ha3
    obtain ⟨rfl, rfl⟩ : b = b3 ∧ off = off3 := by simpa using ha3
    have hl := hW.len
    have h2 := hc3 0 (by omega)
    rw [List.getElem?_eq_getElem (by omega)] at h2
    rw [cell_of_row _ _ _ #[] 0 (0, 0) (by show (w.heap.setIfInBounds b _)[b]? = _; rw [Array.getElem?_setIfInBounds, if_pos rfl, if_pos hb2])] at h2
    simp at h2
  · exact h1
theorem own_rdg {e : TypeId} {v : Value} (h : w.ownsRow base e 1 v n xs) : ∃ a c, v = .slice a n c ∧ RdG w base a n c xs := by
  obtain ⟨a, c, rfl, hr⟩ := ownsRow_rd h
  refine ⟨a, c, rfl, hr, fun h0 b off ha => ?_⟩
  subst ha
  rcases h.2 with h1 | ⟨g, cap, cur, h1, h2, -⟩
  · simp at h1
  · simp at h1
    omega
end
theorem NumF.plain {w : World} {base : Nat} {v : Value} {k : Nat} (h : NumF w base v (sg false k)) : ∃ (a : Option Addr) (n c : Nat) (bs : List Bool), v = .agg #[.bool false, .slice a n c] ∧ RdF w base a n c (brw bs) ∧ Canon bs ∧ bval bs = k := by
  obtain ⟨m, a, n, c, bs, rfl, h2, h3, h4, h5⟩ := h
  cases m
  · exact ⟨a, n, c, bs, rfl, h2, h3, by simp [sg] at h5; omega⟩
  · exfalso
    have h6 := canon_pos h3 (h4 rfl)
    have h7 := Nat.two_pow_pos (bs.length - 1)
    simp [sg] at h5
    omega
/-- In the loop: the bits from the j-th on are divided. -/
structure FJ (w : World) (m k : Bool) (A D : Value) (l1 l2 qb rb : List Bool) (aq : Option Addr) (nq cq : Nat) (ar : Option Addr) (nr cr : Nat) (wr : World) : Prop where
  b0 : Blk wr w.heap.size 78 #[.bool m, A]
  b1 : Blk wr (w.heap.size + 1) 78 #[.bool k, D]
  b2 : Blk wr (w.heap.size + 1 + 1) 78 #[.bool false, .slice none 0 0]
  b3 : Blk wr (w.heap.size + 1 + 1 + 1) 78 #[.bool false, .slice none 0 0]
  b4 : Blk wr (w.heap.size + 1 + 1 + 1 + 1) 78 #[.bool false, .slice aq nq cq]
  b5 : Blk wr (w.heap.size + 1 + 1 + 1 + 1 + 1) 78 #[.bool false, .slice ar nr cr]
  rq : RdG wr (w.heap.size + 6) aq nq cq (brw qb)
  rr : RdG wr (w.heap.size + 6) ar nr cr (brw rb)
  cn : Canon rb
  ex : Ext w wr
section
variable {w : World} {m k : Bool} {A D : Value} {l1 l2 qb rb : List Bool} {aq : Option Addr} {nq cq : Nat} {ar : Option Addr} {nr cr : Nat} {wr : World}
theorem FJ.ext {w' : World} (h : FJ w m k A D l1 l2 qb rb aq nq cq ar nr cr wr) (e : Ext wr w') : FJ w m k A D l1 l2 qb rb aq nq cq ar nr cr w' :=
  ⟨h.b0.ext e, h.b1.ext e, h.b2.ext e, h.b3.ext e, h.b4.ext e, h.b5.ext e, h.rq.ext e, h.rr.ext e, h.cn, h.ex.trans e⟩
theorem FJ.setr {ar' : Option Addr} {nr' cr' : Nat} {rb' : List Bool} (h : FJ w m k A D l1 l2 qb rb aq nq cq ar nr cr wr) (hr : RdG wr (w.heap.size + 6) ar' nr' cr' (brw rb')) (hc : Canon rb') :
    FJ w m k A D l1 l2 qb rb' aq nq cq ar' nr' cr' ((wr.setCell ⟨w.heap.size + 1 + 1 + 1 + 1 + 1, 0, none⟩ (.bool false)).setCell ⟨w.heap.size + 1 + 1 + 1 + 1 + 1, 1, none⟩ (.slice ar' nr' cr')) := by
  refine ⟨(h.b0.far ?_ _).far ?_ _, (h.b1.far ?_ _).far ?_ _, (h.b2.far ?_ _).far ?_ _, (h.b3.far ?_ _).far ?_ _, (h.b4.far ?_ _).far ?_ _, (h.b5.set_ 0 _).set_ 1 _, (h.rq.far ?_ _).far ?_ _, (hr.far ?_ _).far ?_ _, hc, (h.ex.setCell _ ?_).setCell _ ?_⟩ <;> (dsimp only; omega)
theorem FJ.setq {aq' : Option Addr} {nq' cq' : Nat} {qb' : List Bool} (h : FJ w m k A D l1 l2 qb rb aq nq cq ar nr cr wr) (hr : RdG wr (w.heap.size + 6) aq' nq' cq' (brw qb')) :
    FJ w m k A D l1 l2 qb' rb aq' nq' cq' ar nr cr (wr.setCell ⟨w.heap.size + 1 + 1 + 1 + 1, 1, none⟩ (.slice aq' nq' cq')) := by
  refine ⟨h.b0.far ?_ _, h.b1.far ?_ _, h.b2.far ?_ _, h.b3.far ?_ _, h.b4.set_ 1 _, h.b5.far ?_ _, hr.far ?_ _, h.rr.far ?_ _, h.cn, h.ex.setCell _ ?_⟩ <;> (dsimp only; omega)
theorem FJ.setq2 {aq' : Option Addr} {nq' cq' : Nat} {qb' : List Bool} (h : FJ w m k A D l1 l2 qb rb aq nq cq ar nr cr wr) (hr : RdG wr (w.heap.size + 6) aq' nq' cq' (brw qb')) :
    FJ w m k A D l1 l2 qb' rb aq' nq' cq' ar nr cr ((wr.setCell ⟨w.heap.size + 1 + 1 + 1 + 1, 0, none⟩ (.bool false)).setCell ⟨w.heap.size + 1 + 1 + 1 + 1, 1, none⟩ (.slice aq' nq' cq')) := by
  refine ⟨(h.b0.far ?_ _).far ?_ _, (h.b1.far ?_ _).far ?_ _, (h.b2.far ?_ _).far ?_ _, (h.b3.far ?_ _).far ?_ _, (h.b4.set_ 0 _).set_ 1 _, (h.b5.far ?_ _).far ?_ _, (hr.far ?_ _).far ?_ _, (h.rr.far ?_ _).far ?_ _, h.cn, (h.ex.setCell _ ?_).setCell _ ?_⟩ <;> (dsimp only; omega)
end
theorem NumF.ext {w w' : World} {base : Nat} {v : Value} {z : Int} (h : NumF w base v z) (e : Ext w w') : NumF w' base v z := by
  obtain ⟨m, a, n, c, bs, h1, h2, h3⟩ := h
  exact ⟨m, a, n, c, bs, h1, ((h2.to (Nat.le_refl _)).ext e).to, h3⟩
theorem NumF.low {w : World} {base base' : Nat} {v : Value} {z : Int} (h : NumF w base' v z) (e2 : base ≤ base') : NumF w base v z := by
  obtain ⟨m, a, n, c, bs, h1, h2, h3⟩ := h
  exact ⟨m, a, n, c, bs, h1, (h2.to e2).to, h3⟩
theorem NumF.far {w : World} {base : Nat} {v : Value} {z : Int} (h : NumF w base v z) {p : Addr} (hp : p.block < base) (u : Value) : NumF (w.setCell p u) base v z := by
  obtain ⟨m, a, n, c, bs, h1, h2, h3⟩ := h
  exact ⟨m, a, n, c, bs, h1, ((h2.to (Nat.le_refl _)).far hp u).to, h3⟩
/-- The bit 1, just made, as a number. -/
theorem one_num (x : World) : NumV (x.alloc (.cells #[.int .u8 1] 5)) (.agg #[.bool false, .slice (some ⟨x.heap.size, 0, none⟩) 1 1]) 1 := by
  have h := World.ownsRow_lit (base := x.heap.size) (e := 5) (size := 1) x #[.int .u8 1] 1 (Nat.le_refl _) (by decide) rfl
  obtain ⟨a, c, he, hr⟩ := ownsRow_rd h
  obtain ⟨rfl, -, rfl⟩ := Value.slice.inj he
  exact ⟨false, _, 1, 1, [true], rfl, hr, fun k hk => by simp at hk; subst hk; rfl, fun h => by simp at h, by simp [sg, bval]⟩
/-- Two results' cells, written. -/
theorem set4_same {w : World} {g h : Nat} {t : TypeId} {u v u' v' : Value} (b : Blk w g t #[u, v]) (c : Blk w h t #[u', v']) (hne : g ≠ h) (x y x' y' : Value) :
    Blk ((((w.setCell ⟨g, 0, none⟩ x).setCell ⟨g, 1, none⟩ y).setCell ⟨h, 0, none⟩ x').setCell ⟨h, 1, none⟩ y') g t #[x, y] ∧ Blk ((((w.setCell ⟨g, 0, none⟩ x).setCell ⟨g, 1, none⟩ y).setCell ⟨h, 0, none⟩ x').setCell ⟨h, 1, none⟩ y') h t #[x', y'] :=
  ⟨((((b.set_ 0 x).set_ 1 y).far (p := ⟨h, 0, none⟩) hne _).far (p := ⟨h, 1, none⟩) hne _), ((((c.far (p := ⟨g, 0, none⟩) hne.symm _).far (p := ⟨g, 1, none⟩) hne.symm _).set_ 0 x').set_ 1 y')⟩
/-- Two boxes, behind the writing of a third one. -/
theorem keep_two {w : World} {g h r : Nat} {t : TypeId} {u v u' v' : Value} (b : Blk w g t #[u, v]) (c : Blk w h t #[u', v']) (hg : g ≠ r) (hh : h ≠ r) (x y : Value) :
    Blk ((w.setCell ⟨r, 0, none⟩ x).setCell ⟨r, 1, none⟩ y) g t #[u, v] ∧ Blk ((w.setCell ⟨r, 0, none⟩ x).setCell ⟨r, 1, none⟩ y) h t #[u', v'] :=
  ⟨(b.far (p := ⟨r, 0, none⟩) hg x).far (p := ⟨r, 1, none⟩) hg y, (c.far (p := ⟨r, 0, none⟩) hh x).far (p := ⟨r, 1, none⟩) hh y⟩
theorem four_cells {w : World} {g h : Nat} {t : TypeId} {u v u' v' : Value} (b : Blk w g t #[u, v] ∧ Blk w h t #[u', v']) : w.cell? ⟨g, 0, none⟩ = some u ∧ w.cell? ⟨g, 1, none⟩ = some v ∧ w.cell? ⟨h, 0, none⟩ = some u' ∧ w.cell? ⟨h, 1, none⟩ = some v' :=
  ⟨b.1.cell 0, b.1.cell 1, b.2.cell 0, b.2.cell 1⟩
theorem six_cells {w : World} {g h k : Nat} {t : TypeId} {u v u' v' x y : Value} (b : Blk w g t #[u, v]) (c : Blk w h t #[u', v']) (d : Blk w k t #[x, y]) : w.cell? ⟨g, 0, none⟩ = some u ∧ w.cell? ⟨g, 1, none⟩ = some v ∧ w.cell? ⟨h, 0, none⟩ = some u' ∧ w.cell? ⟨h, 1, none⟩ = some v' ∧ w.cell? ⟨k, 0, none⟩ = some x ∧ w.cell? ⟨k, 1, none⟩ = some y :=
  ⟨b.cell 0, b.cell 1, c.cell 0, c.cell 1, d.cell 0, d.cell 1⟩
theorem plus_one {l q d r : Nat} {N : Nat} (h : l = q * d + r) (hr : r < d) (h0 : 0 < r) (hl : l < 2 ^ N) : ((q : Int) + 1).natAbs < 2 ^ N := by
  have h1 : q * 1 ≤ q * d := Nat.mul_le_mul_left _ (by omega)
  have h2 : ((q : Int) + 1).natAbs = q + 1 := by omega
  rw [h2]
  omega
theorem floor_up {l q d r : Nat} (h : l = q * d + r) (hr : r < d) : (l : Int) / (d : Int) = (q : Int) := by
  have := (Int.ediv_emod_unique (a := (l : Int)) (b := (d : Int)) (q := (q : Int)) (r := (r : Int)) (by omega)).2 ⟨by rw [h, Nat.mul_comm]; simp; omega, by omega, by omega⟩
  exact this.1
theorem floor_even {l q d r : Nat} (h : l = q * d + r) (hr : r = 0) (hd : 0 < d) : (-(l : Int)) / (d : Int) = -(q : Int) := by
  have := (Int.ediv_emod_unique (a := -(l : Int)) (b := (d : Int)) (q := -(q : Int)) (r := 0) (by omega)).2 ⟨by rw [h, hr, Nat.mul_comm]; simp [Int.mul_neg], by omega, by omega⟩
  exact this.1
theorem floor_down {l q d r : Nat} (h : l = q * d + r) (hr : r < d) (h0 : 0 < r) : (-(l : Int)) / (d : Int) = -((q : Int) + 1) := by
  have := (Int.ediv_emod_unique (a := -(l : Int)) (b := (d : Int)) (q := -((q : Int) + 1)) (r := (d : Int) - r) (by omega)).2 ⟨by rw [h, Nat.mul_comm]; simp [Int.mul_neg, Int.mul_add]; omega, by omega, by omega⟩
  exact this.1
end Go.Proofs.Ytibhfclkdbmmoaa
