/- Proof text: vertices and flags of corners (carve.parts); where a way meets a side (carve.meet). By an AI agent. No condition beyond what each theorem states. -/
import Derived.Test.YtibhfclkdbmmoaaCB
set_option linter.unusedVariables false
set_option linter.unusedSimpArgs false
namespace Go.Proofs.Ytibhfclkdbmmoaa
open Go.RowKit
def PartsPost (L : List Cn) (w : World) (x : Ending) (w' : World) : Prop :=
  ∃ a c b d, x = .returned (.tuple #[.slice a L.length c, .slice b L.length d]) ∧ Rd w' 8 a L.length c (vrows (L.map (·.v))) ∧ Rd w' 1 b L.length d (brows (L.map (·.on))) ∧ Ext w w'
set_option maxRecDepth 100000 in
set_option maxHeartbeats 2000000 in
theorem parts_nil (a : Option Addr) (c : Nat) (w : World) : Calls Try.prog 36 #[.slice a 0 c] w (PartsPost [] w) := by
  go_enter Try.func36, Try.ntmps36
  go_wp2_with fail
  go_ret2
  exact ⟨none, 0, none, 0, rfl, Rd.empty w 8 none 0 (by unfold maxLen; omega), Rd.empty w 1 none 0 (by unfold maxLen; omega), Ext.refl _⟩
/-- The cells of a corner's box. -/
def At10 (w : World) (g : Nat) (c : Cn) : Prop := w.cell? ⟨g, 0, none⟩ = some (.int .i64 c.v.x) ∧ w.cell? ⟨g, 1, none⟩ = some (.int .i64 c.v.y) ∧ w.cell? ⟨g, 2, none⟩ = some (.int .i64 c.v.z) ∧ w.cell? ⟨g, 3, none⟩ = some (.int .i64 c.v.w) ∧
    w.cell? ⟨g, 4, none⟩ = some (.int .i64 c.v.c0) ∧ w.cell? ⟨g, 5, none⟩ = some (.int .i64 c.v.c1) ∧ w.cell? ⟨g, 6, none⟩ = some (.int .i64 c.v.c2) ∧ w.cell? ⟨g, 7, none⟩ = some (.int .i64 c.v.c3) ∧ w.cell? ⟨g, 8, none⟩ = some (.int .i64 c.i) ∧ w.cell? ⟨g, 9, none⟩ = some (.bool c.on)
theorem cells10 {w : World} {g : Nat} {t : TypeId} {c : Cn} (h : Blk w g t c.row) : At10 w g c :=
  ⟨h.cell 0, h.cell 1, h.cell 2, h.cell 3, h.cell 4, h.cell 5, h.cell 6, h.cell 7, h.cell 8, h.cell 9⟩
theorem row_cells {w : World} {base X n cap j : Nat} {e : TypeId} {L : List Vx} {v : Vx} (h : w.ownsRow base e 8 (.slice (some ⟨X, 0, none⟩) n cap) n (vrows L)) (hs : L[j]? = some v) :
    w.cell? ⟨X, j * 8, none⟩ = some (.int .i64 v.x) ∧ w.cell? ⟨X, j * 8 + 1, none⟩ = some (.int .i64 v.y) ∧ w.cell? ⟨X, j * 8 + 2, none⟩ = some (.int .i64 v.z) ∧ w.cell? ⟨X, j * 8 + 3, none⟩ = some (.int .i64 v.w) ∧
    w.cell? ⟨X, j * 8 + 4, none⟩ = some (.int .i64 v.c0) ∧ w.cell? ⟨X, j * 8 + 5, none⟩ = some (.int .i64 v.c1) ∧ w.cell? ⟨X, j * 8 + 6, none⟩ = some (.int .i64 v.c2) ∧ w.cell? ⟨X, j * 8 + 7, none⟩ = some (.int .i64 v.c3) ∧
    w.frozen? ⟨X, j * 8, none⟩ = false ∧ w.frozen? ⟨X, j * 8 + 1, none⟩ = false ∧ w.frozen? ⟨X, j * 8 + 2, none⟩ = false ∧ w.frozen? ⟨X, j * 8 + 3, none⟩ = false ∧ w.frozen? ⟨X, j * 8 + 4, none⟩ = false ∧ w.frozen? ⟨X, j * 8 + 5, none⟩ = false ∧ w.frozen? ⟨X, j * 8 + 6, none⟩ = false ∧ w.frozen? ⟨X, j * 8 + 7, none⟩ = false := by
  have hl : L.length = n := by have := h.1; rw [vrows_len] at this; omega
  have hj : j < n := hl ▸ (List.getElem?_eq_some_iff.1 hs).1
  exact ⟨(h.cellAt _ (by omega)).trans ((vrows_get hs 0 (by omega)).trans rfl), (h.cellAt _ (by omega)).trans ((vrows_get hs 1 (by omega)).trans rfl), (h.cellAt _ (by omega)).trans ((vrows_get hs 2 (by omega)).trans rfl), (h.cellAt _ (by omega)).trans ((vrows_get hs 3 (by omega)).trans rfl),
    (h.cellAt _ (by omega)).trans ((vrows_get hs 4 (by omega)).trans rfl), (h.cellAt _ (by omega)).trans ((vrows_get hs 5 (by omega)).trans rfl), (h.cellAt _ (by omega)).trans ((vrows_get hs 6 (by omega)).trans rfl), (h.cellAt _ (by omega)).trans ((vrows_get hs 7 (by omega)).trans rfl),
    h.frozenAt _, h.frozenAt _, h.frozenAt _, h.frozenAt _, h.frozenAt _, h.frozenAt _, h.frozenAt _, h.frozenAt _⟩
theorem row_flag {w : World} {base X n cap j : Nat} {e : TypeId} {L : List Bool} {v : Bool} (h : w.ownsRow base e 1 (.slice (some ⟨X, 0, none⟩) n cap) n (brows L)) (hs : L[j]? = some v) :
    w.cell? ⟨X, j, none⟩ = some (.bool v) ∧ w.frozen? ⟨X, j, none⟩ = false := by
  have hl : L.length = n := by have := h.1; rw [brows_len] at this; omega
  have hj : j < n := hl ▸ (List.getElem?_eq_some_iff.1 hs).1
  exact ⟨(h.cellAt _ (by omega)).trans (brows_get hs), h.frozenAt _⟩
/-- Both rows while they are filled. -/
def PartsB (w wr : World) (n X Y : Nat) (L : List Vx) (M : List Bool) : Prop :=
  X ≠ Y ∧ L.length = n ∧ M.length = n ∧ wr.ownsRow w.heap.size 25 8 (.slice (some ⟨X, 0, none⟩) n n) n (vrows L) ∧ wr.ownsRow w.heap.size 4 1 (.slice (some ⟨Y, 0, none⟩) n n) n (brows M) ∧ Ext w wr
theorem frow_set {α : Type} {f : α → List Value} {K : Nat} (hK : ∀ s, (f s).length = K) {i : Nat} {u : Value} {s s' : α} (hi : i < K) (hf : f s' = (f s).set i u) {l : List α} {j : Nat} (h : l[j]? = some s) : (l.flatMap f).set (j * K + i) u = (l.set j s').flatMap f := by
  have hj := (List.getElem?_eq_some_iff.1 h).1
  have hlen : (l.flatMap f).length = l.length * K := frow_len hK l
  have hlt : j * K + i < (l.flatMap f).length := by
    rw [hlen]
    have : (j + 1) * K ≤ l.length * K := Nat.mul_le_mul_right _ hj
    rw [Nat.succ_mul] at this
    omega
  rw [List.set_eq_take_append_cons_drop, if_pos hlt, ← frow_put hK (i := i) (us := [u]) (s := s) (s' := s') (by simp; omega) (by rw [hf, List.set_eq_take_append_cons_drop, if_pos (by rw [hK]; exact hi)]; simp) h]
  simp
theorem vrows_set {l : List Vx} {j i : Nat} {u : Value} {s s' : Vx} (h : l[j]? = some s) (hi : i < 8) (hf : s'.rl = s.rl.set i u) : (vrows l).set (j * 8 + i) u = vrows (l.set j s') :=
  frow_set (f := Vx.rl) (K := 8) (fun _ => rfl) hi hf h
theorem vrows_set8 {l : List Vx} {j : Nat} {s : Vx} (h : l[j]? = some s) (c : Vx) :
    ((((((((vrows l).set (j * 8) (.int .i64 c.x)).set (j * 8 + 1) (.int .i64 c.y)).set (j * 8 + 2) (.int .i64 c.z)).set (j * 8 + 3) (.int .i64 c.w)).set (j * 8 + 4) (.int .i64 c.c0)).set (j * 8 + 5) (.int .i64 c.c1)).set (j * 8 + 6) (.int .i64 c.c2)).set (j * 8 + 7) (.int .i64 c.c3) = vrows (l.set j c) := by
  have hj := (List.getElem?_eq_some_iff.1 h).1
  have g : ∀ t, (l.set j t)[j]? = some t := fun t => List.getElem?_set_self hj
  have e0 := vrows_set (i := 0) (u := .int .i64 c.x) (s' := ⟨c.x, s.y, s.z, s.w, s.c0, s.c1, s.c2, s.c3⟩) h (by omega) rfl
  rw [Nat.add_zero] at e0
  rw [e0, vrows_set (g ⟨c.x, s.y, s.z, s.w, s.c0, s.c1, s.c2, s.c3⟩) (by omega : 1 < 8) (u := .int .i64 c.y) (s' := ⟨c.x, c.y, s.z, s.w, s.c0, s.c1, s.c2, s.c3⟩) rfl, List.set_set, vrows_set (g ⟨c.x, c.y, s.z, s.w, s.c0, s.c1, s.c2, s.c3⟩) (by omega : 2 < 8) (u := .int .i64 c.z) (s' := ⟨c.x, c.y, c.z, s.w, s.c0, s.c1, s.c2, s.c3⟩) rfl, List.set_set,
    vrows_set (g ⟨c.x, c.y, c.z, s.w, s.c0, s.c1, s.c2, s.c3⟩) (by omega : 3 < 8) (u := .int .i64 c.w) (s' := ⟨c.x, c.y, c.z, c.w, s.c0, s.c1, s.c2, s.c3⟩) rfl, List.set_set, vrows_set (g ⟨c.x, c.y, c.z, c.w, s.c0, s.c1, s.c2, s.c3⟩) (by omega : 4 < 8) (u := .int .i64 c.c0) (s' := ⟨c.x, c.y, c.z, c.w, c.c0, s.c1, s.c2, s.c3⟩) rfl, List.set_set,
    vrows_set (g ⟨c.x, c.y, c.z, c.w, c.c0, s.c1, s.c2, s.c3⟩) (by omega : 5 < 8) (u := .int .i64 c.c1) (s' := ⟨c.x, c.y, c.z, c.w, c.c0, c.c1, s.c2, s.c3⟩) rfl, List.set_set, vrows_set (g ⟨c.x, c.y, c.z, c.w, c.c0, c.c1, s.c2, s.c3⟩) (by omega : 6 < 8) (u := .int .i64 c.c2) (s' := ⟨c.x, c.y, c.z, c.w, c.c0, c.c1, c.c2, s.c3⟩) rfl, List.set_set,
    vrows_set (g ⟨c.x, c.y, c.z, c.w, c.c0, c.c1, c.c2, s.c3⟩) (by omega : 7 < 8) (u := .int .i64 c.c3) (s' := ⟨c.x, c.y, c.z, c.w, c.c0, c.c1, c.c2, c.c3⟩) rfl, List.set_set]
theorem brows_set {l : List Bool} {j : Nat} {s : Bool} (h : l[j]? = some s) (b : Bool) : (brows l).set j (.bool b) = brows (l.set j b) := by
  have := frow_set (f := fun b => [Value.bool b]) (K := 1) (fun _ => rfl) (i := 0) (u := .bool b) (s := s) (s' := b) (by omega) rfl h
  rw [Nat.mul_one, Nat.add_zero] at this
  exact this
theorem PartsB.put {w wr : World} {n X Y : Nat} {L : List Vx} {M : List Bool} (h : PartsB w wr n X Y L M) {j : Nat} {v : Vx} {x : Bool} (hv : L[j]? = some v) (hx : M[j]? = some x) (c : Cn) :
    PartsB w (((((((((((wr.setCell ⟨X, j * 8, none⟩ (.int .i64 c.v.x)).setCell ⟨X, j * 8 + 1, none⟩ (.int .i64 c.v.y)).setCell ⟨X, j * 8 + 2, none⟩ (.int .i64 c.v.z)).setCell ⟨X, j * 8 + 3, none⟩ (.int .i64 c.v.w)).setCell ⟨X, j * 8 + 4, none⟩ (.int .i64 c.v.c0)).setCell ⟨X, j * 8 + 5, none⟩ (.int .i64 c.v.c1)).setCell ⟨X, j * 8 + 6, none⟩ (.int .i64 c.v.c2)).setCell ⟨X, j * 8 + 7, none⟩ (.int .i64 c.v.c3)).setCell ⟨Y, j, none⟩ (.bool c.on)).alloc (.cells c.row 88)).drew) n X Y (L.set j c.v) (M.set j c.on) := by
  obtain ⟨hne, hL, hM, hA, hB, hE⟩ := h
  have hX := (hA.lt X rfl).1
  have hY := (hB.lt Y rfl).1
  have e8 := vrows_set8 hv c.v
  obtain ⟨s0, g0⟩ := hA.stored (j * 8) (.int .i64 c.v.x)
  obtain ⟨s1, g1⟩ := s0.stored (j * 8 + 1) (.int .i64 c.v.y)
  obtain ⟨s2, g2⟩ := s1.stored (j * 8 + 2) (.int .i64 c.v.z)
  obtain ⟨s3, g3⟩ := s2.stored (j * 8 + 3) (.int .i64 c.v.w)
  obtain ⟨s4, g4⟩ := s3.stored (j * 8 + 4) (.int .i64 c.v.c0)
  obtain ⟨s5, g5⟩ := s4.stored (j * 8 + 5) (.int .i64 c.v.c1)
  obtain ⟨s6, g6⟩ := s5.stored (j * 8 + 6) (.int .i64 c.v.c2)
  obtain ⟨s7, g7⟩ := s6.stored (j * 8 + 7) (.int .i64 c.v.c3)
  rw [e8] at s7
  have hb : (Value.slice (some ⟨Y, 0, none⟩) n n).ownBlock = none ∨ (Value.slice (some ⟨Y, 0, none⟩) n n).ownBlock ≠ some X := .inr (by simp [Value.ownBlock]; exact fun h => hne h.symm)
  have t7 := (((((((hB.kept g0 hb).kept g1 hb).kept g2 hb).kept g3 hb).kept g4 hb).kept g5 hb).kept g6 hb).kept g7 hb
  obtain ⟨t8, g8⟩ := t7.stored j (.bool c.on)
  rw [brows_set hx] at t8
  have s8 := s7.kept g8 (.inr (by simp [Value.ownBlock]; exact hne))
  have hk : ∀ {Z : Nat}, w.heap.size ≤ Z → ∀ k, some Z = some k → w.heap.size ≤ k := fun hz k hk => by injection hk with hk; omega
  exact ⟨hne, by rw [List.length_set]; exact hL, by rw [List.length_set]; exact hM, (s8.alloc _).drew, (t8.alloc _).drew,
    (((((((((hE.grown g0 (hk hX)).grown g1 (hk hX)).grown g2 (hk hX)).grown g3 (hk hX)).grown g4 (hk hX)).grown g5 (hk hX)).grown g6 (hk hX)).grown g7 (hk hX)).grown g8 (hk hY)).alloc _ |>.drew⟩
theorem parts_made1 {w : World} {n : Nat} {cv cb : Array Value}
    (h1 : ∀ W : World, ∀ base, base ≤ W.heap.size → (W.alloc (.cells cv 25)).ownsRow base 25 8 (.slice (some ⟨W.heap.size, 0, none⟩) n n) n (vrows (List.replicate n ⟨0, 0, 0, 0, 0, 0, 0, 0⟩)))
    (h2 : ∀ W : World, ∀ base, base ≤ W.heap.size → (W.alloc (.cells cb 4)).ownsRow base 4 1 (.slice (some ⟨W.heap.size, 0, none⟩) n n) n (brows (List.replicate n false))) :
    PartsB w ((w.alloc (.cells cv 25)).alloc (.cells cb 4)).drew n w.heap.size (w.heap.size + 1) (List.replicate n ⟨0, 0, 0, 0, 0, 0, 0, 0⟩) (List.replicate n false) := by
  have e : (w.alloc (.cells cv 25)).heap.size = w.heap.size + 1 := by simp
  have k2 := h2 (w.alloc (.cells cv 25)) w.heap.size (by omega)
  rw [e] at k2
  exact ⟨by omega, by simp, by simp, ((h1 w w.heap.size (Nat.le_refl _)).alloc _).drew, k2.drew, (((Ext.refl w).alloc _).alloc _).drew⟩
theorem parts_made2 {w : World} {n : Nat} {cv cb : Array Value}
    (h1 : ∀ W : World, ∀ base, base ≤ W.heap.size → (W.alloc (.cells cv 25)).ownsRow base 25 8 (.slice (some ⟨W.heap.size, 0, none⟩) n n) n (vrows (List.replicate n ⟨0, 0, 0, 0, 0, 0, 0, 0⟩)))
    (h2 : ∀ W : World, ∀ base, base ≤ W.heap.size → (W.alloc (.cells cb 4)).ownsRow base 4 1 (.slice (some ⟨W.heap.size, 0, none⟩) n n) n (brows (List.replicate n false))) :
    PartsB w ((w.alloc (.cells cb 4)).alloc (.cells cv 25)).drew n (w.heap.size + 1) w.heap.size (List.replicate n ⟨0, 0, 0, 0, 0, 0, 0, 0⟩) (List.replicate n false) := by
  have e : (w.alloc (.cells cb 4)).heap.size = w.heap.size + 1 := by simp
  have k1 := h1 (w.alloc (.cells cb 4)) w.heap.size (by omega)
  rw [e] at k1
  exact ⟨by omega, by simp, by simp, k1.drew, ((h2 w w.heap.size (Nat.le_refl _)).alloc _).drew, (((Ext.refl w).alloc _).alloc _).drew⟩
set_option maxRecDepth 100000 in
set_option maxHeartbeats 4000000 in
theorem parts_some (L : List Cn) (A : Option Addr) (n ca : Nat) (w : World) (hA : Rd w 10 A n ca (crows L)) (hl : L.length = n) (h0 : 0 < n) (hn : n ≤ 200000) :
    Calls Try.prog 36 #[.slice A n ca] w (PartsPost L w) := by
  obtain ⟨cv, hv⟩ := make_verts n (by omega)
  obtain ⟨cb, hb⟩ := make_bools n (by omega)
  have HA := Lib.hid hA; clear hA
  have HL := Lib.hid hl; clear hl
  have hni : (n : Int) ≤ 200000 := by omega
  have d0 : ((n : Int) == 0) = false := by simp; omega
  clear hn
  have m1 := fun W => (hv W).1
  have m2 := fun W => (hb W).1
  have M1 := Lib.hid (fun W => (hv W).2)
  have M2 := Lib.hid (fun W => (hb W).2)
  clear hv hb
  go_enter Try.func36, Try.ntmps36
  go_upto_region 3 with fail
  go_cut [4, 5] from 11 to 16 (fun s4 s5 wx => ∃ X Y : Nat, s4 = .slice (some ⟨X, 0, none⟩) n n ∧ s5 = .slice (some ⟨Y, 0, none⟩) n n ∧ ∃ L' M', PartsB w wx n X Y L' M')
  case first =>
    go_region
    all_goals
      go_wp2_with fail
      go_meet
      first
        | exact ⟨_, _, rfl, rfl, _, _, parts_made1 M1.out M2.out⟩
        | exact ⟨_, _, rfl, rfl, _, _, parts_made2 M1.out M2.out⟩
  case rest =>
    clear m1 m2 M1 M2
    obtain ⟨X, Y, rfl, rfl, L', M', hB⟩ := hcut
    have HB := Lib.hid hB; clear hB
    go_wp2_with fail
    go_loopw [6, 7, 19] (fun _ _ i wr => ∃ (j : Nat) (L' : List Vx) (M' : List Bool), j ≤ n ∧ i = .int .i64 j ∧ PartsB w wr n X Y L' M' ∧ Hid (∀ k, k < j → L'[k]? = (L.map (·.v))[k]? ∧ M'[k]? = (L.map (·.on))[k]?)) (fun _ _ i _ => n - (intOf i).toNat)
    case atStart => exact ⟨0, L', M', Nat.zero_le _, rfl, HB.out, Lib.hid (fun k hk => by omega)⟩
    case round =>
      clear HB L' M'
      obtain ⟨j, L', M', hj, rfl, hB, HJ⟩ := hrel
      by_cases hlt : j < n
      · obtain ⟨c, hc⟩ : ∃ c, L[j]? = some c := ⟨_, List.getElem?_eq_getElem (by rw [HL.out]; exact hlt)⟩
        obtain ⟨v, hv⟩ : ∃ v, L'[j]? = some v := ⟨_, List.getElem?_eq_getElem (by rw [hB.2.1]; exact hlt)⟩
        obtain ⟨x, hx⟩ : ∃ x, M'[j]? = some x := ⟨_, List.getElem?_eq_getElem (by rw [hB.2.2.1]; exact hlt)⟩
        obtain ⟨b1, o1, ha1, _, _⟩ := HA.out.at_ (by omega)
        subst ha1
        obtain ⟨c0, c1, c2, c3, c4, c5, c6, c7, c8, c9⟩ := corner_at (HA.out.ext hB.2.2.2.2.2) hc
        have HX := Lib.hid (And.intro hc (And.intro hv hx))
        have HB := Lib.hid hB; clear hB
        clear hc hv hx
        go_upto_region 7 with fail
        have hX := (HB.out.2.2.2.1.lt X rfl).1
        have hY := (HB.out.2.2.2.2.1.lt Y rfl).1
        have hX2 := (HB.out.2.2.2.1.lt X rfl).2
        have hY2 := (HB.out.2.2.2.2.1.lt Y rfl).2
        have B1 := Blk.new wr 88 c.row
        have hne := HB.out.1
        have hne2 : Y ≠ X := fun h => hne h.symm
        obtain ⟨k0, k1, k2, k3, k4, k5, k6, k7, r0, r1, r2, r3, r4, r5, r6, r7⟩ := row_cells HB.out.2.2.2.1 HX.out.2.1
        obtain ⟨l0, l1⟩ := row_flag HB.out.2.2.2.2.1 HX.out.2.2
        go_region_held3 (fun w' => w'.cell? ⟨wr.heap.size, 0, none⟩ = some (.int .i64 c.v.x) ∧ w'.cell? ⟨wr.heap.size, 1, none⟩ = some (.int .i64 c.v.y) ∧ w'.cell? ⟨wr.heap.size, 2, none⟩ = some (.int .i64 c.v.z) ∧ w'.cell? ⟨wr.heap.size, 3, none⟩ = some (.int .i64 c.v.w) ∧ w'.cell? ⟨wr.heap.size, 4, none⟩ = some (.int .i64 c.v.c0) ∧ w'.cell? ⟨wr.heap.size, 5, none⟩ = some (.int .i64 c.v.c1) ∧ w'.cell? ⟨wr.heap.size, 6, none⟩ = some (.int .i64 c.v.c2) ∧ w'.cell? ⟨wr.heap.size, 7, none⟩ = some (.int .i64 c.v.c3) ∧ w'.cell? ⟨wr.heap.size, 8, none⟩ = some (.int .i64 c.i) ∧ w'.cell? ⟨wr.heap.size, 9, none⟩ = some (.bool c.on))
          ((refine cells10 (t := 88) ?_ <;> (repeat (first | with_reducible assumption | (with_reducible refine Blk.new' _ _ _ ?_; (simp; done)) | with_reducible refine Blk.alloc ?_ _ | with_reducible refine Blk.drew ?_ | with_reducible refine Blk.far ?_ ?_ _ | (dsimp only; omega))))) (fail)
        have hP := PartsB.put HB.out HX.out.2.1 HX.out.2.2 c
        have HP := Lib.hid hP
        have HJ2 : Hid (∀ k, k < j + 1 → (L'.set j c.v)[k]? = (L.map (·.v))[k]? ∧ (M'.set j c.on)[k]? = (L.map (·.on))[k]?) := Lib.hid (fun k hk =>
          ⟨set_upto HB.out.2.1 hlt (fun k hk => (HJ.out k hk).1) (by rw [List.getElem?_map, HX.out.1]; rfl) k hk, set_upto HB.out.2.2.1 hlt (fun k hk => (HJ.out k hk).2) (by rw [List.getElem?_map, HX.out.1]; rfl) k hk⟩)
        clear hP hX hY hX2 hY2 c0 c1 c2 c3 c4 c5 c6 c7 c8 c9 B1 k0 k1 k2 k3 k4 k5 k6 k7 r0 r1 r2 r3 r4 r5 r6 r7 l0 l1
        go_wp2_with fail
        go_roundw
        case rel => first | exact ⟨j + 1, _, _, by omega, by go_num, HP.out, HJ2⟩ | ((repeat apply Exists.intro); exact ⟨⟨j + 1, _, _, by omega, by go_num, HP.out, HJ2⟩, rfl⟩)
        case measure => simp [intOf]; omega
      · obtain rfl : j = n := by omega
        have e1 : L' = L.map (·.v) := list_same hB.2.1 (by rw [List.length_map, HL.out]) (fun k hk => (HJ.out k hk).1)
        have e2 : M' = L.map (·.on) := list_same hB.2.2.1 (by rw [List.length_map, HL.out]) (fun k hk => (HJ.out k hk).2)
        subst e1 e2
        obtain ⟨a, c, ea, ha⟩ := ownsRow_rd hB.2.2.2.1
        obtain ⟨b, d, eb, hb⟩ := ownsRow_rd hB.2.2.2.2.1
        have HR := Lib.hid (And.intro ha hb)
        have HEr := Lib.hid hB.2.2.2.2.2
        obtain ⟨rfl, rfl⟩ : some (⟨X, 0, none⟩ : Addr) = a ∧ j = c := by simpa using ea
        obtain ⟨rfl, rfl⟩ : some (⟨Y, 0, none⟩ : Addr) = b ∧ j = d := by simpa using eb
        clear hB ha hb ea eb
        go_wp2_with fail
        go_ret2
        exact ⟨some ⟨X, 0, none⟩, j, some ⟨Y, 0, none⟩, j, by rw [HL.out]; rfl, by rw [HL.out]; exact HR.out.1, by rw [HL.out]; exact HR.out.2, HEr.out⟩
theorem parts_any (L : List Cn) (A : Option Addr) (n ca : Nat) (w : World) (hA : Rd w 10 A n ca (crows L)) (hl : L.length = n) (hn : n ≤ 200000) :
    Calls Try.prog 36 #[.slice A n ca] w (PartsPost L w) := by
  rcases Nat.eq_zero_or_pos n with h | h
  · subst h
    obtain rfl := List.eq_nil_of_length_eq_zero hl
    exact parts_nil A ca w
  · exact parts_some L A n ca w hA hl h hn
end Go.Proofs.Ytibhfclkdbmmoaa
