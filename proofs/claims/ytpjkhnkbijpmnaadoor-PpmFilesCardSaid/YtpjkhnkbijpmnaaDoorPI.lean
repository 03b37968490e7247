/- Proof text: a new image, the document's answer (rastrumref23.New). By an AI agent. No condition beyond what each theorem states. -/
import Derived.Test.YtpjkhnkbijpmnaaDoorPH
set_option linter.unusedVariables false
set_option linter.unusedSimpArgs false
namespace Go.Proofs.YtpjkhnkbijpmnaaDoor
open Go.RowKit
theorem own_head {w : World} {base : Nat} {e : TypeId} {size : Nat} {v : Value} {n : Nat} {xs : List Value} (h : w.ownsRow base e size v n xs) {g : Nat} (hg : v.ownBlock = some g) {x : Value} (hx : xs[0]? = some x) :
    w.cell? ⟨g, 0, none⟩ = some x := by
  have h0 := h.1
  rcases h.2 with ⟨rfl, _⟩ | ⟨g', cap, cur, rfl, _, hb, _, _, _, ht⟩
  · simp [Value.ownBlock] at hg
  · simp [Value.ownBlock] at hg
    subst hg
    rw [cell_of_row w g' 0 cur e (0, 0) hb]
    rw [← ht, List.getElem?_take] at hx
    split at hx
    · simpa using hx
    · cases hx
theorem own_ne {w : World} {base base' : Nat} {e e' : TypeId} {size size' : Nat} {v v' : Value} {n n' : Nat} {xs xs' : List Value} (h : w.ownsRow base e size v n xs) (h' : w.ownsRow base' e' size' v' n' xs') {x x' : Value} (hx : xs[0]? = some x) (hx' : xs'[0]? = some x') (hne : x ≠ x') :
    ∀ g, v.ownBlock = some g → v'.ownBlock ≠ some g := by
  intro g h1 h2
  have a := own_head h h1 hx
  have b := own_head h' h2 hx'
  rw [a] at b
  exact hne (Option.some.inj b)
theorem own_keep2 {w w' : World} {base : Nat} {e : TypeId} {size : Nat} {v : Value} {n : Nat} {xs : List Value} {row : Option Nat} (h : w.ownsRow base e size v n xs) (hg : w.grownBy w' row) (hne : ∀ g, v.ownBlock = some g → row ≠ some g) : w'.ownsRow base e size v n xs :=
  h.kept (row := row) hg (by
    cases hv : v.ownBlock with
    | none => exact .inl rfl
    | some g => exact .inr fun h => hne g hv h.symm)
/-- The image that grows. -/
structure Grow (w wr : World) (W H : Int) (i j : Nat) (vc vz : Value) : Prop where
  box : Blk wr (w.heap.size + 1) 24 #[.int .i64 W, .int .i64 H, vc, vz]
  c : wr.ownsRow (w.heap.size + 2) 3 1 vc i (ivs (List.replicate i 0))
  z : wr.ownsRow (w.heap.size + 2) 3 1 vz j (ivs (List.replicate j 16777215))
  ne : ∀ g, vc.ownBlock = some g → vz.ownBlock ≠ some g
  res : Blk wr w.heap.size 24 #[.int .i64 0, .int .i64 0, .slice none 0 0, .slice none 0 0]
  ext : Ext w wr
section
variable {w wr w' : World} {W H : Int} {i j : Nat} {vc vz v : Value}
theorem rep_head (n : Nat) (a : Int) : (ivs (List.replicate (n + 1) a))[0]? = some (.int .i64 a) := by simp
/-- Behind an append to the colors, ahead of the store. -/
theorem Grow.growC (h : Grow w wr W H j j vc vz) (h0 : j = 0 → vc = .slice none 0 0 ∧ vz = .slice none 0 0) (o : Obj)
    (ho : w'.ownsRow (w.heap.size + 2) 3 1 v (j + 1) (ivs (List.replicate j 0) ++ [.int .i64 0])) (hg : (wr.alloc o).grownBy w' vc.ownBlock) :
    Blk w' (w.heap.size + 1) 24 #[.int .i64 W, .int .i64 H, vc, vz] ∧ Grow w (w'.setCell ⟨w.heap.size + 1, 2, none⟩ v) W H (j + 1) j v vz := by
  have hb := (h.box.alloc o).grown' hg (fun e => by have := (h.c.lt _ e).1; omega)
  have hr := (h.res.alloc o).grown' hg (fun e => by have := (h.c.lt _ e).1; omega)
  have hz : w'.ownsRow (w.heap.size + 2) 3 1 vz j (ivs (List.replicate j 16777215)) := own_keep2 (h.z.alloc o) hg (fun g h1 h2 => h.ne g h2 h1)
  have hne : ∀ g, v.ownBlock = some g → vz.ownBlock ≠ some g := by
    rcases Nat.eq_zero_or_pos j with hj | hj
    · intro g h1 h2
      rw [(h0 hj).2] at h2
      cases h2
    · obtain ⟨k, rfl⟩ : ∃ k, j = k + 1 := ⟨j - 1, by omega⟩
      exact own_ne ho hz (x := .int .i64 0) (by simp) (rep_head k 16777215) (by simp)
  have hs := grown_set w' (w.heap.size + 1) 2 v
  have he : Ext w w' := (h.ext.alloc o).grown hg (fun k hk => by have := (h.c.lt _ hk).1; omega)
  refine ⟨hb, ⟨?_, ?_, ?_, hne, ?_, ?_⟩⟩
  · have := hb.set_ 2 v
    simpa using this
  · rw [List.replicate_succ', ivs, List.map_append]
    exact own_keep2 ho hs (fun g h1 h2 => by have := (ho.lt g h1).1; injection h2 with h2; omega)
  · exact own_keep2 hz hs (fun g h1 h2 => by have := (hz.lt g h1).1; injection h2 with h2; omega)
  · exact hr.grown' hs (fun e => by injection e with e; omega)
  · exact he.grown hs (fun k hk => by injection hk with hk; omega)
/-- Behind an append to the depths, ahead of the store. -/
theorem Grow.growZ (h : Grow w wr W H (j + 1) j vc vz) (o : Obj)
    (ho : w'.ownsRow (w.heap.size + 2) 3 1 v (j + 1) (ivs (List.replicate j 16777215) ++ [.int .i64 16777215])) (hg : (wr.alloc o).grownBy w' vz.ownBlock) :
    Blk w' (w.heap.size + 1) 24 #[.int .i64 W, .int .i64 H, vc, vz] ∧ Grow w (w'.setCell ⟨w.heap.size + 1, 3, none⟩ v) W H (j + 1) (j + 1) vc v := by
  have hb := (h.box.alloc o).grown' hg (fun e => by have := (h.z.lt _ e).1; omega)
  have hr := (h.res.alloc o).grown' hg (fun e => by have := (h.z.lt _ e).1; omega)
  have hc : w'.ownsRow (w.heap.size + 2) 3 1 vc (j + 1) (ivs (List.replicate (j + 1) 0)) := own_keep2 (h.c.alloc o) hg (fun g h1 h2 => h.ne g h1 h2)
  have hx : (ivs (List.replicate j 16777215) ++ [Value.int .i64 16777215])[0]? = some (.int .i64 16777215) := by
    cases j with
    | zero => rfl
    | succ k => simp
  have hne : ∀ g, vc.ownBlock = some g → v.ownBlock ≠ some g := own_ne hc ho (rep_head j 0) hx (by simp)
  have hs := grown_set w' (w.heap.size + 1) 3 v
  have he : Ext w w' := (h.ext.alloc o).grown hg (fun k hk => by have := (h.z.lt _ hk).1; omega)
  refine ⟨hb, ⟨?_, ?_, ?_, hne, ?_, ?_⟩⟩
  · have := hb.set_ 3 v
    simpa using this
  · exact own_keep2 hc hs (fun g h1 h2 => by have := (hc.lt g h1).1; injection h2 with h2; omega)
  · rw [List.replicate_succ', ivs, List.map_append]
    exact own_keep2 ho hs (fun g h1 h2 => by have := (ho.lt g h1).1; injection h2 with h2; omega)
  · exact hr.grown' hs (fun e => by injection e with e; omega)
  · exact he.grown hs (fun k hk => by injection hk with hk; omega)
end
/-- What a new image is, the document's. -/
def RNewP (w : World) (W H : Nat) (e : Ending) (w' : World) : Prop :=
  ∃ X Y cx cy, e = .returned (.tuple #[.agg #[.int .i64 W, .int .i64 H, .slice (some ⟨X, 0, none⟩) (W * H) cx, .slice (some ⟨Y, 0, none⟩) (W * H) cy], .int .i64 0]) ∧
    w'.ownsRow w.heap.size 3 1 (.slice (some ⟨X, 0, none⟩) (W * H) cx) (W * H) (ivs (List.replicate (W * H) 0)) ∧ w'.ownsRow w.heap.size 3 1 (.slice (some ⟨Y, 0, none⟩) (W * H) cy) (W * H) (ivs (List.replicate (W * H) 16777215)) ∧ X ≠ Y ∧ Ext w w'
theorem own_some {w : World} {base : Nat} {e : TypeId} {size : Nat} {v : Value} {n : Nat} {xs : List Value} (h : w.ownsRow base e size v n xs) (hn : 0 < n) : ∃ g cap, v = .slice (some ⟨g, 0, none⟩) n cap := by
  rcases h.2 with ⟨_, h0⟩ | ⟨g', cap, cur, rfl, _⟩
  · omega
  · exact ⟨g', cap, rfl⟩
set_option maxRecDepth 10000 in
set_option maxHeartbeats 2000000 in
theorem rnew_yes (W H : Nat) (w : World) (h1 : 1 ≤ W) (h2 : W ≤ 1024) (h3 : 1 ≤ H) (h4 : H ≤ 1024) :
    Calls Tryd.prog 23 #[.int .i64 W, .int .i64 H] w (RNewP w W H) := by
  have hn := mul_le W H h2 h4
  have hpos : 0 < W * H := Nat.mul_pos h1 h3
  have hcast : ((W * H : Nat) : Int) = (W : Int) * H := by simp
  obtain ⟨n, hnn⟩ : ∃ n, n = W * H := ⟨_, rfl⟩
  rw [← hnn] at hcast hn hpos
  have HN := Lib.hid hnn
  have HC := Lib.hid hcast.symm
  have hni : (n : Int) ≤ 1048576 := by omega
  have hm1 : 0 ≤ (W : Int) * H := by omega
  have hm2 : (W : Int) * H ≤ 1048576 := by omega
  clear hnn hcast
  have d1 : decide ((W : Int) < 1) = false := by simp; omega
  have d2 : decide ((W : Int) > 1024) = false := by simp; omega
  have d3 : decide ((H : Int) < 1) = false := by simp; omega
  have d4 : decide ((H : Int) > 1024) = false := by simp; omega
  have HG : Hid (Grow w ((w.alloc (.cells #[.int .i64 0, .int .i64 0, .slice none 0 0, .slice none 0 0] 24)).alloc (.cells #[.int .i64 W, .int .i64 H, .slice none 0 0, .slice none 0 0] 24)) W H 0 0 (.slice none 0 0) (.slice none 0 0)) :=
    Lib.hid ⟨Blk.new' _ _ _ (by simp), World.ownsRow_nil _ _ _ _, World.ownsRow_nil _ _ _ _, (fun g h => by cases h), (Blk.new _ _ _).alloc _, by (repeat (first | with_reducible exact Ext.refl _ | with_reducible assumption | with_reducible refine Ext.alloc ?_ _ | with_reducible refine Ext.drew ?_ | with_reducible refine Ext.drewN ?_ _ | with_reducible refine Ext.later ?_ _ | (with_reducible refine Ext.setCell ?_ _ ?hp; case hp => first | (simp; done) | (simp; omega) | omega)))⟩
  go_enter Tryd.func23, Tryd.ntmps23
  go_wp2_with fail
  clear d1 d2 d3 d4
  go_loopw [7] (fun i wr => ∃ (j : Nat) (vc vz : Value), j ≤ n ∧ i = .int .i64 j ∧ Hid (Grow w wr W H j j vc vz) ∧ Hid (j = 0 → vc = .slice none 0 0 ∧ vz = .slice none 0 0)) (fun i _ => n - (intOf i).toNat)
  case atStart => exact ⟨0, _, _, Nat.zero_le _, rfl, HG, Lib.hid (fun _ => ⟨rfl, rfl⟩)⟩
  case round =>
    clear HG
    obtain ⟨j, vc, vz, hj, rfl, HG, H0⟩ := hrel
    by_cases hlt : j < n
    · have tl : decide ((j : Int) < (W : Int) * H) = true := by rw [HC.out]; simp; omega
      obtain ⟨-, -, p2, p3⟩ := HG.out.box.four
      go_wp2_with (refine wpList_append_src rfl (.tmp 34) (.tmp 35) 22 rfl (w.heap.size + 2) 3 (.int .i64 0) 1 8 Tryd.underlying22 info_int rfl (by decide) vc j (ivs (List.replicate j 0)) rfl (ownsRow_ext HG.out.c (Ext.alloc (Ext.refl _) _)) ⟨wr.heap.size, 0, none⟩ 1 1 [.int .i64 0] rfl rfl (news_at _ [.int .i64 0] 3) (ivs_one [0]) ?_ (by decide) ?_ ?_)
      · omega
      · have := HG.out.ext.size; have := HG.out.box.lt; simp; omega
      intro v1 w1 ho1 hg1 _
      obtain ⟨a1, k1, rfl, -⟩ := ownsRow_rd ho1
      have hh := HG.out.growC H0.out _ (by rw [ivs, List.map_replicate]; exact ho1) hg1
      have HB1 := Lib.hid hh.1; have HG1 := Lib.hid hh.2
      clear hh ho1 hg1 p2 p3 HG H0
      obtain ⟨-, -, p2, p3⟩ := HB1.out.four
      obtain ⟨-, -, f2, f3⟩ := HB1.out.frees4
      obtain ⟨-, -, q2, q3⟩ := HG1.out.box.four
      have hs1 : (w1.setCell ⟨w.heap.size + 1, 2, none⟩ (.slice a1 (j + 1) k1)).heap.size = w1.heap.size := by simp
      go_wp2_with (refine wpList_append_src rfl (.tmp 39) (.tmp 40) 22 rfl (w.heap.size + 2) 3 (.int .i64 0) 1 8 Tryd.underlying22 info_int rfl (by decide) vz j (ivs (List.replicate j 16777215)) rfl (ownsRow_ext HG1.out.z (Ext.alloc (Ext.refl _) _)) ⟨w1.heap.size, 0, none⟩ 1 1 [.int .i64 16777215] rfl rfl (by have := news_at (w1.setCell ⟨w.heap.size + 1, 2, none⟩ (.slice a1 (j + 1) k1)) [.int .i64 16777215] 3; rw [hs1] at this; exact this) (ivs_one [16777215]) ?_ (by decide) ?_ ?_)
      · omega
      · have := HG1.out.ext.size; have := HG1.out.box.lt; simp; omega
      intro v2 w2 ho2 hg2 _
      obtain ⟨a2, k2, rfl, -⟩ := ownsRow_rd ho2
      have hh := HG1.out.growZ _ (by rw [ivs, List.map_replicate]; exact ho2) hg2
      have HB2 := Lib.hid hh.1; have HG2 := Lib.hid hh.2
      clear hh ho2 hg2 p2 p3 f2 f3 q2 q3 HB1 HG1 hs1
      obtain ⟨-, -, p2, p3⟩ := HB2.out.four
      obtain ⟨-, -, f2, f3⟩ := HB2.out.frees4
      go_wp2_with fail
      go_roundw
      case rel => first | exact ⟨j + 1, _, _, by omega, by go_num, HG2, Lib.hid (fun h => by omega)⟩ | ((repeat apply Exists.intro); exact ⟨⟨j + 1, _, _, by omega, by go_num, HG2, Lib.hid (fun h => by omega)⟩, rfl⟩)
      case measure => simp [intOf]; omega
    · obtain rfl : j = n := by omega
      have tl : decide ((j : Int) < (W : Int) * H) = false := by rw [HC.out]; simp
      obtain ⟨X, cx, rfl⟩ := own_some HG.out.c hpos
      obtain ⟨Y, cy, rfl⟩ := own_some HG.out.z hpos
      obtain ⟨q0, q1, q2, q3⟩ := HG.out.box.four
      obtain ⟨r0, r1, r2, r3⟩ := HG.out.res.four
      obtain ⟨f0, f1, f2, f3⟩ := HG.out.res.frees4
      obtain ⟨W2, rfl⟩ : ∃ W2 : World, W2 = wr := ⟨_, rfl⟩
      go_wp2_with fail
      try simp only [Exit.inBlock, Exit.then]
      obtain ⟨s0, s1, s2, s3⟩ := (HG.out.res.set4 (.int .i64 W) (.int .i64 H) (.slice (some ⟨X, 0, none⟩) j cx) (.slice (some ⟨Y, 0, none⟩) j cy)).four
      refine bodyPost_ret (v := .tuple #[.agg #[.int .i64 W, .int .i64 H, .slice (some ⟨X, 0, none⟩) j cx, .slice (some ⟨Y, 0, none⟩) j cy], .int .i64 0]) (by simp [results, Tryd.results23, go_sem, s0, s1, s2, s3]) rfl ?_
      have hg : W2.grownBy ((((W2.setCell ⟨w.heap.size, 0, none⟩ (.int .i64 W)).setCell ⟨w.heap.size, 1, none⟩ (.int .i64 H)).setCell ⟨w.heap.size, 2, none⟩ (.slice (some ⟨X, 0, none⟩) j cx)).setCell ⟨w.heap.size, 3, none⟩ (.slice (some ⟨Y, 0, none⟩) j cy)) (some w.heap.size) :=
        grown_trans (grown_trans (grown_trans (grown_set _ _ _ _) (grown_set _ _ _ _)) (grown_set _ _ _ _)) (grown_set _ _ _ _)
      have hc := ownsRow_base (own_keep2 HG.out.c hg (fun g a b => by have := (HG.out.c.lt g a).1; injection b with b; omega)) (show w.heap.size ≤ w.heap.size + 2 by omega)
      have hz := ownsRow_base (own_keep2 HG.out.z hg (fun g a b => by have := (HG.out.z.lt g a).1; injection b with b; omega)) (show w.heap.size ≤ w.heap.size + 2 by omega)
      have he := HG.out.ext.grown hg (fun k hk => Option.some.inj hk ▸ Nat.le_refl _)
      have hxy : X ≠ Y := fun e => HG.out.ne X rfl (by rw [e]; rfl)
      rw [HN.out] at hc hz he ⊢
      exact ⟨X, Y, cx, cy, rfl, hc, hz, hxy, he⟩
end Go.Proofs.YtpjkhnkbijpmnaaDoor
