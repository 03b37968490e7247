/- Proof text: what commands do, as a relation; pipe.Run of them. By an AI agent. No condition beyond what each theorem states. -/
import Derived.Test.YtplljnfjkkloeaaGreatDoorJK
import Derived.Test.YtplljnfjkkloeaaGreatDoorQN
set_option linter.unusedVariables false
set_option linter.unusedSimpArgs false
namespace Go.Proofs.YtplljnfjkkloeaaGreatDoor
attribute [local go_sem] Go.Oper.semAt_some
open Go.RowKit
inductive Step : Ps → Hp → Int → List Int → Ps → Hp → Prop
  | size (s : Ps) (p : Hp) (W H : Nat) (w1 : 1 ≤ W) (w2 : W ≤ 1024) (h1 : 1 ≤ H) (h2 : H ≤ 1024) (hf : (C4.mk s.f0 s.f1 s.f2 s.f3).Ok) (ho : s.op = false) :
    Step s p 1 [(W : Int), (H : Int)] { s with W := W, H := H, port := ⟨0, 0, W, H⟩ } { p with C := List.replicate (W * H) (pk s.f0 s.f1 s.f2 s.f3), Z := List.replicate (W * H) s.far }
  | port (s : Ps) (p : Hp) (a b c d : Int) (hr : rightT (askT 5) [a, b, c, d] = 0) (ho : s.op = false) : Step s p 5 [a, b, c, d] { s with port := ⟨a, b, c, d⟩ } p
  | color (s : Ps) (p : Hp) (a b c d : Int) (hr : rightT (askT 14) [a, b, c, d] = 0) : Step s p 14 [a, b, c, d] { s with c0 := a, c1 := b, c2 := c, c3 := d } p
  | begin (s : Ps) (p : Hp) (m : Int) (hr : rightT (askT 16) [m] = 0) (hW : 0 < s.W) (ho : s.op = false) : Step s p 16 [m] { s with op := true, mode := m } p
  | vertex (s : Ps) (p : Hp) (v : C4) (hr : rightT (askT 17) [v.a, v.b, v.c, v.d] = 0) (hv : v.In) (hM : p.M = unitM) (hN : p.N = unitM) (hF : p.F.length = p.V.length) (hl : p.V.length < 256) (ho : s.op = true) :
    Step s p 17 [v.a, v.b, v.c, v.d] s { p with V := p.V ++ [⟨v.a, v.b, v.c, v.d, s.c0, s.c1, s.c2, s.c3⟩], F := p.F ++ [s.flag] }
  | fin (s : Ps) (p : Hp) (m k W H : Nat) (hd : Drawn s p m k) (h2 : m = 1 → 2 ≤ p.V.length) (hr : Ready s p W H) (hT : Takes W H (s.lines p m k)) (ho : s.op = true) :
    Step s p 18 [] { s with op := false, mode := 0 } { p with C := fall W s.mix s.sf s.df p.C (s.lines p m k), V := [], F := [] }
  | width (s : Ps) (p : Hp) (a : Int) (hr : rightT (askT 19) [a] = 0) (ho : s.op = false) : Step s p 19 [a] { s with width := a } p
  | dash (s : Ps) (p : Hp) (a b c : Int) (hr : rightT (askT 20) [a, b, c] = 0) (ho : s.op = false) : Step s p 20 [a, b, c] { s with dashed := (a == 1), dash := ⟨c, b, 0⟩ } p
  | mix (s : Ps) (p : Hp) (a b c : Int) (hr : rightT (askT 27) [a, b, c] = 0) (ho : s.op = false) : Step s p 27 [a, b, c] { s with mix := (a == 1), sf := b, df := c } p
theorem right_1 (W H : Nat) (w1 : 1 ≤ W) (w2 : W ≤ 1024) (h1 : 1 ≤ H) (h2 : H ≤ 1024) : rightT (askT 1) [(W : Int), (H : Int)] = 0 := by
  have e : askT 1 = some [(1, 1024), (1, 1024)] := rfl
  rw [e]
  simp [rightT, allIn, within]
  omega
theorem do_any {s s' : Ps} {p p' : Hp} {op : Int} {C : List Int} (hs : Step s p op C s' p') (w : World) (l : Sl) (A : Option Addr) (n c : Nat) (hl : LiesB s p l w) (hg : Glob w) (hr : Rd w 1 A n c (ivs C)) (hn : n ≤ 4096) :
    Calls Tryz.prog 31 #[.agg (s.cs p l), .agg #[.int .i64 op, .slice A n c]] w (GivesB s' p' w) := by
  refine do_step w s s' p p' l A n c op hl (fun w1 J hJ => ?_)
  have hg1 := hg.ext hJ.e
  have hr1 := hr.ext hJ.e
  have hlen : C.length = n := by have := hr.len; simpa using this
  have j58 : w1.cell? ⟨J, 58, none⟩ = some (.bool s.op) := hJ.j.cell 58
  have mk : ∀ (B o : Nat), A = some ⟨B, o, none⟩ → ∀ wz, Ext w1 wz → JobIn w wz J s p l B o n c C := fun B o hA wz e => ⟨by rw [← hA]; exact hJ.j.ext e, hJ.lie, hJ.e.trans e, hJ.le, by rw [← hA]; exact hr, hn⟩
  have arr : 0 < n → ∃ B o, A = some ⟨B, o, none⟩ := fun h0 => by obtain ⟨B, o, hA, -, -⟩ := hr.at_ h0; exact ⟨B, o, hA⟩
  have fin_ : ∀ {wz : World} {e : Ending} {w' : World}, Ext w1 wz → JobP w wz J s' p' (.slice A n c) e w' → e = .returned (.tuple #[]) ∧ JobP w w1 J s' p' (.slice A n c) (.returned (.tuple #[])) w' := fun ez h => ⟨h.1, by have := h.from ez; rw [h.1] at this; exact this⟩
  cases hs with
  | size W H q1 q2 q3 q4 hf ho =>
    obtain ⟨B, o, rfl⟩ := arr (by rw [← hlen]; simp)
    rw [ho] at j58
    exact do_image w1 J _ 1 _ n c _ (.inl rfl) hg1 hr1 (right_1 W H q1 q2 q3 q4) j58 (fun wz e => (image_1 w wz J s p l B o n c _ W H (mk B o rfl wz e) rfl rfl q1 q2 q3 q4 hf).mono fun _ _ h => fin_ e h)
  | port a b c' d hr' ho =>
    obtain ⟨B, o, rfl⟩ := arr (by rw [← hlen]; simp)
    rw [ho] at j58
    exact do_image w1 J _ 5 _ n c _ (.inr rfl) hg1 hr1 hr' j58 (fun wz e => (image_5 w wz J s p l B o n c _ a b c' d (mk B o rfl wz e) rfl rfl rfl rfl).mono fun _ _ h => fin_ e h)
  | color a b c' d hr' =>
    obtain ⟨B, o, rfl⟩ := arr (by rw [← hlen]; simp)
    exact do_verts w1 J _ 14 _ n c _ s.op (.inl rfl) hg1 hr1 hr' j58 (fun wz e => (verts_14 w wz J s p l B o n c _ a b c' d (mk B o rfl wz e) rfl rfl rfl rfl).mono fun _ _ h => fin_ e h)
  | begin m hr' hW ho =>
    obtain ⟨B, o, rfl⟩ := arr (by rw [← hlen]; simp)
    exact do_verts w1 J _ 16 _ n c _ s.op (.inr (.inl ⟨rfl, ho⟩)) hg1 hr1 hr' j58 (fun wz e => (verts_16 w wz J s p l B o n c _ m (mk B o rfl wz e) rfl hW ho).mono fun _ _ h => fin_ e h)
  | vertex v hr' hv hM hN hF hl' ho =>
    obtain ⟨B, o, rfl⟩ := arr (by rw [← hlen]; simp)
    obtain rfl : 4 = n := by simpa using hlen
    exact do_verts w1 J _ 17 _ 4 c _ s.op (.inr (.inr ⟨.inl rfl, ho⟩)) hg1 hr1 hr' j58 (fun wz e => verts_17 wz J _ ((vertex_any w wz J s p l B o c _ v (mk B o rfl wz e) rfl rfl rfl rfl hv hM hN hF hl').mono fun _ _ h => ⟨h.1, fin_ e (by rw [h.1] at h; exact h)⟩))
  | fin m k W H hd h2 hr' hT ho =>
    exact do_verts w1 J _ 18 _ n c _ s.op (.inr (.inr ⟨.inr rfl, ho⟩)) hg1 hr1 rfl j58 (fun wz e => verts_18 wz J _ ((jend_any w wz J s p l _ m k W H (hJ.ext e) hd h2 hr' hT).mono fun _ _ h => ⟨h.1, fin_ e (by rw [h.1] at h; exact h)⟩))
  | width a hr' ho =>
    obtain ⟨B, o, rfl⟩ := arr (by rw [← hlen]; simp)
    rw [ho] at j58
    exact do_look w1 J _ 19 _ n c _ (.inl rfl) hg1 hr1 hr' j58 (fun wz e => (look_19 w wz J s p l B o n c _ a (mk B o rfl wz e) rfl).mono fun _ _ h => fin_ e h)
  | dash a b c' hr' ho =>
    obtain ⟨B, o, rfl⟩ := arr (by rw [← hlen]; simp)
    rw [ho] at j58
    exact do_look w1 J _ 20 _ n c _ (.inr (.inl rfl)) hg1 hr1 hr' j58 (fun wz e => (look_20 w wz J s p l B o n c _ a b c' (mk B o rfl wz e) rfl rfl rfl).mono fun _ _ h => fin_ e h)
  | mix a b c' hr' ho =>
    obtain ⟨B, o, rfl⟩ := arr (by rw [← hlen]; simp)
    rw [ho] at j58
    exact do_look w1 J _ 27 _ n c _ (.inr (.inr rfl)) hg1 hr1 hr' j58 (fun wz e => (look_27 w wz J s p l B o n c _ a b c' (mk B o rfl wz e) rfl rfl rfl).mono fun _ _ h => fin_ e h)
inductive Steps : Ps → Hp → List (Int × List Int) → Ps → Hp → Prop
  | nil (s : Ps) (p : Hp) : Steps s p [] s p
  | cons {s s1 s' : Ps} {p p1 p' : Hp} {c : Int × List Int} {L : List (Int × List Int)} (h : Step s p c.1 c.2 s1 p1) (t : Steps s1 p1 L s' p') : Steps s p (c :: L) s' p'
theorem Steps.append {s s1 s' : Ps} {p p1 p' : Hp} {L M : List (Int × List Int)} (h : Steps s p L s1 p1) (t : Steps s1 p1 M s' p') : Steps s p (L ++ M) s' p' := by
  induction h with
  | nil => exact t
  | cons h _ ih => exact .cons h (ih t)
theorem Steps.states {s s' : Ps} {p p' : Hp} {L : List (Int × List Int)} (h : Steps s p L s' p') : ∃ (st : Nat → Ps) (hp : Nat → Hp), st 0 = s ∧ hp 0 = p ∧ st L.length = s' ∧ hp L.length = p' ∧ ∀ k c, L[k]? = some c → Step (st k) (hp k) c.1 c.2 (st (k + 1)) (hp (k + 1)) := by
  induction h with
  | nil s p => exact ⟨fun _ => s, fun _ => p, rfl, rfl, rfl, rfl, fun k c h => by simp at h⟩
  | @cons s s1 s' p p1 p' c L h t ih =>
    obtain ⟨st, hp, h0, h1, h2, h3, h4⟩ := ih
    refine ⟨fun k => match k with | 0 => s | k + 1 => st k, fun k => match k with | 0 => p | k + 1 => hp k, rfl, rfl, h2, h3, fun k d hk => ?_⟩
    cases k with
    | zero =>
      obtain rfl : c = d := by simpa using hk
      show Step s p c.1 c.2 (st 0) (hp 0)
      rw [h0, h1]
      exact h
    | succ k => exact h4 k d (by simpa using hk)
structure Cmds (w : World) (a : Option Addr) (N cap : Nat) (L : List (Int × List Int)) : Prop where
  r : ∃ Q : List Rq, Q.length = N ∧ Rd w 2 a N cap (Q.flatMap Rq.cells) ∧ ∀ (k : Nat) (q : Rq), Q[k]? = some q → ∃ C, L[k]? = some (q.op, C) ∧ Rd w 1 q.A q.n q.c (ivs C) ∧ q.n ≤ 4096
  n : L.length = N
theorem run_cmds {s : Ps} {p : Hp} {L : List (Int × List Int)} (h : Steps ps0 hp0 L s p) (a : Option Addr) (N cap : Nat) (w : World) (hg : Glob w) (hc : Cmds w a N cap L) (hN : N ≤ 4096) :
    Calls Tryz.prog 20 #[.slice a N cap] w (GivesB s p w) := by
  obtain ⟨st, hp, h0, h1, h2, h3, h4⟩ := h.states
  obtain ⟨Q, q1, q2, q3⟩ := hc.r
  have hn := hc.n
  rw [hn] at h2 h3
  rw [← h2, ← h3]
  refine run_any st hp h0 h1 Q a N cap w q1 q2 hN (fun k q hq w1 l e hl => ?_)
  obtain ⟨C, hC, hr, hn'⟩ := q3 k q hq
  exact do_any (h4 k _ hC) w1 l q.A q.n q.c hl (hg.ext e) (hr.ext e) hn'
end Go.Proofs.YtplljnfjkkloeaaGreatDoor
set_option linter.unusedVariables false
set_option linter.unusedSimpArgs false
namespace Go.Proofs.YtplljnfjkkloeaaGreatDoor
attribute [local go_sem] Go.Oper.semAt_some
open Go.RowKit
theorem info_rq : (Tryz.prog.info? 88).map (fun i => (i.zero, i.size, i.bytes)) = some (some (.agg #[.int .i64 0, .slice none 0 0]), 2, 32) := by kernel_rfl
set_option maxRecDepth 100000 in
set_option maxHeartbeats 4000000 in
theorem rec_any (op : Int) (A : Option Addr) (n c : Nat) (w : World) : Calls Tryz.prog 25 #[.int .i64 op, .slice A n c] w fun e w' => e = .returned (.agg #[.int .i64 op, .slice A n c]) ∧ Ext w w' := by
  go_enter Tryz.func25, Tryz.ntmps25
  go_wp2_with fail
  have HZ := Blk.new w 88 #[.int .i64 op, .slice A n c]
  obtain ⟨z0, z1⟩ := HZ.c2
  exact bodyPost_ret (v := .agg #[.int .i64 op, .slice A n c]) (by simp [results, Tryz.results25, go_sem, z0, z1]) rfl ⟨rfl, by (repeat (first | with_reducible exact Ext.refl _ | with_reducible assumption | with_reducible refine Ext.alloc ?_ _ | with_reducible refine Ext.drew ?_ | with_reducible refine Ext.drewN ?_ _ | with_reducible refine Ext.later ?_ _ | (with_reducible refine Ext.setCell ?_ _ ?hp; case hp => first | (simp; done) | (simp; omega) | omega)))⟩
structure CmdO (w : World) (base : Nat) (v : Value) (L : List (Int × List Int)) (Q : List Rq) : Prop where
  n : Q.length = L.length
  own : w.ownsRow base 88 2 v L.length (Q.flatMap Rq.cells)
  q : ∀ (k : Nat) (q : Rq), Q[k]? = some q → ∃ C, L[k]? = some (q.op, C) ∧ RdB w 3 1 q.A q.n q.c (ivs C) ∧ q.n ≤ 4096
theorem own_ge {w : World} {base : Nat} {e : TypeId} {size : Nat} {v : Value} {n : Nat} {xs : List Value} (h : w.ownsRow base e size v n xs) : ∀ g, v.ownBlock = some g → base ≤ g := by
  intro g hg
  rcases h.2 with ⟨h0, -⟩ | ⟨g', cap', cur, h0, hb, -⟩
  · rw [h0] at hg; simp [Value.ownBlock] at hg
  · rw [h0] at hg
    simp [Value.ownBlock] at hg
    omega
theorem CmdO.ext {w w' : World} {base : Nat} {v : Value} {L : List (Int × List Int)} {Q : List Rq} (h : CmdO w base v L Q) (e : Ext w w') : CmdO w' base v L Q :=
  ⟨h.n, ownsRow_ext h.own e, fun k q hq => let ⟨C, h1, h2, h3⟩ := h.q k q hq; ⟨C, h1, h2.ext e, h3⟩⟩
theorem CmdO.cat {w w' : World} {base : Nat} {v v' : Value} {L M : List (Int × List Int)} {Q R : List Rq} (h : CmdO w base v L Q) (hn : R.length = M.length) (hr : ∀ (k : Nat) (q : Rq), R[k]? = some q → ∃ C, M[k]? = some (q.op, C) ∧ RdB w 3 1 q.A q.n q.c (ivs C) ∧ q.n ≤ 4096)
    (hg : w.grownBy w' v.ownBlock) (ho : w'.ownsRow base 88 2 v' (L.length + M.length) (Q.flatMap Rq.cells ++ R.flatMap Rq.cells)) : CmdO w' base v' (L ++ M) (Q ++ R) := by
  have kk : ∀ g cs, Blk w g 3 cs → Blk w' g 3 cs := fun g cs hb => hb.grown' hg (own_ne_blk h.own hb (by decide))
  refine ⟨by simp [h.n, hn], by rw [List.length_append, List.flatMap_append]; exact ho, fun k q hq => ?_⟩
  rcases Nat.lt_or_ge k Q.length with hk | hk
  · rw [List.getElem?_append_left hk] at hq
    obtain ⟨C, h1, h2, h3⟩ := h.q k q hq
    exact ⟨C, by rw [List.getElem?_append_left (by rw [← h.n]; exact hk)]; exact h1, h2.keep kk, h3⟩
  · rw [List.getElem?_append_right hk] at hq
    obtain ⟨C, h1, h2, h3⟩ := hr _ q hq
    exact ⟨C, by rw [List.getElem?_append_right (by rw [← h.n]; exact hk), ← h.n]; exact h1, h2.keep kk, h3⟩
theorem CmdO.cmds {w : World} {base : Nat} {v : Value} {L : List (Int × List Int)} {Q : List Rq} (h : CmdO w base v L Q) : ∃ a cap, v = .slice a L.length cap ∧ Cmds w a L.length cap L := by
  obtain ⟨a, cap, rfl, hr⟩ := ownsRow_rd h.own
  exact ⟨a, cap, rfl, ⟨Q, h.n, hr, fun k q hq => let ⟨C, h1, h2, h3⟩ := h.q k q hq; ⟨C, h1, h2.rd, h3⟩⟩, rfl⟩
theorem blk_rdB {w : World} {X n : Nat} {C : List Int} (h : Blk w X 3 (irow C)) (hn : C.length = n) (hm : n ≤ 4096) : RdB w 3 1 (some ⟨X, 0, none⟩) n n (ivs C) :=
  ⟨irow_rd h hn (by unfold maxLen; omega), fun _ ad e => by obtain rfl := Option.some.inj e; exact ⟨_, h⟩⟩
def placesL (W H : Int) : List (Int × List Int) := [(1, [W, H]), (5, [-128, -128, 256, 256]), (27, [1, 1, 1]), (14, [1, 1, 1, 1])]
set_option maxRecDepth 100000 in
set_option maxHeartbeats 16000000 in
theorem places_any (W H : Int) (w : World) : Calls Tryz.prog 21 #[.int .i64 W, .int .i64 H] w fun e w' => ∃ v Q, e = .returned v ∧ CmdO w' w.heap.size v (placesL W H) Q ∧ Ext w w' := by
  have HRC := Lib.hid (fun op A n c wz => rec_any op A n c wz)
  go_enter Tryz.func21, Tryz.ntmps21
  go_wp2_with fail
  refine (HRC.out _ _ _ _ _).mono ?_
  rintro e w1 ⟨rfl, hE⟩
  obtain ⟨y1, rfl⟩ := Later.mk' hE
  clear hE
  have B1 : Hid (Blk y1.w w.heap.size 3 (irow [W, H])) := Lib.hid ((Blk.new w 3 (irow [W, H])).later y1)
  have l1 : w.heap.size < y1.w.heap.size := B1.out.lt
  have E1 : Hid (Ext w y1.w) := Lib.hid (by (repeat (first | with_reducible exact Ext.refl _ | with_reducible assumption | with_reducible refine Ext.alloc ?_ _ | with_reducible refine Ext.drew ?_ | with_reducible refine Ext.drewN ?_ _ | with_reducible refine Ext.later ?_ _ | (with_reducible refine Ext.setCell ?_ _ ?hp; case hp => first | (simp; done) | (simp; omega) | omega))))
  generalize y1.w = W1 at *
  go_wp2_with fail
  refine (HRC.out _ _ _ _ _).mono ?_
  rintro e w1 ⟨rfl, hE⟩
  obtain ⟨y2, rfl⟩ := Later.mk' hE
  clear hE
  have B2 : Hid (Blk y2.w W1.heap.size 3 (irow [-128, -128, 256, 256])) := Lib.hid ((Blk.new W1 3 (irow [-128, -128, 256, 256])).later y2)
  have E2 : Hid (Ext W1 y2.w) := Lib.hid (by (repeat (first | with_reducible exact Ext.refl _ | with_reducible assumption | with_reducible refine Ext.alloc ?_ _ | with_reducible refine Ext.drew ?_ | with_reducible refine Ext.drewN ?_ _ | with_reducible refine Ext.later ?_ _ | (with_reducible refine Ext.setCell ?_ _ ?hp; case hp => first | (simp; done) | (simp; omega) | omega))))
  generalize y2.w = W2 at *
  go_wp2_with fail
  refine (HRC.out _ _ _ _ _).mono ?_
  rintro e w1 ⟨rfl, hE⟩
  obtain ⟨y3, rfl⟩ := Later.mk' hE
  clear hE
  have B3 : Hid (Blk y3.w W2.heap.size 3 (irow [1, 1, 1])) := Lib.hid ((Blk.new W2 3 (irow [1, 1, 1])).later y3)
  have E3 : Hid (Ext W2 y3.w) := Lib.hid (by (repeat (first | with_reducible exact Ext.refl _ | with_reducible assumption | with_reducible refine Ext.alloc ?_ _ | with_reducible refine Ext.drew ?_ | with_reducible refine Ext.drewN ?_ _ | with_reducible refine Ext.later ?_ _ | (with_reducible refine Ext.setCell ?_ _ ?hp; case hp => first | (simp; done) | (simp; omega) | omega))))
  generalize y3.w = W3 at *
  go_wp2_with fail
  refine (HRC.out _ _ _ _ _).mono ?_
  rintro e w1 ⟨rfl, hE⟩
  obtain ⟨y4, rfl⟩ := Later.mk' hE
  clear hE
  have B4 : Hid (Blk y4.w W3.heap.size 3 (irow [1, 1, 1, 1])) := Lib.hid ((Blk.new W3 3 (irow [1, 1, 1, 1])).later y4)
  have E4 : Hid (Ext W3 y4.w) := Lib.hid (by (repeat (first | with_reducible exact Ext.refl _ | with_reducible assumption | with_reducible refine Ext.alloc ?_ _ | with_reducible refine Ext.drew ?_ | with_reducible refine Ext.drewN ?_ _ | with_reducible refine Ext.later ?_ _ | (with_reducible refine Ext.setCell ?_ _ ?hp; case hp => first | (simp; done) | (simp; omega) | omega))))
  generalize y4.w = W4 at *
  go_wp2_with fail
  refine bodyPost_ret (v := .slice (some ⟨W4.heap.size, 0, none⟩) 4 4) (by simp [results, Tryz.results21, go_sem]) rfl ?_
  have e4 := (Ext.refl W4).alloc (.cells #[.int .i64 1, .slice (some ⟨w.heap.size, 0, none⟩) 2 2, .int .i64 5, .slice (some ⟨W1.heap.size, 0, none⟩) 4 4, .int .i64 27, .slice (some ⟨W2.heap.size, 0, none⟩) 3 3, .int .i64 14, .slice (some ⟨W3.heap.size, 0, none⟩) 4 4] 88)
  have eW := ((E1.out.trans E2.out).trans E3.out).trans E4.out
  refine ⟨_, [⟨1, some ⟨w.heap.size, 0, none⟩, 2, 2⟩, ⟨5, some ⟨W1.heap.size, 0, none⟩, 4, 4⟩, ⟨27, some ⟨W2.heap.size, 0, none⟩, 3, 3⟩, ⟨14, some ⟨W3.heap.size, 0, none⟩, 4, 4⟩], rfl, ⟨rfl, ?_, ?_⟩, eW.trans e4⟩
  · exact World.ownsRow_lit W4 _ 4 eW.size (by unfold maxLen; omega) rfl
  · intro k q hq
    rcases (by omega : k = 0 ∨ k = 1 ∨ k = 2 ∨ k = 3 ∨ 4 ≤ k) with rfl | rfl | rfl | rfl | hk
    · obtain rfl := Option.some.inj hq
      exact ⟨[W, H], rfl, blk_rdB ((((B1.out.ext E2.out).ext E3.out).ext E4.out).ext e4) rfl (by show 2 ≤ 4096; omega), by show 2 ≤ 4096; omega⟩
    · obtain rfl := Option.some.inj hq
      exact ⟨[-128, -128, 256, 256], rfl, blk_rdB (((B2.out.ext E3.out).ext E4.out).ext e4) rfl (by show 4 ≤ 4096; omega), by show 4 ≤ 4096; omega⟩
    · obtain rfl := Option.some.inj hq
      exact ⟨[1, 1, 1], rfl, blk_rdB ((B3.out.ext E4.out).ext e4) rfl (by show 3 ≤ 4096; omega), by show 3 ≤ 4096; omega⟩
    · obtain rfl := Option.some.inj hq
      exact ⟨[1, 1, 1, 1], rfl, blk_rdB (B4.out.ext e4) rfl (by show 4 ≤ 4096; omega), by show 4 ≤ 4096; omega⟩
    · rw [List.getElem?_eq_none (by simpa using hk)] at hq
      cases hq
@[reducible] def ptc (p : Int × Int) : List Value := [.int .i64 p.1, .int .i64 p.2]
theorem pt_at {w : World} {b off n cap j : Nat} {L : List (Int × Int)} {q : Int × Int} (h : Rd w 2 (some ⟨b, off, none⟩) n cap (L.flatMap ptc)) (hs : L[j]? = some q) :
    w.cell? ⟨b, off + j * 2, none⟩ = some (.int .i64 q.1) ∧ w.cell? ⟨b, off + j * 2 + 1, none⟩ = some (.int .i64 q.2) := by
  have g := fun i hi => frow_get (f := ptc) (K := 2) (fun _ => rfl) hs i hi
  refine ⟨h.get rfl (j := j * 2) (by have := g 0 (by omega); rw [Nat.add_zero] at this; exact this), ?_⟩
  rw [Nat.add_assoc]; exact h.get rfl (g 1 (by omega))
def vcmd (p : Int × Int) : Int × List Int := (17, [p.1, p.2, 0, 32768])
def shapeL (m : Int) (pts : List (Int × Int)) : List (Int × List Int) := (16, [m]) :: pts.map vcmd ++ [(18, [])]
theorem take_succ_map {pts : List (Int × Int)} {k : Nat} {q : Int × Int} (h : pts[k]? = some q) : (pts.take (k + 1)).map vcmd = (pts.take k).map vcmd ++ [vcmd q] := by
  obtain ⟨hk, rfl⟩ := List.getElem?_eq_some_iff.1 h
  rw [List.take_succ_eq_append_getElem hk, List.map_append]
  rfl
set_option maxRecDepth 100000 in
set_option maxHeartbeats 16000000 in
theorem shape_any (m : Int) (pts : List (Int × Int)) (a : Option Addr) (n cap : Nat) (w : World) (hr : Rd w 2 a n cap (pts.flatMap ptc)) (hl : pts.length = n) (hn : n ≤ 100) :
    Calls Tryz.prog 22 #[.int .i64 m, .slice a n cap] w fun e w' => ∃ v Q, e = .returned v ∧ CmdO w' w.heap.size v (shapeL m pts) Q ∧ Ext w w' := by
  have HRC := Lib.hid (fun op A n c wz => rec_any op A n c wz)
  have HRD := Lib.hid hr
  have HLN := Lib.hid hl
  clear hr hl
  go_enter Tryz.func22, Tryz.ntmps22
  go_wp2_with fail
  refine (HRC.out _ _ _ _ _).mono ?_
  rintro e w1 ⟨rfl, hE⟩
  obtain ⟨y1, rfl⟩ := Later.mk' hE
  clear hE
  have B1 : Hid (Blk y1.w w.heap.size 3 (irow [m])) := Lib.hid ((Blk.new w 3 (irow [m])).later y1)
  have E1 : Hid (Ext w y1.w) := Lib.hid (by (repeat (first | with_reducible exact Ext.refl _ | with_reducible assumption | with_reducible refine Ext.alloc ?_ _ | with_reducible refine Ext.drew ?_ | with_reducible refine Ext.drewN ?_ _ | with_reducible refine Ext.later ?_ _ | (with_reducible refine Ext.setCell ?_ _ ?hp; case hp => first | (simp; done) | (simp; omega) | omega))))
  generalize y1.w = W1 at *
  go_wp2_with fail
  have H0 : Hid (CmdO (W1.alloc (.cells #[.int .i64 16, .slice (some ⟨w.heap.size, 0, none⟩) 1 1] 88)) w.heap.size (.slice (some ⟨W1.heap.size, 0, none⟩) 1 1) ((16, [m]) :: (pts.take 0).map vcmd) [⟨16, some ⟨w.heap.size, 0, none⟩, 1, 1⟩] ∧ Ext w (W1.alloc (.cells #[.int .i64 16, .slice (some ⟨w.heap.size, 0, none⟩) 1 1] 88))) := Lib.hid ⟨⟨rfl, World.ownsRow_lit W1 _ 1 E1.out.size (by unfold maxLen; omega) rfl, fun k q hq => by
      cases k with
      | zero =>
        obtain rfl := Option.some.inj hq
        exact ⟨[m], rfl, blk_rdB (B1.out.alloc _) rfl (by show 1 ≤ 4096; omega), by show 1 ≤ 4096; omega⟩
      | succ k => simp at hq⟩, E1.out.alloc _⟩
  clear B1 E1
  go_loopw [5, 6] (fun o i wr => ∃ (k : Nat) (v : Value) (Q : List Rq), k ≤ n ∧ v = o ∧ i = .int .i64 k ∧ Hid (CmdO wr w.heap.size v ((16, [m]) :: (pts.take k).map vcmd) Q ∧ Ext w wr)) (fun _ i _ => n - (intOf i).toNat)
  case atStart => exact ⟨0, _, _, Nat.zero_le _, rfl, rfl, H0⟩
  case round =>
    clear H0
    obtain ⟨k, v, Q, hk, rfl, rfl, HC⟩ := hrel
    obtain ⟨W3, rfl⟩ : ∃ W3 : World, W3 = wr := ⟨_, rfl⟩
    have HE3 := Lib.hid HC.out.2
    by_cases hlt : k < n
    · obtain ⟨q, hq⟩ : ∃ q, pts[k]? = some q := ⟨_, List.getElem?_eq_getElem (by rw [HLN.out]; exact hlt)⟩
      obtain ⟨b, off, ha, -, -⟩ := HRD.out.at_ (by omega)
      subst ha
      have HSS : Hid (∀ w', Ext w w' → w'.cell? ⟨b, off + k * 2, none⟩ = some (.int .i64 q.1) ∧ w'.cell? ⟨b, off + k * 2 + 1, none⟩ = some (.int .i64 q.2)) := Lib.hid (fun w' e => pt_at (HRD.out.ext e) hq)
      have HLk : ((16, [m]) :: (pts.take k).map vcmd).length = k + 1 := by simp [HLN.out]; omega
      have HOWN : Hid (∀ w', Ext W3 w' → w'.ownsRow w.heap.size 88 2 v (k + 1) (Q.flatMap Rq.cells)) := Lib.hid (fun w' e => by have := ownsRow_ext HC.out.1.own e; rw [HLk] at this; exact this)
      have HQ := Lib.hid hq
      have HLK := Lib.hid HLk
      have hkN : (k : Int) + 1 ≤ 100 := by omega
      have hk0 : (0 : Int) ≤ k := by omega
      have hkn : (k : Int) < n := by omega
      clear hq HLk
      go_upto_region 5 with fail
      go_region_held3 (fun w' => w'.cell? ⟨b, off + k * 2, none⟩ = some (.int .i64 q.1) ∧ w'.cell? ⟨b, off + k * 2 + 1, none⟩ = some (.int .i64 q.2))
        (first | (refine HSS.out _ (HE3.out.trans ?_); (repeat (first | with_reducible exact Ext.refl _ | with_reducible assumption | with_reducible refine Ext.alloc ?_ _ | with_reducible refine Ext.drew ?_ | with_reducible refine Ext.drewN ?_ _ | with_reducible refine Ext.later ?_ _ | (with_reducible refine Ext.setCell ?_ _ ?hp; case hp => first | (simp; done) | (simp; omega) | omega))); done) | exact HSS.out _ HAPP.out)
        (first
          | (go_at_call 25; refine (HRC.out _ _ _ _ _).mono ?_; rintro e w1 ⟨rfl, hE⟩; obtain ⟨y1, rfl⟩ := Later.mk' hE; clear hE)
          | (refine step_append_src rfl (.tmp 17) (.tmp 30) 22 rfl w.heap.size 88 _ 2 32 Tryz.underlying22 info_rq rfl (by decide) v (k + 1) (Q.flatMap Rq.cells) rfl (HOWN.out _ (by (repeat (first | with_reducible exact Ext.refl _ | with_reducible assumption | with_reducible refine Ext.alloc ?_ _ | with_reducible refine Ext.drew ?_ | with_reducible refine Ext.drewN ?_ _ | with_reducible refine Ext.later ?_ _ | (with_reducible refine Ext.setCell ?_ _ ?hp; case hp => first | (simp; done) | (simp; omega) | omega))))) ⟨y1.w.heap.size, 0, none⟩ 1 1 [.int .i64 17, .slice (some ⟨W3.heap.size, 0, none⟩) 4 4] rfl rfl (news_at _ _ _) (by intro u hu; simp at hu; rcases hu with rfl | rfl <;> rfl) (by omega) (by decide) (by have := HE3.out.size; have := y1.le; simp at *; omega) ?_; intro v' w' ho' hg' _; have HAPP : Hid (Ext w w') := Lib.hid (by refine Ext.grown (HE3.out.trans ?_) hg' (fun g hk => own_ge (HOWN.out W3 (Ext.refl _)) g hk); (repeat (first | with_reducible exact Ext.refl _ | with_reducible assumption | with_reducible refine Ext.alloc ?_ _ | with_reducible refine Ext.drew ?_ | with_reducible refine Ext.drewN ?_ _ | with_reducible refine Ext.later ?_ _ | (with_reducible refine Ext.setCell ?_ _ ?hp; case hp => first | (simp; done) | (simp; omega) | omega))))))
      have eB : Ext W3 (y1.w.alloc (.cells #[.int .i64 17, .slice (some ⟨W3.heap.size, 0, none⟩) 4 4] 88)) := by (repeat (first | with_reducible exact Ext.refl _ | with_reducible assumption | with_reducible refine Ext.alloc ?_ _ | with_reducible refine Ext.drew ?_ | with_reducible refine Ext.drewN ?_ _ | with_reducible refine Ext.later ?_ _ | (with_reducible refine Ext.setCell ?_ _ ?hp; case hp => first | (simp; done) | (simp; omega) | omega)))
      have HN1 : Hid (CmdO w' w.heap.size v' ((16, [m]) :: (pts.take (k + 1)).map vcmd) (Q ++ [⟨17, some ⟨W3.heap.size, 0, none⟩, 4, 4⟩]) ∧ Ext w w') := Lib.hid ⟨by
        have h := (HC.out.1.ext eB).cat (M := [vcmd q]) (R := [⟨17, some ⟨W3.heap.size, 0, none⟩, 4, 4⟩]) (v' := v') (w' := w') rfl (fun j r hj => by
          cases j with
          | zero =>
            obtain rfl := Option.some.inj hj
            exact ⟨[q.1, q.2, 0, 32768], rfl, blk_rdB ((((Blk.new W3 3 (irow [q.1, q.2, 0, 32768])).drew).later y1).alloc _) rfl (by show 4 ≤ 4096; omega), by show 4 ≤ 4096; omega⟩
          | succ j => simp at hj) hg' (by rw [HLK.out]; exact ho')
        rw [take_succ_map HQ.out]
        exact h, HAPP.out⟩
      clear ho' hg' HAPP eB HSS HOWN HC HE3
      go_wp2_with fail
      go_roundw
      case rel => first | exact ⟨k + 1, v', _, by omega, rfl, by go_num, HN1⟩ | ((repeat apply Exists.intro); exact ⟨⟨k + 1, v', _, by omega, rfl, by go_num, HN1⟩, rfl⟩)
      case measure => simp [intOf]; omega
    · obtain rfl : k = n := by omega
      have hfull : pts.take k = pts := List.take_of_length_le (by rw [HLN.out]; exact Nat.le_refl _)
      have HLk : ((16, [m]) :: (pts.take k).map vcmd).length = k + 1 := by simp [HLN.out]
      have HOWN : Hid (∀ w', Ext W3 w' → w'.ownsRow w.heap.size 88 2 v (k + 1) (Q.flatMap Rq.cells)) := Lib.hid (fun w' e => by have := ownsRow_ext HC.out.1.own e; rw [HLk] at this; exact this)
      have HLK := Lib.hid HLk
      have HFU := Lib.hid hfull
      clear HLk hfull
      go_wp2_with fail
      refine (HRC.out _ _ _ _ _).mono ?_
      rintro e w1 ⟨rfl, hE⟩
      obtain ⟨y1, rfl⟩ := Later.mk' hE
      clear hE
      have HNw := Lib.hid (news_at y1.w [.int .i64 18, .slice none 0 0] 88)
      go_wp2_with (refine wpList_append_src rfl (.tmp 32) (.tmp 34) 22 rfl w.heap.size 88 _ 2 32 Tryz.underlying22 info_rq rfl (by decide) v (k + 1) (Q.flatMap Rq.cells) rfl (HOWN.out _ (by (repeat (first | with_reducible exact Ext.refl _ | with_reducible assumption | with_reducible refine Ext.alloc ?_ _ | with_reducible refine Ext.drew ?_ | with_reducible refine Ext.drewN ?_ _ | with_reducible refine Ext.later ?_ _ | (with_reducible refine Ext.setCell ?_ _ ?hp; case hp => first | (simp; done) | (simp; omega) | omega))))) ⟨y1.w.heap.size, 0, none⟩ 1 1 [.int .i64 18, .slice none 0 0] rfl rfl ?c1 ?c2 ?c3 (by decide) ?c5 ?_)
      case c1 => simpa [Addr.add] using HNw.out
      case c2 => intro u hu; simp at hu; rcases hu with rfl | rfl <;> rfl
      case c3 => omega
      case c5 => have := HE3.out.size; have := y1.le; simp at *; omega
      intro v' w' ho' hg' _
      have eB : Ext W3 (y1.w.alloc (.cells #[.int .i64 18, .slice none 0 0] 88)) := by (repeat (first | with_reducible exact Ext.refl _ | with_reducible assumption | with_reducible refine Ext.alloc ?_ _ | with_reducible refine Ext.drew ?_ | with_reducible refine Ext.drewN ?_ _ | with_reducible refine Ext.later ?_ _ | (with_reducible refine Ext.setCell ?_ _ ?hp; case hp => first | (simp; done) | (simp; omega) | omega)))
      have HN1 : CmdO w' w.heap.size v' (shapeL m pts) (Q ++ [⟨18, none, 0, 0⟩]) := by
        have h := (HC.out.1.ext eB).cat (M := [(18, [])]) (R := [⟨18, none, 0, 0⟩]) (v' := v') (w' := w') rfl (fun j r hj => by
          cases j with
          | zero =>
            obtain rfl := Option.some.inj hj
            exact ⟨[], rfl, ⟨Rd.empty _ _ _ _ (Nat.zero_le _), fun h => absurd h (by decide)⟩, Nat.zero_le _⟩
          | succ j => simp at hj) hg' (by rw [HLK.out]; exact ho')
        rw [HFU.out] at h
        exact h
      have hEx : Ext w w' := (HE3.out.trans eB).grown hg' (fun g hk => own_ge (HOWN.out W3 (Ext.refl _)) g hk)
      have HFIN := Lib.hid (And.intro HN1 hEx)
      clear HN1 hEx ho' hg' eB HOWN HC HE3
      go_wp2_with fail
      exact bodyPost_ret (v := v') (by simp [results, Tryz.results22, go_sem]) rfl ⟨v', _, rfl, HFIN.out.1, HFIN.out.2⟩
end Go.Proofs.YtplljnfjkkloeaaGreatDoor
set_option linter.unusedVariables false
set_option linter.unusedSimpArgs false
namespace Go.Proofs.YtplljnfjkkloeaaGreatDoor
attribute [local go_sem] Go.Oper.semAt_some
open Go.RowKit
end Go.Proofs.YtplljnfjkkloeaaGreatDoor
