/- Plain and proof text: what the laws' commands do: a strip of lines, each adding 1. By an AI agent. No condition beyond what each theorem states. -/
import Derived.Test.YtplljnfjkkloeaaGreatDoorJO
import Derived.Test.YtplljnfjkkloeaaGreatDoorWH
import Derived.Test.YtplljnfjkkloeaaGreatDoorLN
import Derived.Test.YtplljnfjkkloeaaGreatDoorB
import Derived.Deep.Slices
set_option linter.unusedVariables false
set_option linter.unusedSimpArgs false
namespace Go.Proofs.YtplljnfjkkloeaaGreatDoor
open Go.RowKit
def sB (n : Int) (dashed : Bool) (d : Da) : Ps := { ps0 with W := 9, H := 8, port := ⟨-128, -128, 256, 256⟩, mix := true, sf := 1, df := 1, c0 := 1, c1 := 1, c2 := 1, c3 := 1, width := n, dashed := dashed, dash := d }
def pB : Hp := { hp0 with C := List.replicate 72 0, Z := List.replicate 72 16777215 }
def d00 : Da := ⟨65535, 1, 0⟩
theorem byte_0 : byte 0 := ⟨by decide, by decide⟩
theorem byte_1 : byte 1 := ⟨by decide, by decide⟩
theorem places_steps : Steps ps0 hp0 (placesL 9 8) (sB 1 false d00) pB := by
  refine .cons (c := (1, [9, 8])) (Step.size ps0 hp0 9 8 (by decide) (by decide) (by decide) (by decide) ⟨byte_0, byte_0, byte_0, byte_0⟩ rfl) ?_
  refine .cons (c := (5, [-128, -128, 256, 256])) (Step.port _ _ (-128) (-128) 256 256 rfl rfl) ?_
  refine .cons (c := (27, [1, 1, 1])) (Step.mix _ _ 1 1 1 rfl rfl) ?_
  refine .cons (c := (14, [1, 1, 1, 1])) (Step.color _ _ 1 1 1 1 rfl) ?_
  exact .nil _ _
def vxu (q : Int × Int) : Vx := ⟨q.1, q.2, 0, 32768, 1, 1, 1, 1⟩
def Unit (q : Int × Int) : Prop := (-1048576 ≤ q.1 ∧ q.1 ≤ 1048576) ∧ (-1048576 ≤ q.2 ∧ q.2 ≤ 1048576)
theorem right_17 {q : Int × Int} (h : Unit q) : rightT (askT 17) [q.1, q.2, 0, 32768] = 0 := by
  have e : askT 17 = some [(-1048576, 1048576), (-1048576, 1048576), (-1048576, 1048576), (-1048576, 1048576)] := rfl
  rw [e]
  unfold Unit at h
  simp [rightT, allIn, within]
  omega
theorem verts_steps (s : Ps) (h0 : s.op = true) (c0 : s.c0 = 1) (c1 : s.c1 = 1) (c2 : s.c2 = 1) (c3 : s.c3 = 1) : ∀ (pts : List (Int × Int)) (p : Hp), (∀ q ∈ pts, Unit q) → p.M = unitM → p.N = unitM → p.F.length = p.V.length → p.V.length + pts.length ≤ 256 →
    Steps s p (pts.map vcmd) s { p with V := p.V ++ pts.map vxu, F := p.F ++ List.replicate pts.length s.flag }
  | [], p, _, _, _, _, _ => by
    simp only [List.map_nil, List.append_nil, List.length_nil, List.replicate_zero]
    exact .nil _ _
  | q :: pts, p, hu, hM, hN, hF, hl => by
    have hq := hu q (by simp)
    have ih := verts_steps s h0 c0 c1 c2 c3 pts { p with V := p.V ++ [vxu q], F := p.F ++ [s.flag] } (fun r hr => hu r (by simp [hr])) hM hN (by simp [hF]) (by simp only [List.length_append, List.length_cons, List.length_nil] at *; omega)
    have hv : (C4.mk q.1 q.2 0 32768).In := by
      unfold Unit at hq
      unfold C4.In
      simp only
      omega
    have st := Step.vertex s p ⟨q.1, q.2, 0, 32768⟩ (right_17 hq) hv hM hN hF (by simp only [List.length_cons] at hl; omega) h0
    rw [c0, c1, c2, c3] at st
    have := Steps.cons (c := vcmd q) st ih
    simpa [List.append_assoc, List.replicate_succ, vxu] using this
def sV (n : Int) (dashed : Bool) (d : Da) : Ps := { sB n dashed d with op := true, mode := 2 }
def pV (pts : List (Int × Int)) : Hp := { pB with V := pts.map vxu, F := List.replicate pts.length true }
theorem begin_steps (n : Int) (dashed : Bool) (d : Da) (pts : List (Int × Int)) (hu : ∀ q ∈ pts, Unit q) (hl : pts.length ≤ 256) : Steps (sB n dashed d) pB ((16, [2]) :: pts.map vcmd) (sV n dashed d) (pV pts) := by
  refine .cons (c := (16, [2])) (Step.begin (sB n dashed d) pB 2 rfl (show (0 : Int) < 9 by decide) rfl) ?_
  have := verts_steps (sV n dashed d) rfl rfl rfl rfl rfl pts pB hu rfl rfl rfl (by simp only [pB, hp0, List.length_nil]; omega)
  exact this
theorem vmap_unit (q : Int × Int) : vmap (vxu q) ⟨-128, -128, 256, 256⟩ = uv q := by
  unfold vmap vxu uv
  simp only [Wv.mk.injEq, and_true]
  refine ⟨by omega, by omega, by decide⟩
theorem uv_fits {q : Int × Int} (h : Unit q) : (uv q).Fits := by
  unfold Unit at h
  exact ⟨by unfold uv; simp only; omega, by unfold uv; simp only; omega, by unfold uv; simp only; omega, byte_1, byte_1, byte_1, byte_1⟩
theorem port_unit : (Rc.mk (-128) (-128) 256 256).Port := ⟨by decide, by decide, by decide, by decide⟩
theorem ops_unit : (Op3.mk ⟨0, 0, 0, 0⟩ 1 true true 1 1).Ok := ⟨by decide, by decide, by decide, by decide, by decide, by decide⟩
theorem drawn_unit (n : Nat) (dashed : Bool) (d : Da) (pts : List (Int × Int)) (hu : ∀ q ∈ pts, Unit q) (hl : pts.length ≤ 256) (n0 : 1 ≤ n) (n1 : n ≤ 64) (hd : d.Ok) : Drawn (sV n dashed d) (pV pts) 2 n := by
  refine ⟨rfl, ⟨rfl, rfl, rfl, rfl, rfl, rfl⟩, rfl, .inr rfl, rfl, rfl, rfl, port_unit, rfl, n0, n1, hd, r98_ok, by simp [pV], by simpa [pV] using hl, ?_⟩
  intro v hv
  obtain ⟨q, hq, rfl⟩ : ∃ q ∈ pts, vxu q = v := by simpa [pV] using hv
  have h := hu q hq
  refine ⟨?_, ?_, ?_⟩
  · unfold Unit at h
    exact ⟨by unfold vxu; simp only; omega, by unfold vxu; simp only; omega, by unfold vxu; simp only; omega, by unfold vxu; simp only; omega, byte_1, byte_1, byte_1, byte_1⟩
  · unfold Vx.Inside vxu; simp only; omega
  · show (vmap (vxu q) ⟨-128, -128, 256, 256⟩).Fits
    rw [vmap_unit]
    exact uv_fits h
theorem ncnt_two (n : Nat) : ncnt 2 n = n - 1 := by
  unfold ncnt lcnt lstep
  split
  · omega
  · simp; omega
theorem lines_unit (n : Nat) (dashed : Bool) (d : Da) (pts : List (Int × Int)) : (sV n dashed d).lines (pV pts) 2 n = stripL n dashed r98 d (pts.map uv) := by
  unfold Ps.lines
  rw [ncnt_two]
  have e : (pV pts).V.map (vmap · (sV n dashed d).port) = pts.map uv := by
    show (pts.map vxu).map (vmap · ⟨-128, -128, 256, 256⟩) = _
    rw [List.map_map]
    exact List.map_congr_left fun q _ => vmap_unit q
  have hl : (pV pts).V.length = (pts.map uv).length := by simp [pV]
  rw [e, hl]
  exact linesK_strip n dashed r98 (pts.map uv) d
theorem ready_unit (n : Int) (dashed : Bool) (d : Da) (pts : List (Int × Int)) : Ready (sV n dashed d) (pV pts) 9 8 := by
  refine ⟨rfl, rfl, rfl, rfl, by decide, by decide, by decide, by decide, fun v hv => ?_, ops_unit, rfl, rfl, rfl, rfl, rfl⟩
  have hv : v ∈ List.replicate 72 (0 : Int) := hv
  rw [List.mem_replicate] at hv
  obtain ⟨-, rfl⟩ := hv
  omega
theorem takes_unit (n : Nat) (dashed : Bool) (d : Da) (pts : List (Int × Int)) : Takes 9 8 (stripL n dashed r98 d (pts.map uv)) := by
  intro f hf
  obtain ⟨h1, h2⟩ := strip_in n dashed r98 pts d f hf
  unfold Rc.Has r98 at h2
  simp only at h2
  refine ⟨?_, by omega, by show f.x < 9; omega, by omega, by show f.y < 8; omega⟩
  rw [h1]
  exact ⟨byte_1, byte_1, byte_1, byte_1, (show (0 : Int) ≤ 8388607 ∧ (8388607 : Int) ≤ 16777215 by decide), (show (0 : Int) < 64 ∧ (64 : Int) ≤ 64 by decide)⟩
def endC (n : Nat) (dashed : Bool) (d : Da) (pts : List (Int × Int)) : List Int := fall 9 true 1 1 (List.replicate 72 0) (stripL n dashed r98 d (pts.map uv))
def sE (n : Int) (dashed : Bool) (d : Da) : Ps := { sV n dashed d with op := false, mode := 0 }
def pE (n : Nat) (dashed : Bool) (d : Da) (pts : List (Int × Int)) : Hp := { pB with C := endC n dashed d pts }
theorem shape_steps (n : Nat) (dashed : Bool) (d : Da) (pts : List (Int × Int)) (hu : ∀ q ∈ pts, Unit q) (hl : pts.length ≤ 256) (n0 : 1 ≤ n) (n1 : n ≤ 64) (hd : d.Ok) : Steps (sB n dashed d) pB (shapeL 2 pts) (sE n dashed d) (pE n dashed d pts) := by
  have h1 := begin_steps n dashed d pts hu hl
  have h2 := Step.fin (sV n dashed d) (pV pts) 2 n 9 8 (drawn_unit n dashed d pts hu hl n0 n1 hd) (by omega) (ready_unit _ _ _ _) (by rw [lines_unit]; exact takes_unit _ _ _ _) rfl
  rw [lines_unit] at h2
  exact h1.append (.cons (c := (18, [])) h2 (.nil _ _))
theorem d00_ok : d00.Ok := ⟨by decide, by decide, by decide, by decide, by decide, by decide⟩
end Go.Proofs.YtplljnfjkkloeaaGreatDoor
set_option linter.unusedVariables false
set_option linter.unusedSimpArgs false
namespace Go.Proofs.YtplljnfjkkloeaaGreatDoor
attribute [local go_sem] Go.Oper.semAt_some
open Go.RowKit
theorem recs_rq {w : World} : ∀ {vs : List Value} {l : List R}, RecCells (Rd w 1) vs l → (∀ r ∈ l, r.2.length ≤ 4096) → ∃ Q : List Rq, Q.length = l.length ∧ vs = Q.flatMap Rq.cells ∧ ∀ (k : Nat) (q : Rq), Q[k]? = some q → ∃ C, l[k]? = some (q.op, C) ∧ Rd w 1 q.A q.n q.c (ivs C) ∧ q.n ≤ 4096
  | [], [], _, _ => ⟨[], rfl, rfl, fun k q h => by simp at h⟩
  | x :: y :: vs, r :: l, ⟨h1, ⟨a, c, h2, h3⟩, h4⟩, hl => by
    obtain ⟨Q, q1, q2, q3⟩ := recs_rq h4 (fun r hr => hl r (by simp [hr]))
    refine ⟨⟨r.1, a, r.2.length, c⟩ :: Q, by simp [q1], by rw [h1, h2, q2]; rfl, fun k q hk => ?_⟩
    cases k with
    | zero =>
      obtain rfl := Option.some.inj hk
      exact ⟨r.2, rfl, h3, hl r (by simp)⟩
    | succ k => exact q3 k q (by simpa using hk)
  | [], _ :: _, h, _ => h.elim
  | [_], [], h, _ => h.elim
  | [_], _ :: _, h, _ => h.elim
  | _ :: _ :: _, [], h, _ => h.elim
theorem recs_cmds {w : World} {a : Option Addr} {n cap : Nat} {l : List R} (h : RdRecs w a n cap l) (hl : ∀ r ∈ l, r.2.length ≤ 4096) : Cmds w a n cap l := by
  have hn := h.len
  obtain ⟨vs, h1, h2⟩ := h
  obtain ⟨Q, q1, q2, q3⟩ := recs_rq h2 hl
  exact ⟨⟨Q, q1.trans hn, by rw [← q2]; exact h1, q3⟩, hn⟩
def awakeL : List (Int × List Int) := [(1, [4, 1]), (16, [1]), (17, [-1, 0, 0, 1]), (17, [1, 0, 0, 1]), (18, [])]
theorem awake_parse : parseT [115, 105, 122, 101, 32, 52, 32, 49, 10, 98, 101, 103, 105, 110, 32, 49, 10, 118, 101, 114, 116, 101, 120, 32, 45, 49, 32, 48, 32, 48, 32, 49, 10, 118, 101, 114, 116, 101, 120, 32, 49, 32, 48, 32, 48, 32, 49, 10, 101, 110, 100, 10] = .ok awakeL := by kernel_rfl
def sA : Ps := { ps0 with W := 4, H := 1, port := ⟨0, 0, 4, 1⟩, op := true, mode := 1 }
def vA (x : Int) : Vx := ⟨x, 0, 0, 1, 255, 255, 255, 255⟩
def pA : Hp := { hp0 with C := List.replicate 4 0, Z := List.replicate 4 16777215, V := [vA (-1), vA 1], F := [true, true] }
def frA (x : Int) : Fr := ⟨x, 0, 8388607, 255, 255, 255, 255, 64⟩
theorem lines_awake : sA.lines pA 1 1 = [frA 0, frA 1, frA 2] := by kernel_rfl
theorem byte_255 : byte 255 := ⟨by decide, by decide⟩
theorem drawn_awake : Drawn sA pA 1 1 := by
  refine ⟨rfl, ⟨rfl, rfl, rfl, rfl, rfl, rfl⟩, rfl, .inl rfl, rfl, rfl, rfl, (⟨by decide, by decide, by decide, by decide⟩ : (Rc.mk 0 0 4 1).Port), rfl, by decide, by decide, d00_ok, (by unfold Rc.Ok; decide : (Rc.mk 0 0 4 1).Ok), rfl, by decide, ?_⟩
  intro v hv
  have hv : v = vA (-1) ∨ v = vA 1 := by simpa [pA] using hv
  rcases hv with rfl | rfl
  · exact ⟨⟨by decide, by decide, by decide, by decide, byte_255, byte_255, byte_255, byte_255⟩, ⟨by decide, by decide, by decide⟩, ⟨by decide, by decide, by decide, byte_255, byte_255, byte_255, byte_255⟩⟩
  · exact ⟨⟨by decide, by decide, by decide, by decide, byte_255, byte_255, byte_255, byte_255⟩, ⟨by decide, by decide, by decide⟩, ⟨by decide, by decide, by decide, byte_255, byte_255, byte_255, byte_255⟩⟩
theorem ready_awake : Ready sA pA 4 1 := by
  refine ⟨rfl, rfl, rfl, rfl, by decide, by decide, by decide, by decide, fun v hv => ?_, (⟨by decide, by decide, by decide, by decide, by decide, by decide⟩ : (Op3.mk ⟨0, 0, 0, 0⟩ 1 true false 1 0).Ok), rfl, rfl, rfl, rfl, rfl⟩
  have hv : v ∈ List.replicate 4 (0 : Int) := hv
  rw [List.mem_replicate] at hv
  obtain ⟨-, rfl⟩ := hv
  omega
theorem takes_awake : Takes 4 1 (sA.lines pA 1 1) := by
  rw [lines_awake]
  have fits : ∀ x, (frA x).Fits := fun x => ⟨byte_255, byte_255, byte_255, byte_255, (show (0 : Int) ≤ 8388607 ∧ (8388607 : Int) ≤ 16777215 by decide), (show (0 : Int) < 64 ∧ (64 : Int) ≤ 64 by decide)⟩
  intro f hf
  simp only [List.mem_cons, List.not_mem_nil, or_false] at hf
  rcases hf with rfl | rfl | rfl <;> exact ⟨fits _, by unfold frA; decide, by unfold frA; decide, by unfold frA; decide, by unfold frA; decide⟩
def pA2 : Hp := { hp0 with C := [4294967295, 4294967295, 4294967295, 0], Z := List.replicate 4 16777215 }
def sA2 : Ps := { sA with op := false, mode := 0 }
theorem image_awake : fall 4 false 1 0 (List.replicate 4 0) [frA 0, frA 1, frA 2] = [4294967295, 4294967295, 4294967295, 0] := by kernel_rfl
theorem awake_steps : Steps ps0 hp0 awakeL sA2 pA2 := by
  refine .cons (c := (1, [4, 1])) (Step.size ps0 hp0 4 1 (by decide) (by decide) (by decide) (by decide) ⟨byte_0, byte_0, byte_0, byte_0⟩ rfl) ?_
  refine .cons (c := (16, [1])) (Step.begin _ _ 1 rfl (show (0 : Int) < 4 by decide) rfl) ?_
  refine .cons (c := (17, [-1, 0, 0, 1])) (Step.vertex _ _ ⟨-1, 0, 0, 1⟩ rfl (by unfold C4.In; decide) rfl rfl rfl (by decide) rfl) ?_
  refine .cons (c := (17, [1, 0, 0, 1])) (Step.vertex _ _ ⟨1, 0, 0, 1⟩ rfl (by unfold C4.In; decide) rfl rfl rfl (by decide) rfl) ?_
  have h := Step.fin sA pA 1 1 4 1 drawn_awake (fun _ => by decide) ready_awake takes_awake rfl
  rw [lines_awake] at h
  have e : fall (4 : Nat) sA.mix sA.sf sA.df pA.C [frA 0, frA 1, frA 2] = [4294967295, 4294967295, 4294967295, 0] := image_awake
  rw [e] at h
  exact .cons (c := (18, [])) h (.nil _ _)
end Go.Proofs.YtplljnfjkkloeaaGreatDoor
set_option linter.unusedVariables false
set_option linter.unusedSimpArgs false
namespace Go.Proofs.YtplljnfjkkloeaaGreatDoor
attribute [local go_sem] Go.Oper.semAt_some
open Go.RowKit
set_option maxRecDepth 100000 in
set_option maxHeartbeats 16000000 in
theorem awake_any (w : World) (hW : Wd w) : Calls Tryz.prog 10 #[] w fun e w' => e = .returned (.bool true) ∧ Ext w w' := by
  have HW := Lib.hid hW
  have G1 := Lib.hid (fun w1 h => parse_any ⟨#[115, 105, 122, 101, 32, 52, 32, 49, 10, 98, 101, 103, 105, 110, 32, 49, 10, 118, 101, 114, 116, 101, 120, 32, 45, 49, 32, 48, 32, 48, 32, 49, 10, 118, 101, 114, 116, 101, 120, 32, 49, 32, 48, 32, 48, 32, 49, 10, 101, 110, 100, 10]⟩ w1 (by decide) h)
  simp only [] at G1
  rw [awake_parse] at G1
  clear hW
  go_enter Tryz.func10, Tryz.ntmps10
  go_wp2_with fail
  refine (G1.out _ HW.out).mono ?_
  rintro e w1 ⟨v, vs, rfl, ho, hr, hE⟩
  obtain ⟨ra, rc, rfl, hrd⟩ := recs_of ho hr
  have HCM : Hid (Cmds w1 ra 5 rc awakeL) := Lib.hid (recs_cmds hrd (by intro r hr; simp [awakeL] at hr; rcases hr with rfl | rfl | rfl | rfl | rfl <;> decide))
  have HE1 := Lib.hid hE
  clear ho hr hE hrd G1
  rw [show awakeL.length = 5 from rfl]
  have HRN : Hid (∀ wz, Ext w1 wz → Calls Tryz.prog 20 #[.slice ra 5 rc] wz (GivesB sA2 pA2 wz)) := Lib.hid (fun wz e => by
    obtain ⟨Q, q1, q2, q3⟩ := HCM.out.r
    exact run_cmds awake_steps ra 5 rc wz ((HW.out.ext HE1.out).ext e).glob ⟨⟨Q, q1, q2.ext e, fun k q hq => let ⟨C, c1, c2, c3⟩ := q3 k q hq; ⟨C, c1, c2.ext e, c3⟩⟩, HCM.out.n⟩ (by omega))
  go_wp2_with fail
  refine (HRN.out _ (by (repeat (first | with_reducible exact Ext.refl _ | with_reducible assumption | with_reducible refine Ext.alloc ?_ _ | with_reducible refine Ext.drew ?_ | with_reducible refine Ext.drewN ?_ _ | with_reducible refine Ext.later ?_ _ | (with_reducible refine Ext.setCell ?_ _ ?hp; case hp => first | (simp; done) | (simp; omega) | omega))))).mono ?_
  rintro e w2 ⟨l, he, hl, hE⟩
  obtain ⟨cs, hcs⟩ : ∃ c, c = sA2.cs pA2 l := ⟨_, rfl⟩
  rw [← hcs] at he
  subst he
  have hsz : cs.size = 94 := by rw [hcs]; rfl
  have HC0 : Hid (cs[0]? = some (.int .i64 0)) := Lib.hid (by rw [hcs]; rfl)
  have HC3 : Hid (cs[3]? = some (.slice l.c 4 l.cc)) := Lib.hid (by rw [hcs]; rfl)
  have HCO : Hid (∀ u ∈ cs.toList, u.oneCell' = true) := Lib.hid (by rw [hcs]; exact Ps.cs_one _ _ _)
  have HRC : Hid (Rd w2 1 l.c 4 l.cc (ivs [4294967295, 4294967295, 4294967295, 0])) := Lib.hid hl.lies.c
  have HE2 := Lib.hid (HE1.out.trans (by (repeat (first | with_reducible exact Ext.refl _ | with_reducible assumption | with_reducible refine Ext.alloc ?_ _ | with_reducible refine Ext.drew ?_ | with_reducible refine Ext.drewN ?_ _ | with_reducible refine Ext.later ?_ _ | (with_reducible refine Ext.setCell ?_ _ ?hp; case hp => first | (simp; done) | (simp; omega) | omega))) : Ext w1 w2))
  clear hcs hl hE HRN HCM
  go_wp2_with (refine wpList_store_blk rfl (.tmp 4) (.tmp 11) 53 rfl 0 rfl (.agg cs) rfl (Blk.new w2 53 Tryz.zeroCells53) (by show _ = some cs.size; rw [hsz]; exact size_pipe) ?c1 ?c2 ?_)
  case c1 => exact fun u hu => HCO.out u hu
  case c2 => show 0 + cs.size ≤ _; rw [hsz]; decide
  intro w3 hb hk
  rw [spl_all _ _ (by show cs.size = _; rw [hsz]; rfl)] at hb
  have HE3 := Lib.hid (hk.ext ((HE2.out).alloc (.cells Tryz.zeroCells53 53)) (fun k hk => by have := HE2.out.size; omega))
  have HR3 : Hid (Rd w3 1 l.c 4 l.cc (ivs [4294967295, 4294967295, 4294967295, 0])) := Lib.hid ((HRC.out.ext ((Ext.refl w2).alloc (.cells Tryz.zeroCells53 53))).kp hk (fun ad e => by have := HRC.out.ptr (by omega) ad e; omega))
  have q0 := (hb.cell 0).trans HC0.out
  have q3 := (hb.cell 3).trans HC3.out
  obtain ⟨cb, co, hcl, -, -⟩ := HR3.out.at_ (by omega)
  rw [hcl] at q3
  have x0 : w3.cell? ⟨cb, co, none⟩ = some (.int .i64 4294967295) := HR3.out.get hcl (j := 0) rfl
  have x2 : w3.cell? ⟨cb, co + 2, none⟩ = some (.int .i64 4294967295) := HR3.out.get hcl (j := 2) rfl
  have x3 : w3.cell? ⟨cb, co + 3, none⟩ = some (.int .i64 0) := HR3.out.get hcl (j := 3) rfl
  clear hb hk hcl HRC HR3
  generalize w2.heap.size = G at *
  go_wp2_with fail
  exact bodyPost_ret (v := .bool true) (by simp [results, Tryz.results10, go_sem]) rfl ⟨rfl, HE3.out⟩
end Go.Proofs.YtplljnfjkkloeaaGreatDoor
set_option linter.unusedVariables false
set_option linter.unusedSimpArgs false
namespace Go.Proofs.YtplljnfjkkloeaaGreatDoor
end Go.Proofs.YtplljnfjkkloeaaGreatDoor
set_option linter.unusedVariables false
set_option linter.unusedSimpArgs false
namespace Go.Proofs.YtplljnfjkkloeaaGreatDoor
open Go.RowKit
theorem endC_len (n : Nat) (dashed : Bool) (d : Da) (pts : List (Int × Int)) : (endC n dashed d pts).length = 72 := by
  unfold endC
  rw [fall_len]
  rfl
theorem cat_cmds {w1 w2 w' : World} {base : Nat} {v sv v' : Value} {L M : List (Int × List Int)} {Q R : List Rq} (h : CmdO w1 base v L Q) (e : Ext w1 w2) {b2 : Nat} (k : CmdO w2 b2 sv M R) (hg : w2.grownBy w' v.ownBlock) (ho : w'.ownsRow base 88 2 v' (L.length + M.length) (Q.flatMap Rq.cells ++ R.flatMap Rq.cells)) :
    ∃ a cap, v' = .slice a (L ++ M).length cap ∧ Cmds w' a (L ++ M).length cap (L ++ M) :=
  ((h.ext e).cat k.n k.q hg ho).cmds
theorem rq_one (Q : List Rq) : ∀ u ∈ Q.flatMap Rq.cells, u.oneCell' = true := by
  intro u hu
  rw [List.mem_flatMap] at hu
  obtain ⟨q, -, hu⟩ := hu
  simp at hu
  rcases hu with rfl | rfl <;> rfl
end Go.Proofs.YtplljnfjkkloeaaGreatDoor
set_option linter.unusedVariables false
set_option linter.unusedSimpArgs false
namespace Go.Proofs.YtplljnfjkkloeaaGreatDoor
attribute [local go_sem] Go.Oper.semAt_some
open Go.RowKit
@[reducible] def pc16 (p : Int × Int) : List Value := [.int .i16 p.1, .int .i16 p.2]
theorem info_pt : (Tryz.prog.info? 79).map (fun i => (i.zero, i.size, i.bytes)) = some (some (.agg #[.int .i64 0, .int .i64 0]), 2, 16) := by kernel_rfl
end Go.Proofs.YtplljnfjkkloeaaGreatDoor
set_option linter.unusedVariables false
set_option linter.unusedSimpArgs false
set_option maxRecDepth 100000
namespace Go.Proofs.YtplljnfjkkloeaaGreatDoor
open Go.ChangeShapes Go.WideShapes Go.ChangeAt Go.RowKit Go.Joins Go.Deep
theorem lst_of {α : Type} {P : Nat → α → Prop} : ∀ n : Nat, (∀ i, i < n → ∃ s, P i s) → ∃ l : List α, l.length = n ∧ ∀ i s, l[i]? = some s → P i s
  | 0, _ => ⟨[], rfl, by simp⟩
  | n + 1, h => by
    obtain ⟨l, hl, hp⟩ := lst_of n (fun i hi => h i (by omega))
    obtain ⟨s, hs⟩ := h n (by omega)
    refine ⟨l ++ [s], by simp [hl], fun i t ht => ?_⟩
    rcases Nat.lt_or_ge i n with h1 | h1
    · rw [List.getElem?_append_left (by omega)] at ht
      exact hp i t ht
    · have hi := (List.getElem?_eq_some_iff.1 ht).1
      simp only [List.length_append, List.length_singleton] at hi
      obtain rfl : i = n := by omega
      rw [List.getElem?_append_right (by omega), hl, Nat.sub_self] at ht
      have : s = t := by simpa using ht
      rw [← this]
      exact hs
section
variable {H : Type} {enc : TypeId × Value → H} {W : World} {held : Bool}
theorem rows_rd {α : Type} {f : α → List Value} {K : Nat} (hK : ∀ s, (f s).length = K) (K0 : 0 < K) {S E : TypeId} (hu : Tryz.prog.underlying S = some (.slice E)) (hc : Tryz.prog.cellsOf E = K)
    (hop : ∀ m cs x, DataW.trod enc Tryz.prog W 0 (fun _ => true) held m E cs = some x → ∃ s : α, cs = f s) {fuel : Nat} {v : Value} {y : DataW H × List MemPlace} (h : DataW.trod enc Tryz.prog W 0 (fun _ => true) held fuel S [v] = some y) :
    ∃ a n cap, ∃ l : List α, v = .slice a n cap ∧ Rd W K a n cap (l.flatMap f) ∧ l.length = n := by
  rcases open_slice hu h with ⟨hcs, _⟩ | ⟨x, len, cap, m, k, D, Pl, hcs, _, hl, hm, hmm, _, hi⟩
  · exact ⟨none, 0, 0, [], by simpa using hcs, Rd.empty W K none 0 (by unfold maxLen; omega), rfl⟩
  · rw [if_pos rfl] at hmm
    obtain rfl : m = cap := hmm
    rw [hc] at hi
    have hs : ∀ i, i < len → ∃ s : α, ∀ j, j < K → W.cell? ((x.add (i * K)).add j) = (f s)[j]? := by
      intro i hlt
      obtain ⟨cs', hc', ht⟩ := hi i (by omega)
      obtain ⟨s, rfl⟩ := hop _ _ _ ht
      exact ⟨s, (World.cells?_some hc').2.2⟩
    obtain ⟨l, hll, hp⟩ := lst_of len hs
    refine ⟨some x, len, m, l, by simpa using hcs, ⟨by rw [frow_len hK, hll], hl, hm, fun h0 => ?_⟩, hll⟩
    obtain ⟨b, off, spot⟩ := x
    obtain ⟨s0, hs0⟩ : ∃ s, l[0]? = some s := ⟨_, List.getElem?_eq_getElem (by omega)⟩
    have hc0 := hp 0 s0 hs0 0 K0
    have hz : ((⟨b, off, spot⟩ : Addr).add (0 * K)).add 0 = ⟨b, off, spot⟩ := by simp [Addr.add]
    rw [hz] at hc0
    obtain ⟨u0, hu0⟩ : ∃ u, (f s0)[0]? = some u := ⟨_, List.getElem?_eq_getElem (by rw [hK]; exact K0)⟩
    rw [hu0] at hc0
    have hspot : spot = none := World.cell?_spot (v := u0) hc0
    subst hspot
    refine ⟨b, off, rfl, World.block_lt_of_cell? W _ hc0, fun j hj => ?_⟩
    have hjK : j / K < len := Nat.div_lt_of_lt_mul (by rw [Nat.mul_comm]; exact hj)
    have hjm : j % K < K := Nat.mod_lt _ K0
    obtain ⟨s, hs1⟩ : ∃ s, l[j / K]? = some s := ⟨_, List.getElem?_eq_getElem (by omega)⟩
    have h1 := hp (j / K) s hs1 (j % K) hjm
    have h2 := frow_get hK hs1 (j % K) hjm
    have e : j / K * K + j % K = j := by rw [Nat.mul_comm]; exact Nat.div_add_mod j K
    rw [e] at h2
    rw [h2, ← h1]
    congr 1
    unfold Addr.add
    split <;> split <;> simp_all <;> omega
theorem int_ofk {P : Program} {e : TypeId} {k : IntKind} (he : P.underlying e = some (.int k)) {w : World} {base : Nat} {spare : Nat → Bool} {m : Nat} {c : Value} {o : Option (DataW H × List MemPlace)} (h : DataW.trod enc P w base spare held m e [c] = o) (ho : o.isSome = true) : ∃ z : Int, c = .int k z ∧ (Lit.int k z).wf = true := by
  obtain ⟨y, hy⟩ := Option.isSome_iff_exists.1 ho
  obtain ⟨z, hz, _, hw⟩ := DataW.trod_int he (h.trans hy)
  exact ⟨z, by simpa using hz, hw⟩
theorem ls2 {α : Type} {l : List α} (h : l.length = 2) : ∃ a b, l = [a, b] := by
  match l, h with
  | [a, b], _ => exact ⟨a, b, rfl⟩
theorem c16 : Tryz.prog.cellsOf 81 = 1 := by kernel_rfl
theorem cp16 : Tryz.prog.cellsOf 82 = 2 := by kernel_rfl
def P16 := { p : Int × Int // (-32768 ≤ p.1 ∧ p.1 < 32768) ∧ (-32768 ≤ p.2 ∧ p.2 < 32768) }
theorem wf16 {z : Int} (h : (Lit.int .i16 z).wf = true) : -32768 ≤ z ∧ z < 32768 := by
  simp [Lit.wf] at h
  have e1 : IntKind.i16.min = -32768 := by rfl
  have e2 : IntKind.i16.max = 32767 := by rfl
  omega
theorem wfu8 {z : Int} (h : (Lit.int .u8 z).wf = true) : 0 ≤ z ∧ z < 256 := by
  simp [Lit.wf] at h
  have e1 : IntKind.u8.min = 0 := by rfl
  have e2 : IntKind.u8.max = 255 := by rfl
  omega
theorem p16_of {w : World} {base : Nat} {spare : Nat → Bool} {m : Nat} {cs : List Value} {x : DataW H × List MemPlace} (h : DataW.trod enc Tryz.prog w base spare held m 82 cs = some x) : ∃ s : P16, cs = pc16 s.1 := by
  obtain ⟨xs, m', _, _, hl, hxl, hi⟩ := DataW.trod_array Tryz.underlying82 h
  obtain ⟨c0, c1, rfl⟩ := ls2 (hl.trans cp16)
  have i0 := hi 0 (by omega); have i1 := hi 1 (by omega)
  rw [c16] at i0 i1
  obtain ⟨z0, rfl, w0⟩ := int_ofk Tryz.underlying81 i0 (by simp [hxl])
  obtain ⟨z1, rfl, w1⟩ := int_ofk Tryz.underlying81 i1 (by simp [hxl])
  exact ⟨⟨(z0, z1), wf16 w0, wf16 w1⟩, rfl⟩
end
end Go.Proofs.YtplljnfjkkloeaaGreatDoor
