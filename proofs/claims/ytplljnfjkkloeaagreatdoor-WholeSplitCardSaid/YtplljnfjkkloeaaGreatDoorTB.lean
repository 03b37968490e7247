/- Proof text: what is left of a line (trim.Trim). By an AI agent. No condition beyond what each theorem states. -/
import Derived.Test.YtplljnfjkkloeaaGreatDoorCuts
import Derived.Deep.LoopGhost
import Derived.Deep.CutBlock
import Derived.Deep.RegionHeld3
import Derived.Deep.CutRange
set_option linter.unusedVariables false
set_option linter.unusedSimpArgs false
namespace Go.Proofs.YtplljnfjkkloeaaGreatDoor
open Go.RowKit
theorem less_yes (x y : Int × Int) (w : World) (hx1 : I64 x.1) (hx2 : I64 x.2) (hy1 : I64 y.1) (hy2 : I64 y.2) (h : less x y) :
    Calls Tryz.prog 128 #[cutV x, cutV y] w fun e w' => e = .returned (.bool true) ∧ Ext w w' := by
  have := less_any x y w hx1 hx2 hy1 hy2
  rwa [decide_eq_true h] at this
theorem less_no (x y : Int × Int) (w : World) (hx1 : I64 x.1) (hx2 : I64 x.2) (hy1 : I64 y.1) (hy2 : I64 y.2) (h : ¬ less x y) :
    Calls Tryz.prog 128 #[cutV x, cutV y] w fun e w' => e = .returned (.bool false) ∧ Ext w w' := by
  have := less_any x y w hx1 hx2 hy1 hy2
  rwa [decide_eq_false h] at this
@[reducible] def put8 (w : World) (g : Nat) (u : Vx) : World := (((((((w.setCell ⟨g, 0, none⟩ (.int .i64 u.x)).setCell ⟨g, 1, none⟩ (.int .i64 u.y)).setCell ⟨g, 2, none⟩ (.int .i64 u.z)).setCell ⟨g, 3, none⟩ (.int .i64 u.w)).setCell ⟨g, 4, none⟩ (.int .i64 u.c0)).setCell ⟨g, 5, none⟩ (.int .i64 u.c1)).setCell ⟨g, 6, none⟩ (.int .i64 u.c2)).setCell ⟨g, 7, none⟩ (.int .i64 u.c3)
theorem Blk.far8 {w : World} {g g' : Nat} {t : TypeId} {cs : Array Value} (h : Blk w g t cs) (hne : g ≠ g') (u : Vx) : Blk (put8 w g' u) g t cs :=
  (((((((h.far hne _).far hne _).far hne _).far hne _).far hne _).far hne _).far hne _).far hne _
theorem put8_ext {w wr : World} {g : Nat} (h : Ext w wr) (hg : w.heap.size ≤ g) (u : Vx) : Ext w (put8 wr g u) :=
  (((((((h.setCell _ hg).setCell _ hg).setCell _ hg).setCell _ hg).setCell _ hg).setCell _ hg).setCell _ hg).setCell _ hg
theorem both8 {w : World} {g g' : Nat} {t : TypeId} {v v' : Vx} (h : Blk w g t v.row) (h' : Blk w g' t v'.row) (hne : g ≠ g') (u u' : Vx) :
    Blk (put8 (put8 w g u) g' u') g t u.row ∧ Blk (put8 (put8 w g u) g' u') g' t u'.row :=
  ⟨(h.set8 u).far8 hne u', (h'.far8 (Ne.symm hne) u).set8 u'⟩
def cuts (l : List Sd) (a b : Vx) : List (Int × Int) := l.map fun s => (dist s a, dist s b)
def endP (a b : Vx) (f : Int × Int) : Vx := if 0 < f.2 then at_ a b f.1 f.2 else a
def endQ (a b : Vx) (f : Int × Int) : Vx := if 0 < f.2 then at_ a b f.1 f.2 else b
def TrimPost (l : List Sd) (a b : Vx) (w : World) (e : Ending) (w' : World) : Prop :=
  (∃ f g, Left (cuts l a b) f g ∧ e = .returned (.tuple #[(endP a b f).v, (endQ a b g).v, .bool true]) ∧ Ext w w') ∨
  (Bad (cuts l a b) ∧ e = .returned (.tuple #[V0.v, V0.v, .bool false]) ∧ Ext w w')
@[reducible] def cutR (x : Int × Int) : Array Value := #[.int .i64 x.1, .int .i64 x.2]
def TrimB (a b : Vx) (f g : Int × Int) (w wr : World) : Prop :=
  Blk wr w.heap.size 149 a.row ∧ Blk wr (w.heap.size + 1) 149 b.row ∧ Blk wr (w.heap.size + 1 + 1) 149 V0.row ∧ Blk wr (w.heap.size + 1 + 1 + 1) 149 V0.row ∧
    Blk wr (w.heap.size + 1 + 1 + 1 + 1) 231 (cutR f) ∧ Blk wr (w.heap.size + 1 + 1 + 1 + 1 + 1) 231 (cutR g) ∧ Ext w wr
theorem TrimB.later {a b : Vx} {f g : Int × Int} {w wr : World} (h : TrimB a b f g w wr) (x : Later wr) : TrimB a b f g w x.w := by
  obtain ⟨h1, h2, h3, h4, h5, h6, h7⟩ := h
  exact ⟨h1.later x, h2.later x, h3.later x, h4.later x, h5.later x, h6.later x, h7.later x⟩
theorem TrimB.alloc {a b : Vx} {f g : Int × Int} {w wr : World} (h : TrimB a b f g w wr) (o : Obj) : TrimB a b f g w (wr.alloc o) := by
  obtain ⟨h1, h2, h3, h4, h5, h6, h7⟩ := h
  exact ⟨h1.alloc _, h2.alloc _, h3.alloc _, h4.alloc _, h5.alloc _, h6.alloc _, h7.alloc _⟩
theorem TrimB.setF {a b : Vx} {f g x : Int × Int} {w wr : World} (h : TrimB a b f g w wr) : TrimB a b x g w ((wr.setCell ⟨w.heap.size + 1 + 1 + 1 + 1, 0, none⟩ (.int .i64 x.1)).setCell ⟨w.heap.size + 1 + 1 + 1 + 1, 1, none⟩ (.int .i64 x.2)) := by
  obtain ⟨h1, h2, h3, h4, h5, h6, h7⟩ := h
  refine ⟨(h1.far (by simp <;> omega) _).far (by simp <;> omega) _, (h2.far (by simp <;> omega) _).far (by simp <;> omega) _, (h3.far (by simp <;> omega) _).far (by simp <;> omega) _, (h4.far (by simp) _).far (by simp) _, ?_, (h6.far (by simp) _).far (by simp) _, (h7.setCell _ (by simp <;> omega)).setCell _ (by simp <;> omega)⟩
  simpa using (h5.set_ 0 (.int .i64 x.1)).set_ 1 (.int .i64 x.2)
theorem TrimB.setG {a b : Vx} {f g x : Int × Int} {w wr : World} (h : TrimB a b f g w wr) : TrimB a b f x w ((wr.setCell ⟨w.heap.size + 1 + 1 + 1 + 1 + 1, 0, none⟩ (.int .i64 x.1)).setCell ⟨w.heap.size + 1 + 1 + 1 + 1 + 1, 1, none⟩ (.int .i64 x.2)) := by
  obtain ⟨h1, h2, h3, h4, h5, h6, h7⟩ := h
  refine ⟨(h1.far (by simp <;> omega) _).far (by simp <;> omega) _, (h2.far (by simp <;> omega) _).far (by simp <;> omega) _, (h3.far (by simp <;> omega) _).far (by simp <;> omega) _, (h4.far (by simp <;> omega) _).far (by simp <;> omega) _, (h5.far (by simp) _).far (by simp) _, ?_, (h7.setCell _ (by simp <;> omega)).setCell _ (by simp <;> omega)⟩
  simpa using (h6.set_ 0 (.int .i64 x.1)).set_ 1 (.int .i64 x.2)
theorem TrimB.drew {a b : Vx} {f g : Int × Int} {w wr : World} (h : TrimB a b f g w wr) : TrimB a b f g w wr.drew := by
  obtain ⟨h1, h2, h3, h4, h5, h6, h7⟩ := h
  exact ⟨h1, h2, h3, h4, h5, h6, h7.drew⟩
def TrimE (a b u v : Vx) (f g : Int × Int) (w wr : World) (P Q : Nat) : Prop :=
  w.heap.size + 5 < P ∧ w.heap.size + 5 < Q ∧ P ≠ Q ∧ Blk wr P 149 u.row ∧ Blk wr Q 149 v.row ∧ TrimB a b f g w wr
theorem TrimE.later {a b u v : Vx} {f g : Int × Int} {w wr : World} {P Q : Nat} (h : TrimE a b u v f g w wr P Q) (x : Later wr) : TrimE a b u v f g w x.w P Q := by
  obtain ⟨h1, h2, h3, h4, h5, h6⟩ := h
  exact ⟨h1, h2, h3, h4.later x, h5.later x, h6.later x⟩
theorem TrimB.far8 {a b : Vx} {f g : Int × Int} {w wr : World} (h : TrimB a b f g w wr) {P : Nat} (hP : w.heap.size + 5 < P) (u : Vx) : TrimB a b f g w (put8 wr P u) := by
  obtain ⟨h1, h2, h3, h4, h5, h6, h7⟩ := h
  exact ⟨h1.far8 (by omega) u, h2.far8 (by omega) u, h3.far8 (by omega) u, h4.far8 (by omega) u, h5.far8 (by omega) u, h6.far8 (by omega) u, put8_ext h7 (by omega) u⟩
theorem TrimE.setP {a b u v : Vx} {f g : Int × Int} {w wr : World} {P Q : Nat} (h : TrimE a b u v f g w wr P Q) (x : Vx) : TrimE a b x v f g w (put8 wr P x) P Q := by
  obtain ⟨h1, h2, h3, h4, h5, h6⟩ := h
  exact ⟨h1, h2, h3, h4.set8 x, h5.far8 (Ne.symm h3) x, h6.far8 h1 x⟩
theorem TrimE.setQ {a b u v : Vx} {f g : Int × Int} {w wr : World} {P Q : Nat} (h : TrimE a b u v f g w wr P Q) (x : Vx) : TrimE a b u x f g w (put8 wr Q x) P Q := by
  obtain ⟨h1, h2, h3, h4, h5, h6⟩ := h
  exact ⟨h1, h2, h3, h4.far8 h3 x, h5.set8 x, h6.far8 h2 x⟩
theorem first_may {l : List Sd} {a b : Vx} {f g : Int × Int} (ha : a.Fit) (hb : b.Fit) (h : Left (cuts l a b) f g) (hf : 0 < f.2) : May a b f.1 f.2 := by
  rcases h.2.1 with ⟨rfl, _⟩ | ⟨c, _, hi, rfl, _⟩
  · simp at hf
  · obtain ⟨h1, h2⟩ := hi
    refine ⟨ha, hb, ?_, ?_, ?_⟩ <;> simp only [inCut] <;> omega
theorem last_may {l : List Sd} {a b : Vx} {f g : Int × Int} (ha : a.Fit) (hb : b.Fit) (h : Left (cuts l a b) f g) (hg : 0 < g.2) : May a b g.1 g.2 := by
  rcases h.2.2.1 with ⟨rfl, _⟩ | ⟨c, _, hi, rfl, _⟩
  · simp at hg
  · obtain ⟨h1, h2⟩ := hi
    refine ⟨ha, hb, ?_, ?_, ?_⟩ <;> simp only [outCut] <;> omega
def Upto (l : List Sd) (a b : Vx) (j : Nat) (f g : Int × Int) : Prop :=
  (∀ c ∈ (cuts l a b).take j, ¬ gone c) ∧ First ((cuts l a b).take j) f ∧ Last ((cuts l a b).take j) g
theorem cuts_bound {l : List Sd} {a b : Vx} (hok : ∀ s ∈ l, s.Ok) (ha : a.Fit) (hb : b.Fit) (j : Nat) : ∀ c ∈ (cuts l a b).take j, inMost c.1 9007199254740992 ∧ inMost c.2 9007199254740992 := by
  intro c hc
  obtain ⟨s, hs, rfl⟩ := List.mem_map.1 (List.mem_of_mem_take hc)
  exact ⟨dist_bound (hok s hs) ha, dist_bound (hok s hs) hb⟩
theorem first_bound {m : List (Int × Int)} {f : Int × Int} (hb : ∀ c ∈ m, inMost c.1 9007199254740992 ∧ inMost c.2 9007199254740992) (h : First m f) : I64 f.1 ∧ I64 f.2 := by
  rcases h with ⟨rfl, _⟩ | ⟨c, hc, _, rfl, _⟩
  · exact ⟨⟨by decide, by decide⟩, ⟨by decide, by decide⟩⟩
  · obtain ⟨⟨h1, h2⟩, h3, h4⟩ := hb c hc
    unfold inCut I64
    simp only
    omega
theorem last_bound {m : List (Int × Int)} {f : Int × Int} (hb : ∀ c ∈ m, inMost c.1 9007199254740992 ∧ inMost c.2 9007199254740992) (h : Last m f) : I64 f.1 ∧ I64 f.2 := by
  rcases h with ⟨rfl, _⟩ | ⟨c, hc, _, rfl, _⟩
  · exact ⟨⟨by decide, by decide⟩, ⟨by decide, by decide⟩⟩
  · obtain ⟨⟨h1, h2⟩, h3, h4⟩ := hb c hc
    unfold outCut I64
    simp only
    omega
theorem cuts_take {l : List Sd} {a b : Vx} {j : Nat} {s : Sd} (hs : l[j]? = some s) : (cuts l a b).take (j + 1) = (cuts l a b).take j ++ [(dist s a, dist s b)] := by
  have hj := (List.getElem?_eq_some_iff.1 hs).1
  rw [List.take_succ_eq_append_getElem (by simpa [cuts] using hj)]
  simp [cuts, (List.getElem?_eq_some_iff.1 hs).2]
theorem upto_gone {m : List (Int × Int)} {c : Int × Int} (h : ∀ x ∈ m, ¬ gone x) (hc : ¬ gone c) : ∀ x ∈ m ++ [c], ¬ gone x := by
  intro x hx
  rcases List.mem_append.1 hx with hx | hx
  · exact h x hx
  · rw [List.mem_singleton.1 hx]; exact hc
theorem cells2 {w : World} {g : Nat} {t : TypeId} {x : Int × Int} (h : Blk w g t (cutR x)) : w.cell? ⟨g, 0, none⟩ = some (.int .i64 x.1) ∧ w.cell? ⟨g, 1, none⟩ = some (.int .i64 x.2) ∧ w.frozen? ⟨g, 0, none⟩ = false ∧ w.frozen? ⟨g, 1, none⟩ = false :=
  ⟨h.cell 0, h.cell 1, h.frozen 0, h.frozen 1⟩
set_option maxRecDepth 100000 in
set_option maxHeartbeats 4000000 in
theorem trim_any (l : List Sd) (a b : Vx) (A : Option Addr) (n cap : Nat) (w : World) (hr : Rd w 5 A n cap (srow l)) (hl : l.length = n) (hok : ∀ s ∈ l, s.Ok) (ha : a.Fit) (hb : b.Fit) :
    Calls Tryz.prog 88 #[a.v, b.v, .slice A n cap] w (TrimPost l a b w) := by
  have hn : (n : Int) ≤ 9223372036854775807 := hr.nat_le
  have HR := Lib.hid hr; clear hr
  have HL := Lib.hid hl; clear hl
  have HO := Lib.hid hok; clear hok
  have HA := Lib.hid ha; clear ha
  have HB := Lib.hid hb; clear hb
  go_enter Tryz.func88, Tryz.ntmps88
  go_wp2_with fail
  go_loopg [12, 13, 14, 15, 16, 21] n (fun gh _ _ _ _ _ i wr => ∃ j : Nat, ∃ f g : Int × Int, j ≤ n ∧ gh = n - j ∧ i = .int .i64 j ∧ TrimB a b f g w wr ∧ Left ((cuts l a b).take j) f g)
  case atStart =>
    refine ⟨0, (0, 0), (0, 0), Nat.zero_le _, rfl, rfl, ⟨?_, ?_, ?_, ?_, ?_, ?_, by (repeat (first | with_reducible exact Ext.refl _ | with_reducible assumption | with_reducible refine Ext.alloc ?_ _ | with_reducible refine Ext.drew ?_ | with_reducible refine Ext.drewN ?_ _ | with_reducible refine Ext.later ?_ _ | (with_reducible refine Ext.setCell ?_ _ ?hp; case hp => first | (simp; done) | (simp; omega) | omega)))⟩, by simpa using left_nil⟩
    all_goals (try unfold V0)
    all_goals (repeat (first | (with_reducible refine Blk.new' _ _ _ ?_; (simp; done)) | with_reducible refine Blk.alloc ?_ _))
  case round =>
    obtain ⟨j, f, g, hj, rfl, rfl, hT, hL⟩ := hrel
    have HT := Lib.hid hT; clear hT
    have HLf := Lib.hid hL; clear hL
    by_cases hlt : j < n
    · obtain ⟨s, hs⟩ : ∃ s, l[j]? = some s := ⟨_, List.getElem?_eq_getElem (by rw [HL.out]; exact hlt)⟩
      have hRr := HR.out.ext HT.out.2.2.2.2.2.2
      obtain ⟨ab, ao, hA, hAb, hcell⟩ := hRr.at_ (by omega)
      subst hA
      obtain ⟨c0, c1, c2, c3, c4⟩ := side_at hRr hs
      clear hRr hcell hAb
      have HSs := Lib.hid hs; clear hs
      have HSO : Hid s.Ok := Lib.hid (HO.out s (List.mem_of_getElem? HSs.out))
      obtain ⟨a0, a1, a2, a3, a4, a5, a6, a7⟩ := cells8 HT.out.1
      obtain ⟨b0, b1, b2, b3, b4, b5, b6, b7⟩ := cells8 HT.out.2.1
      obtain ⟨k, m, d, hpt⟩ := pt_ex (dist s a) (dist s b)
      have HP := Lib.hid hpt; clear hpt
      have hsz : w.heap.size + 1 + 1 + 1 + 1 + 1 < wr.heap.size := HT.out.2.2.2.2.2.1.lt
      have hz1 : w.heap.size < wr.heap.size := by omega
      have hz2 : w.heap.size + 1 < wr.heap.size := by omega
      go_upto_region 5 with fail
      go_wp2_with fail
      refine (part_of s a b _ HSO.out HA.out HB.out k m d HP.out).mono ?_
      rintro e w1 ⟨rfl, hE⟩
      obtain ⟨x, rfl⟩ := Later.mk' hE
      clear hE
      have HTx := Lib.hid ((HT.out.alloc (.cells s.row.toArray 38)).later x)
      have HT2 := Lib.hid ((((HT.out.alloc (.cells s.row.toArray 38)).later x).alloc (.cells (cutR (m, d)) 231)))
      have HX := Lib.hid (Blk.new x.w 231 (cutR (m, d)))
      have hsx : w.heap.size + 1 + 1 + 1 + 1 + 1 < x.w.heap.size := by have := x.le; simp at this; omega
      clear hsz hz1 hz2 c0 c1 c2 c3 c4 a0 a1 a2 a3 a4 a5 a6 a7 b0 b1 b2 b3 b4 b5 b6 b7
      go_upto_block 2 with fail
      go_cut [36] from 37 to 62 (fun _ wx => ∃ f' g' : Int × Int, TrimB a b f' g' w wx ∧ Upto l a b (j + 1) f' g')
      case first =>
        have hct := cuts_take (a := a) (b := b) HSs.out
        have HCT := Lib.hid hct; clear hct
        rcases HP.out with ⟨p1, p2, rfl, rfl, rfl⟩ | ⟨p1, p2, rfl, hm, hd⟩ | ⟨p1, p2, rfl, hm, hd⟩ | ⟨p1, p2, rfl, rfl, rfl⟩
        · have hbad : Bad (cuts l a b) := .inl ⟨(dist s a, dist s b), List.mem_of_mem_take (i := j + 1) (by rw [HCT.out]; simp), by unfold gone; simp only; omega⟩
          have HBad := Lib.hid hbad; clear hbad
          clear p1 p2
          have hR1 := HTx.out.2.2.1
          have hR2 := HTx.out.2.2.2.1
          obtain ⟨q0, q1, q2, q3, q4, q5, q6, q7⟩ := cells8 hR1
          obtain ⟨r0, r1, r2, r3, r4, r5, r6, r7⟩ := frees8 hR1
          obtain ⟨s0, s1, s2, s3, s4, s5, s6, s7⟩ := cells8 hR2
          obtain ⟨t0, t1, t2, t3, t4, t5, t6, t7⟩ := frees8 hR2
          clear hR1 hR2
          go_wp2_with fail
          clear q0 q1 q2 q3 q4 q5 q6 q7 r0 r1 r2 r3 r4 r5 r6 r7 s0 s1 s2 s3 s4 s5 s6 s7 t0 t1 t2 t3 t4 t5 t6 t7
          obtain ⟨R1, R2⟩ := both8 (HT2.out.2.2.1) (HT2.out.2.2.2.1) (by omega) V0 V0
          obtain ⟨q0, q1, q2, q3, q4, q5, q6, q7⟩ := cells8 R1
          obtain ⟨s0, s1, s2, s3, s4, s5, s6, s7⟩ := cells8 R2
          simp only [V0] at q0 q1 q2 q3 q4 q5 q6 q7 s0 s1 s2 s3 s4 s5 s6 s7
          refine bodyPost_ret (v := .tuple #[V0.v, V0.v, .bool false]) (by simp [results, Tryz.results88, q0, q1, q2, q3, q4, q5, q6, q7, s0, s1, s2, s3, s4, s5, s6, s7, go_sem, V0]) rfl (.inr ⟨HBad.out, rfl, ?_⟩)
          exact put8_ext (put8_ext HT2.out.2.2.2.2.2.2 (by omega) V0) (by omega) V0
        · have hcu : inCut (dist s a, dist s b) = (m, d) := by unfold inCut; simp only [hm, hd]
          have HCU := Lib.hid hcu; clear hcu
          have HG : Hid (¬ gone (dist s a, dist s b)) := Lib.hid (by unfold gone; simp only; omega)
          have HNO : Hid (¬ outs (dist s a, dist s b)) := Lib.hid (by unfold outs; simp only; omega)
          have HI : Hid (ins (dist s a, dist s b)) := Lib.hid (by unfold ins; simp only; omega)
          have HBN := Lib.hid (cuts_bound HO.out HA.out HB.out j)
          have hbx : I64 m ∧ I64 d := by
            have h1 := dist_bound HSO.out HA.out
            have h2 := dist_bound HSO.out HB.out
            unfold inMost at h1 h2
            unfold I64
            omega
          have HBX := Lib.hid hbx; clear hbx
          clear hm hd p1 p2
          obtain ⟨f0, f1, f2, f3⟩ := cells2 HTx.out.2.2.2.2.1
          by_cases hf : f.2 = 0
          · have d0 : (f.2 == 0) = true := by simpa using hf
            have HF0 := Lib.hid hf; clear hf
            go_wp2_with fail
            go_meet
            refine ⟨(m, d), g, ?_, ?_⟩
            · first | exact HT2.out.setF (x := (m, d)) | exact (HTx.out.setF (x := (m, d))).alloc _
            · unfold Upto
              rw [HCT.out, ← HCU.out]
              exact ⟨upto_gone HLf.out.1 HG.out, First.move HLf.out.2.1 HI.out (.inl HF0.out), HLf.out.2.2.1.same HNO.out⟩
          · have d0 : (f.2 == 0) = false := by simpa using hf
            have HF0 := Lib.hid hf; clear hf
            by_cases hls : less f (m, d)
            · have HLS := Lib.hid hls; clear hls
              go_wp2_with fail
              refine (less_yes f (m, d) _ (first_bound HBN.out HLf.out.2.1).1 (first_bound HBN.out HLf.out.2.1).2 HBX.out.1 HBX.out.2 HLS.out).mono ?_
              rintro e w1 ⟨rfl, hE⟩
              obtain ⟨y, rfl⟩ := Later.mk' hE
              clear hE
              clear f0 f1 f2 f3
              obtain ⟨f0, f1, f2, f3⟩ := cells2 (HT2.out.later y).2.2.2.2.1
              obtain ⟨x0, x1, x2, x3⟩ := cells2 (HX.out.later y)
              go_wp2_with fail
              go_meet
              refine ⟨(m, d), g, ?_, ?_⟩
              · exact (HT2.out.later y).setF (x := (m, d))
              · unfold Upto
                rw [HCT.out, ← HCU.out]
                exact ⟨upto_gone HLf.out.1 HG.out, First.move HLf.out.2.1 HI.out (.inr (by rw [HCU.out]; exact HLS.out)), HLf.out.2.2.1.same HNO.out⟩
            · have HLS := Lib.hid hls; clear hls
              go_wp2_with fail
              refine (less_no f (m, d) _ (first_bound HBN.out HLf.out.2.1).1 (first_bound HBN.out HLf.out.2.1).2 HBX.out.1 HBX.out.2 HLS.out).mono ?_
              rintro e w1 ⟨rfl, hE⟩
              obtain ⟨y, rfl⟩ := Later.mk' hE
              clear hE
              go_wp2_with fail
              go_meet
              refine ⟨f, g, ?_, ?_⟩
              · exact HT2.out.later y
              · unfold Upto
                rw [HCT.out]
                exact ⟨upto_gone HLf.out.1 HG.out, First.stay HLf.out.2.1 HF0.out (by rw [HCU.out]; exact HLS.out), HLf.out.2.2.1.same HNO.out⟩
        · have hcu : outCut (dist s a, dist s b) = (m, d) := by unfold outCut; simp only [hm, hd]
          have HCU := Lib.hid hcu; clear hcu
          have HG : Hid (¬ gone (dist s a, dist s b)) := Lib.hid (by unfold gone; simp only; omega)
          have HNI : Hid (¬ ins (dist s a, dist s b)) := Lib.hid (by unfold ins; simp only; omega)
          have HI : Hid (outs (dist s a, dist s b)) := Lib.hid (by unfold outs; simp only; omega)
          have HBN := Lib.hid (cuts_bound HO.out HA.out HB.out j)
          have hbx : I64 m ∧ I64 d := by
            have h1 := dist_bound HSO.out HA.out
            have h2 := dist_bound HSO.out HB.out
            unfold inMost at h1 h2
            unfold I64
            omega
          have HBX := Lib.hid hbx; clear hbx
          clear hm hd p1 p2
          obtain ⟨f0, f1, f2, f3⟩ := cells2 HTx.out.2.2.2.2.2.1
          by_cases hf : g.2 = 0
          · have d0 : (g.2 == 0) = true := by simpa using hf
            have HF0 := Lib.hid hf; clear hf
            go_wp2_with fail
            go_meet
            refine ⟨f, (m, d), ?_, ?_⟩
            · first | exact HT2.out.setG (x := (m, d)) | exact (HTx.out.setG (x := (m, d))).alloc _
            · unfold Upto
              rw [HCT.out, ← HCU.out]
              exact ⟨upto_gone HLf.out.1 HG.out, HLf.out.2.1.same HNI.out, Last.move HLf.out.2.2.1 HI.out (.inl HF0.out)⟩
          · have d0 : (g.2 == 0) = false := by simpa using hf
            have HF0 := Lib.hid hf; clear hf
            by_cases hls : less (m, d) g
            · have HLS := Lib.hid hls; clear hls
              go_wp2_with fail
              refine (less_yes (m, d) g _ HBX.out.1 HBX.out.2 (last_bound HBN.out HLf.out.2.2.1).1 (last_bound HBN.out HLf.out.2.2.1).2 HLS.out).mono ?_
              rintro e w1 ⟨rfl, hE⟩
              obtain ⟨y, rfl⟩ := Later.mk' hE
              clear hE
              clear f0 f1 f2 f3
              obtain ⟨f0, f1, f2, f3⟩ := cells2 (HT2.out.later y).2.2.2.2.2.1
              obtain ⟨x0, x1, x2, x3⟩ := cells2 (HX.out.later y)
              go_wp2_with fail
              go_meet
              refine ⟨f, (m, d), ?_, ?_⟩
              · exact (HT2.out.later y).setG (x := (m, d))
              · unfold Upto
                rw [HCT.out, ← HCU.out]
                exact ⟨upto_gone HLf.out.1 HG.out, HLf.out.2.1.same HNI.out, Last.move HLf.out.2.2.1 HI.out (.inr (by rw [HCU.out]; exact HLS.out))⟩
            · have HLS := Lib.hid hls; clear hls
              go_wp2_with fail
              refine (less_no (m, d) g _ HBX.out.1 HBX.out.2 (last_bound HBN.out HLf.out.2.2.1).1 (last_bound HBN.out HLf.out.2.2.1).2 HLS.out).mono ?_
              rintro e w1 ⟨rfl, hE⟩
              obtain ⟨y, rfl⟩ := Later.mk' hE
              clear hE
              go_wp2_with fail
              go_meet
              refine ⟨f, g, ?_, ?_⟩
              · exact HT2.out.later y
              · unfold Upto
                rw [HCT.out]
                exact ⟨upto_gone HLf.out.1 HG.out, HLf.out.2.1.same HNI.out, Last.stay HLf.out.2.2.1 HF0.out (by rw [HCU.out]; exact HLS.out)⟩
        · go_wp2_with fail
          go_meet
          refine ⟨f, g, HT2.out, ?_⟩
          unfold Upto
          rw [HCT.out]
          exact ⟨upto_gone HLf.out.1 (by unfold gone; simp only; omega), HLf.out.2.1.same (by unfold ins; simp only; omega), HLf.out.2.2.1.same (by unfold outs; simp only; omega)⟩
      case rest =>
        clear HTx HT2 HX HT HLf HP HSs HSO hsx
        obtain ⟨f', g', hT3, hU⟩ := hcut
        have HT3 := Lib.hid hT3; clear hT3
        have HU := Lib.hid hU; clear hU
        have HBN := Lib.hid (cuts_bound HO.out HA.out HB.out (j + 1))
        obtain ⟨f0, f1, f2, f3⟩ := cells2 HT3.out.2.2.2.2.1
        obtain ⟨g0, g1, g2, g3⟩ := cells2 HT3.out.2.2.2.2.2.1
        by_cases hf : 0 < f'.2
        · by_cases hg : 0 < g'.2
          · have d1 : decide (f'.2 > 0) = true := by simpa using hf
            have d2 : decide (g'.2 > 0) = true := by simpa using hg
            by_cases hls : less g' f'
            · have HBad := Lib.hid (Bad.mono (bad_of HU.out.2.1 HU.out.2.2 hf hg hls) (fun c hc => List.mem_of_mem_take hc))
              have HLS := Lib.hid hls; clear hls
              clear hf hg
              go_wp2_with fail
              refine (less_yes g' f' _ (last_bound HBN.out HU.out.2.2).1 (last_bound HBN.out HU.out.2.2).2 (first_bound HBN.out HU.out.2.1).1 (first_bound HBN.out HU.out.2.1).2 HLS.out).mono ?_
              rintro e w1 ⟨rfl, hE⟩
              obtain ⟨y, rfl⟩ := Later.mk' hE
              clear hE
              clear f0 f1 f2 f3 g0 g1 g2 g3
              have TB2 := Lib.hid (HT3.out.later y)
              obtain ⟨q0, q1, q2, q3, q4, q5, q6, q7⟩ := cells8 TB2.out.2.2.1
              obtain ⟨r0, r1, r2, r3, r4, r5, r6, r7⟩ := frees8 TB2.out.2.2.1
              obtain ⟨s0, s1, s2, s3, s4, s5, s6, s7⟩ := cells8 TB2.out.2.2.2.1
              obtain ⟨t0, t1, t2, t3, t4, t5, t6, t7⟩ := frees8 TB2.out.2.2.2.1
              go_wp2_with fail
              clear q0 q1 q2 q3 q4 q5 q6 q7 r0 r1 r2 r3 r4 r5 r6 r7 s0 s1 s2 s3 s4 s5 s6 s7 t0 t1 t2 t3 t4 t5 t6 t7
              obtain ⟨R1, R2⟩ := both8 (TB2.out.2.2.1) (TB2.out.2.2.2.1) (by omega) V0 V0
              obtain ⟨q0, q1, q2, q3, q4, q5, q6, q7⟩ := cells8 R1
              obtain ⟨s0, s1, s2, s3, s4, s5, s6, s7⟩ := cells8 R2
              simp only [V0] at q0 q1 q2 q3 q4 q5 q6 q7 s0 s1 s2 s3 s4 s5 s6 s7
              refine bodyPost_ret (v := .tuple #[V0.v, V0.v, .bool false]) (by simp [results, Tryz.results88, q0, q1, q2, q3, q4, q5, q6, q7, s0, s1, s2, s3, s4, s5, s6, s7, go_sem, V0]) rfl (.inr ⟨HBad.out, rfl, ?_⟩)
              exact put8_ext (put8_ext TB2.out.2.2.2.2.2.2 (by omega) V0) (by omega) V0
            · have HLS := Lib.hid hls; clear hls
              clear hf hg
              go_wp2_with fail
              refine (less_no g' f' _ (last_bound HBN.out HU.out.2.2).1 (last_bound HBN.out HU.out.2.2).2 (first_bound HBN.out HU.out.2.1).1 (first_bound HBN.out HU.out.2.1).2 HLS.out).mono ?_
              rintro e w1 ⟨rfl, hE⟩
              obtain ⟨y, rfl⟩ := Later.mk' hE
              clear hE
              go_wp2_with fail
              go_roundg (n - (j + 1))
              case measure => omega
              case rel => exact ⟨j + 1, f', g', by omega, rfl, by go_num, HT3.out.later y, HU.out.1, HU.out.2.1, HU.out.2.2, fun _ _ => HLS.out⟩
          · have d1 : decide (f'.2 > 0) = true := by simpa using hf
            have d2 : decide (g'.2 > 0) = false := by simpa using hg
            have HG0 := Lib.hid hg; clear hg
            clear hf
            go_wp2_with fail
            go_roundg (n - (j + 1))
            case measure => omega
            case rel => exact ⟨j + 1, f', g', by omega, rfl, by go_num, HT3.out, HU.out.1, HU.out.2.1, HU.out.2.2, fun _ h => absurd h (Int.not_lt.2 HG0.out)⟩
        · have d1 : decide (f'.2 > 0) = false := by simpa using hf
          have HF0 := Lib.hid hf; clear hf
          go_wp2_with fail
          go_roundg (n - (j + 1))
          case measure => omega
          case rel => exact ⟨j + 1, f', g', by omega, rfl, by go_num, HT3.out, HU.out.1, HU.out.2.1, HU.out.2.2, fun h _ => absurd h (Int.not_lt.2 HF0.out)⟩
    · obtain rfl : j = n := by omega
      have hL2 := HLf.out
      rw [List.take_of_length_le (by simp only [cuts, List.length_map]; rw [HL.out]; exact Nat.le_refl _)] at hL2
      have HLL := Lib.hid hL2; clear hL2
      clear HLf
      obtain ⟨a0, a1, a2, a3, a4, a5, a6, a7⟩ := cells8 HT.out.1
      obtain ⟨b0, b1, b2, b3, b4, b5, b6, b7⟩ := cells8 HT.out.2.1
      have KA := HT.out.1
      have KB := HT.out.2.1
      have hz := HT.out.2.2.2.2.2.1.lt
      go_upto_region 19 with fail
      go_cut [17, 18] from 79 to 80 (fun p q wx => ∃ P Q : Nat, p = .pointer (some ⟨P, 0, none⟩) ∧ q = .pointer (some ⟨Q, 0, none⟩) ∧ TrimE a b a b f g w wx P Q)
      case first =>
        go_region_held3 (fun w' => w'.cell? ⟨w.heap.size, 0, none⟩ = some (.int .i64 a.x) ∧ w'.cell? ⟨w.heap.size, 1, none⟩ = some (.int .i64 a.y) ∧ w'.cell? ⟨w.heap.size, 2, none⟩ = some (.int .i64 a.z) ∧ w'.cell? ⟨w.heap.size, 3, none⟩ = some (.int .i64 a.w) ∧ w'.cell? ⟨w.heap.size, 4, none⟩ = some (.int .i64 a.c0) ∧ w'.cell? ⟨w.heap.size, 5, none⟩ = some (.int .i64 a.c1) ∧ w'.cell? ⟨w.heap.size, 6, none⟩ = some (.int .i64 a.c2) ∧ w'.cell? ⟨w.heap.size, 7, none⟩ = some (.int .i64 a.c3) ∧ w'.cell? ⟨w.heap.size + 1, 0, none⟩ = some (.int .i64 b.x) ∧ w'.cell? ⟨w.heap.size + 1, 1, none⟩ = some (.int .i64 b.y) ∧ w'.cell? ⟨w.heap.size + 1, 2, none⟩ = some (.int .i64 b.z) ∧ w'.cell? ⟨w.heap.size + 1, 3, none⟩ = some (.int .i64 b.w) ∧ w'.cell? ⟨w.heap.size + 1, 4, none⟩ = some (.int .i64 b.c0) ∧ w'.cell? ⟨w.heap.size + 1, 5, none⟩ = some (.int .i64 b.c1) ∧ w'.cell? ⟨w.heap.size + 1, 6, none⟩ = some (.int .i64 b.c2) ∧ w'.cell? ⟨w.heap.size + 1, 7, none⟩ = some (.int .i64 b.c3)) ((refine vcells (t := 149) ?_ ?_ <;> (repeat (first | with_reducible assumption | with_reducible refine Blk.alloc ?_ _ | with_reducible refine Blk.drew ?_ | with_reducible refine Blk.far ?_ ?_ _ | (dsimp only; omega))))) (fail)
        all_goals
          go_wp2_with fail
          go_meet
          refine ⟨_, _, rfl, rfl, by omega, by omega, by omega, ?_, ?_, ((HT.out.alloc _).alloc _).drew⟩
          all_goals (repeat (first | with_reducible refine Blk.drew ?_ | (with_reducible refine Blk.new' _ _ _ ?_; (simp; done)) | with_reducible refine Blk.alloc ?_ _))
      case rest =>
        clear HT KA KB hz a0 a1 a2 a3 a4 a5 a6 a7 b0 b1 b2 b3 b4 b5 b6 b7
        obtain ⟨P, Q, rfl, rfl, hTE⟩ := hcut
        have HTE := Lib.hid hTE; clear hTE
        have HBN := Lib.hid (cuts_bound HO.out HA.out HB.out l.length)
        have hfb : I64 f.1 ∧ I64 f.2 := first_bound (m := (cuts l a b).take l.length) HBN.out (by rw [List.take_of_length_le (by simp [cuts])]; exact HLL.out.2.1)
        have hgb : I64 g.1 ∧ I64 g.2 := last_bound (m := (cuts l a b).take l.length) HBN.out (by rw [List.take_of_length_le (by simp [cuts])]; exact HLL.out.2.2.1)
        have HFB := Lib.hid hfb; clear hfb
        have HGB := Lib.hid hgb; clear hgb
        obtain ⟨f0, f1, f2, f3⟩ := cells2 HTE.out.2.2.2.2.2.2.2.2.2.1
        go_upto_if 83 with fail
        go_cut [84] from 79 to 93 (fun _ wx => TrimE a b (endP a b f) b f g w wx P Q)
        case first =>
          by_cases hf : 0 < f.2
          · have d1 : decide (f.2 > 0) = true := by simpa using hf
            have HM := Lib.hid (first_may HA.out HB.out HLL.out hf)
            have he : endP a b f = at_ a b f.1 f.2 := by unfold endP; rw [if_pos hf]
            have HEE := Lib.hid he; clear he
            obtain ⟨a0, a1, a2, a3, a4, a5, a6, a7⟩ := cells8 HTE.out.2.2.2.2.2.1
            obtain ⟨b0, b1, b2, b3, b4, b5, b6, b7⟩ := cells8 HTE.out.2.2.2.2.2.2.1
            go_wp2_with fail
            refine (at_may a b f.1 f.2 _ HM.out HFB.out.2.2).mono ?_
            rintro e w1 ⟨rfl, hE⟩
            obtain ⟨y, rfl⟩ := Later.mk' hE
            clear hE
            clear a0 a1 a2 a3 a4 a5 a6 a7 b0 b1 b2 b3 b4 b5 b6 b7
            obtain ⟨q0, q1, q2, q3, q4, q5, q6, q7⟩ := cells8 (HTE.out.later y).2.2.2.1
            obtain ⟨r0, r1, r2, r3, r4, r5, r6, r7⟩ := frees8 (HTE.out.later y).2.2.2.1
            go_wp2_with fail
            go_meet
            rw [HEE.out]
            exact (HTE.out.later y).setP (at_ a b f.1 f.2)
          · have d1 : decide (f.2 > 0) = false := by simpa using hf
            have he : endP a b f = a := by unfold endP; rw [if_neg hf]
            go_wp2_with fail
            go_meet
            rw [he]
            exact HTE.out
        case rest =>
          clear HTE f0 f1 f2 f3
          have HTE := Lib.hid hcut; clear hcut
          obtain ⟨f0, f1, f2, f3⟩ := cells2 HTE.out.2.2.2.2.2.2.2.2.2.2.1
          go_upto_if 96 with fail
          go_cut [97] from 94 to 106 (fun _ wx => TrimE a b (endP a b f) (endQ a b g) f g w wx P Q)
          case first =>
            by_cases hg : 0 < g.2
            · have d1 : decide (g.2 > 0) = true := by simpa using hg
              have HM := Lib.hid (last_may HA.out HB.out HLL.out hg)
              have he : endQ a b g = at_ a b g.1 g.2 := by unfold endQ; rw [if_pos hg]
              have HEE := Lib.hid he; clear he
              obtain ⟨a0, a1, a2, a3, a4, a5, a6, a7⟩ := cells8 HTE.out.2.2.2.2.2.1
              obtain ⟨b0, b1, b2, b3, b4, b5, b6, b7⟩ := cells8 HTE.out.2.2.2.2.2.2.1
              go_wp2_with fail
              refine (at_may a b g.1 g.2 _ HM.out HGB.out.2.2).mono ?_
              rintro e w1 ⟨rfl, hE⟩
              obtain ⟨y, rfl⟩ := Later.mk' hE
              clear hE
              clear a0 a1 a2 a3 a4 a5 a6 a7 b0 b1 b2 b3 b4 b5 b6 b7
              obtain ⟨q0, q1, q2, q3, q4, q5, q6, q7⟩ := cells8 (HTE.out.later y).2.2.2.2.1
              obtain ⟨r0, r1, r2, r3, r4, r5, r6, r7⟩ := frees8 (HTE.out.later y).2.2.2.2.1
              go_wp2_with fail
              go_meet
              rw [HEE.out]
              exact (HTE.out.later y).setQ (at_ a b g.1 g.2)
            · have d1 : decide (g.2 > 0) = false := by simpa using hg
              have he : endQ a b g = b := by unfold endQ; rw [if_neg hg]
              go_wp2_with fail
              go_meet
              rw [he]
              exact HTE.out
          case rest =>
            clear HTE f0 f1 f2 f3
            have HTE := Lib.hid hcut; clear hcut
            have KP := HTE.out.2.2.2.1
            have KQ := HTE.out.2.2.2.2.1
            have hP := HTE.out.1
            have hQ := HTE.out.2.1
            obtain ⟨q0, q1, q2, q3, q4, q5, q6, q7⟩ := cells8 HTE.out.2.2.2.2.2.2.2.1
            obtain ⟨r0, r1, r2, r3, r4, r5, r6, r7⟩ := frees8 HTE.out.2.2.2.2.2.2.2.1
            obtain ⟨s0, s1, s2, s3, s4, s5, s6, s7⟩ := cells8 HTE.out.2.2.2.2.2.2.2.2.1
            obtain ⟨t0, t1, t2, t3, t4, t5, t6, t7⟩ := frees8 HTE.out.2.2.2.2.2.2.2.2.1
            go_upto_region 24 with fail
            go_region_held3 (fun w' => w'.cell? ⟨P, 0, none⟩ = some (.int .i64 (endP a b f).x) ∧ w'.cell? ⟨P, 1, none⟩ = some (.int .i64 (endP a b f).y) ∧ w'.cell? ⟨P, 2, none⟩ = some (.int .i64 (endP a b f).z) ∧ w'.cell? ⟨P, 3, none⟩ = some (.int .i64 (endP a b f).w) ∧ w'.cell? ⟨P, 4, none⟩ = some (.int .i64 (endP a b f).c0) ∧ w'.cell? ⟨P, 5, none⟩ = some (.int .i64 (endP a b f).c1) ∧ w'.cell? ⟨P, 6, none⟩ = some (.int .i64 (endP a b f).c2) ∧ w'.cell? ⟨P, 7, none⟩ = some (.int .i64 (endP a b f).c3) ∧ w'.cell? ⟨Q, 0, none⟩ = some (.int .i64 (endQ a b g).x) ∧ w'.cell? ⟨Q, 1, none⟩ = some (.int .i64 (endQ a b g).y) ∧ w'.cell? ⟨Q, 2, none⟩ = some (.int .i64 (endQ a b g).z) ∧ w'.cell? ⟨Q, 3, none⟩ = some (.int .i64 (endQ a b g).w) ∧ w'.cell? ⟨Q, 4, none⟩ = some (.int .i64 (endQ a b g).c0) ∧ w'.cell? ⟨Q, 5, none⟩ = some (.int .i64 (endQ a b g).c1) ∧ w'.cell? ⟨Q, 6, none⟩ = some (.int .i64 (endQ a b g).c2) ∧ w'.cell? ⟨Q, 7, none⟩ = some (.int .i64 (endQ a b g).c3)) ((refine vcells (t := 149) ?_ ?_ <;> (repeat (first | with_reducible assumption | with_reducible refine Blk.alloc ?_ _ | with_reducible refine Blk.drew ?_ | with_reducible refine Blk.far ?_ ?_ _ | (dsimp only; omega))))) (fail)
            clear q0 q1 q2 q3 q4 q5 q6 q7 r0 r1 r2 r3 r4 r5 r6 r7 s0 s1 s2 s3 s4 s5 s6 s7 t0 t1 t2 t3 t4 t5 t6 t7
            go_wp2_with fail
            obtain ⟨R1, R2⟩ := both8 (HTE.out.2.2.2.2.2.2.2.1) (HTE.out.2.2.2.2.2.2.2.2.1) (by omega) (endP a b f) (endQ a b g)
            obtain ⟨q0, q1, q2, q3, q4, q5, q6, q7⟩ := cells8 R1
            obtain ⟨s0, s1, s2, s3, s4, s5, s6, s7⟩ := cells8 R2
            refine bodyPost_ret (v := .tuple #[(endP a b f).v, (endQ a b g).v, .bool true]) (by simp [results, Tryz.results88, q0, q1, q2, q3, q4, q5, q6, q7, s0, s1, s2, s3, s4, s5, s6, s7, go_sem]) rfl (.inl ⟨f, g, HLL.out, rfl, ?_⟩)
            exact (put8_ext (put8_ext HTE.out.2.2.2.2.2.2.2.2.2.2.2 (by omega) _) (by omega) _).drew
end Go.Proofs.YtplljnfjkkloeaaGreatDoor
