/- Proof text: the law TrimOrder. By an AI agent. No condition beyond what each theorem states. -/
import Derived.Test.YtmpkimcegckloaaTF
set_option linter.unusedVariables false
set_option linter.unusedSimpArgs false
namespace Go.Proofs.Ytmpkimcegckloaa
open Go.RowKit
/-- From behind, each side twice. -/
def dbl (l : List Sd) : List Sd := l.reverse.flatMap fun s => [s, s]
theorem dbl_cons (s : Sd) (l : List Sd) : dbl (s :: l) = dbl l ++ [s, s] := by simp [dbl]
theorem dbl_len (l : List Sd) : (dbl l).length = 2 * l.length := by
  induction l with
  | nil => rfl
  | cons s l ih => rw [dbl_cons, List.length_append, ih]; simp; omega
theorem dbl_mem (l : List Sd) : ∀ s, s ∈ l ↔ s ∈ dbl l := by
  intro s
  simp [dbl]
theorem drop_cons {l : List Sd} {k : Nat} {s : Sd} (h : l[k]? = some s) : l.drop k = s :: l.drop (k + 1) := by
  have hk := (List.getElem?_eq_some_iff.1 h).1
  rw [List.drop_eq_getElem_cons hk, (List.getElem?_eq_some_iff.1 h).2]
set_option maxHeartbeats 1000000 in
theorem order_out (l : List Sd) (a b : Vx) (A : Option Addr) (n cap : Nat) (w : World) (hr : Rd w 5 A n cap (srow l)) (hl : l.length = n) (h : 4 < n ∨ (n ≤ 4 ∧ ¬ MayT a b l)) :
    Calls Try.prog 9 #[a.v, b.v, .slice A n cap] w fun e w' => e = .returned (.bool true) ∧ Ext w w' := by
  have HR := Lib.hid (hr.ext (((Ext.refl w).alloc (.cells a.row 27)).alloc (.cells b.row 27)))
  have HL := Lib.hid hl
  rcases h with h | ⟨h4, h⟩
  · have d4 : decide ((n : Int) > 4) = true := by simp; omega
    clear hl hr h
    go_enter Try.func9, Try.ntmps9
    go_wp2_with fail
    refine (awake9 _).mono ?_
    rintro e w1 ⟨rfl, hE⟩
    obtain ⟨x4, rfl⟩ := Later.mk' hE
    clear hE
    go_wp2_with fail
    go_ret
    exact ⟨rfl, by (repeat (first | with_reducible exact Ext.refl _ | with_reducible assumption | with_reducible refine Ext.alloc ?_ _ | with_reducible refine Ext.drew ?_ | with_reducible refine Ext.drewN ?_ _ | with_reducible refine Ext.later ?_ _ | (with_reducible refine Ext.setCell ?_ _ ?hp; case hp => first | (simp; done) | (simp; omega) | omega)))⟩
  · have d4 : decide ((n : Int) > 4) = false := by simp; omega
    have HM := Lib.hid h; clear h
    clear hl hr h4
    go_enter Try.func9, Try.ntmps9
    go_wp2_with fail
    refine (may_no l a b A n cap _ HR.out HL.out HM.out).mono ?_
    rintro e w1 ⟨rfl, hE⟩
    obtain ⟨x1, rfl⟩ := Later.mk' hE
    clear hE
    go_wp2_with fail
    refine (awake9 _).mono ?_
    rintro e w1 ⟨rfl, hE⟩
    obtain ⟨x4, rfl⟩ := Later.mk' hE
    clear hE
    go_wp2_with fail
    go_ret
    exact ⟨rfl, by (repeat (first | with_reducible exact Ext.refl _ | with_reducible assumption | with_reducible refine Ext.alloc ?_ _ | with_reducible refine Ext.drew ?_ | with_reducible refine Ext.drewN ?_ _ | with_reducible refine Ext.later ?_ _ | (with_reducible refine Ext.setCell ?_ _ ?hp; case hp => first | (simp; done) | (simp; omega) | omega)))⟩
theorem grown_cell {wr w4 : World} {o : Obj} {row : Option Nat} (hg : ((wr.alloc o).drew).grownBy w4 row) {ab off : Nat} {u : Value} (hab : ab < wr.heap.size) (hne : some ab ≠ row) (c : wr.cell? ⟨ab, off, none⟩ = some u) : w4.cell? ⟨ab, off, none⟩ = some u := by
  have h1 := hg.block ab (by simp; omega) hne
  have h2 : w4.heap[ab]? = wr.heap[ab]? := h1.trans (Below.heap_alloc wr o ab hab)
  exact (World.cell?_of_block (w := wr) (a := ⟨ab, off, none⟩) h2).trans c
set_option maxRecDepth 100000 in
set_option maxHeartbeats 4000000 in
theorem order_in (l : List Sd) (a b : Vx) (A : Option Addr) (n cap : Nat) (w : World) (hr : Rd w 5 A n cap (srow l)) (hl : l.length = n) (h4 : n ≤ 4) (h : MayT a b l) :
    Calls Try.prog 9 #[a.v, b.v, .slice A n cap] w fun e w' => e = .returned (.bool true) ∧ Ext w w' := by
  have HR := Lib.hid hr; clear hr
  have HL := Lib.hid hl; clear hl
  have HM := Lib.hid h; clear h
  have d4 : decide ((n : Int) > 4) = false := by simp; omega
  have HE0 := Lib.hid (((Ext.refl w).alloc (.cells a.row 27)).alloc (.cells b.row 27))
  go_enter Try.func9, Try.ntmps9
  go_wp2_with fail
  refine (may_yes l a b A n cap _ (HR.out.ext HE0.out) HL.out HM.out).mono ?_
  rintro e w1 ⟨rfl, hE⟩
  obtain ⟨x1, rfl⟩ := Later.mk' hE
  clear hE
  have HE1 := Lib.hid (HE0.out.later x1); clear HE0
  have HB1 := Lib.hid (boxes2 (a := a) (b := b) x1.ext)
  have hz : w.heap.size + 1 < x1.w.heap.size := HB1.out.2.lt
  go_wp2_with fail
  go_loopw [7, 8] (fun vv i wr => ∃ (j : Nat) (v : Value), j ≤ n ∧ v = vv ∧ i = .int .i64 ((j : Int) - 1) ∧ wr.ownsRow x1.w.heap.size 24 5 v (2 * (n - j)) (srow (dbl (l.drop j))) ∧ Ext x1.w wr) (fun _ i _ => (intOf i + 1).toNat)
  case atStart => exact ⟨n, _, Nat.le_refl _, rfl, rfl, by rw [List.drop_of_length_le (by rw [HL.out]; exact Nat.le_refl _)]; exact ⟨by simp [dbl, srow], .inl ⟨rfl, by simp [dbl, srow]⟩⟩, Ext.refl _⟩
  case round =>
    obtain ⟨j, v, hj, rfl, rfl, ho, hE⟩ := hrel
    rcases j with _ | k
    · have ho' : wr.ownsRow x1.w.heap.size 24 5 v (2 * n) (srow (dbl l)) := by simpa using ho
      obtain ⟨mv, mc, rfl, hm⟩ := ownsRow_rd ho'
      have HMR := Lib.hid hm; clear hm
      clear ho ho'
      have HEr := Lib.hid (HE1.out.trans hE)
      have HBr := Lib.hid (And.intro (HB1.out.1.ext hE) (HB1.out.2.ext hE))
      clear hE HB1
      obtain ⟨a0, a1, a2, a3, a4, a5, a6, a7⟩ := cells8 (v := a) HBr.out.1
      obtain ⟨b0, b1, b2, b3, b4, b5, b6, b7⟩ := cells8 (v := b) HBr.out.2
      go_wp2_with fail
      clear a0 a1 a2 a3 a4 a5 a6 a7 b0 b1 b2 b3 b4 b5 b6 b7
      refine (trim_val l a b A n cap _ (HR.out.ext HEr.out) HL.out HM.out.2.2.2 HM.out.2.1 HM.out.2.2.1).mono ?_
      rintro e w1 ⟨u, v, ok, HV, rfl, hE⟩
      obtain ⟨x2, rfl⟩ := Later.mk' hE
      clear hE
      have HE2 := Lib.hid (((HEr.out.later x2).alloc (.cells u.row 27)).alloc (.cells v.row 27))
      have HE3 := Lib.hid ((((Ext.refl wr).later x2).alloc (.cells u.row 27)).alloc (.cells v.row 27))
      obtain ⟨a0, a1, a2, a3, a4, a5, a6, a7⟩ := cells8 (v := a) (HBr.out.1.later x2)
      obtain ⟨b0, b1, b2, b3, b4, b5, b6, b7⟩ := cells8 (v := b) (HBr.out.2.later x2)
      have z1 := (HBr.out.1.later x2).lt
      have z2 := (HBr.out.2.later x2).lt
      go_wp2_with fail
      clear a0 a1 a2 a3 a4 a5 a6 a7 b0 b1 b2 b3 b4 b5 b6 b7
      refine (trim_val (dbl l) a b mv (2 * n) mc _ (HMR.out.ext HE3.out) (by rw [dbl_len, HL.out]) (fun s hs => HM.out.2.2.2 s ((dbl_mem l s).2 hs)) HM.out.2.1 HM.out.2.2.1).mono ?_
      rintro e w1 ⟨u', v', ok', HV', rfl, hE⟩
      obtain ⟨x3, rfl⟩ := Later.mk' hE
      clear hE
      obtain ⟨e1, e2, e3⟩ := trim_order (dbl_mem l) HV.out HV'.out
      subst e1; subst e2; subst e3
      clear HV HV'
      have HU := Lib.hid ((Blk.alloc (Blk.new x2.w 27 u'.row) (.cells v'.row 27)).later x3)
      have HV := Lib.hid ((Blk.new' (x2.w.alloc (.cells u'.row 27)) 27 v'.row (g := x2.w.heap.size + 1) (by simp)).later x3)
      have q1 := fun W => eq_vx v' v' W
      have q2 := fun W => eq_vx u' u' W
      rw [Vx.same_refl] at q1 q2
      have q3 : (ok' == ok') = true := by simp
      obtain ⟨a0, a1, a2, a3, a4, a5, a6, a7⟩ := cells8 HU.out
      obtain ⟨b0, b1, b2, b3, b4, b5, b6, b7⟩ := cells8 HV.out
      go_wp2_with fail
      clear a0 a1 a2 a3 a4 a5 a6 a7 b0 b1 b2 b3 b4 b5 b6 b7
      refine (awake9 _).mono ?_
      rintro e w1 ⟨rfl, hE⟩
      obtain ⟨x4, rfl⟩ := Later.mk' hE
      clear hE
      obtain ⟨a0, a1, a2, a3, a4, a5, a6, a7⟩ := cells8 (((HU.out.alloc (.cells u'.row 27)).alloc (.cells v'.row 27)).later x4)
      obtain ⟨b0, b1, b2, b3, b4, b5, b6, b7⟩ := cells8 (((HV.out.alloc (.cells u'.row 27)).alloc (.cells v'.row 27)).later x4)
      obtain ⟨c0, c1, c2, c3, c4, c5, c6, c7⟩ := cells8 ((Blk.alloc (Blk.new x3.w 27 u'.row) (.cells v'.row 27)).later x4)
      obtain ⟨d0, d1, d2, d3, d4, d5, d6, d7⟩ := cells8 ((Blk.new' (x3.w.alloc (.cells u'.row 27)) 27 v'.row (g := x3.w.heap.size + 1) (by simp)).later x4)
      go_wp2_with fail
      go_ret
      exact ⟨rfl, by have := HE2.out; (repeat (first | with_reducible exact Ext.refl _ | with_reducible assumption | with_reducible refine Ext.alloc ?_ _ | with_reducible refine Ext.drew ?_ | with_reducible refine Ext.drewN ?_ _ | with_reducible refine Ext.later ?_ _ | (with_reducible refine Ext.setCell ?_ _ ?hp; case hp => first | (simp; done) | (simp; omega) | omega)))⟩
    · obtain ⟨s, hs⟩ : ∃ s, l[k]? = some s := ⟨_, List.getElem?_eq_getElem (by rw [HL.out]; exact hj)⟩
      have hRr := (HR.out.ext HE1.out)
      obtain ⟨ab, ao, hA, hAb, hcell⟩ := HR.out.at_ (by omega)
      subst hA
      obtain ⟨c0, c1, c2, c3, c4⟩ := side_at (hRr.ext hE) hs
      clear hRr hcell
      have HS := Lib.hid hs; clear hs
      have hd := drop_cons HS.out
      have HD := Lib.hid hd; clear hd
      obtain ⟨av, capv, rfl, _⟩ := ownsRow_rd ho
      have HO := Lib.hid ho; clear ho
      have HEr := Lib.hid hE; clear hE
      have hkn : (k : Int) < (n : Int) := by omega
      have hk0 : (0 : Int) ≤ (k : Int) := by omega
      have hne : some ab ≠ (Value.slice av (2 * (n - (k + 1))) capv).ownBlock := fun hh => by
        have := (HO.out.lt ab hh.symm).1
        omega
      have hab : ab < wr.heap.size := by have := HEr.out.size; omega
      go_upto_region 7 with fail
      go_region_held3 (fun w' => w'.cell? ⟨ab, ao + k * 5, none⟩ = some (.int .i64 s.k) ∧ w'.cell? ⟨ab, ao + k * 5 + 1, none⟩ = some (.int .i64 s.p0) ∧ w'.cell? ⟨ab, ao + k * 5 + 2, none⟩ = some (.int .i64 s.p1) ∧ w'.cell? ⟨ab, ao + k * 5 + 3, none⟩ = some (.int .i64 s.p2) ∧ w'.cell? ⟨ab, ao + k * 5 + 4, none⟩ = some (.int .i64 s.p3))
        (first | exact ⟨c0, c1, c2, c3, c4⟩ | exact ⟨e0, e1, e2, e3, e4⟩ | go_keep)
        ((first
          | (refine step_append_rd rfl (.tmp 33) (.tmp 42) 33 rfl x1.w.heap.size 24 _ 5 40 Try.underlying33 info_side rfl (by decide) (.slice av (2 * (n - (k + 1))) capv) (2 * (n - (k + 1))) (srow (dbl (l.drop (k + 1)))) rfl ?_ (some ⟨wr.heap.size, 0, none⟩) 2 2 (srow [s, s]) rfl ?_ (srow_one _) ?_ (by decide) ?_ ?_; exact (HO.out.alloc _).drew; exact (Rd_new wr (srow [s, s]) 24 5 2 rfl (by unfold maxLen; omega)).ext ((Ext.refl _).drew); omega; exact Nat.le_trans HEr.out.size (by simp); intro v' w4 ho4 hg4; have e0 := grown_cell hg4 hab hne c0; have e1 := grown_cell hg4 hab hne c1; have e2 := grown_cell hg4 hab hne c2; have e3 := grown_cell hg4 hab hne c3; have e4 := grown_cell hg4 hab hne c4)))
      have HE4 := Lib.hid ((((HEr.out.alloc (.cells (srow [s, s]).toArray 24)).drew).grown hg4 (fun g hg => (HO.out.lt g hg).1)))
      have hm : srow (dbl (l.drop (k + 1))) ++ srow [s, s] = srow (dbl (l.drop k)) := by rw [HD.out, dbl_cons, srow_append]
      rw [hm, show 2 * (n - (k + 1)) + 2 = 2 * (n - k) by omega] at ho4
      clear hm hg4
      go_wp2_with fail
      go_roundw
      case rel => first | exact ⟨k, v', by omega, rfl, by first | rfl | go_num, ho4, HE4.out⟩ | ((repeat apply Exists.intro); exact ⟨⟨k, v', by omega, rfl, by first | rfl | go_num, ho4, HE4.out⟩, rfl⟩)
      case measure => simp [intOf]
theorem law_order (l : List Sd) (a b : Vx) (A : Option Addr) (n cap : Nat) (w : World) (hr : Rd w 5 A n cap (srow l)) (hl : l.length = n) :
    Calls Try.prog 9 #[a.v, b.v, .slice A n cap] w fun e w' => e = .returned (.bool true) ∧ Ext w w' := by
  by_cases h4 : n ≤ 4
  · by_cases h : MayT a b l
    · exact order_in l a b A n cap w hr hl h4 h
    · exact order_out l a b A n cap w hr hl (.inr ⟨h4, h⟩)
  · exact order_out l a b A n cap w hr hl (.inl (by omega))
end Go.Proofs.Ytmpkimcegckloaa
