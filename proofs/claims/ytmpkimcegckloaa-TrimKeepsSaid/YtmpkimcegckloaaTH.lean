/- Proof text: the law TrimKeeps. By an AI agent. No condition beyond what each theorem states. -/
import Derived.Test.YtmpkimcegckloaaTG
set_option linter.unusedVariables false
set_option linter.unusedSimpArgs false
namespace Go.Proofs.Ytmpkimcegckloaa
open Go.RowKit
/-- Is an end inside all of these sides? -/
def allIn (l : List Sd) (a : Vx) : Bool := l.all fun s => decide (0 ≤ dist s a)
theorem allIn_iff (l : List Sd) (a : Vx) : allIn l a = true ↔ ∀ s ∈ l, 0 ≤ dist s a := by simp [allIn]
theorem allIn_take {l : List Sd} {j : Nat} {s : Sd} (hs : l[j]? = some s) (a : Vx) : allIn (l.take (j + 1)) a = (allIn (l.take j) a && decide (0 ≤ dist s a)) := by
  have hj := (List.getElem?_eq_some_iff.1 hs).1
  rw [List.take_succ_eq_append_getElem hj, (List.getElem?_eq_some_iff.1 hs).2]
  simp [allIn]
set_option maxHeartbeats 1000000 in
theorem keeps_out (l : List Sd) (a b : Vx) (A : Option Addr) (n cap : Nat) (w : World) (hr : Rd w 5 A n cap (srow l)) (hl : l.length = n) (h : ¬ MayT a b l) :
    Calls Try.prog 10 #[a.v, b.v, .slice A n cap] w fun e w' => e = .returned (.bool true) ∧ Ext w w' := by
  have HR := Lib.hid (hr.ext (((Ext.refl w).alloc (.cells a.row 27)).alloc (.cells b.row 27)))
  have HL := Lib.hid hl; clear hl hr
  have HM := Lib.hid h; clear h
  go_enter Try.func10, Try.ntmps10
  go_wp2_with fail
  refine (may_no l a b A n cap _ HR.out HL.out HM.out).mono ?_
  rintro e w1 ⟨rfl, hE⟩
  obtain ⟨x1, rfl⟩ := Later.mk' hE
  clear hE
  go_wp2_with fail
  refine (awake9 _).mono ?_
  rintro e w1 ⟨rfl, hE⟩
  obtain ⟨x4, rfl⟩ := Later.mk' hE
  clear hE
  go_wp2_with fail
  go_ret
  exact ⟨rfl, by (repeat (first | with_reducible exact Ext.refl _ | with_reducible assumption | with_reducible refine Ext.alloc ?_ _ | with_reducible refine Ext.drew ?_ | with_reducible refine Ext.drewN ?_ _ | with_reducible refine Ext.later ?_ _ | (with_reducible refine Ext.setCell ?_ _ ?hp; case hp => first | (simp; done) | (simp; omega) | omega)))⟩
theorem rdist_wide (s : Sd) (v : Vx) (w : World) (hs : s.Ok) (hv : v.Fit) : Calls Try.prog 20 #[.agg #[.int .i64 s.k, .int .i64 s.p0, .int .i64 s.p1, .int .i64 s.p2, .int .i64 s.p3], .agg #[.int .i64 v.x, .int .i64 v.y, .int .i64 v.z, .int .i64 v.w, .int .i64 v.c0, .int .i64 v.c1, .int .i64 v.c2, .int .i64 v.c3]] w fun e w' => e = .returned (.int .i64 (dist s v)) ∧ Ext w w' := rdist_any s v w hs hv
set_option maxRecDepth 100000 in
set_option maxHeartbeats 4000000 in
theorem keeps_in (l : List Sd) (a b : Vx) (A : Option Addr) (n cap : Nat) (w : World) (hr : Rd w 5 A n cap (srow l)) (hl : l.length = n) (h : MayT a b l) :
    Calls Try.prog 10 #[a.v, b.v, .slice A n cap] w fun e w' => e = .returned (.bool true) ∧ Ext w w' := by
  have hn := hr.nat_le
  have HR := Lib.hid hr; clear hr
  have HL := Lib.hid hl; clear hl
  have HM := Lib.hid h; clear h
  have HE0 := Lib.hid (((Ext.refl w).alloc (.cells a.row 27)).alloc (.cells b.row 27))
  go_enter Try.func10, Try.ntmps10
  go_wp2_with fail
  refine (may_yes l a b A n cap _ (HR.out.ext HE0.out) HL.out HM.out).mono ?_
  rintro e w1 ⟨rfl, hE⟩
  obtain ⟨x1, rfl⟩ := Later.mk' hE
  clear hE
  have HE1 := Lib.hid (HE0.out.later x1); clear HE0
  have HB1 := Lib.hid (boxes2 (a := a) (b := b) x1.ext)
  go_wp2_with fail
  go_loopw [7, 8, 9] (fun p q i wr => ∃ (j : Nat), j ≤ n ∧ p = .bool (allIn (l.take j) a) ∧ q = .bool (allIn (l.take j) b) ∧ i = .int .i64 j ∧ Ext x1.w wr) (fun _ _ i _ => n - (intOf i).toNat)
  case atStart => exact ⟨0, Nat.zero_le _, rfl, rfl, rfl, Ext.refl _⟩
  case round =>
    obtain ⟨j, hj, rfl, rfl, rfl, hE⟩ := hrel
    by_cases hlt : j < n
    · obtain ⟨s, hs⟩ : ∃ s, l[j]? = some s := ⟨_, List.getElem?_eq_getElem (by rw [HL.out]; exact hlt)⟩
      have hRr := (HR.out.ext HE1.out)
      obtain ⟨ab, ao, hA, hAb, hcell⟩ := HR.out.at_ (by omega)
      subst hA
      obtain ⟨c0, c1, c2, c3, c4⟩ := side_at (hRr.ext hE) hs
      clear hRr hcell
      have HSO : Hid s.Ok := Lib.hid (HM.out.2.2.2 s (List.mem_of_getElem? hs))
      have t1 := allIn_take hs a
      have t2 := allIn_take hs b
      have T1 := Lib.hid t1; clear t1
      have T2 := Lib.hid t2; clear t2
      have HS := Lib.hid hs; clear hs
      have HEr := Lib.hid hE; clear hE
      obtain ⟨a0, a1, a2, a3, a4, a5, a6, a7⟩ := cells8 (v := a) (HB1.out.1.ext HEr.out)
      obtain ⟨b0, b1, b2, b3, b4, b5, b6, b7⟩ := cells8 (v := b) (HB1.out.2.ext HEr.out)
      have hjn : (j : Int) < (n : Int) := by omega
      have hj0 : (0 : Int) ≤ (j : Int) := by omega
      have hp : ∃ P, allIn (l.take j) a = P := ⟨_, rfl⟩
      have hq : ∃ Q, allIn (l.take j) b = Q := ⟨_, rfl⟩
      obtain ⟨P, hP⟩ := hp
      obtain ⟨Q, hQ⟩ := hq
      have HT1 : Hid (allIn (l.take (j + 1)) a = (P && decide (0 ≤ dist s a))) := Lib.hid (by rw [T1.out, hP])
      have HT2 : Hid (allIn (l.take (j + 1)) b = (Q && decide (0 ≤ dist s b))) := Lib.hid (by rw [T2.out, hQ])
      rw [hP, hQ]
      clear hP hQ T1 T2
      have CA := Lib.hid (fun W => rdist_wide s a W HSO.out HM.out.2.1)
      have CB := Lib.hid (fun W => rdist_wide s b W HSO.out HM.out.2.2.1)
      go_upto_region 7 with fail
      go_cut [7] from 25 to 34 (fun p wx => p = .bool (P && decide (0 ≤ dist s a)) ∧ Ext wr wx)
      case first =>
        cases P
        all_goals
          refine wp_region_later (by kernel_rfl) (by kernel_rfl) ?_
          repeat (go_big_quiet_step ((go_at_call 20; with_reducible exact Calls.later _ (CA.out _))))
          refine wpQuiet_nil ?_
          intro y
          go_wp2_with fail
          go_meet
          exact ⟨by simp, y.ext⟩
      case rest =>
        clear c0 c1 c2 c3 c4 a0 a1 a2 a3 a4 a5 a6 a7 b0 b1 b2 b3 b4 b5 b6 b7 CA
        obtain ⟨rfl, hE2⟩ := hcut
        have HEs := Lib.hid (HEr.out.trans hE2); clear hE2 HEr
        obtain ⟨c0, c1, c2, c3, c4⟩ := side_at ((HR.out.ext HE1.out).ext HEs.out) HS.out
        obtain ⟨b0, b1, b2, b3, b4, b5, b6, b7⟩ := cells8 (v := b) (HB1.out.2.ext HEs.out)
        go_upto_region 8 with fail
        cases Q
        all_goals
          refine wp_region_later (by kernel_rfl) (by kernel_rfl) ?_
          repeat (go_big_quiet_step ((go_at_call 20; with_reducible exact Calls.later _ (CB.out _))))
          refine wpQuiet_nil ?_
          intro y
          have HEt := Lib.hid (HEs.out.trans y.ext)
          go_wp2_with fail
          go_roundw
          case rel => exact ⟨j + 1, by omega, by rw [HT1.out], by rw [HT2.out]; simp, by go_num, HEt.out⟩
          case measure => simp [intOf]; omega
    · obtain rfl : j = n := by omega
      have HP : ∃ P, Hid (allIn l a = P) := ⟨_, Lib.hid rfl⟩
      have HQ : ∃ Q, Hid (allIn l b = Q) := ⟨_, Lib.hid rfl⟩
      obtain ⟨P, HP⟩ := HP
      obtain ⟨Q, HQ⟩ := HQ
      have hP : allIn (l.take j) a = P := by rw [← HL.out, List.take_length]; exact HP.out
      have hQ : allIn (l.take j) b = Q := by rw [← HL.out, List.take_length]; exact HQ.out
      rw [hP, hQ]
      clear hP hQ
      have HEr := Lib.hid (HE1.out.trans hE)
      have HBr := Lib.hid (And.intro (HB1.out.1.ext hE) (HB1.out.2.ext hE))
      clear hE HB1 HE1
      obtain ⟨a0, a1, a2, a3, a4, a5, a6, a7⟩ := cells8 (v := a) HBr.out.1
      obtain ⟨b0, b1, b2, b3, b4, b5, b6, b7⟩ := cells8 (v := b) HBr.out.2
      go_wp2_with fail
      clear a0 a1 a2 a3 a4 a5 a6 a7 b0 b1 b2 b3 b4 b5 b6 b7
      refine (trim_val l a b A j cap _ (HR.out.ext HEr.out) HL.out HM.out.2.2.2 HM.out.2.1 HM.out.2.2.1).mono ?_
      rintro e w1 ⟨u, v, ok, HV, rfl, hE⟩
      obtain ⟨x2, rfl⟩ := Later.mk' hE
      clear hE
      have HE2 := Lib.hid (((HEr.out.later x2).alloc (.cells u.row 27)).alloc (.cells v.row 27))
      have HK := Lib.hid (trim_keeps HV.out)
      clear HV
      have z1 := (HBr.out.1.later x2).lt
      have z2 := (HBr.out.2.later x2).lt
      cases ok
      · obtain ⟨hno, rfl, rfl⟩ := HK.out.1 rfl
        have hPQ : ¬ (P = true ∧ Q = true) := fun ⟨h1, h2⟩ => hno ⟨(allIn_iff l a).1 (HP.out.trans h1), (allIn_iff l b).1 (HQ.out.trans h2)⟩
        clear hno HK HP HQ
        have hz : ∃ z, z = V0 := ⟨_, rfl⟩
        obtain ⟨z, HZ⟩ := hz
        have q1 : ∀ W, (Op.equalIn 10000 27 z.v (.agg #[.int .i64 0, .int .i64 0, .int .i64 0, .int .i64 0, .int .i64 0, .int .i64 0, .int .i64 0, .int .i64 0])).run Try.prog W = .ok true W := fun W => by
          have := eq_vx V0 V0 W
          rw [Vx.same_refl] at this
          rw [HZ]
          exact this
        rw [← HZ] at HE2 ⊢
        clear HZ
        have hpq : (P = false ∧ Q = false) ∨ (P = false ∧ Q = true) ∨ (P = true ∧ Q = false) := by
          cases P <;> cases Q <;> simp at hPQ ⊢
        clear hPQ
        rcases hpq with ⟨rfl, rfl⟩ | ⟨rfl, rfl⟩ | ⟨rfl, rfl⟩
        all_goals
          go_wp2_with fail
          refine (awake9 _).mono ?_
          rintro e w1 ⟨rfl, hE⟩
          obtain ⟨x4, rfl⟩ := Later.mk' hE
          clear hE
          obtain ⟨a0, a1, a2, a3, a4, a5, a6, a7⟩ := cells8 ((Blk.alloc (Blk.new x2.w 27 z.row) (.cells z.row 27)).later x4)
          obtain ⟨b0, b1, b2, b3, b4, b5, b6, b7⟩ := cells8 ((Blk.new' (x2.w.alloc (.cells z.row 27)) 27 z.row (g := x2.w.heap.size + 1) (by simp)).later x4)
          go_wp2_with fail
          go_ret
          exact ⟨rfl, by have := HE2.out; (repeat (first | with_reducible exact Ext.refl _ | with_reducible assumption | with_reducible refine Ext.alloc ?_ _ | with_reducible refine Ext.drew ?_ | with_reducible refine Ext.drewN ?_ _ | with_reducible refine Ext.later ?_ _ | (with_reducible refine Ext.setCell ?_ _ ?hp; case hp => first | (simp; done) | (simp; omega) | omega)))⟩
      · obtain ⟨hu, hv⟩ := HK.out.2 rfl
        have HKU : Hid (P = true → u = a) := Lib.hid fun h => hu ((allIn_iff l a).1 (HP.out.trans h))
        have HKV : Hid (Q = true → v = b) := Lib.hid fun h => hv ((allIn_iff l b).1 (HQ.out.trans h))
        clear hu hv HK HP HQ
        have hp : P = false ∨ (P = true ∧ ∀ W, (Op.equalIn 10000 27 u.v a.v).run Try.prog W = .ok true W) := by
          cases P
          · exact .inl rfl
          · refine .inr ⟨rfl, fun W => ?_⟩
            rw [HKU.out rfl]
            have := eq_vx a a W
            rw [Vx.same_refl] at this
            exact this
        have hq : Q = false ∨ (Q = true ∧ ∀ W, (Op.equalIn 10000 27 v.v b.v).run Try.prog W = .ok true W) := by
          cases Q
          · exact .inl rfl
          · refine .inr ⟨rfl, fun W => ?_⟩
            rw [HKV.out rfl]
            have := eq_vx b b W
            rw [Vx.same_refl] at this
            exact this
        clear HKU HKV
        rcases hp with rfl | ⟨rfl, q1⟩ <;> rcases hq with rfl | ⟨rfl, q2⟩
        all_goals
          go_wp2_with fail
          refine (awake9 _).mono ?_
          rintro e w1 ⟨rfl, hE⟩
          obtain ⟨x4, rfl⟩ := Later.mk' hE
          clear hE
          obtain ⟨a0, a1, a2, a3, a4, a5, a6, a7⟩ := cells8 ((Blk.alloc (Blk.new x2.w 27 u.row) (.cells v.row 27)).later x4)
          obtain ⟨b0, b1, b2, b3, b4, b5, b6, b7⟩ := cells8 ((Blk.new' (x2.w.alloc (.cells u.row 27)) 27 v.row (g := x2.w.heap.size + 1) (by simp)).later x4)
          obtain ⟨c0, c1, c2, c3, c4, c5, c6, c7⟩ := cells8 ((((HBr.out.1.later x2).alloc (.cells u.row 27)).alloc (.cells v.row 27)).later x4)
          obtain ⟨d0, d1, d2, d3, d4, d5, d6, d7⟩ := cells8 ((((HBr.out.2.later x2).alloc (.cells u.row 27)).alloc (.cells v.row 27)).later x4)
          go_wp2_with fail
          go_ret
          exact ⟨rfl, by have := HE2.out; (repeat (first | with_reducible exact Ext.refl _ | with_reducible assumption | with_reducible refine Ext.alloc ?_ _ | with_reducible refine Ext.drew ?_ | with_reducible refine Ext.drewN ?_ _ | with_reducible refine Ext.later ?_ _ | (with_reducible refine Ext.setCell ?_ _ ?hp; case hp => first | (simp; done) | (simp; omega) | omega)))⟩
theorem law_keeps (l : List Sd) (a b : Vx) (A : Option Addr) (n cap : Nat) (w : World) (hr : Rd w 5 A n cap (srow l)) (hl : l.length = n) :
    Calls Try.prog 10 #[a.v, b.v, .slice A n cap] w fun e w' => e = .returned (.bool true) ∧ Ext w w' := by
  by_cases h : MayT a b l
  · exact keeps_in l a b A n cap w hr hl h
  · exact keeps_out l a b A n cap w hr hl h
end Go.Proofs.Ytmpkimcegckloaa
