/- Proof text: the law WholeOnce. By an AI agent. No condition beyond what each theorem states. -/
import Derived.Test.YtplljnfjkkloeaaGreatDoorMB
import Derived.Test.YtplljnfjkkloeaaGreatDoorLN
import Derived.Deep.Slices
set_option linter.unusedVariables false
set_option linter.unusedSimpArgs false
namespace Go.Proofs.YtplljnfjkkloeaaGreatDoor
attribute [local go_sem] Go.Oper.semAt_some
open Go.RowKit
@[reducible] def pc16 (p : Int × Int) : List Value := [.int .i16 p.1, .int .i16 p.2]
theorem p16_at {w : World} {b off n cap j : Nat} {L : List (Int × Int)} {q : Int × Int} (h : Rd w 2 (some ⟨b, off, none⟩) n cap (L.flatMap pc16)) (hs : L[j]? = some q) :
    w.cell? ⟨b, off + j * 2, none⟩ = some (.int .i16 q.1) ∧ w.cell? ⟨b, off + j * 2 + 1, none⟩ = some (.int .i16 q.2) := by
  have g := fun i hi => frow_get (f := pc16) (K := 2) (fun _ => rfl) hs i hi
  refine ⟨h.get rfl (j := j * 2) (by have := g 0 (by omega); rw [Nat.add_zero] at this; exact this), ?_⟩
  rw [Nat.add_assoc]; exact h.get rfl (g 1 (by omega))
def ptK (T : Int) (a : Int × Int) (L : List (Int × Int)) (k : Nat) : Int × Int := (a :: onePts T a (L.take k)).getLastD a
theorem ptK_mem (T : Int) (a : Int × Int) (L : List (Int × Int)) (k : Nat) : ptK T a L k ∈ a :: onePts T a (L.take k) := by
  unfold ptK
  rw [← List.getLast_eq_getLastD (a := a) (h := by simp)]
  exact List.getLast_mem _
theorem ptK_near (T : Int) (a : Int × Int) (L : List (Int × Int)) (k : Nat) (h1 : -5000 ≤ a.1 ∧ a.1 ≤ 5000) (h2 : -5000 ≤ a.2 ∧ a.2 ≤ 5000) (hk : k ≤ 20) : (-50000 ≤ (ptK T a L k).1 ∧ (ptK T a L k).1 ≤ 50000) ∧ (-50000 ≤ (ptK T a L k).2 ∧ (ptK T a L k).2 ≤ 50000) := by
  have := onePts_near T (L.take k) a 5000 h1 h2 _ (ptK_mem T a L k)
  have hl : (L.take k).length ≤ 20 := by rw [List.length_take]; omega
  omega
theorem onePts_next {T : Int} {a q : Int × Int} {L : List (Int × Int)} {k : Nat} (h : L[k]? = some q) : onePts T a (L.take (k + 1)) = onePts T a (L.take k) ++ [oneStep T (ptK T a L k) q] := by
  obtain ⟨hk, rfl⟩ := List.getElem?_eq_some_iff.1 h
  rw [List.take_succ_eq_append_getElem hk, onePts_snoc]
  rfl
theorem ptK_next {T : Int} {a q : Int × Int} {L : List (Int × Int)} {k : Nat} (h : L[k]? = some q) : ptK T a L (k + 1) = oneStep T (ptK T a L k) q := by
  rw [ptK, onePts_next h, ← List.cons_append, List.getLastD_eq_getLast?, List.getLast?_concat]
  rfl
theorem info_pt : (Tryz.prog.info? 79).map (fun i => (i.zero, i.size, i.bytes)) = some (some (.agg #[.int .i64 0, .int .i64 0]), 2, 16) := by kernel_rfl
structure On (w wr : World) (P : Nat) (a : Int × Int) (T : Int) (L : List (Int × Int)) (k : Nat) (v : Value) : Prop where
  p : Blk wr P 79 #[.int .i64 (ptK T a L k).1, .int .i64 (ptK T a L k).2]
  own : wr.ownsRow (w.heap.size + 1) 79 2 v (k + 1) ((a :: onePts T a (L.take k)).flatMap ptc)
  e : Ext w wr
set_option maxRecDepth 100000 in
set_option maxHeartbeats 16000000 in
theorem once_any (ax ay t : Int) (L : List (Int × Int)) (A : Option Addr) (n cap : Nat) (w : World) (hW : Wd w) (hr : Rd w 2 A n cap (L.flatMap pc16)) (hL : L.length = n) (ht : 0 ≤ t ∧ t < 256) (h16 : ∀ p ∈ L, (-32768 ≤ p.1 ∧ p.1 < 32768) ∧ (-32768 ≤ p.2 ∧ p.2 < 32768)) :
    Calls Tryz.prog 7 #[.agg #[.int .i64 ax, .int .i64 ay], .slice A n cap, .int .u8 t] w fun e w' => e = .returned (.bool true) ∧ Ext w w' := by
  have HW := Lib.hid hW
  have HR := Lib.hid hr
  have HLN := Lib.hid hL
  have HT := Lib.hid ht
  have H16 := Lib.hid h16
  clear hW hr hL ht h16
  have HAW := Lib.hid awake_any
  go_enter Tryz.func7, Tryz.ntmps7
  by_cases hn : 20 < n
  · have b0 : decide ((n : Int) > 20) = true := by simp; omega
    go_wp2_with fail
    refine (HAW.out _ (HW.out.ext (by (repeat (first | with_reducible exact Ext.refl _ | with_reducible assumption | with_reducible refine Ext.alloc ?_ _ | with_reducible refine Ext.drew ?_ | with_reducible refine Ext.drewN ?_ _ | with_reducible refine Ext.later ?_ _ | (with_reducible refine Ext.setCell ?_ _ ?hp; case hp => first | (simp; done) | (simp; omega) | omega)))))).mono ?_
    rintro e w1 ⟨rfl, hE⟩
    obtain ⟨y, rfl⟩ := Later.mk' hE
    clear hE
    go_wp2_with fail
    go_ret
    exact ⟨rfl, by (repeat (first | with_reducible exact Ext.refl _ | with_reducible assumption | with_reducible refine Ext.alloc ?_ _ | with_reducible refine Ext.drew ?_ | with_reducible refine Ext.drewN ?_ _ | with_reducible refine Ext.later ?_ _ | (with_reducible refine Ext.setCell ?_ _ ?hp; case hp => first | (simp; done) | (simp; omega) | omega)))⟩
  have b0 : decide ((n : Int) > 20) = false := by simp; omega
  by_cases hin : -5000 ≤ ax ∧ ax ≤ 5000 ∧ -5000 ≤ ay ∧ ay ≤ 5000
  · have b1 : decide (ax < -5000) = false := by simp; omega
    have b2 : decide (ax > 5000) = false := by simp; omega
    have b3 : decide (ay < -5000) = false := by simp; omega
    have b4 : decide (ay > 5000) = false := by simp; omega
    have HIN := Lib.hid hin
    clear hin
    go_wp2_with fail
    have H0 : Hid (On w ((w.alloc (.cells #[.int .i64 ax, .int .i64 ay] 79)).alloc (.cells #[.int .i64 ax, .int .i64 ay] 79)) w.heap.size (ax, ay) (t % 4) L 0 (.slice (some ⟨w.heap.size + 1, 0, none⟩) 1 1)) := Lib.hid ⟨(Blk.new _ _ _).alloc _, by
      have := World.ownsRow_lit (e := 79) (base := w.heap.size + 1) (size := 2) (w.alloc (.cells #[.int .i64 ax, .int .i64 ay] 79)) #[.int .i64 ax, .int .i64 ay] 1 (by simp) (by unfold maxLen; omega) rfl
      rw [World.size_alloc] at this
      exact this, by (repeat (first | with_reducible exact Ext.refl _ | with_reducible assumption | with_reducible refine Ext.alloc ?_ _ | with_reducible refine Ext.drew ?_ | with_reducible refine Ext.drewN ?_ _ | with_reducible refine Ext.later ?_ _ | (with_reducible refine Ext.setCell ?_ _ ?hp; case hp => first | (simp; done) | (simp; omega) | omega)))⟩
    go_loopw [7, 8, 9, 10] (fun o i _ _ wr => ∃ (k : Nat) (v : Value), k ≤ n ∧ v = o ∧ i = .int .i64 k ∧ Hid (On w wr w.heap.size (ax, ay) (t % 4) L k v)) (fun _ i _ _ _ => n - (intOf i).toNat)
    case atStart => exact ⟨0, _, Nat.zero_le _, rfl, rfl, H0⟩
    case round =>
      clear H0
      obtain ⟨k, v, hk, rfl, rfl, HC⟩ := hrel
      obtain ⟨W3, rfl⟩ : ∃ W3 : World, W3 = wr := ⟨_, rfl⟩
      by_cases hlt : k < n
      · obtain ⟨q, hq⟩ : ∃ q, L[k]? = some q := ⟨_, List.getElem?_eq_getElem (by rw [HLN.out]; exact hlt)⟩
        obtain ⟨b, off, ha, -, -⟩ := HR.out.at_ (by omega)
        subst ha
        obtain ⟨c0, c1⟩ := p16_at (HR.out.ext HC.out.e) hq
        obtain ⟨p0, p1⟩ := HC.out.p.c2
        have f0 := HC.out.p.frozen 0
        have f1 := HC.out.p.frozen 1
        have hkN : (k : Int) + 1 ≤ 100 := by omega
        have hk0 : (0 : Int) ≤ k := by omega
        have hkn : (k : Int) < n := by omega
        obtain ⟨⟨a0, a1⟩, ⟨a2, a3⟩⟩ := H16.out q (List.mem_of_getElem? hq)
        have hW := oneW_in q
        have hH := oneH_in q
        have e1 : wrap64 q.1 = q.1 := wrap64_of (by omega) (by omega)
        have e2 : wrap64 q.2 = q.2 := wrap64_of (by omega) (by omega)
        have e3 : wrap64 (1 + max (q.1.tmod 2000) 0) = oneW q := wrap64_of (by have : oneW q = 1 + max (q.1.tmod 2000) 0 := rfl; omega) (by have : oneW q = 1 + max (q.1.tmod 2000) 0 := rfl; omega)
        have e4 : q.2.tmod (oneW q) = oneH q := rfl
        have hz : ¬ oneW q = 0 := by omega
        have HQ := Lib.hid hq
        have HWH := Lib.hid (And.intro hW hH)
        clear hq hW hH a0 a1 a2 a3
        have HK := Lib.hid hk
        have hT4 : t.tmod 4 = t % 4 := Int.tmod_eq_emod_of_nonneg HT.out.1
        have hT0 : 0 ≤ t % 4 ∧ t % 4 < 4 := by omega
        obtain ⟨⟨x0, x1⟩, ⟨y0, y1⟩⟩ := ptK_near (t % 4) (ax, ay) L k ⟨HIN.out.1, HIN.out.2.1⟩ ⟨HIN.out.2.2.1, HIN.out.2.2.2⟩ (by omega)
        obtain ⟨nx, hnx⟩ : ∃ z, z = (oneStep (t % 4) (ptK (t % 4) (ax, ay) L k) q).1 := ⟨_, rfl⟩
        obtain ⟨ny, hny⟩ : ∃ z, z = (oneStep (t % 4) (ptK (t % 4) (ax, ay) L k) q).2 := ⟨_, rfl⟩
        have HNX := Lib.hid (And.intro hnx hny)
        unfold oneStep at hnx hny
        obtain ⟨⟨w0, w1⟩, ⟨h0, h1⟩⟩ := HWH.out
        generalize hT : t % 4 = T at *
        generalize hpk : ptK T (ax, ay) L k = pk_ at *
        have HPK := Lib.hid hpk
        clear hpk
        generalize oneW q = Wd_ at *
        generalize oneH q = H_ at *
        have g1 : wrap64 (-Wd_) = -Wd_ := wrap64_of (by omega) (by omega)
        have g2 : wrap64 (0 - Wd_) = -Wd_ := by rw [Int.zero_sub]; exact g1
        have hT1 := HT
        have HTT := Lib.hid hT
        clear hT
        rcases (by omega : T = 0 ∨ T = 1 ∨ T = 2 ∨ T = 3) with hTc | hTc | hTc | hTc
        all_goals
          have e5 := hT4.trans hTc
          rw [hTc] at hnx hny
          clear hT4
          have HTC := Lib.hid hTc
          clear hTc
          simp only [if_pos, if_neg, reduceIte, Int.reduceEq] at hnx hny
          have s1 : wrap64 (pk_.1 + Wd_) = pk_.1 + Wd_ := wrap64_of (by omega) (by omega)
          have s2 : wrap64 (pk_.2 + H_) = pk_.2 + H_ := wrap64_of (by omega) (by omega)
          have s3 : wrap64 (pk_.1 + -Wd_) = pk_.1 - Wd_ := wrap64_of (n := pk_.1 + -Wd_) (by omega) (by omega)
          have s4 : wrap64 (pk_.1 + H_) = pk_.1 + H_ := wrap64_of (by omega) (by omega)
          have s5 : wrap64 (pk_.2 + Wd_) = pk_.2 + Wd_ := wrap64_of (by omega) (by omega)
          have s6 : wrap64 (pk_.2 + -Wd_) = pk_.2 - Wd_ := wrap64_of (n := pk_.2 + -Wd_) (by omega) (by omega)
          have s7 : wrap64 (pk_.1 - Wd_) = pk_.1 - Wd_ := wrap64_of (by omega) (by omega)
          have s8 : wrap64 (pk_.2 - Wd_) = pk_.2 - Wd_ := wrap64_of (by omega) (by omega)
          clear hT0 HIN
          go_upto_region 17 with fail
          try rw [Int.sub_eq_add_neg] at hnx
          try rw [Int.sub_eq_add_neg] at hny
          rw [← hnx, ← hny]
          clear s1 s2 s3 s4 s5 s6 s7 s8 g1 g2 hnx hny
          have HP4 : Hid (Blk ((W3.setCell ⟨w.heap.size, 0, none⟩ (.int .i64 nx)).setCell ⟨w.heap.size, 1, none⟩ (.int .i64 ny)) w.heap.size 79 #[.int .i64 nx, .int .i64 ny]) := Lib.hid (Blk.cast ((HC.out.p.set_ 0 (.int .i64 nx)).set_ 1 (.int .i64 ny)) (by simp))
          have kk : Kp (· ≠ w.heap.size) W3 ((W3.setCell ⟨w.heap.size, 0, none⟩ (.int .i64 nx)).setCell ⟨w.heap.size, 1, none⟩ (.int .i64 ny)) := ((Kp.refl _ _).setCell (p := ⟨w.heap.size, 0, none⟩) _ (fun h => h rfl)).setCell (p := ⟨w.heap.size, 1, none⟩) _ (fun h => h rfl)
          have HO4 := Lib.hid (own_kp HC.out.own kk (fun g hg => by have := own_ge HC.out.own g hg; omega))
          have HE4 := Lib.hid (kk.ext HC.out.e (fun k hk => by omega))
          clear kk p0 p1 f0 f1 c0 c1
          generalize ((W3.setCell ⟨w.heap.size, 0, none⟩ (.int .i64 nx)).setCell ⟨w.heap.size, 1, none⟩ (.int .i64 ny)) = W4 at *
          obtain ⟨p0, p1⟩ := HP4.out.c2
          have HNw := Lib.hid (news_at W4 [.int .i64 nx, .int .i64 ny] 79)
          go_wp2_with (refine wpList_append_src rfl (.tmp 87) (.tmp 89) 71 rfl (w.heap.size + 1) 79 _ 2 16 Tryz.underlying71 info_pt rfl (by decide) v (k + 1) _ rfl (ownsRow_ext HO4.out (by (repeat (first | with_reducible exact Ext.refl _ | with_reducible assumption | with_reducible refine Ext.alloc ?_ _ | with_reducible refine Ext.drew ?_ | with_reducible refine Ext.drewN ?_ _ | with_reducible refine Ext.later ?_ _ | (with_reducible refine Ext.setCell ?_ _ ?hp; case hp => first | (simp; done) | (simp; omega) | omega))))) ⟨W4.heap.size, 0, none⟩ 1 1 [.int .i64 nx, .int .i64 ny] rfl rfl ?c1 ?c2 ?c3 (by decide) ?c5 ?_)
          case c1 => simpa [Addr.add] using HNw.out
          case c2 => intro u hu; simp at hu; rcases hu with rfl | rfl <;> rfl
          case c3 => omega
          case c5 => have := HP4.out.lt; simp; omega
          intro v' w' ho' hg' _
          have HN1 : Hid (On w w' w.heap.size (ax, ay) T L (k + 1) v') := Lib.hid ⟨by
            rw [ptK_next HQ.out, HPK.out, ← HNX.out.1, ← HNX.out.2]
            exact (HP4.out.alloc _).grown' hg' (fun h => by have := own_ge HO4.out _ h; omega), by
            rw [onePts_next HQ.out, HPK.out, ← List.cons_append, List.flatMap_append]
            simpa [HNX.out.1, HNX.out.2] using ho', by
            refine Ext.grown (HE4.out.trans ?_) hg' (fun g hk => by have := own_ge HO4.out g hk; omega)
            (repeat (first | with_reducible exact Ext.refl _ | with_reducible assumption | with_reducible refine Ext.alloc ?_ _ | with_reducible refine Ext.drew ?_ | with_reducible refine Ext.drewN ?_ _ | with_reducible refine Ext.later ?_ _ | (with_reducible refine Ext.setCell ?_ _ ?hp; case hp => first | (simp; done) | (simp; omega) | omega)))⟩
          clear ho' hg' HP4 HO4 HE4 HC p0 p1
          go_wp2_with fail
          go_roundw
          case rel => first | exact ⟨k + 1, v', by omega, rfl, by go_num, HN1⟩ | ((repeat apply Exists.intro); exact ⟨⟨k + 1, v', by omega, rfl, by go_num, HN1⟩, rfl⟩)
          case measure => simp [intOf]; omega
      · obtain rfl : k = n := by omega
        have hfull : L.take k = L := List.take_of_length_le (by rw [HLN.out]; exact Nat.le_refl _)
        obtain ⟨va, vc, rfl, hrd⟩ := ownsRow_rd HC.out.own
        rw [hfull] at hrd
        obtain ⟨pts, hpts⟩ : ∃ z, z = (ax, ay) :: onePts (t % 4) (ax, ay) L := ⟨_, rfl⟩
        rw [← hpts] at hrd
        have hplen : pts.length = k + 1 := by rw [hpts]; simp [onePts_len, HLN.out]
        have HU : Hid (∀ q ∈ pts, Unit q) := Lib.hid (fun q hq => by
          rw [hpts] at hq
          have h1 := onePts_near (t % 4) L (ax, ay) 5000 ⟨HIN.out.1, HIN.out.2.1⟩ ⟨HIN.out.2.2.1, HIN.out.2.2.2⟩ q hq
          have h2 := HLN.out
          unfold Unit
          omega)
        have HR1 : Hid (∀ x ∈ (endC 1 false d00 pts).map red, x ≤ 1) := Lib.hid (by rw [hpts]; exact reds_once (t % 4) (by omega) (by omega) L (ax, ay) d00)
        have HRD := Lib.hid hrd
        have HPL := Lib.hid hplen
        have HE3 := Lib.hid HC.out.e
        have hb0 := HC.out.e.size
        clear hfull hrd hpts HC
        go_wp2_with fail
        refine (places_any 9 8 _).mono ?_
        rintro e w1 ⟨pv, Q1, rfl, hc1, hE⟩
        have HC1 := Lib.hid hc1
        have HE1 := Lib.hid (HE3.out.trans hE)
        have HRD1 := Lib.hid (HRD.out.ext hE)
        have HB1 := Lib.hid hE.size
        clear hc1 hE HRD HE3
        have HB0 : Hid (w.heap.size ≤ W3.heap.size) := Lib.hid hb0
        generalize W3.heap.size = b1_ at *
        clear hb0
        go_wp2_with fail
        refine (shape_any 2 pts va (k + 1) vc _ HRD1.out HPL.out (by omega)).mono ?_
        rintro e w2 ⟨sv, Q2, rfl, hc2, hE⟩
        obtain ⟨sa, sc, rfl, hs2⟩ := ownsRow_rd hc2.own
        have HC2 := Lib.hid hc2
        have hM : (shapeL 2 pts).length = k + 3 := by simp [shapeL, HPL.out]
        rw [hM] at hs2 ⊢
        have HS2 := Lib.hid hs2
        have HEE := Lib.hid hE
        have HE2 := Lib.hid (HE1.out.trans hE)
        have HB2 := Lib.hid (Nat.le_trans HB1.out hE.size)
        have HM := Lib.hid hM
        clear hc2 hs2 hE hM
        go_wp2_with (refine wpList_append_rd rfl (.tmp 91) (.tmp 93) 22 rfl b1_ 88 _ 2 32 Tryz.underlying22 info_rq rfl (by decide) pv 4 (Q1.flatMap Rq.cells) rfl (ownsRow_ext HC1.out.own HEE.out) sa (k + 3) sc (Q2.flatMap Rq.cells) rfl HS2.out (rq_one _) ?c3 (by decide) HB2.out ?_)
        case c3 => omega
        intro v' w3 ho' hg'
        obtain ⟨ca, cc, rfl, hcm⟩ := cat_cmds HC1.out HEE.out HC2.out hg' (by rw [HM.out]; exact ho')
        have hN : (placesL 9 8 ++ shapeL 2 pts).length = k + 7 := by rw [List.length_append, HM.out]; show 4 + (k + 3) = k + 7; omega
        rw [hN] at hcm ⊢
        have HCM := Lib.hid hcm
        have HE4 := Lib.hid (HE2.out.grown hg' (fun g hk => by have := own_ge HC1.out.own g hk; have := HB0.out; omega))
        clear ho' hg' hcm hN HC1 HC2 HS2 HEE HE1 HRD1
        have HRN := Lib.hid (run_cmds (stripCs_steps pts HU.out (by rw [HPL.out]; omega)) ca (k + 7) cc w3 (HW.out.ext HE4.out).glob HCM.out (by omega))
        go_wp2_with fail
        refine HRN.out.mono ?_
        rintro e w4 ⟨l, he, hl, hE⟩
        obtain ⟨cs, hcs⟩ : ∃ c, c = (sE 1 false d00).cs (pE 1 false d00 pts) l := ⟨_, rfl⟩
        rw [← hcs] at he
        subst he
        have hsz : cs.size = 94 := by rw [hcs]; rfl
        have HC0 : Hid (cs[0]? = some (.int .i64 0)) := Lib.hid (by rw [hcs]; rfl)
        have HC3 : Hid (cs[3]? = some (.slice l.c 72 l.cc)) := Lib.hid (by
          have h : cs[3]? = some (.slice l.c (pE 1 false d00 pts).C.length l.cc) := by rw [hcs]; rfl
          rw [h]
          congr 2
          exact endC_len 1 false d00 pts)
        have HCO : Hid (∀ u ∈ cs.toList, u.oneCell' = true) := Lib.hid (by rw [hcs]; exact Ps.cs_one _ _ _)
        have HRC : Hid (Rd w4 1 l.c 72 l.cc (ivs (endC 1 false d00 pts))) := Lib.hid (by have := hl.lies.c; rw [show (pE 1 false d00 pts).C.length = 72 from endC_len 1 false d00 pts] at this; exact this)
        have HE5 := Lib.hid (HE4.out.trans hE)
        clear hcs hl hE HRN HCM HE4
        go_wp2_with (refine wpList_store_blk rfl (.tmp 11) (.tmp 95) 53 rfl 0 rfl (.agg cs) rfl (Blk.new w4 53 Tryz.zeroCells53) (by show _ = some cs.size; rw [hsz]; exact size_pipe) ?c1 ?c2 ?_)
        case c1 => exact fun u hu => HCO.out u hu
        case c2 => show 0 + cs.size ≤ _; rw [hsz]; decide
        intro w5 hb hk5
        rw [spl_all _ _ (by show cs.size = _; rw [hsz]; rfl)] at hb
        have HB5 := Lib.hid hb
        have HE6 := Lib.hid (hk5.ext ((HE5.out).alloc (.cells Tryz.zeroCells53 53)) (fun k hk => by have := HE5.out.size; omega))
        have HR5 : Hid (Rd w5 1 l.c 72 l.cc (ivs (endC 1 false d00 pts))) := Lib.hid ((HRC.out.ext ((Ext.refl w4).alloc (.cells Tryz.zeroCells53 53))).kp hk5 (fun ad e => by have := HRC.out.ptr (by omega) ad e; omega))
        clear hb hk5 HRC HE5
        generalize w4.heap.size = G at *
        go_wp2_with (refine wpList_load_blk rfl (.tmp 11) 53 rfl 0 rfl HB5.out 94 agg_pipe size_pipe (by show 0 + 94 ≤ cs.size; rw [hsz]; exact Nat.le_refl _) cs (by show cs.extract 0 (0 + 94) = cs; rw [show 0 + 94 = cs.size from hsz.symm, Array.extract_size]) ?_)
        go_wp2_with fail
        refine (reds_any cs (endC 1 false d00 pts) l.c 72 l.cc w5 HC3.out HR5.out (by omega) (endC_in d00 pts)).mono ?_
        rintro e w6 ⟨ra, rc, rfl, hrr, hE⟩
        obtain ⟨RL, hRL⟩ : ∃ z, z = (endC 1 false d00 pts).map red := ⟨_, rfl⟩
        rw [← hRL] at hrr
        have HRL : Hid (RL.length = 72 ∧ ∀ x ∈ RL, x ≤ 1) := Lib.hid ⟨by rw [hRL, List.length_map, endC_len], by rw [hRL]; exact HR1.out⟩
        clear hRL
        have HRR := Lib.hid hrr
        have HE7 := Lib.hid (HE6.out.trans hE)
        have q0 := ((HB5.out.ext hE).cell 0).trans HC0.out
        clear hrr hE HR5 HE6 HB5
        go_wp2_with fail
        go_loopw [13] (fun i wr => ∃ j : Nat, j ≤ 72 ∧ i = .int .i64 j ∧ Hid (Ext w6 wr)) (fun i _ => 72 - (intOf i).toNat)
        case atStart => exact ⟨0, by omega, rfl, Lib.hid (Ext.refl _)⟩
        case round =>
          obtain ⟨j, hj, rfl, HX⟩ := hrel
          obtain ⟨W7, rfl⟩ : ∃ W7 : World, W7 = wr := ⟨_, rfl⟩
          by_cases hjl : j < 72
          · obtain ⟨x, hx⟩ : ∃ x, RL[j]? = some x := ⟨_, List.getElem?_eq_getElem (by rw [HRL.out.1]; exact hjl)⟩
            have hx1 := HRL.out.2 x (List.mem_of_getElem? hx)
            have hxd : decide (x > 1) = false := by simp; omega
            obtain ⟨rb, ro, hra, -, -⟩ := HRR.out.at_ (by omega)
            subst hra
            have c0 : W7.cell? ⟨rb, ro + j, none⟩ = some (.int .i64 x) := (HRR.out.ext HX.out).get rfl (by simp [hx])
            have hj72 : (j : Int) < 72 := by omega
            have hj0 : (0 : Int) ≤ j := by omega
            clear hx hx1
            go_wp2_with fail
            go_roundw
            case rel => first | exact ⟨j + 1, by omega, by go_num, HX⟩ | ((repeat apply Exists.intro); exact ⟨⟨j + 1, by omega, by go_num, HX⟩, rfl⟩)
            case measure => simp [intOf]; omega
          · obtain rfl : j = 72 := by omega
            go_wp2_with fail
            refine (HAW.out _ (HW.out.ext (HE7.out.trans HX.out))).mono ?_
            rintro e w8 ⟨rfl, hE⟩
            have HE8 := Lib.hid ((HE7.out.trans HX.out).trans hE)
            clear hE
            go_wp2_with fail
            go_ret
            exact ⟨rfl, HE8.out⟩
  · have HBAD : ∃ b1 b2 b3 b4 : Bool, decide (ax < -5000) = b1 ∧ decide (ax > 5000) = b2 ∧ decide (ay < -5000) = b3 ∧ decide (ay > 5000) = b4 ∧ (b1 = true ∨ b2 = true ∨ b3 = true ∨ b4 = true) := by
      refine ⟨_, _, _, _, rfl, rfl, rfl, rfl, ?_⟩
      simp only [decide_eq_true_eq]
      omega
    obtain ⟨b1, b2, b3, b4, e1, e2, e3, e4, hb⟩ := HBAD
    cases b1 <;> cases b2 <;> cases b3 <;> cases b4 <;> first | (exfalso; simp at hb; done) | skip
    all_goals
      clear hb hin
      go_wp2_with fail
      refine (HAW.out _ (HW.out.ext (by (repeat (first | with_reducible exact Ext.refl _ | with_reducible assumption | with_reducible refine Ext.alloc ?_ _ | with_reducible refine Ext.drew ?_ | with_reducible refine Ext.drewN ?_ _ | with_reducible refine Ext.later ?_ _ | (with_reducible refine Ext.setCell ?_ _ ?hp; case hp => first | (simp; done) | (simp; omega) | omega)))))).mono ?_
      rintro e w1 ⟨rfl, hE⟩
      obtain ⟨y, rfl⟩ := Later.mk' hE
      clear hE
      go_wp2_with fail
      go_ret
      exact ⟨rfl, by (repeat (first | with_reducible exact Ext.refl _ | with_reducible assumption | with_reducible refine Ext.alloc ?_ _ | with_reducible refine Ext.drew ?_ | with_reducible refine Ext.drewN ?_ _ | with_reducible refine Ext.later ?_ _ | (with_reducible refine Ext.setCell ?_ _ ?hp; case hp => first | (simp; done) | (simp; omega) | omega)))⟩
end Go.Proofs.YtplljnfjkkloeaaGreatDoor
set_option linter.unusedVariables false
set_option linter.unusedSimpArgs false
set_option maxRecDepth 100000
namespace Go.Proofs.YtplljnfjkkloeaaGreatDoor
open Go.ChangeShapes Go.WideShapes Go.ChangeAt Go.RowKit Go.Joins Go.Deep
theorem lst_of {α : Type} {P : Nat → α → Prop} : ∀ n : Nat, (∀ i, i < n → ∃ s, P i s) → ∃ l : List α, l.length = n ∧ ∀ i s, l[i]? = some s → P i s
  | 0, _ => ⟨[], rfl, by simp⟩
  | n + 1, h => by
    obtain ⟨l, hl, hp⟩ := lst_of n (fun i hi => h i (by omega))
    obtain ⟨s, hs⟩ := h n (by omega)
    refine ⟨l ++ [s], by simp [hl], fun i t ht => ?_⟩
    rcases Nat.lt_or_ge i n with h1 | h1
    · rw [List.getElem?_append_left (by omega)] at ht
      exact hp i t ht
    · have hi := (List.getElem?_eq_some_iff.1 ht).1
      simp only [List.length_append, List.length_singleton] at hi
      obtain rfl : i = n := by omega
      rw [List.getElem?_append_right (by omega), hl, Nat.sub_self] at ht
      have : s = t := by simpa using ht
      rw [← this]
      exact hs
section
variable {H : Type} {enc : TypeId × Value → H} {W : World} {held : Bool}
theorem rows_rd {α : Type} {f : α → List Value} {K : Nat} (hK : ∀ s, (f s).length = K) (K0 : 0 < K) {S E : TypeId} (hu : Tryz.prog.underlying S = some (.slice E)) (hc : Tryz.prog.cellsOf E = K)
    (hop : ∀ m cs x, DataW.trod enc Tryz.prog W 0 (fun _ => true) held m E cs = some x → ∃ s : α, cs = f s) {fuel : Nat} {v : Value} {y : DataW H × List MemPlace} (h : DataW.trod enc Tryz.prog W 0 (fun _ => true) held fuel S [v] = some y) :
    ∃ a n cap, ∃ l : List α, v = .slice a n cap ∧ Rd W K a n cap (l.flatMap f) ∧ l.length = n := by
  rcases open_slice hu h with ⟨hcs, _⟩ | ⟨x, len, cap, m, k, D, Pl, hcs, _, hl, hm, hmm, _, hi⟩
  · exact ⟨none, 0, 0, [], by simpa using hcs, Rd.empty W K none 0 (by unfold maxLen; omega), rfl⟩
  · rw [if_pos rfl] at hmm
    obtain rfl : m = cap := hmm
    rw [hc] at hi
    have hs : ∀ i, i < len → ∃ s : α, ∀ j, j < K → W.cell? ((x.add (i * K)).add j) = (f s)[j]? := by
      intro i hlt
      obtain ⟨cs', hc', ht⟩ := hi i (by omega)
      obtain ⟨s, rfl⟩ := hop _ _ _ ht
      exact ⟨s, (World.cells?_some hc').2.2⟩
    obtain ⟨l, hll, hp⟩ := lst_of len hs
    refine ⟨some x, len, m, l, by simpa using hcs, ⟨by rw [frow_len hK, hll], hl, hm, fun h0 => ?_⟩, hll⟩
    obtain ⟨b, off, spot⟩ := x
    obtain ⟨s0, hs0⟩ : ∃ s, l[0]? = some s := ⟨_, List.getElem?_eq_getElem (by omega)⟩
    have hc0 := hp 0 s0 hs0 0 K0
    have hz : ((⟨b, off, spot⟩ : Addr).add (0 * K)).add 0 = ⟨b, off, spot⟩ := by simp [Addr.add]
    rw [hz] at hc0
    obtain ⟨u0, hu0⟩ : ∃ u, (f s0)[0]? = some u := ⟨_, List.getElem?_eq_getElem (by rw [hK]; exact K0)⟩
    rw [hu0] at hc0
    have hspot : spot = none := World.cell?_spot (v := u0) hc0
    subst hspot
    refine ⟨b, off, rfl, World.block_lt_of_cell? W _ hc0, fun j hj => ?_⟩
    have hjK : j / K < len := Nat.div_lt_of_lt_mul (by rw [Nat.mul_comm]; exact hj)
    have hjm : j % K < K := Nat.mod_lt _ K0
    obtain ⟨s, hs1⟩ : ∃ s, l[j / K]? = some s := ⟨_, List.getElem?_eq_getElem (by omega)⟩
    have h1 := hp (j / K) s hs1 (j % K) hjm
    have h2 := frow_get hK hs1 (j % K) hjm
    have e : j / K * K + j % K = j := by rw [Nat.mul_comm]; exact Nat.div_add_mod j K
    rw [e] at h2
    rw [h2, ← h1]
    congr 1
    unfold Addr.add
    split <;> split <;> simp_all <;> omega
theorem int_ofk {P : Program} {e : TypeId} {k : IntKind} (he : P.underlying e = some (.int k)) {w : World} {base : Nat} {spare : Nat → Bool} {m : Nat} {c : Value} {o : Option (DataW H × List MemPlace)} (h : DataW.trod enc P w base spare held m e [c] = o) (ho : o.isSome = true) : ∃ z : Int, c = .int k z ∧ (Lit.int k z).wf = true := by
  obtain ⟨y, hy⟩ := Option.isSome_iff_exists.1 ho
  obtain ⟨z, hz, _, hw⟩ := DataW.trod_int he (h.trans hy)
  exact ⟨z, by simpa using hz, hw⟩
theorem ci1 : Tryz.prog.cellsOf 3 = 1 := by kernel_rfl
theorem cpt : Tryz.prog.cellsOf 79 = 2 := by kernel_rfl
theorem ls2 {α : Type} {l : List α} (h : l.length = 2) : ∃ a b, l = [a, b] := by
  match l, h with
  | [a, b], _ => exact ⟨a, b, rfl⟩
theorem pt_of {w : World} {base : Nat} {spare : Nat → Bool} {m : Nat} {cs : List Value} {x : DataW H × List MemPlace} (h : DataW.trod enc Tryz.prog w base spare held m 79 cs = some x) : ∃ s : Int × Int, cs = ptc s := by
  obtain ⟨xs, m', _, _, hl, hxl, hf⟩ := DataW.trod_struct Tryz.underlying79 h
  obtain ⟨c0, c1, rfl⟩ := ls2 (hl.trans cpt)
  have f0 : DataW.trod enc Tryz.prog w base spare held m' 3 (([c0, c1].drop 0).take (Tryz.prog.cellsOf 3)) = xs[0]? := hf 0 _ rfl
  have f1 : DataW.trod enc Tryz.prog w base spare held m' 3 (([c0, c1].drop 1).take (Tryz.prog.cellsOf 3)) = xs[1]? := hf 1 _ rfl
  rw [ci1] at f0 f1
  have hx : xs.length = 2 := hxl
  obtain ⟨z0, rfl, _⟩ := int_ofk Tryz.underlying3 f0 (by simp [hx])
  obtain ⟨z1, rfl, _⟩ := int_ofk Tryz.underlying3 f1 (by simp [hx])
  exact ⟨(z0, z1), rfl⟩
theorem open_pt {w : World} {base : Nat} {spare : Nat → Bool} {r : Reach} {b0 : Nat} {v : Value} {d : DataW H} {p : List MemPlace} (hv : Value.okWide Tryz.prog w r b0 79 v) (h : DataW.Trod enc Tryz.prog w base spare held 79 v d p) : ∃ s : Int × Int, v = .agg #[.int .i64 s.1, .int .i64 s.2] := by
  obtain ⟨cs, rfl, hsz⟩ := okWide_struct Tryz.underlying79 hv
  obtain ⟨m, hm⟩ := h
  obtain ⟨s, hs⟩ := pt_of hm
  refine ⟨s, ?_⟩
  have : cs.toList = ptc s := hs
  cases cs; simp_all
theorem c16 : Tryz.prog.cellsOf 81 = 1 := by kernel_rfl
theorem cp16 : Tryz.prog.cellsOf 82 = 2 := by kernel_rfl
def P16 := { p : Int × Int // (-32768 ≤ p.1 ∧ p.1 < 32768) ∧ (-32768 ≤ p.2 ∧ p.2 < 32768) }
theorem wf16 {z : Int} (h : (Lit.int .i16 z).wf = true) : -32768 ≤ z ∧ z < 32768 := by
  simp [Lit.wf] at h
  have e1 : IntKind.i16.min = -32768 := by rfl
  have e2 : IntKind.i16.max = 32767 := by rfl
  omega
theorem wfu8 {z : Int} (h : (Lit.int .u8 z).wf = true) : 0 ≤ z ∧ z < 256 := by
  simp [Lit.wf] at h
  have e1 : IntKind.u8.min = 0 := by rfl
  have e2 : IntKind.u8.max = 255 := by rfl
  omega
theorem p16_of {w : World} {base : Nat} {spare : Nat → Bool} {m : Nat} {cs : List Value} {x : DataW H × List MemPlace} (h : DataW.trod enc Tryz.prog w base spare held m 82 cs = some x) : ∃ s : P16, cs = pc16 s.1 := by
  obtain ⟨xs, m', _, _, hl, hxl, hi⟩ := DataW.trod_array Tryz.underlying82 h
  obtain ⟨c0, c1, rfl⟩ := ls2 (hl.trans cp16)
  have i0 := hi 0 (by omega); have i1 := hi 1 (by omega)
  rw [c16] at i0 i1
  obtain ⟨z0, rfl, w0⟩ := int_ofk Tryz.underlying81 i0 (by simp [hxl])
  obtain ⟨z1, rfl, w1⟩ := int_ofk Tryz.underlying81 i1 (by simp [hxl])
  exact ⟨⟨(z0, z1), wf16 w0, wf16 w1⟩, rfl⟩
theorem pairs_rd {fuel : Nat} {v : Value} {y : DataW H × List MemPlace} (h : DataW.trod enc Tryz.prog W 0 (fun _ => true) held fuel 91 [v] = some y) :
    ∃ a n cap, ∃ l : List (Int × Int), v = .slice a n cap ∧ Rd W 2 a n cap (l.flatMap pc16) ∧ l.length = n ∧ ∀ p ∈ l, (-32768 ≤ p.1 ∧ p.1 < 32768) ∧ (-32768 ≤ p.2 ∧ p.2 < 32768) := by
  obtain ⟨a, n, cap, l, h1, h2, h3⟩ := rows_rd (f := fun s : P16 => pc16 s.1) (fun _ => rfl) (by decide) Tryz.underlying91 cp16 (fun _ _ _ h => p16_of h) h
  refine ⟨a, n, cap, l.map (·.1), h1, by rw [List.flatMap_map]; exact h2, by simp [h3], fun p hp => ?_⟩
  obtain ⟨s, -, rfl⟩ := List.mem_map.1 hp
  exact s.2
end
end Go.Proofs.YtplljnfjkkloeaaGreatDoor
