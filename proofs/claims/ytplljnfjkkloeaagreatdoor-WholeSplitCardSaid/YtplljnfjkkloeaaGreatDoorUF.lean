/- Proof text: the law WholeSplit. By an AI agent. No condition beyond what each theorem states. -/
import Derived.Test.YtplljnfjkkloeaaGreatDoorUA
import Derived.Test.YtplljnfjkkloeaaGreatDoorMC
set_option linter.unusedVariables false
set_option linter.unusedSimpArgs false
namespace Go.Proofs.YtplljnfjkkloeaaGreatDoor
attribute [local go_sem] Go.Oper.semAt_some
open Go.RowKit
@[reducible] def u8s (L : List Int) : List Value := L.map (Value.int .u8)
abbrev D11 : List Nat := [64, 65, 66, 67, 68, 69, 70, 71, 72, 73, 74, 75, 76, 77, 78, 79, 80, 81, 82, 7]
abbrev D13 : List Nat := [90, 91, 92, 93, 94, 95, 96, 97, 98, 99, 100, 101, 102, 103, 9]
structure OnS (WP wr : World) (a : Int × Int) (dx dy : Int) (L : List Int) (k : Nat) (v : Value) : Prop where
  own : wr.ownsRow WP.heap.size 79 2 v (k + 1) ((a :: sPts a dx dy 0 (L.take k)).flatMap ptc)
  e : Ext WP wr
set_option maxRecDepth 100000 in
set_option maxHeartbeats 16000000 in
theorem split_any (a1 a2 dx dy wd rp pt : Int) (L : List Int) (A : Option Addr) (n cap : Nat) (w : World) (hW : Wd w) (hr : Rd w 1 A n cap (u8s L)) (hL : L.length = n) (ha1 : -32768 ≤ a1 ∧ a1 < 32768) (ha2 : -32768 ≤ a2 ∧ a2 < 32768) (hdx : -128 ≤ dx ∧ dx < 128) (hdy : -128 ≤ dy ∧ dy < 128) (h8 : ∀ m ∈ L, 0 ≤ m ∧ m < 256) (hwd : 0 ≤ wd ∧ wd < 256) (hrp : 0 ≤ rp ∧ rp < 256) (hpt : 0 ≤ pt ∧ pt < 65536) :
    Calls Tryz.prog 6 #[.agg (rayC a1 a2 dx dy A n cap wd rp pt)] w fun e w' => e = .returned (.bool true) ∧ Ext w w' := by
  obtain ⟨R, hRw⟩ : ∃ R, R = w.heap.size := ⟨_, rfl⟩
  have HRAY : Hid (Blk (w.alloc (.cells (rayC a1 a2 dx dy A n cap wd rp pt) 86)) R 86 (rayC a1 a2 dx dy A n cap wd rp pt)) := Lib.hid (by rw [hRw]; exact Blk.new _ _ _)
  have HE0 : Hid (Ext w (w.alloc (.cells (rayC a1 a2 dx dy A n cap wd rp pt) 86))) := Lib.hid ((Ext.refl w).alloc _)
  have HW := Lib.hid hW
  have HR := Lib.hid hr
  have HLN := Lib.hid hL
  have HA := Lib.hid (And.intro ha1 ha2)
  have HD := Lib.hid (And.intro hdx hdy)
  have H8 := Lib.hid h8
  have HP := Lib.hid (And.intro hwd (And.intro hrp hpt))
  have HAW := Lib.hid awake_any
  clear hW hr hL ha1 ha2 hdx hdy h8 hwd hrp hpt
  go_enter Tryz.func6, Tryz.ntmps6
  go_upto_region 1 with fail
  simp only [← hRw]
  clear hRw
  generalize (w.alloc (.cells (rayC a1 a2 dx dy A n cap wd rp pt) 86)) = W0 at *
  obtain ⟨r0, r1, r2, r3, r4, r5, r6, r7⟩ := HRAY.out.c8
  by_cases hn : 10 < n
  · have b0 : decide ((n : Int) > 10) = true := by simp; omega
    go_wp2_with fail
    refine (HAW.out _ (HW.out.ext (HE0.out))).mono ?_
    rintro e w1 ⟨rfl, hE⟩
    have HE1 := Lib.hid (HE0.out.trans hE)
    clear hE
    go_wp2_with fail
    go_ret
    exact ⟨rfl, HE1.out⟩
  have b0 : decide ((n : Int) > 10) = false := by simp; omega
  have wa1 : wrap64 a1 = a1 := wrap64_of (by have := HA.out; omega) (by have := HA.out; omega)
  have wa2 : wrap64 a2 = a2 := wrap64_of (by have := HA.out; omega) (by have := HA.out; omega)
  go_upto_region 4 with fail
  clear r0 r1 r2 r3 r4 r5 r6 r7 b0 wa1 wa2
  have HPT : Hid (Blk (W0.alloc (.cells #[.int .i64 a1, .int .i64 a2] 79)) W0.heap.size 79 #[.int .i64 a1, .int .i64 a2]) := Lib.hid (Blk.new _ _ _)
  have HE1 : Hid (Ext W0 (W0.alloc (.cells #[.int .i64 a1, .int .i64 a2] 79))) := Lib.hid ((Ext.refl W0).alloc _)
  obtain ⟨P, hP⟩ : ∃ P, P = W0.heap.size := ⟨_, rfl⟩
  simp only [← hP] at HPT ⊢
  generalize (W0.alloc (.cells #[.int .i64 a1, .int .i64 a2] 79)) = WP at *
  clear hP
  have HEP := Lib.hid (HE0.out.trans HE1.out)
  have HRAYP := Lib.hid (HRAY.out.ext HE1.out)
  clear HRAY HE0 HE1
  obtain ⟨p0, p1⟩ := HPT.out.c2
  have H0 : Hid (OnS WP (WP.alloc (.cells #[.int .i64 a1, .int .i64 a2] 79)) (a1, a2) dx dy L 0 (.slice (some ⟨WP.heap.size, 0, none⟩) 1 1)) := Lib.hid ⟨World.ownsRow_lit (e := 79) (size := 2) WP #[.int .i64 a1, .int .i64 a2] 1 (Nat.le_refl _) (by unfold maxLen; omega) rfl, (Ext.refl WP).alloc _⟩
  have hn10 : n ≤ 10 := by omega
  clear hn
  go_wp2_with fail
  clear p0 p1
  go_loopw [4, 5, 6] (fun o s i wr => ∃ (k : Nat) (v : Value), k ≤ n ∧ v = o ∧ s = .int .i64 (sumS (L.take k)) ∧ i = .int .i64 k ∧ Hid (OnS WP wr (a1, a2) dx dy L k v)) (fun _ _ i _ => n - (intOf i).toNat)
  case atStart => exact ⟨0, _, Nat.zero_le _, rfl, rfl, rfl, H0⟩
  case round =>
    clear H0
    obtain ⟨k, v, hk, rfl, rfl, rfl, HC⟩ := hrel
    obtain ⟨W1, rfl⟩ : ∃ W1 : World, W1 = wr := ⟨_, rfl⟩
    have HRAY := Lib.hid (HRAYP.out.ext HC.out.e)
    have r4 := HRAY.out.c8.2.2.2.2.1
    by_cases hlt : k < n
    · obtain ⟨m, hm⟩ : ∃ m, L[k]? = some m := ⟨_, List.getElem?_eq_getElem (by rw [HLN.out]; exact hlt)⟩
      obtain ⟨b, off, ha, -, -⟩ := HR.out.at_ (by omega)
      subst ha
      have c0 : W1.cell? ⟨b, off + k, none⟩ = some (.int .u8 m) := (HR.out.ext (HEP.out.trans HC.out.e)).get rfl (by simp [hm])
      obtain ⟨m0, m1⟩ := H8.out m (List.mem_of_getElem? hm)
      obtain ⟨r, hr⟩ : ∃ r, r = m % 32 := ⟨_, rfl⟩
      have hT : m.tmod 32 = r := by rw [hr]; exact Int.tmod_eq_emod_of_nonneg m0
      have hS := sumS_in (L.take k)
      have hSl : (L.take k).length ≤ 9 := by rw [List.length_take]; omega
      obtain ⟨S2, hS2⟩ : ∃ S2, S2 = sumS (L.take (k + 1)) := ⟨_, rfl⟩
      have hS3 : S2 = sumS (L.take k) + r := by rw [hS2, hr]; exact sumS_take hm
      obtain ⟨-, hX, hY⟩ := ptS_in (a := (a1, a2)) (s := S2) HA.out.1 HA.out.2 HD.out.1 HD.out.2 (by omega) (by omega)
      have HNX : Hid (sPts (a1, a2) dx dy 0 (L.take (k + 1)) = sPts (a1, a2) dx dy 0 (L.take k) ++ [ptS (a1, a2) dx dy S2]) := Lib.hid (by rw [hS2]; exact sPts_take (a1, a2) dx dy hm)
      have HS2 := Lib.hid hS2
      have HM := Lib.hid hm
      clear hS2 hm
      generalize sumS (L.take k) = S at *
      have hAA := HA.out
      have hDD := HD.out
      have i1 : wrap64 r = r := wrap64_of (by omega) (by omega)
      have i2 : wrap64 (S + r) = S2 := by rw [← hS3]; exact wrap64_of (by omega) (by omega)
      obtain ⟨X, hXX⟩ : ∃ X, X = S2 * dx := ⟨_, rfl⟩
      obtain ⟨Y, hYY⟩ : ∃ Y, Y = S2 * dy := ⟨_, rfl⟩
      rw [← hXX] at hX
      rw [← hYY] at hY
      have j1 : wrap64 dx = dx := wrap64_of (by omega) (by omega)
      have j2 : wrap64 dy = dy := wrap64_of (by omega) (by omega)
      have j3 : wrap64 (S2 * dx) = X := by rw [← hXX]; exact wrap64_of (by omega) (by omega)
      have j4 : wrap64 (S2 * dy) = Y := by rw [← hYY]; exact wrap64_of (by omega) (by omega)
      have j5 : wrap64 (a1 + X) = a1 + X := wrap64_of (by omega) (by omega)
      have j6 : wrap64 (a2 + Y) = a2 + Y := wrap64_of (by omega) (by omega)
      have HQ : Hid (ptS (a1, a2) dx dy S2 = (a1 + X, a2 + Y)) := Lib.hid (by unfold ptS; rw [hXX, hYY])
      have hkN : (k : Int) + 1 ≤ 100 := by omega
      have hk0 : (0 : Int) ≤ k := by omega
      have hkn : (k : Int) < n := by omega
      have d1 : decide ((k : Int) < n) = true := by simp; omega
      clear hXX hYY hX hY hS hSl hAA hDD hr m0 m1 hS3
      obtain ⟨-, -, r2, r3, -⟩ := HRAY.out.c8
      obtain ⟨p0, p1⟩ := (HPT.out.ext HC.out.e).c2
      have HNw := Lib.hid (news_at W1 [.int .i64 (a1 + X), .int .i64 (a2 + Y)] 79)
      go_wp2_with (refine wpList_append_src rfl (.tmp 42) (.tmp 62) 71 rfl WP.heap.size 79 _ 2 16 Tryz.underlying71 info_pt rfl (by decide) v (k + 1) _ rfl (ownsRow_ext HC.out.own (by (repeat (first | with_reducible exact Ext.refl _ | with_reducible assumption | with_reducible refine Ext.alloc ?_ _ | with_reducible refine Ext.drew ?_ | with_reducible refine Ext.drewN ?_ _ | with_reducible refine Ext.later ?_ _ | (with_reducible refine Ext.setCell ?_ _ ?hp; case hp => first | (simp; done) | (simp; omega) | omega))))) ⟨W1.heap.size, 0, none⟩ 1 1 [.int .i64 (a1 + X), .int .i64 (a2 + Y)] rfl rfl ?c1 ?c2 ?c3 (by decide) ?c5 ?_)
      case c1 => simpa [Addr.add] using HNw.out
      case c2 => intro u hu; simp at hu; rcases hu with rfl | rfl <;> rfl
      case c3 => omega
      case c5 => have := HC.out.e.size; simp; omega
      intro v' w' ho' hg' _
      have HN1 : Hid (OnS WP w' (a1, a2) dx dy L (k + 1) v') := Lib.hid ⟨by
        rw [HNX.out, HQ.out, ← List.cons_append, List.flatMap_append]
        simpa using ho', by
        refine Ext.grown (HC.out.e.trans ?_) hg' (fun g hk => own_ge HC.out.own g hk)
        (repeat (first | with_reducible exact Ext.refl _ | with_reducible assumption | with_reducible refine Ext.alloc ?_ _ | with_reducible refine Ext.drew ?_ | with_reducible refine Ext.drewN ?_ _ | with_reducible refine Ext.later ?_ _ | (with_reducible refine Ext.setCell ?_ _ ?hp; case hp => first | (simp; done) | (simp; omega) | omega)))⟩
      clear ho' hg' HC p0 p1 r2 r3 r4 c0
      go_wp2_with fail
      go_roundw
      case rel => first | exact ⟨k + 1, v', by omega, rfl, by rw [HS2.out], by go_num, HN1⟩ | ((repeat apply Exists.intro); exact ⟨⟨k + 1, v', by omega, rfl, by rw [HS2.out], by go_num, HN1⟩, rfl⟩)
      case measure => simp [intOf]; omega
    · obtain rfl : k = n := by omega
      have d1 : decide ((k : Int) < k) = false := by simp
      have hfull : L.take k = L := List.take_of_length_le (by rw [HLN.out]; exact Nat.le_refl _)
      obtain ⟨va, lc, rfl, hrd⟩ := ownsRow_rd HC.out.own
      rw [hfull] at hrd ⊢
      obtain ⟨lb, lo, rfl, -, -⟩ := hrd.at_ (by omega)
      obtain ⟨pts, hpts⟩ : ∃ z, z = (a1, a2) :: sPts (a1, a2) dx dy 0 L := ⟨_, rfl⟩
      rw [← hpts] at hrd
      obtain ⟨N, hN⟩ : ∃ N, N = k + 1 := ⟨_, rfl⟩
      have hplen : pts.length = N := by rw [hpts, List.length_cons, sPts_len, HLN.out, hN]
      obtain ⟨l1, l2, hl, hlast⟩ : ∃ l1 l2, pts[k]? = some (l1, l2) ∧ pts.getLast (by rw [hpts]; simp) = (l1, l2) := by
        refine ⟨_, _, ?_, rfl⟩
        rw [List.getLast_eq_getElem]
        have : pts.length - 1 = k := by omega
        simp only [this]
        exact List.getElem?_eq_getElem (by omega)
      have HU : Hid (∀ q ∈ pts, Unit q) := Lib.hid (fun q hq => by
        rw [hpts] at hq
        exact unit_all HA.out.1 HA.out.2 HD.out.1 HD.out.2 L (by rw [HLN.out]; exact hn10) q hq)
      obtain ⟨nn, hnn⟩ : ∃ nn : Nat, (nn : Int) = 1 + wd % 64 := ⟨(1 + wd % 64).toNat, by omega⟩
      obtain ⟨dd, hdd⟩ : ∃ dd, dd = dS pt rp := ⟨_, rfl⟩
      have HEQ : Hid (endC nn true dd pts = endC nn true dd [(a1, a2), (l1, l2)]) := Lib.hid (by
        have h := split_same nn dd (by rw [hdd]; exact (dS_ok HP.out.2.2 HP.out.2.1).2) (a1, a2) dx dy L
        rw [← hlast]
        subst hpts
        exact h)
      have HST1 : Hid (Steps ps0 hp0 (howL wd rp pt ++ shapeL 2 pts) (sE nn true dd) (pE nn true dd pts)) := Lib.hid (by
        rw [hdd]
        exact splitCs_steps wd rp pt HP.out.2.2 HP.out.2.1 nn hnn pts HU.out (by omega))
      have HST : Hid (Steps ps0 hp0 (howL wd rp pt ++ shapeL 2 [(a1, a2), (l1, l2)]) (sE nn true dd) (pE nn true dd [(a1, a2), (l1, l2)])) := Lib.hid (by
        rw [hdd]
        refine splitCs_steps wd rp pt HP.out.2.2 HP.out.2.1 nn hnn _ (fun q hq => ?_) (by show 2 ≤ 256; omega)
        simp only [List.mem_cons, List.not_mem_nil, or_false] at hq
        rcases hq with rfl | rfl
        · exact HU.out _ (by rw [hpts]; simp)
        · exact HU.out _ (List.mem_of_getElem? hl))
      rw [← hN] at hrd
      have HPTS1 := Lib.hid hrd
      have HPL := Lib.hid hplen
      have HLAST := Lib.hid hl
      have HEW := Lib.hid (HEP.out.trans HC.out.e)
      have HPT1 := Lib.hid (HPT.out.ext HC.out.e)
      have hk10 : N ≤ 11 := by omega
      have HKN := Lib.hid (And.intro hN hk10)
      rw [← hN]
      clear hrd hplen hl hlast hpts hfull hnn hdd HC HRAYP HEP HPT HU hN hk10 hk hlt hn10
      go_upto_region 11 with fail
      clear r4 d1
      obtain ⟨⟨w0, w1⟩, ⟨u0, u1⟩, ⟨t0, t1⟩⟩ := HP.out
      have e67 : wd.tmod 64 = wd % 64 := Int.tmod_eq_emod_of_nonneg w0
      have e68 : wrap64 (wd % 64) = wd % 64 := wrap64_of (by omega) (by omega)
      have e69 : wrap64 (1 + wd % 64) = 1 + wd % 64 := wrap64_of (by omega) (by omega)
      have e74 : wrap64 rp = rp := wrap64_of (by omega) (by omega)
      have e75 : wrap64 (1 + rp) = 1 + rp := wrap64_of (by omega) (by omega)
      have e78 : wrap64 pt = pt := wrap64_of (by omega) (by omega)
      clear w0 w1 u0 u1 t0 t1
      refine wp_region_fill D11 (fun st u x => EP W1 (F11 W1.heap.size R wd rp pt) (E11 W1.heap.size wd rp pt) [(0, 64), (1, 65), (2, 66), (3, 67), (4, 68), (5, 69), (6, 70), (7, 71), (8, 72), (9, 73), (10, 74), (11, 75), (12, 76), (13, 77), (14, 78), (15, 79), (16, 80), (17, 81), (18, 82)] [18] 18 19 st u x) (by kernel_rfl) (by kernel_rfl) ?_ ?_ ?_
      · rintro x rfl
        exact EP.begin ((Ext.refl W1).drew)
      · intro A' hA' st u x i o ho hst hdep hcl hR
        have hlen : A'.length = 122 := by rw [hA']; rfl
        have h1 : A'.getD 1 undef = .pointer (some ⟨R, 0, none⟩) := by rw [hA']; rfl
        clear hA'
        have hi : i < 20 := (Array.getElem?_eq_some_iff.1 ho).1
        have HE := hR.e
        have ev : ∀ t, t < 122 → D11.contains t = true → (⟨fillA A' D11 u, []⟩ : Act).eval (.tmp t) = u t := fun t h k => fillA_in (by omega) k
        have z18 : st 19 = true → st 18 = true := fun h => hcl 19 _ rfl h ⟨18, .data⟩ (by simp) rfl
        have k17 : st 18 = true → st 17 = true := fun h => hcl 18 _ rfl h ⟨17, .data⟩ (by simp) rfl
        have k16 : st 18 = true → st 16 = true := fun h => hcl 17 _ rfl (k17 h) ⟨16, .data⟩ (by simp) rfl
        have k15 : st 18 = true → st 15 = true := fun h => hcl 16 _ rfl (k16 h) ⟨15, .data⟩ (by simp) rfl
        have k14 : st 18 = true → st 14 = true := fun h => hcl 15 _ rfl (k15 h) ⟨14, .data⟩ (by simp) rfl
        have k13 : st 18 = true → st 13 = true := fun h => hcl 14 _ rfl (k14 h) ⟨13, .data⟩ (by simp) rfl
        have k12 : st 18 = true → st 12 = true := fun h => hcl 13 _ rfl (k13 h) ⟨12, .data⟩ (by simp) rfl
        have k11 : st 18 = true → st 11 = true := fun h => hcl 15 _ rfl (k15 h) ⟨11, .data⟩ (by simp) rfl
        have k10 : st 18 = true → st 10 = true := fun h => hcl 11 _ rfl (k11 h) ⟨10, .data⟩ (by simp) rfl
        have k9 : st 18 = true → st 9 = true := fun h => hcl 10 _ rfl (k10 h) ⟨9, .data⟩ (by simp) rfl
        have k8 : st 18 = true → st 8 = true := fun h => hcl 9 _ rfl (k9 h) ⟨8, .data⟩ (by simp) rfl
        have k7 : st 18 = true → st 7 = true := fun h => hcl 16 _ rfl (k16 h) ⟨7, .chain⟩ (by simp) rfl
        have k6 : st 18 = true → st 6 = true := fun h => hcl 7 _ rfl (k7 h) ⟨6, .data⟩ (by simp) rfl
        have k5 : st 18 = true → st 5 = true := fun h => hcl 6 _ rfl (k6 h) ⟨5, .data⟩ (by simp) rfl
        have k4 : st 18 = true → st 4 = true := fun h => hcl 5 _ rfl (k5 h) ⟨4, .data⟩ (by simp) rfl
        have k3 : st 18 = true → st 3 = true := fun h => hcl 4 _ rfl (k4 h) ⟨3, .data⟩ (by simp) rfl
        have k2 : st 18 = true → st 2 = true := fun h => hcl 3 _ rfl (k3 h) ⟨2, .data⟩ (by simp) rfl
        have k1 : st 18 = true → st 1 = true := fun h => hcl 2 _ rfl (k2 h) ⟨1, .data⟩ (by simp) rfl
        have k0 : st 18 = true → st 0 = true := fun h => hcl 7 _ rfl (k7 h) ⟨0, .chain⟩ (by simp) rfl
        rcases (by omega : i = 0 ∨ i = 1 ∨ i = 2 ∨ i = 3 ∨ i = 4 ∨ i = 5 ∨ i = 6 ∨ i = 7 ∨ i = 8 ∨ i = 9 ∨ i = 10 ∨ i = 11 ∨ i = 12 ∨ i = 13 ∨ i = 14 ∨ i = 15 ∨ i = 16 ∨ i = 17 ∨ i = 18 ∨ i = 19) with rfl | rfl | rfl | rfl | rfl | rfl | rfl | rfl | rfl | rfl | rfl | rfl | rfl | rfl | rfl | rfl | rfl | rfl | rfl | rfl
        all_goals (obtain rfl : (⟨_, _, _, _, _, _⟩ : Oper) = o := Option.some.inj ho; refine wpOp_plain rfl rfl ?_)
        · have nl := st_no (fun h => k0 (z18 h)) hst
          have nc := st_no k0 hst
          refine wp_call rfl Tryz.func21 (by kernel_rfl) rfl (R := fun e w' => ∃ v Q, e = .returned v ∧ CmdO w' x.heap.size v (placesL 9 8) Q ∧ Ext x w') (by simp only [List.map_toArray, List.map_cons, List.map_nil, ]; exact places_any 9 8 x) ?_
          rintro e w' ⟨v, Q, rfl, h1, hE⟩
          exact ⟨_, rfl, _, fillA_put rfl, hR.step 0 64 (by decide) (by decide) nl hE (fun s v => F11_ext hE s v) (show CmB W1.heap.size w' (placesL 9 8) v from ⟨_, Q, HE.size, hE.size, h1⟩)⟩
        · have nl := st_no (fun h => k1 (z18 h)) hst
          have nc := st_no k1 hst
          have q1 : (⟨fillA A' D11 u, []⟩ : Act).eval (.tmp 1) = .pointer (some ⟨R, 0, none⟩) := (fillA_out (by omega) rfl).trans h1
          refine wp_of_run (v := .pointer (some ⟨R, 5, none⟩)) (w' := x) ?run ⟨_, fillA_put rfl, hR.quiet 1 65 (by decide) (by decide) nl rfl⟩
          case run => simp only [Act.eval, Array.getD_eq_getD_getElem?] at q1; simp [execOp, q1, Act.eval, go_sem, wrap_i]
        · have nl := st_no (fun h => k2 (z18 h)) hst
          have nc := st_no k2 hst
          have f65 := hR.val (1, 65) (by decide) (hdep ⟨1, .data⟩ (by simp) rfl) (.inl nc) nl
          have q65 : _ = (.pointer (some ⟨R, 5, none⟩) : Value) := (ev 65 (by decide) rfl).trans f65
          have c5 : x.cell? ⟨R, 5, none⟩ = some (.int .u8 wd) := ((HRAY.out.ext HE).cell 5).trans rfl
          refine wp_of_run (v := .int .u8 wd) (w' := x) ?run ⟨_, fillA_put rfl, hR.quiet 2 66 (by decide) (by decide) nl rfl⟩
          case run => simp only [Act.eval, Array.getD_eq_getD_getElem?] at q65; simp [execOp, q65, Act.eval, go_sem, wrap_i, c5]
        · have nl := st_no (fun h => k3 (z18 h)) hst
          have nc := st_no k3 hst
          have f66 := hR.val (2, 66) (by decide) (hdep ⟨2, .data⟩ (by simp) rfl) (.inl nc) nl
          have q66 : _ = (.int .u8 wd : Value) := (ev 66 (by decide) rfl).trans f66
          refine wp_of_run (v := .int .u8 (wd % 64)) (w' := x) ?run ⟨_, fillA_put rfl, hR.quiet 3 67 (by decide) (by decide) nl rfl⟩
          case run => simp only [Act.eval, Array.getD_eq_getD_getElem?] at q66; simp [execOp, q66, Act.eval, go_sem, wrap_i, e67]
        · have nl := st_no (fun h => k4 (z18 h)) hst
          have nc := st_no k4 hst
          have f67 := hR.val (3, 67) (by decide) (hdep ⟨3, .data⟩ (by simp) rfl) (.inl nc) nl
          have q67 : _ = (.int .u8 (wd % 64) : Value) := (ev 67 (by decide) rfl).trans f67
          refine wp_of_run (v := .int .i64 (wd % 64)) (w' := x) ?run ⟨_, fillA_put rfl, hR.quiet 4 68 (by decide) (by decide) nl rfl⟩
          case run => simp only [Act.eval, Array.getD_eq_getD_getElem?] at q67; simp [execOp, q67, Act.eval, go_sem, wrap_i, e68]
        · have nl := st_no (fun h => k5 (z18 h)) hst
          have nc := st_no k5 hst
          have f68 := hR.val (4, 68) (by decide) (hdep ⟨4, .data⟩ (by simp) rfl) (.inl nc) nl
          have q68 : _ = (.int .i64 (wd % 64) : Value) := (ev 68 (by decide) rfl).trans f68
          refine wp_of_run (v := .int .i64 (1 + wd % 64)) (w' := x) ?run ⟨_, fillA_put rfl, hR.quiet 5 69 (by decide) (by decide) nl rfl⟩
          case run => simp only [Act.eval, Array.getD_eq_getD_getElem?] at q68; simp [execOp, q68, Act.eval, go_sem, wrap_i, e69]
        · have nl := st_no (fun h => k6 (z18 h)) hst
          have nc := st_no k6 hst
          have f69 := hR.val (5, 69) (by decide) (hdep ⟨5, .data⟩ (by simp) rfl) (.inl nc) nl
          have q69 : _ = (.int .i64 (1 + wd % 64) : Value) := (ev 69 (by decide) rfl).trans f69
          refine wp_of_run (v := .slice (some ⟨x.heap.size, 0, none⟩) 1 1) (w' := x.alloc (.cells (irow [1 + wd % 64]) 3)) ?run ⟨_, fillA_put rfl, hR.step 6 70 (by decide) (by decide) nl ((Ext.refl x).alloc _) (fun s v => F11_ext ((Ext.refl x).alloc _) s v) (show SlB _ 3 1 (irow [1 + wd % 64]) _ from ⟨_, rfl, Blk.new _ _ _⟩)⟩
          case run => simp only [Act.eval, Array.getD_eq_getD_getElem?] at q69; simp [execOp, q69, Act.eval, go_sem, wrap_i, irow, ivs]
        · have nl := st_no (fun h => k7 (z18 h)) hst
          have nc := st_no k7 hst
          have f70 := hR.val (6, 70) (by decide) (hdep ⟨6, .data⟩ (by simp) rfl) (.inl nc) nl
          obtain ⟨G, g70, b70⟩ := f70
          have q70 : _ = (.slice (some ⟨G, 0, none⟩) 1 1 : Value) := (ev 70 (by decide) rfl).trans g70
          refine wp_call rfl Tryz.func25 (by kernel_rfl) rfl (R := fun e w' => e = .returned (.agg #[.int .i64 19, .slice (some ⟨G, 0, none⟩) 1 1]) ∧ Ext x w') (by simp only [List.map_toArray, List.map_cons, List.map_nil, q70]; exact rec_any 19 _ 1 1 x) ?_
          rintro e w' ⟨rfl, hE⟩
          exact ⟨_, rfl, _, fillA_put rfl, hR.step 7 71 (by decide) (by decide) nl hE (fun s v => F11_ext hE s v) (show RcB w' 19 1 (irow [1 + wd % 64]) _ from ⟨G, rfl, b70.ext hE⟩)⟩
        · have nl := st_no (fun h => k8 (z18 h)) hst
          have nc := st_no k8 hst
          have q1 : (⟨fillA A' D11 u, []⟩ : Act).eval (.tmp 1) = .pointer (some ⟨R, 0, none⟩) := (fillA_out (by omega) rfl).trans h1
          refine wp_of_run (v := .pointer (some ⟨R, 6, none⟩)) (w' := x) ?run ⟨_, fillA_put rfl, hR.quiet 8 72 (by decide) (by decide) nl rfl⟩
          case run => simp only [Act.eval, Array.getD_eq_getD_getElem?] at q1; simp [execOp, q1, Act.eval, go_sem, wrap_i]
        · have nl := st_no (fun h => k9 (z18 h)) hst
          have nc := st_no k9 hst
          have f72 := hR.val (8, 72) (by decide) (hdep ⟨8, .data⟩ (by simp) rfl) (.inl nc) nl
          have q72 : _ = (.pointer (some ⟨R, 6, none⟩) : Value) := (ev 72 (by decide) rfl).trans f72
          have c6 : x.cell? ⟨R, 6, none⟩ = some (.int .u8 rp) := ((HRAY.out.ext HE).cell 6).trans rfl
          refine wp_of_run (v := .int .u8 rp) (w' := x) ?run ⟨_, fillA_put rfl, hR.quiet 9 73 (by decide) (by decide) nl rfl⟩
          case run => simp only [Act.eval, Array.getD_eq_getD_getElem?] at q72; simp [execOp, q72, Act.eval, go_sem, wrap_i, c6]
        · have nl := st_no (fun h => k10 (z18 h)) hst
          have nc := st_no k10 hst
          have f73 := hR.val (9, 73) (by decide) (hdep ⟨9, .data⟩ (by simp) rfl) (.inl nc) nl
          have q73 : _ = (.int .u8 rp : Value) := (ev 73 (by decide) rfl).trans f73
          refine wp_of_run (v := .int .i64 rp) (w' := x) ?run ⟨_, fillA_put rfl, hR.quiet 10 74 (by decide) (by decide) nl rfl⟩
          case run => simp only [Act.eval, Array.getD_eq_getD_getElem?] at q73; simp [execOp, q73, Act.eval, go_sem, wrap_i, e74]
        · have nl := st_no (fun h => k11 (z18 h)) hst
          have nc := st_no k11 hst
          have f74 := hR.val (10, 74) (by decide) (hdep ⟨10, .data⟩ (by simp) rfl) (.inl nc) nl
          have q74 : _ = (.int .i64 rp : Value) := (ev 74 (by decide) rfl).trans f74
          refine wp_of_run (v := .int .i64 (1 + rp)) (w' := x) ?run ⟨_, fillA_put rfl, hR.quiet 11 75 (by decide) (by decide) nl rfl⟩
          case run => simp only [Act.eval, Array.getD_eq_getD_getElem?] at q74; simp [execOp, q74, Act.eval, go_sem, wrap_i, e75]
        · have nl := st_no (fun h => k12 (z18 h)) hst
          have nc := st_no k12 hst
          have q1 : (⟨fillA A' D11 u, []⟩ : Act).eval (.tmp 1) = .pointer (some ⟨R, 0, none⟩) := (fillA_out (by omega) rfl).trans h1
          refine wp_of_run (v := .pointer (some ⟨R, 7, none⟩)) (w' := x) ?run ⟨_, fillA_put rfl, hR.quiet 12 76 (by decide) (by decide) nl rfl⟩
          case run => simp only [Act.eval, Array.getD_eq_getD_getElem?] at q1; simp [execOp, q1, Act.eval, go_sem, wrap_i]
        · have nl := st_no (fun h => k13 (z18 h)) hst
          have nc := st_no k13 hst
          have f76 := hR.val (12, 76) (by decide) (hdep ⟨12, .data⟩ (by simp) rfl) (.inl nc) nl
          have q76 : _ = (.pointer (some ⟨R, 7, none⟩) : Value) := (ev 76 (by decide) rfl).trans f76
          have c7 : x.cell? ⟨R, 7, none⟩ = some (.int .u16 pt) := ((HRAY.out.ext HE).cell 7).trans rfl
          refine wp_of_run (v := .int .u16 pt) (w' := x) ?run ⟨_, fillA_put rfl, hR.quiet 13 77 (by decide) (by decide) nl rfl⟩
          case run => simp only [Act.eval, Array.getD_eq_getD_getElem?] at q76; simp [execOp, q76, Act.eval, go_sem, wrap_i, c7]
        · have nl := st_no (fun h => k14 (z18 h)) hst
          have nc := st_no k14 hst
          have f77 := hR.val (13, 77) (by decide) (hdep ⟨13, .data⟩ (by simp) rfl) (.inl nc) nl
          have q77 : _ = (.int .u16 pt : Value) := (ev 77 (by decide) rfl).trans f77
          refine wp_of_run (v := .int .i64 pt) (w' := x) ?run ⟨_, fillA_put rfl, hR.quiet 14 78 (by decide) (by decide) nl rfl⟩
          case run => simp only [Act.eval, Array.getD_eq_getD_getElem?] at q77; simp [execOp, q77, Act.eval, go_sem, wrap_i, e78]
        · have nl := st_no (fun h => k15 (z18 h)) hst
          have nc := st_no k15 hst
          have f75 := hR.val (11, 75) (by decide) (hdep ⟨11, .data⟩ (by simp) rfl) (.inl nc) nl
          have q75 : _ = (.int .i64 (1 + rp) : Value) := (ev 75 (by decide) rfl).trans f75
          have f78 := hR.val (14, 78) (by decide) (hdep ⟨14, .data⟩ (by simp) rfl) (.inl nc) nl
          have q78 : _ = (.int .i64 pt : Value) := (ev 78 (by decide) rfl).trans f78
          refine wp_of_run (v := .slice (some ⟨x.heap.size, 0, none⟩) 3 3) (w' := x.alloc (.cells (irow [1, 1 + rp, pt]) 3)) ?run ⟨_, fillA_put rfl, hR.step 15 79 (by decide) (by decide) nl ((Ext.refl x).alloc _) (fun s v => F11_ext ((Ext.refl x).alloc _) s v) (show SlB _ 3 3 (irow [1, 1 + rp, pt]) _ from ⟨_, rfl, Blk.new _ _ _⟩)⟩
          case run => simp only [Act.eval, Array.getD_eq_getD_getElem?] at q75; simp only [Act.eval, Array.getD_eq_getD_getElem?] at q78; simp [execOp, q75, q78, Act.eval, go_sem, wrap_i, irow, ivs]
        · have nl := st_no (fun h => k16 (z18 h)) hst
          have nc := st_no k16 hst
          have f79 := hR.val (15, 79) (by decide) (hdep ⟨15, .data⟩ (by simp) rfl) (.inl nc) nl
          obtain ⟨G, g79, b79⟩ := f79
          have q79 : _ = (.slice (some ⟨G, 0, none⟩) 3 3 : Value) := (ev 79 (by decide) rfl).trans g79
          refine wp_call rfl Tryz.func25 (by kernel_rfl) rfl (R := fun e w' => e = .returned (.agg #[.int .i64 20, .slice (some ⟨G, 0, none⟩) 3 3]) ∧ Ext x w') (by simp only [List.map_toArray, List.map_cons, List.map_nil, q79]; exact rec_any 20 _ 3 3 x) ?_
          rintro e w' ⟨rfl, hE⟩
          exact ⟨_, rfl, _, fillA_put rfl, hR.step 16 80 (by decide) (by decide) nl hE (fun s v => F11_ext hE s v) (show RcB w' 20 3 (irow [1, 1 + rp, pt]) _ from ⟨G, rfl, b79.ext hE⟩)⟩
        · have nl := st_no (fun h => k17 (z18 h)) hst
          have nc := st_no k17 hst
          have f71 := hR.val (7, 71) (by decide) (hdep ⟨7, .data⟩ (by simp) rfl) (.inl nc) nl
          obtain ⟨G1, g71, b71⟩ := f71
          have q71 : _ = (.agg #[.int .i64 19, .slice (some ⟨G1, 0, none⟩) 1 1] : Value) := (ev 71 (by decide) rfl).trans g71
          have f80 := hR.val (16, 80) (by decide) (hdep ⟨16, .data⟩ (by simp) rfl) (.inl nc) nl
          obtain ⟨G2, g80, b80⟩ := f80
          have q80 : _ = (.agg #[.int .i64 20, .slice (some ⟨G2, 0, none⟩) 3 3] : Value) := (ev 80 (by decide) rfl).trans g80
          refine wp_of_run (v := .slice (some ⟨x.heap.size, 0, none⟩) 2 2) (w' := x.alloc (.cells #[.int .i64 19, .slice (some ⟨G1, 0, none⟩) 1 1, .int .i64 20, .slice (some ⟨G2, 0, none⟩) 3 3] 88)) ?run ⟨_, fillA_put rfl, hR.step 17 81 (by decide) (by decide) nl ((Ext.refl x).alloc _) (fun s v => F11_ext ((Ext.refl x).alloc _) s v) (show TwB _ (irow [1 + wd % 64]) (irow [1, 1 + rp, pt]) 1 3 19 20 _ from ⟨_, G1, G2, rfl, Blk.new _ _ _, b71.alloc _, b80.alloc _⟩)⟩
          case run => simp only [Act.eval, Array.getD_eq_getD_getElem?] at q71; simp only [Act.eval, Array.getD_eq_getD_getElem?] at q80; simp [execOp, q71, q80, Act.eval, go_sem, wrap_i]
        · have nl := st_no z18 hst
          have nc := hst
          have f64 := hR.val (0, 64) (by decide) (hdep ⟨0, .data⟩ (by simp) rfl) (.inl nc) nl
          obtain ⟨b, Q, hb0, hb1, hc⟩ := f64
          have q64 : _ = (u 64 : Value) := (ev 64 (by decide) rfl).trans rfl
          have f81 := hR.val (17, 81) (by decide) (hdep ⟨17, .data⟩ (by simp) rfl) (.inl nc) nl
          obtain ⟨G, G1, G2, g81, b81, b82, b83⟩ := f81
          have q81 : _ = (.slice (some ⟨G, 0, none⟩) 2 2 : Value) := (ev 81 (by decide) rfl).trans g81
          have hrd : Rd x 2 (some ⟨G, 0, none⟩) 2 2 [.int .i64 19, .slice (some ⟨G1, 0, none⟩) 1 1, .int .i64 20, .slice (some ⟨G2, 0, none⟩) 3 3] := blk_rd2 b81
          refine wp_append_rd (.tmp 64) (.tmp 81) 22 rfl b 88 _ 2 32 Tryz.underlying22 info_rq rfl (by decide) (u 64) 4 (Q.flatMap Rq.cells) q64 hc.own (some ⟨G, 0, none⟩) 2 2 _ q81 hrd (by intro v hv; simp at hv; rcases hv with rfl | rfl | rfl | rfl <;> rfl) (by decide) (by decide) hb1 ?_
          intro v' w' ho' hg'
          have hE : Ext W1 w' := HE.grown hg' (fun g hk => Nat.le_trans hb0 (own_ge hc.own g hk))
          obtain ⟨Q', hq'⟩ := two_cat hc b82 b83 rfl rfl (show 1 ≤ 4096 by decide) (show 3 ≤ 4096 by decide) hg' ho'
          exact ⟨_, fillA_put rfl, hR.cut 82 (by decide) (by decide) nc nl hE (fun q hq hn hl => absurd (by simpa using hl) hn) (show CmB W1.heap.size w' (howL wd rp pt) v' from ⟨b, Q', hb0, Nat.le_trans hb1 hg'.size, hq'⟩)⟩
        · have nl := hst
          have f82 := hR.val (18, 82) (by decide) (hdep ⟨18, .data⟩ (by simp) rfl) (.inr (by decide)) nl
          obtain h82 := f82
          have q82 : _ = (u 82 : Value) := (ev 82 (by decide) rfl).trans rfl
          refine wp_of_run (v := u 82) (w' := x) ?run ⟨_, fillA_put rfl, EP.last HE (by unfold E11; rw [upu_eq]; exact f82)⟩
          case run => simp only [Act.eval, Array.getD_eq_getD_getElem?] at q82; simp [execOp, q82, Act.eval, go_sem]
      intro st u x hall hR
      have hFIN := hR.fin (hall 19 (by decide))
      have hXE := hR.e
      clear hR hall
      simp [fillA, fillL, D11]
      obtain ⟨bh, Q0, hb0, hb1, hc⟩ := hFIN
      obtain ⟨HV, hHV⟩ : ∃ v, v = u 7 := ⟨_, rfl⟩
      rw [← hHV] at hc
      rw [← hHV]
      obtain ⟨va, hvc, hv, hrh⟩ := ownsRow_rd hc.own
      have hL6 : (howL wd rp pt).length = 6 := rfl
      rw [hL6] at hv hrh
      obtain ⟨vb, vo, rfl, -, -⟩ := hrh.at_ (by decide)
      subst hv
      clear hHV hb0 hb1 hL6 e67 e68 e69 e74 e75 e78
      have HHW := Lib.hid hc
      have HRH := Lib.hid hrh
      have HEX := Lib.hid hXE
      clear hc hrh hXE
      go_upto_region 12 with fail
      go_wp2_with (refine wpList_append_full rfl (.tmp 83) (.tmp 84) 22 rfl 88 2 32 _ Tryz.underlying22 info_rq rfl (by decide) (some ⟨x.heap.size, 0, none⟩) 0 [] rfl (Rd.empty _ _ _ _ (Nat.zero_le _)) (fun h => (by cases h)) ⟨vb, vo, none⟩ 6 hvc (Q0.flatMap Rq.cells) rfl (HRH.out.ext (by (repeat (first | with_reducible exact Ext.refl _ | with_reducible assumption | with_reducible refine Ext.alloc ?_ _ | with_reducible refine Ext.drew ?_ | with_reducible refine Ext.drewN ?_ _ | with_reducible refine Ext.later ?_ _ | (with_reducible refine Ext.setCell ?_ _ ?hp; case hp => first | (simp; done) | (simp; omega) | omega))))) (rq_one Q0) (by decide) (by unfold maxLen; decide) (by decide) ?_)
      intro v1 w3 ho' hE
      have hE' : Ext x w3 := by
        refine Ext.trans ?_ hE
        (repeat (first | with_reducible exact Ext.refl _ | with_reducible assumption | with_reducible refine Ext.alloc ?_ _ | with_reducible refine Ext.drew ?_ | with_reducible refine Ext.drewN ?_ _ | with_reducible refine Ext.later ?_ _ | (with_reducible refine Ext.setCell ?_ _ ?hp; case hp => first | (simp; done) | (simp; omega) | omega)))
      obtain ⟨BB, hb1, hb2, ho1⟩ : ∃ BB, x.heap.size ≤ BB ∧ BB ≤ w3.heap.size ∧ CmdO w3 BB v1 (howL wd rp pt) Q0 := ⟨_, by simp, hE.size, HHW.out.copy hE' (by rw [show (howL wd rp pt).length = 6 from rfl]; simpa using ho')⟩
      have HC1 := Lib.hid ho1
      have HB1 := Lib.hid (And.intro hb1 hb2)
      have HE3 := Lib.hid hE'
      clear ho' hE hE' hb1 hb2 ho1
      go_wp2_with fail
      refine (shape_any 2 pts _ N lc _ (HPTS1.out.ext (HEX.out.trans HE3.out)) HPL.out (by have := HKN.out.2; omega)).mono ?_
      rintro e w4 ⟨sv, Q2, rfl, hc2, hE⟩
      obtain ⟨sa, sc, rfl, hs2⟩ := ownsRow_rd hc2.own
      have HC2 := Lib.hid hc2
      have hM : (shapeL 2 pts).length = N + 2 := by simp [shapeL, HPL.out]
      rw [hM] at hs2 ⊢
      have HS2 := Lib.hid hs2
      have HEE := Lib.hid hE
      have HE4 := Lib.hid (HE3.out.trans hE)
      have HB2 := Lib.hid (Nat.le_trans HB1.out.2 hE.size)
      have HM := Lib.hid hM
      clear hc2 hs2 hE hM
      go_wp2_with (refine wpList_append_rd rfl (.tmp 85) (.tmp 87) 22 rfl BB 88 _ 2 32 Tryz.underlying22 info_rq rfl (by decide) v1 6 (Q0.flatMap Rq.cells) rfl (ownsRow_ext HC1.out.own HEE.out) sa (N + 2) sc (Q2.flatMap Rq.cells) rfl HS2.out (rq_one _) ?c3 (by decide) HB2.out ?_)
      case c3 => have := HKN.out.2; omega
      intro v2 w5 ho' hg'
      obtain ⟨ca, cc, rfl, hcm⟩ := cat_cmds HC1.out HEE.out HC2.out hg' (by rw [HM.out]; exact ho')
      have hN : (howL wd rp pt ++ shapeL 2 pts).length = N + 8 := by rw [List.length_append, HM.out]; show 6 + (N + 2) = N + 8; omega
      rw [hN] at hcm ⊢
      have HCM := Lib.hid hcm
      have HE5 := Lib.hid (HE4.out.grown hg' (fun g hk => Nat.le_trans HB1.out.1 (own_ge HC1.out.own g hk)))
      clear ho' hg' hcm hN HC1 HC2 HS2 HEE HE3 HE4
      have HRN := Lib.hid (run_cmds HST1.out ca (N + 8) cc w5 (HW.out.ext (HEW.out.trans (HEX.out.trans HE5.out))).glob HCM.out (by have := HKN.out.2; omega))
      go_wp2_with fail
      refine HRN.out.mono ?_
      rintro e w6 ⟨z8, he, hl, hE⟩
      obtain ⟨cs, hcs⟩ : ∃ c, c = cE nn dd pts z8 := ⟨_, rfl⟩
      rw [show (sE nn true dd).cs (pE nn true dd pts) z8 = cs from hcs.symm] at he
      subst he
      have hsz : cs.size = 94 := by rw [hcs]; rfl
      have HCE : Hid (cs[0]? = some (.int .i64 0) ∧ cs[1]? = some (.int .i64 9) ∧ cs[2]? = some (.int .i64 8) ∧ cs[3]? = some (.slice z8.c 72 z8.cc) ∧ cs[4]? = some (.slice z8.z 72 z8.cz)) := Lib.hid (by rw [hcs]; exact cE_cells nn dd pts z8)
      have HCO : Hid (∀ u ∈ cs.toList, u.oneCell' = true) := Lib.hid (by rw [hcs]; exact cE_one _ _ _ _)
      have HIM := Lib.hid (lies_im hl)
      have HE6 := Lib.hid (HE5.out.trans hE)
      clear hcs hl hE HRN HCM HE5
      go_wp2_with (refine wpList_store_blk rfl (.tmp 8) (.tmp 89) 53 rfl 0 rfl (.agg cs) rfl (Blk.new w6 53 Tryz.zeroCells53) (by show _ = some cs.size; rw [hsz]; exact size_pipe) ?c1 ?c2 ?_)
      case c1 => exact fun u hu => HCO.out u hu
      case c2 => show 0 + cs.size ≤ _; rw [hsz]; decide
      intro W2 hb hk5
      rw [spl_all _ _ (by show cs.size = _; rw [hsz]; rfl)] at hb
      have HB8 := Lib.hid hb
      have HE7 := Lib.hid (hk5.ext ((HE6.out).alloc (.cells Tryz.zeroCells53 53)) (fun k hk => by have := HE6.out.size; omega))
      have HIM8 : Hid (ImB W2 nn dd pts z8) := Lib.hid ((HIM.out.ext ((Ext.refl w6).alloc (.cells Tryz.zeroCells53 53))).keep (fun g cs hg => hg.kp hk5 (hg.ne_type (Blk.new w6 53 Tryz.zeroCells53) (by decide))))
      clear hb hk5 HIM
      generalize w6.heap.size = G8 at *
      have HX2 := Lib.hid (HEX.out.trans HE7.out)
      have HHOW : Hid (∃ b Q, CmdO W2 b (.slice (some ⟨vb, vo, none⟩) 6 hvc) (howL wd rp pt) Q) := Lib.hid ⟨bh, Q0, HHW.out.ext HE7.out⟩
      clear HE6
      have HGL := Lib.hid (HW.out.ext (HEW.out.trans HX2.out)).glob
      have HPT := Lib.hid (HPT1.out.ext HX2.out)
      have HPTS := Lib.hid (HPTS1.out.ext HX2.out)
      have e97 : wrap64 ((N : Int) - 1) = (k : Int) := by rw [HKN.out.1, Int.natCast_add, Int.natCast_one, Int.add_sub_cancel]; exact wrap64_of (by omega) (by have := HKN.out.2; have := HKN.out.1; omega)
      have hK0 : (0 : Int) ≤ (k : Int) := by omega
      have hKN : (k : Int) < (N : Int) := by have := HKN.out.1; omega
      go_upto_region 13 with fail
      refine wp_region_fill D13 (fun st u x => EP W2 (F13 W2.heap.size (.slice (some ⟨vb, vo, none⟩) 6 hvc) (.slice (some ⟨lb, lo, none⟩) N lc) (a1, a2) (l1, l2) N k lb lo wd rp pt nn dd) (E13 W2.heap.size (a1, a2) (l1, l2) nn dd) [(0, 90), (1, 91), (2, 92), (3, 93), (4, 94), (5, 95), (6, 96), (7, 97), (8, 98), (9, 99), (10, 100), (11, 101), (12, 102), (13, 103), (14, 9)] [12, 13, 14] 12 15 st u x) (by kernel_rfl) (by kernel_rfl) ?_ ?_ ?_
      · rintro x rfl
        exact EP.begin ((Ext.refl W2).drew)
      · intro A' hA' st u x i o ho hst hdep hcl hR
        have hlen : A'.length = 122 := by rw [hA']; rfl
        have h3 : A'.getD 3 undef = .pointer (some ⟨P, 0, none⟩) := by rw [hA']; rfl
        have h4 : A'.getD 4 undef = .slice (some ⟨lb, lo, none⟩) N lc := by rw [hA']; rfl
        have h7 : A'.getD 7 undef = .slice (some ⟨vb, vo, none⟩) 6 hvc := by rw [hA']; rfl
        clear hA'
        have hi : i < 16 := (Array.getElem?_eq_some_iff.1 ho).1
        have HE := hR.e
        have ev : ∀ t, t < 122 → D13.contains t = true → (⟨fillA A' D13 u, []⟩ : Act).eval (.tmp t) = u t := fun t h k => fillA_in (by omega) k
        have z12 : st 15 = true → st 12 = true := fun h => hcl 15 _ rfl h ⟨12, .phase⟩ (by simp) rfl
        have z13 : st 15 = true → st 13 = true := fun h => hcl 15 _ rfl h ⟨13, .data⟩ (by simp) rfl
        have z14 : st 15 = true → st 14 = true := fun h => hcl 15 _ rfl h ⟨14, .data⟩ (by simp) rfl
        have k11 : st 12 = true → st 11 = true := fun h => hcl 12 _ rfl h ⟨11, .data⟩ (by simp) rfl
        have k10 : st 12 = true → st 10 = true := fun h => hcl 11 _ rfl (k11 h) ⟨10, .data⟩ (by simp) rfl
        have k9 : st 12 = true → st 9 = true := fun h => hcl 10 _ rfl (k10 h) ⟨9, .data⟩ (by simp) rfl
        have k8 : st 12 = true → st 8 = true := fun h => hcl 9 _ rfl (k9 h) ⟨8, .data⟩ (by simp) rfl
        have k7 : st 12 = true → st 7 = true := fun h => hcl 8 _ rfl (k8 h) ⟨7, .data⟩ (by simp) rfl
        have k6 : st 12 = true → st 6 = true := fun h => hcl 7 _ rfl (k7 h) ⟨6, .data⟩ (by simp) rfl
        have k5 : st 12 = true → st 5 = true := fun h => hcl 6 _ rfl (k6 h) ⟨5, .data⟩ (by simp) rfl
        have k4 : st 12 = true → st 4 = true := fun h => hcl 8 _ rfl (k8 h) ⟨4, .data⟩ (by simp) rfl
        have k3 : st 12 = true → st 3 = true := fun h => hcl 10 _ rfl (k10 h) ⟨3, .data⟩ (by simp) rfl
        have k2 : st 12 = true → st 2 = true := fun h => hcl 11 _ rfl (k11 h) ⟨2, .chain⟩ (by simp) rfl
        have k1 : st 12 = true → st 1 = true := fun h => hcl 2 _ rfl (k2 h) ⟨1, .data⟩ (by simp) rfl
        have k0 : st 12 = true → st 0 = true := fun h => hcl 2 _ rfl (k2 h) ⟨0, .data⟩ (by simp) rfl
        rcases (by omega : i = 0 ∨ i = 1 ∨ i = 2 ∨ i = 3 ∨ i = 4 ∨ i = 5 ∨ i = 6 ∨ i = 7 ∨ i = 8 ∨ i = 9 ∨ i = 10 ∨ i = 11 ∨ i = 12 ∨ i = 13 ∨ i = 14 ∨ i = 15) with rfl | rfl | rfl | rfl | rfl | rfl | rfl | rfl | rfl | rfl | rfl | rfl | rfl | rfl | rfl | rfl
        all_goals (obtain rfl : (⟨_, _, _, _, _, _⟩ : Oper) = o := Option.some.inj ho; refine wpOp_plain rfl rfl ?_)
        · have nl := st_no (fun h => k0 (z12 h)) hst
          have nc := st_no k0 hst
          refine wp_of_run (v := .slice (some ⟨x.heap.size, 0, none⟩) 0 0) (w' := x.alloc (.cells #[] 88)) ?run ⟨_, fillA_put rfl, hR.step 0 90 (by decide) (by decide) nl ((Ext.refl x).alloc _) (fun s v => F13_ext ((Ext.refl x).alloc _) s v) ⟨_, rfl⟩⟩
          case run => skip; simp [execOp, Act.eval, go_sem, wrap_i]
        · have nl := st_no (fun h => k1 (z12 h)) hst
          have nc := st_no k1 hst
          have q7 : (⟨fillA A' D13 u, []⟩ : Act).eval (.tmp 7) = .slice (some ⟨vb, vo, none⟩) 6 hvc := (fillA_out (by omega) rfl).trans h7
          refine wp_of_run (v := .slice (some ⟨vb, vo, none⟩) 6 hvc) (w' := x) ?run ⟨_, fillA_put rfl, hR.quiet 1 91 (by decide) (by decide) nl rfl⟩
          case run => simp only [Act.eval, Array.getD_eq_getD_getElem?] at q7; simp [execOp, q7, Act.eval, go_sem, wrap_i]
        · have nl := st_no (fun h => k2 (z12 h)) hst
          have nc := st_no k2 hst
          have f90 := hR.val (0, 90) (by decide) (hdep ⟨0, .data⟩ (by simp) rfl) (.inl nc) nl
          obtain ⟨G, g90⟩ := f90
          have q90 : _ = (.slice (some ⟨G, 0, none⟩) 0 0 : Value) := (ev 90 (by decide) rfl).trans g90
          have f91 := hR.val (1, 91) (by decide) (hdep ⟨1, .data⟩ (by simp) rfl) (.inl nc) nl
          have q91 : _ = (.slice (some ⟨vb, vo, none⟩) 6 hvc : Value) := (ev 91 (by decide) rfl).trans f91
          obtain ⟨b, Q, hc⟩ := HHOW.out
          obtain ⟨va, vc, hv, hrd⟩ := ownsRow_rd (ownsRow_ext hc.own HE)
          have hL : (howL wd rp pt).length = 6 := rfl
          rw [hL] at hv hrd
          cases hv
          refine wp_append_full rfl (.tmp 90) (.tmp 91) 22 rfl 88 2 32 _ Tryz.underlying22 info_rq rfl (by decide) (some ⟨G, 0, none⟩) 0 [] q90 (Rd.empty _ _ _ _ (Nat.zero_le _)) (fun h => (by cases h)) _ 6 hvc _ q91 hrd (rq_one Q) (by decide) (by decide) (by decide) ?_
          intro v' w' ho' hE
          exact ⟨_, fillA_put rfl, hR.step 2 92 (by decide) (by decide) nl hE (fun s v => F13_ext hE s v) (show CmB W2.heap.size w' (howL wd rp pt) v' from ⟨_, Q, HE.size, hE.size, (hc.copy (HE.trans hE) (by rw [show (howL wd rp pt).length = 6 from rfl]; simpa using ho'))⟩)⟩
        · have nl := st_no (fun h => k3 (z12 h)) hst
          have nc := st_no k3 hst
          have q3 : (⟨fillA A' D13 u, []⟩ : Act).eval (.tmp 3) = .pointer (some ⟨P, 0, none⟩) := (fillA_out (by omega) rfl).trans h3
          have cp : x.cell? ⟨P, 0, none⟩ = some (.int .i64 a1) ∧ x.cell? ⟨P, 1, none⟩ = some (.int .i64 a2) := (HPT.out.ext HE).c2
          obtain ⟨cp0, cp1⟩ := cp
          refine wp_of_run (v := .agg #[.int .i64 a1, .int .i64 a2]) (w' := x) ?run ⟨_, fillA_put rfl, hR.quiet 3 93 (by decide) (by decide) nl rfl⟩
          case run => simp only [Act.eval, Array.getD_eq_getD_getElem?] at q3; simp [execOp, q3, Act.eval, go_sem, wrap_i, cp0, cp1]
        · have nl := st_no (fun h => k4 (z12 h)) hst
          have nc := st_no k4 hst
          have q4 : (⟨fillA A' D13 u, []⟩ : Act).eval (.tmp 4) = .slice (some ⟨lb, lo, none⟩) N lc := (fillA_out (by omega) rfl).trans h4
          refine wp_of_run (v := .slice (some ⟨lb, lo, none⟩) N lc) (w' := x) ?run ⟨_, fillA_put rfl, hR.quiet 4 94 (by decide) (by decide) nl rfl⟩
          case run => simp only [Act.eval, Array.getD_eq_getD_getElem?] at q4; simp [execOp, q4, Act.eval, go_sem, wrap_i]
        · have nl := st_no (fun h => k5 (z12 h)) hst
          have nc := st_no k5 hst
          have q4 : (⟨fillA A' D13 u, []⟩ : Act).eval (.tmp 4) = .slice (some ⟨lb, lo, none⟩) N lc := (fillA_out (by omega) rfl).trans h4
          refine wp_of_run (v := .slice (some ⟨lb, lo, none⟩) N lc) (w' := x) ?run ⟨_, fillA_put rfl, hR.quiet 5 95 (by decide) (by decide) nl rfl⟩
          case run => simp only [Act.eval, Array.getD_eq_getD_getElem?] at q4; simp [execOp, q4, Act.eval, go_sem, wrap_i]
        · have nl := st_no (fun h => k6 (z12 h)) hst
          have nc := st_no k6 hst
          have f95 := hR.val (5, 95) (by decide) (hdep ⟨5, .data⟩ (by simp) rfl) (.inl nc) nl
          have q95 : _ = (.slice (some ⟨lb, lo, none⟩) N lc : Value) := (ev 95 (by decide) rfl).trans f95
          refine wp_of_run (v := .int .i64 (N : Int)) (w' := x) ?run ⟨_, fillA_put rfl, hR.quiet 6 96 (by decide) (by decide) nl rfl⟩
          case run => simp only [Act.eval, Array.getD_eq_getD_getElem?] at q95; simp [execOp, q95, Act.eval, go_sem, wrap_i]
        · have nl := st_no (fun h => k7 (z12 h)) hst
          have nc := st_no k7 hst
          have f96 := hR.val (6, 96) (by decide) (hdep ⟨6, .data⟩ (by simp) rfl) (.inl nc) nl
          have q96 : _ = (.int .i64 (N : Int) : Value) := (ev 96 (by decide) rfl).trans f96
          refine wp_of_run (v := .int .i64 (k : Int)) (w' := x) ?run ⟨_, fillA_put rfl, hR.quiet 7 97 (by decide) (by decide) nl rfl⟩
          case run => simp only [Act.eval, Array.getD_eq_getD_getElem?] at q96; simp [execOp, q96, Act.eval, go_sem, wrap_i, e97]
        · have nl := st_no (fun h => k8 (z12 h)) hst
          have nc := st_no k8 hst
          have f94 := hR.val (4, 94) (by decide) (hdep ⟨4, .data⟩ (by simp) rfl) (.inl nc) nl
          have q94 : _ = (.slice (some ⟨lb, lo, none⟩) N lc : Value) := (ev 94 (by decide) rfl).trans f94
          have f97 := hR.val (7, 97) (by decide) (hdep ⟨7, .data⟩ (by simp) rfl) (.inl nc) nl
          have q97 : _ = (.int .i64 (k : Int) : Value) := (ev 97 (by decide) rfl).trans f97
          refine wp_of_run (v := .pointer (some ⟨lb, lo + k * 2, none⟩)) (w' := x) ?run ⟨_, fillA_put rfl, hR.quiet 8 98 (by decide) (by decide) nl rfl⟩
          case run => simp only [Act.eval, Array.getD_eq_getD_getElem?] at q94; simp only [Act.eval, Array.getD_eq_getD_getElem?] at q97; simp [execOp, q94, q97, Act.eval, go_sem, wrap_i, hK0, hKN]
        · have nl := st_no (fun h => k9 (z12 h)) hst
          have nc := st_no k9 hst
          have f98 := hR.val (8, 98) (by decide) (hdep ⟨8, .data⟩ (by simp) rfl) (.inl nc) nl
          have q98 : _ = (.pointer (some ⟨lb, lo + k * 2, none⟩) : Value) := (ev 98 (by decide) rfl).trans f98
          obtain ⟨cl0, cl1⟩ := pt_at (HPTS.out.ext HE) HLAST.out
          refine wp_of_run (v := .agg #[.int .i64 l1, .int .i64 l2]) (w' := x) ?run ⟨_, fillA_put rfl, hR.quiet 9 99 (by decide) (by decide) nl rfl⟩
          case run => simp only [Act.eval, Array.getD_eq_getD_getElem?] at q98; simp [execOp, q98, Act.eval, go_sem, wrap_i, cl0, cl1]
        · have nl := st_no (fun h => k10 (z12 h)) hst
          have nc := st_no k10 hst
          have f93 := hR.val (3, 93) (by decide) (hdep ⟨3, .data⟩ (by simp) rfl) (.inl nc) nl
          have q93 : _ = (.agg #[.int .i64 a1, .int .i64 a2] : Value) := (ev 93 (by decide) rfl).trans f93
          have f99 := hR.val (9, 99) (by decide) (hdep ⟨9, .data⟩ (by simp) rfl) (.inl nc) nl
          have q99 : _ = (.agg #[.int .i64 l1, .int .i64 l2] : Value) := (ev 99 (by decide) rfl).trans f99
          refine wp_of_run (v := .slice (some ⟨x.heap.size, 0, none⟩) 2 2) (w' := x.alloc (.cells #[.int .i64 a1, .int .i64 a2, .int .i64 l1, .int .i64 l2] 79)) ?run ⟨_, fillA_put rfl, hR.step 10 100 (by decide) (by decide) nl ((Ext.refl x).alloc _) (fun s v => F13_ext ((Ext.refl x).alloc _) s v) (show SlB _ 79 2 #[.int .i64 a1, .int .i64 a2, .int .i64 l1, .int .i64 l2] _ from ⟨_, rfl, Blk.new _ _ _⟩)⟩
          case run => simp only [Act.eval, Array.getD_eq_getD_getElem?] at q93; simp only [Act.eval, Array.getD_eq_getD_getElem?] at q99; simp [execOp, q93, q99, Act.eval, go_sem, wrap_i]
        · have nl := st_no (fun h => k11 (z12 h)) hst
          have nc := st_no k11 hst
          have f100 := hR.val (10, 100) (by decide) (hdep ⟨10, .data⟩ (by simp) rfl) (.inl nc) nl
          obtain ⟨G, g100, b100⟩ := f100
          have q100 : _ = (.slice (some ⟨G, 0, none⟩) 2 2 : Value) := (ev 100 (by decide) rfl).trans g100
          refine wp_call rfl Tryz.func22 (by kernel_rfl) rfl (R := fun e w' => ∃ v Q, e = .returned v ∧ CmdO w' x.heap.size v (shapeL 2 [(a1, a2), (l1, l2)]) Q ∧ Ext x w') (by simp only [List.map_toArray, List.map_cons, List.map_nil, q100]; exact shape_any 2 [(a1, a2), (l1, l2)] _ 2 2 x (blk_rd2 b100) rfl (by decide)) ?_
          rintro e w' ⟨v, Q, rfl, h1, hE⟩
          exact ⟨_, rfl, _, fillA_put rfl, hR.step 11 101 (by decide) (by decide) nl hE (fun s v => F13_ext hE s v) (show CmB W2.heap.size w' (shapeL 2 [(a1, a2), (l1, l2)]) v from ⟨_, Q, HE.size, hE.size, h1⟩)⟩
        · have nl := st_no z12 hst
          have nc := hst
          have f92 := hR.val (2, 92) (by decide) (hdep ⟨2, .data⟩ (by simp) rfl) (.inl nc) nl
          obtain ⟨b, Q, hb0, hb1, hc⟩ := f92
          have q92 : _ = (u 92 : Value) := (ev 92 (by decide) rfl).trans rfl
          have f101 := hR.val (11, 101) (by decide) (hdep ⟨11, .data⟩ (by simp) rfl) (.inl nc) nl
          obtain ⟨b2, Q2, hb2, hb3, hc2⟩ := f101
          have q101 : _ = (u 101 : Value) := (ev 101 (by decide) rfl).trans rfl
          obtain ⟨va, vc, hv, hrd⟩ := ownsRow_rd hc2.own
          have hL : (shapeL 2 [(a1, a2), (l1, l2)]).length = 4 := rfl
          rw [hL] at hv hrd
          refine wp_append_rd (.tmp 92) (.tmp 101) 22 rfl b 88 _ 2 32 Tryz.underlying22 info_rq rfl (by decide) (u 92) 6 (Q.flatMap Rq.cells) q92 hc.own va 4 vc _ (q101.trans hv) hrd (rq_one Q2) (by decide) (by decide) hb1 ?_
          intro v' w' ho' hg'
          have hE : Ext W2 w' := HE.grown hg' (fun g hk => Nat.le_trans hb0 (own_ge hc.own g hk))
          have hcat := hc.cat hc2.n hc2.q hg' ho'
          exact ⟨_, fillA_put rfl, hR.cut 102 (by decide) (by decide) nc nl hE (fun q hq hn hl v hF => F13_cut hc.own hg' ((by decide : ∀ q ∈ ([(0, 90), (1, 91), (2, 92), (3, 93), (4, 94), (5, 95), (6, 96), (7, 97), (8, 98), (9, 99), (10, 100), (11, 101), (12, 102), (13, 103), (14, 9)] : List (Nat × Nat)), q.1 ≠ 12 → q.1 ∈ [12, 13, 14] → (q.2 = 103 ∨ q.2 = 9)) q hq hn hl) hF) (show CmB W2.heap.size w' (howL wd rp pt ++ shapeL 2 [(a1, a2), (l1, l2)]) v' from ⟨b, _, hb0, Nat.le_trans hb1 hg'.size, hcat⟩)⟩
        · have nl := st_no z13 hst
          have f102 := hR.val (12, 102) (by decide) (hdep ⟨12, .data⟩ (by simp) rfl) (.inr (by decide)) nl
          obtain ⟨b, Q, hb0, hb1, hc⟩ := f102
          have q102 : _ = (u 102 : Value) := (ev 102 (by decide) rfl).trans rfl
          obtain ⟨va, vc, hv, hcm⟩ := hc.cmds
          have hL : (howL wd rp pt ++ shapeL 2 [(a1, a2), (l1, l2)]).length = 10 := rfl
          rw [hL] at hv hcm
          rw [hv] at q102
          refine wp_call rfl Tryz.func20 (by kernel_rfl) rfl (R := GivesB (sE nn true dd) (pE nn true dd [(a1, a2), (l1, l2)]) x) (by simp only [List.map_toArray, List.map_cons, List.map_nil, q102]; exact run_cmds HST.out va 10 vc x (HGL.out.ext HE) hcm (by decide)) ?_
          rintro e w' ⟨z, rfl, hl, hE⟩
          exact ⟨_, rfl, _, fillA_put rfl, hR.step 13 103 (by decide) (by decide) nl hE (fun s v => F13_ext hE s v) ⟨z, rfl, lies_im hl⟩⟩
        · have nl := st_no z14 hst
          refine wp_of_run (v := .pointer (some ⟨x.heap.size, 0, none⟩)) (w' := x.alloc (.cells Tryz.zeroCells53 53)) ?run ⟨_, fillA_put rfl, hR.step 14 9 (by decide) (by decide) nl ((Ext.refl x).alloc _) (fun s v => F13_ext ((Ext.refl x).alloc _) s v) ⟨_, HE.size, rfl, Blk.new _ _ _⟩⟩
          case run => skip; simp [execOp, Act.eval, go_sem, wrap_i]
        · have nl := hst
          have f9 := hR.val (14, 9) (by decide) (hdep ⟨14, .data⟩ (by simp) rfl) (.inr (by decide)) nl
          obtain ⟨A, hA, g9, bA⟩ := f9
          have q9 : _ = (.pointer (some ⟨A, 0, none⟩) : Value) := (ev 9 (by decide) rfl).trans g9
          have f103 := hR.val (13, 103) (by decide) (hdep ⟨13, .data⟩ (by simp) rfl) (.inr (by decide)) nl
          obtain ⟨z, g103, hI⟩ := f103
          have q103 : _ = (.agg (cE nn dd [(a1, a2), (l1, l2)] z) : Value) := (ev 103 (by decide) rfl).trans g103
          have hsz := cE_size nn dd [(a1, a2), (l1, l2)] z
          have hI2 := hI
          refine wp_store_blk (.tmp 9) (.tmp 103) 53 rfl q9 _ q103 bA (by show _ = some (cE nn dd [(a1, a2), (l1, l2)] z).size; rw [hsz]; exact size_pipe) (fun v hv => cE_one _ _ _ _ v hv) (by show (cE nn dd [(a1, a2), (l1, l2)] z).size = _; rw [hsz]; rfl) ?_
          intro w' hB hK
          exact ⟨_, rfl, EP.last (hK.ext HE (fun k hk => by omega)) ⟨A, z, hA, g9, hB, hI2.keep (fun g cs hb => hb.kp hK (hb.ne_type bA (by decide)))⟩⟩
      intro st u x hall hR
      have hFIN := hR.fin (hall 15 (by decide))
      have hXE := hR.e
      clear hR hall e97 hK0 hKN
      simp [fillA, fillL, D13]
      obtain ⟨A9, z9, hA9, g9, b9, im9⟩ := hFIN
      rw [g9]
      obtain ⟨cs9, hcs9⟩ : ∃ c, c = cE nn dd [(a1, a2), (l1, l2)] z9 := ⟨_, rfl⟩
      rw [← hcs9] at b9
      have HC9 : Hid (cs9[0]? = some (.int .i64 0) ∧ cs9[1]? = some (.int .i64 9) ∧ cs9[2]? = some (.int .i64 8) ∧ cs9[3]? = some (.slice z9.c 72 z9.cc) ∧ cs9[4]? = some (.slice z9.z 72 z9.cz)) := Lib.hid (by rw [hcs9]; exact cE_cells nn dd _ z9)
      have HB9 := Lib.hid b9
      have HIM9 := Lib.hid im9
      have HXE := Lib.hid hXE
      clear hcs9 g9 b9 im9 hXE hA9
      go_wp2_with fail
      refine (HAW.out _ (HW.out.ext (HEW.out.trans (HX2.out.trans HXE.out)))).mono ?_
      rintro e w8 ⟨rfl, hE⟩
      have HE8 := Lib.hid hE
      clear hE
      have c8 := fun i => (HB8.out.ext (HXE.out.trans HE8.out)).cell i
      have q0 := (c8 0).trans HCE.out.1
      have q1 := (c8 1).trans HCE.out.2.1
      have q2 := (c8 2).trans HCE.out.2.2.1
      have q3 := (c8 3).trans HCE.out.2.2.2.1
      have q4 := (c8 4).trans HCE.out.2.2.2.2
      have c9 := fun i => (HB9.out.ext HE8.out).cell i
      have s0 := (c9 0).trans HC9.out.1
      have s1 := (c9 1).trans HC9.out.2.1
      have s2 := (c9 2).trans HC9.out.2.2.1
      have s3 := (c9 3).trans HC9.out.2.2.2.1
      have s4 := (c9 4).trans HC9.out.2.2.2.2
      have HI8 := Lib.hid (HIM8.out.ext (HXE.out.trans HE8.out))
      have HI9 := Lib.hid (HIM9.out.ext HE8.out)
      have HEF := Lib.hid (HEW.out.trans (HX2.out.trans (HXE.out.trans HE8.out)))
      clear c8 c9
      go_wp2_with fail
      refine (alike_any 9 8 (endC nn true dd pts) z72 z8.c z9.c z8.z z9.z 72 z8.cc z9.cc 72 z8.cz z9.cz _ HI8.out.1.rd (by rw [HEQ.out]; exact HI9.out.1.rd) HI8.out.2.rd HI9.out.2.rd (by decide) (by decide)).mono ?_
      rintro e w9 ⟨rfl, hE⟩
      have HE9 := Lib.hid (HEF.out.trans hE)
      clear hE q0 q1 q2 q3 q4 s0 s1 s2 s3 s4
      go_wp2_with fail
      go_ret
      exact ⟨rfl, HE9.out⟩
end Go.Proofs.YtplljnfjkkloeaaGreatDoor
