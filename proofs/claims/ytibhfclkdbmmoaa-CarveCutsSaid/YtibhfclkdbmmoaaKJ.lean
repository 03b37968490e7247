/- Proof text: the law CarveCuts. By an AI agent. No condition beyond what each theorem states. -/
import Derived.Test.YtibhfclkdbmmoaaCE
import Derived.Test.YtibhfclkdbmmoaaKG
import Derived.Test.YtibhfclkdbmmoaaKH
set_option linter.unusedVariables false
set_option linter.unusedSimpArgs false
namespace Go.Proofs.Ytibhfclkdbmmoaa
open Go.RowKit
theorem RHeld.pcut {w wr : World} {l Z : List (Vx × Bool)} {s : List Sd} {j c d : Nat} {a b : Option Addr} {d0 : Sd} (h : RHeld w l s j Z a b c d wr) (hj : j < 9) (hs : d0.Ok) {W : World} (e : Ext wr W) :
    Calls Try.prog 19 #[.slice a Z.length c, .slice b Z.length d, d0.v] W (RCut (Z.map (·.1)) (Z.map (·.2)) d0 W) :=
  pcut_any _ _ d0 a b Z.length c d W (h.1.ext e) (by rw [List.length_map]) (h.2.1.ext e) (by rw [List.length_map]) (by have h1 := h.2.2.2.2.1; have h2 := (grow2 j hj).2; omega) hs (fun v hv => by
    obtain ⟨c, hc, rfl⟩ := List.mem_map.1 hv
    exact h.2.2.2.1 c hc)
set_option maxRecDepth 100000 in
set_option maxHeartbeats 2000000 in
theorem cuts_in (l : List Vx) (e : List Bool) (s : List Sd) (A B C : Option Addr) (n m k ca cb cc : Nat) (w : World) (hA : Rd w 8 A n ca (vrows l)) (hl : l.length = n) (hB : Rd w 1 B m cb (brows e)) (he : e.length = m)
    (hC : Rd w 5 C k cc (srow s)) (hs : s.length = k) (hsm : n ≤ 40 ∧ m ≤ 40 ∧ k ≤ 12) (hm : MayC l e s) :
    Calls Try.prog 6 #[.slice A n ca, .slice B m cb, .slice C k cc] w fun x w' => x = .returned (.bool true) ∧ Ext w w' := by
  have CS := Lib.hid (small_yes A B C n m k ca cb cc w hsm.1 hsm.2.1 hsm.2.2)
  have HA := Lib.hid hA; have HB := Lib.hid hB; have HC := Lib.hid hC
  have HL := Lib.hid hl; have HLE := Lib.hid he; have HS := Lib.hid hs; have HM := Lib.hid hm
  obtain rfl : m = n := by have := hm.2.2.1; omega
  have hki : (k : Int) ≤ 9 := by have := hm.2.2.2.1; omega
  have HN40 := Lib.hid hsm.1
  clear hA hl hB he hC hs hm hsm
  go_enter Try.func6, Try.ntmps6
  go_wp2_with fail
  refine CS.out.mono ?_
  rintro x w1 ⟨rfl, hE⟩
  obtain ⟨x1, rfl⟩ := Later.mk' hE
  clear hE CS
  go_wp2_with fail
  refine (carve_yes l e s A B C m m k ca cb cc _ (HA.out.ext x1.ext) HL.out (HB.out.ext x1.ext) HLE.out (HC.out.ext x1.ext) HS.out HM.out).mono ?_
  rintro x W1 ⟨a, c, b, d, rfl, h1, h2, hE⟩
  have HR1 := Lib.hid h1; have HR2 := Lib.hid h2
  have HE1 := Lib.hid (x1.ext.trans hE)
  clear h1 h2 hE
  obtain ⟨N, hN⟩ : ∃ N, N = (carved l e s).length := ⟨_, rfl⟩
  have HN := Lib.hid hN
  rw [← hN] at HR1 HR2 ⊢
  clear hN
  obtain ⟨Z0, hZ0, hH⟩ := RHeld.begin (s := s) HL.out HLE.out (by have := HN40.out; omega) HM.out.2.2.2.2.1 (HA.out.ext HE1.out) (HB.out.ext HE1.out) HE1.out
  have HZ0 := Lib.hid hZ0
  have HH := Lib.hid hH
  have HCr := Lib.hid (HC.out.ext HE1.out)
  clear hZ0 hH HC HA HB
  go_wp2_with fail
  go_loopw [10, 11, 12] (fun va vb i wr => ∃ (j : Nat) (Z : List (Vx × Bool)) (a b : Option Addr) (nn c d : Nat), j ≤ k ∧ va = .slice a nn c ∧ vb = .slice b nn d ∧ i = .int .i64 j ∧ Hid (Z.length = nn) ∧ Hid (RHeld w (l.zip e) s j Z a b c d wr) ∧ Hid (Ext W1 wr)) (fun _ _ i _ => k - (intOf i).toNat)
  case atStart => exact ⟨0, Z0, _, _, _, _, _, Nat.zero_le _, rfl, rfl, rfl, HZ0, HH, Lib.hid (Ext.refl _)⟩
  case round =>
    clear HH HZ0 Z0
    obtain ⟨r, Z, a1, b1, nn, c1, d1, hr, rfl, rfl, rfl, HZl, HH, HE2⟩ := hrel
    by_cases hlt : r < k
    · obtain ⟨d0, hd⟩ : ∃ d, s[r]? = some d := ⟨_, List.getElem?_eq_getElem (by rw [HS.out]; exact hlt)⟩
      obtain ⟨bb, off, ha, -, -⟩ := HCr.out.at_ (by omega)
      subst ha
      obtain ⟨c0, c1', c2, c3, c4⟩ := side_at (HCr.out.ext HE2.out) hd
      have HD := Lib.hid hd
      have P1 := HH.out.pcut (by omega) (HM.out.2.2.2.2.2 d0 (List.mem_of_getElem? hd)) (Ext.refl _)
      rw [HZl.out] at P1
      have CU1 := Lib.hid P1
      have CU2 : Hid (∀ W, Ext wr W → Calls Try.prog 20 #[.slice a1 nn c1, .slice b1 nn d1, d0.v] W (RCut (Z.map (·.1)) (Z.map (·.2)) d0 W)) := Lib.hid (fun W hW => by
        have P2 := HH.out.cut (by omega) (HM.out.2.2.2.2.2 d0 (List.mem_of_getElem? HD.out)) hW
        rw [HZl.out] at P2
        exact P2)
      clear hd P1
      obtain ⟨W2, rfl⟩ : ∃ W2 : World, W2 = wr := ⟨_, rfl⟩
      go_wp2_with fail
      refine CU1.out.mono ?_
      intro x w3 hx
      obtain ⟨a', b', c', d', hx', hN, hE3⟩ := HH.out.next HD.out (by omega) hx
      obtain ⟨Z', hZ'⟩ : ∃ Z', Z' = cutBy (cutF d0) Z := ⟨_, rfl⟩
      rw [← hZ'] at hx' hN
      have HZ' := Lib.hid hZ'
      obtain ⟨nn', hnn⟩ : ∃ nn', nn' = Z'.length := ⟨_, rfl⟩
      rw [← hnn] at hx'
      subst hx'
      have HN1 := Lib.hid hN
      have HNN := Lib.hid hnn
      have HE3 := Lib.hid hE3
      clear hx hN hE3 hZ' hnn c0 c1' c2 c3 c4 CU1
      obtain ⟨c0, c1', c2, c3, c4⟩ := side_at ((HCr.out.ext HE2.out).ext HE3.out) HD.out
      go_wp2_with fail
      refine (CU2.out _ HE3.out).mono ?_
      intro x w4 hx
      have hr2 := (HH.out.ext HE3.out).next HD.out (by omega) hx
      rw [← HZ'.out, ← HNN.out] at hr2
      obtain ⟨a2, b2, c2', d2, rfl, hN, hE4⟩ := hr2
      have HN2 := Lib.hid hN
      have HN1 := Lib.hid (HN1.out.ext hE4)
      have HE4 := Lib.hid ((HE2.out.trans HE3.out).trans hE4)
      clear hx hN hE4 c0 c1' c2 c3 c4 CU2 HH HE3 HE2
      have SM := Lib.hid (same_true (Z'.map (·.1)) (Z'.map (·.2)) a' a2 b' b2 nn' c' c2' d' d2 w4 (by rw [HNN.out]; exact HN1.out.1) (by rw [HNN.out]; exact HN2.out.1) (by rw [HNN.out]; exact HN1.out.2.1) (by rw [HNN.out]; exact HN2.out.2.1) (by rw [List.length_map, HNN.out]) (by rw [List.length_map, HNN.out]))
      go_wp2_with fail
      refine SM.out.mono ?_
      rintro x w5 ⟨rfl, hE5⟩
      have HN3 := Lib.hid (HN1.out.ext hE5)
      have HE5 := Lib.hid (HE4.out.trans hE5)
      have HNs := Lib.hid HNN.out.symm
      clear hE5 SM HN1 HN2 HE4
      go_wp2_with fail
      go_roundw
      case rel => first | exact ⟨r + 1, Z', _, _, _, _, _, by omega, rfl, rfl, by go_num, HNs, HN3, HE5⟩ | ((repeat apply Exists.intro); exact ⟨⟨r + 1, Z', _, _, _, _, _, by omega, rfl, rfl, by go_num, HNs, HN3, HE5⟩, rfl⟩)
      case measure => simp [intOf]; omega
    · obtain rfl : r = k := by omega
      have hz : Z = carved l e s := by
        have h3 := HH.out.2.2.1
        rw [List.take_of_length_le (by rw [HS.out]; exact Nat.le_refl _)] at h3
        exact h3
      have hnN : nn = N := by rw [← HZl.out, hz, HN.out]
      subst hnN
      subst hz
      obtain ⟨W2, rfl⟩ : ∃ W2 : World, W2 = wr := ⟨_, rfl⟩
      clear hr hlt
      go_wp2_with fail
      refine (awake10 _).mono ?_
      rintro x W3 ⟨rfl, hE⟩
      have HE3 := Lib.hid (HE2.out.trans hE)
      have hA1 := HH.out.ext hE
      have hlen : ((carved l e s).map (·.1)).length = nn := by rw [List.length_map, HN.out]
      have hlen2 : ((carved l e s).map (·.2)).length = nn := by rw [List.length_map, HN.out]
      have SM := Lib.hid (same_true ((carved l e s).map (·.1)) ((carved l e s).map (·.2)) a a1 b b1 nn c c1 d d1 W3 (HR1.out.ext HE3.out) (by have := hA1.1; rw [← HN.out] at this; exact this) (HR2.out.ext HE3.out) (by have := hA1.2.1; rw [← HN.out] at this; exact this) hlen hlen2)
      have HL1 := Lib.hid hlen; have HL2 := Lib.hid hlen2
      clear hE hA1 hlen hlen2
      go_wp2_with fail
      refine SM.out.mono ?_
      rintro x W4 ⟨rfl, hE⟩
      have HE4 := Lib.hid ((HE1.out.trans HE3.out).trans hE)
      clear hE SM
      go_wp2_with fail
      go_ret
      exact ⟨rfl, HE4.out⟩
set_option maxRecDepth 100000 in
set_option maxHeartbeats 2000000 in
theorem cuts_any (l : List Vx) (e : List Bool) (s : List Sd) (A B C : Option Addr) (n m k ca cb cc : Nat) (w : World) (hA : Rd w 8 A n ca (vrows l)) (hl : l.length = n) (hB : Rd w 1 B m cb (brows e)) (he : e.length = m)
    (hC : Rd w 5 C k cc (srow s)) (hs : s.length = k) :
    Calls Try.prog 6 #[.slice A n ca, .slice B m cb, .slice C k cc] w fun x w' => x = .returned (.bool true) ∧ Ext w w' := by
  by_cases h1 : n ≤ 40 ∧ m ≤ 40 ∧ k ≤ 12
  · by_cases h2 : MayC l e s
    · exact cuts_in l e s A B C n m k ca cb cc w hA hl hB he hC hs h1 h2
    · have CS := Lib.hid (small_yes A B C n m k ca cb cc w h1.1 h1.2.1 h1.2.2)
      have CN := Lib.hid (fun W (hE : Ext w W) => carve_no l e s A B C n m k ca cb cc W (hA.ext hE) hl he (hC.ext hE) hs h2)
      clear hA hl hB he hC hs h1 h2
      go_enter Try.func6, Try.ntmps6
      go_wp2_with fail
      refine CS.out.mono ?_
      rintro x w1 ⟨rfl, hE⟩
      obtain ⟨x1, rfl⟩ := Later.mk' hE
      clear hE
      go_wp2_with fail
      refine (CN.out _ x1.ext).mono ?_
      rintro x w1 ⟨rfl, hE⟩
      obtain ⟨x2, rfl⟩ := Later.mk' hE
      clear hE
      go_wp2_with fail
      refine (awake10 _).mono ?_
      rintro x w1 ⟨rfl, hE⟩
      have HE := Lib.hid ((x1.ext.later x2).trans hE)
      clear hE
      go_wp2_with fail
      go_ret
      exact ⟨rfl, HE.out⟩
  · have CS := Lib.hid (small_no A B C n m k ca cb cc w h1)
    clear hA hl hB he hC hs h1
    go_enter Try.func6, Try.ntmps6
    go_wp2_with fail
    refine CS.out.mono ?_
    rintro x w1 ⟨rfl, hE⟩
    obtain ⟨x1, rfl⟩ := Later.mk' hE
    clear hE
    go_wp2_with fail
    refine (awake10 _).mono ?_
    rintro x w1 ⟨rfl, hE⟩
    have HE := Lib.hid (x1.ext.trans hE)
    clear hE
    go_wp2_with fail
    go_ret
    exact ⟨rfl, HE.out⟩
end Go.Proofs.Ytibhfclkdbmmoaa
