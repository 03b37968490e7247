/- Proof text: the law CarveTells. By an AI agent. No condition beyond what each theorem states. -/
import Derived.Test.YtibhfclkdbmmoaaCE
import Derived.Test.YtibhfclkdbmmoaaKH
set_option linter.unusedVariables false
set_option linter.unusedSimpArgs false
namespace Go.Proofs.Ytibhfclkdbmmoaa
open Go.RowKit
set_option maxRecDepth 100000 in
set_option maxHeartbeats 2000000 in
theorem tells_in (l : List Vx) (e : List Bool) (s : List Sd) (A B C : Option Addr) (n m k ca cb cc : Nat) (w : World) (hA : Rd w 8 A n ca (vrows l)) (hl : l.length = n) (hB : Rd w 1 B m cb (brows e)) (he : e.length = m)
    (hC : Rd w 5 C k cc (srow s)) (hs : s.length = k) (hsm : n ≤ 40 ∧ m ≤ 40 ∧ k ≤ 12) (hm : MayC l e s) :
    Calls Try.prog 5 #[.slice A n ca, .slice B m cb, .slice C k cc] w fun x w' => x = .returned (.bool true) ∧ Ext w w' := by
  have CS := Lib.hid (small_yes A B C n m k ca cb cc w hsm.1 hsm.2.1 hsm.2.2)
  have HA := Lib.hid hA; have HB := Lib.hid hB; have HC := Lib.hid hC
  have HL := Lib.hid hl; have HLE := Lib.hid he; have HS := Lib.hid hs; have HM := Lib.hid hm
  clear hA hl hB he hC hs hm hsm
  go_enter Try.func5, Try.ntmps5
  go_wp2_with fail
  refine CS.out.mono ?_
  rintro x w1 ⟨rfl, hE⟩
  obtain ⟨x1, rfl⟩ := Later.mk' hE
  clear hE CS
  go_wp2_with fail
  refine (carve_yes l e s A B C n m k ca cb cc _ (HA.out.ext x1.ext) HL.out (HB.out.ext x1.ext) HLE.out (HC.out.ext x1.ext) HS.out HM.out).mono ?_
  rintro x W1 ⟨a, c, b, d, rfl, h1, h2, hE⟩
  have HR1 := Lib.hid h1; have HR2 := Lib.hid h2
  have HE1 := Lib.hid (x1.ext.trans hE)
  clear h1 h2 hE
  obtain ⟨N, hN⟩ : ∃ N, N = (carved l e s).length := ⟨_, rfl⟩
  have HN := Lib.hid hN
  rw [← hN] at HR1 HR2 ⊢
  clear hN
  go_wp2_with fail
  refine (rcarve_yes l e s A B C n m k ca cb cc _ (HA.out.ext HE1.out) HL.out (HB.out.ext HE1.out) HLE.out (HC.out.ext HE1.out) HS.out HM.out).mono ?_
  rintro x W2 ⟨a', c', b', d', rfl, h1, h2, hE⟩
  rw [← HN.out] at h1 h2 ⊢
  have HR3 := Lib.hid h1; have HR4 := Lib.hid h2
  have HR1 := Lib.hid (HR1.out.ext hE); have HR2 := Lib.hid (HR2.out.ext hE)
  have HE2 := Lib.hid (HE1.out.trans hE)
  clear h1 h2 hE HA HB HC
  go_wp2_with fail
  refine (awake10 _).mono ?_
  rintro x W3 ⟨rfl, hE⟩
  have HE3 := Lib.hid (HE2.out.trans hE)
  have hlen : ((carved l e s).map (·.1)).length = N := by rw [List.length_map, HN.out]
  have hlen2 : ((carved l e s).map (·.2)).length = N := by rw [List.length_map, HN.out]
  have SM := Lib.hid (same_true _ _ a a' b b' N c c' d d' W3 (HR1.out.ext hE) (HR3.out.ext hE) (HR2.out.ext hE) (HR4.out.ext hE) hlen hlen2)
  have HL1 := Lib.hid hlen; have HL2 := Lib.hid hlen2
  clear hE hlen hlen2 HR1 HR2 HR3 HR4 HE1 HE2
  go_wp2_with fail
  refine SM.out.mono ?_
  rintro x W4 ⟨rfl, hE⟩
  have HE4 := Lib.hid (HE3.out.trans hE)
  clear hE SM
  go_wp2_with fail
  go_ret
  exact ⟨rfl, HE4.out⟩
set_option maxRecDepth 100000 in
set_option maxHeartbeats 2000000 in
theorem tells_out (l : List Vx) (e : List Bool) (s : List Sd) (A B C : Option Addr) (n m k ca cb cc : Nat) (w : World) (hA : Rd w 8 A n ca (vrows l)) (hl : l.length = n) (he : e.length = m)
    (hC : Rd w 5 C k cc (srow s)) (hs : s.length = k) (hsm : n ≤ 40 ∧ m ≤ 40 ∧ k ≤ 12) (hm : ¬ MayC l e s) :
    Calls Try.prog 5 #[.slice A n ca, .slice B m cb, .slice C k cc] w fun x w' => x = .returned (.bool true) ∧ Ext w w' := by
  have CS := Lib.hid (small_yes A B C n m k ca cb cc w hsm.1 hsm.2.1 hsm.2.2)
  have CN := Lib.hid (fun W (hE : Ext w W) => carve_no l e s A B C n m k ca cb cc W (hA.ext hE) hl he (hC.ext hE) hs hm)
  have CR := Lib.hid (fun W (hE : Ext w W) => rcarve_no l e s A B C n m k ca cb cc W (hA.ext hE) hl he (hC.ext hE) hs hm)
  have SM := Lib.hid (fun W => same_true [] [] none none none none 0 0 0 0 0 W (Rd.empty W 8 none 0 (by decide)) (Rd.empty W 8 none 0 (by decide)) (Rd.empty W 1 none 0 (by decide)) (Rd.empty W 1 none 0 (by decide)) rfl rfl)
  clear hA hl he hC hs hm hsm
  go_enter Try.func5, Try.ntmps5
  go_wp2_with fail
  refine CS.out.mono ?_
  rintro x w1 ⟨rfl, hE⟩
  obtain ⟨x1, rfl⟩ := Later.mk' hE
  clear hE
  go_wp2_with fail
  refine (CN.out _ x1.ext).mono ?_
  rintro x w1 ⟨rfl, hE⟩
  obtain ⟨x2, rfl⟩ := Later.mk' hE
  clear hE
  have HE2 := Lib.hid (x1.ext.later x2)
  go_wp2_with fail
  refine (CR.out _ HE2.out).mono ?_
  rintro x w1 ⟨rfl, hE⟩
  have HE3 := Lib.hid (HE2.out.trans hE)
  clear hE
  go_wp2_with fail
  refine (awake10 _).mono ?_
  rintro x w2 ⟨rfl, hE⟩
  have HE4 := Lib.hid (HE3.out.trans hE)
  clear hE
  go_wp2_with fail
  refine (SM.out _).mono ?_
  rintro x w3 ⟨rfl, hE⟩
  have HE5 := Lib.hid (HE4.out.trans hE)
  clear hE SM
  go_wp2_with fail
  go_ret
  exact ⟨rfl, HE5.out⟩
set_option maxHeartbeats 1000000 in
theorem tells_any (l : List Vx) (e : List Bool) (s : List Sd) (A B C : Option Addr) (n m k ca cb cc : Nat) (w : World) (hA : Rd w 8 A n ca (vrows l)) (hl : l.length = n) (hB : Rd w 1 B m cb (brows e)) (he : e.length = m)
    (hC : Rd w 5 C k cc (srow s)) (hs : s.length = k) :
    Calls Try.prog 5 #[.slice A n ca, .slice B m cb, .slice C k cc] w fun x w' => x = .returned (.bool true) ∧ Ext w w' := by
  by_cases h1 : n ≤ 40 ∧ m ≤ 40 ∧ k ≤ 12
  · by_cases h2 : MayC l e s
    · exact tells_in l e s A B C n m k ca cb cc w hA hl hB he hC hs h1 h2
    · exact tells_out l e s A B C n m k ca cb cc w hA hl he hC hs h1 h2
  · have CS := Lib.hid (small_no A B C n m k ca cb cc w h1)
    clear hA hl hB he hC hs h1
    go_enter Try.func5, Try.ntmps5
    go_wp2_with fail
    refine CS.out.mono ?_
    rintro x w1 ⟨rfl, hE⟩
    obtain ⟨x1, rfl⟩ := Later.mk' hE
    clear hE
    go_wp2_with fail
    refine (awake10 _).mono ?_
    rintro x w1 ⟨rfl, hE⟩
    have HE := Lib.hid (x1.ext.trans hE)
    clear hE
    go_wp2_with fail
    go_ret
    exact ⟨rfl, HE.out⟩
end Go.Proofs.Ytibhfclkdbmmoaa
