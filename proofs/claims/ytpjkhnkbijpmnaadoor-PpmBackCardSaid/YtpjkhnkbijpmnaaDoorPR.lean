/- Proof text: two images that are the same (rastrumref23.Same), layer 28's example. By an AI agent. No condition beyond what each theorem states. -/
import Derived.Test.YtpjkhnkbijpmnaaDoorPQ
set_option linter.unusedVariables false
set_option linter.unusedSimpArgs false
namespace Go.Proofs.YtpjkhnkbijpmnaaDoor
open Go.RowKit
set_option maxRecDepth 10000 in
set_option maxHeartbeats 1000000 in
theorem rsame_any (m : Im) (va vb : Value) (w : World) (ha : ImR w va m) (hb : ImR w vb m) (hl : m.C.length ≤ 2000000 ∧ m.Z.length ≤ 2000000) :
    Calls Tryd.prog 13 #[va, vb] w fun e w' => e = .returned (.bool true) ∧ Ext w w' := by
  obtain ⟨W, H, C, Z⟩ := m
  obtain ⟨a, b, c, d, rfl, hC, hZ⟩ := ha
  obtain ⟨a', b', c', d', rfl, hC', hZ'⟩ := hb
  simp only [] at hC hZ hC' hZ' hl ⊢
  obtain ⟨n, hn⟩ : ∃ n, n = C.length := ⟨_, rfl⟩
  obtain ⟨k, hk⟩ : ∃ k, k = Z.length := ⟨_, rfl⟩
  rw [← hn] at hC hC' hl ⊢
  rw [← hk] at hZ hZ' hl ⊢
  have HN := Lib.hid hn.symm; have HK := Lib.hid hk.symm
  have t1 : (W != W) = false := by simp
  have t2 : (H != H) = false := by simp
  have t3 : ((n : Int) != n) = false := by simp
  have t4 : ((k : Int) != k) = false := by simp
  have hni : (n : Int) ≤ 2000000 := by omega
  have hki : (k : Int) ≤ 2000000 := by omega
  have HE0 := Lib.hid (((Ext.refl w).alloc (.cells #[.int .i64 W, .int .i64 H, .slice a n c, .slice b k d] 24)).alloc (.cells #[.int .i64 W, .int .i64 H, .slice a' n c', .slice b' k d'] 24))
  have B1 := Lib.hid ((Blk.new w 24 #[.int .i64 W, .int .i64 H, .slice a n c, .slice b k d]).alloc (.cells #[.int .i64 W, .int .i64 H, .slice a' n c', .slice b' k d'] 24))
  have B2 : Hid (Blk ((w.alloc (.cells #[.int .i64 W, .int .i64 H, .slice a n c, .slice b k d] 24)).alloc (.cells #[.int .i64 W, .int .i64 H, .slice a' n c', .slice b' k d'] 24)) (w.heap.size + 1) 24 #[.int .i64 W, .int .i64 H, .slice a' n c', .slice b' k d']) := Lib.hid (Blk.new' _ _ _ (by simp))
  have HC := Lib.hid (hC.ext HE0.out); have HZ := Lib.hid (hZ.ext HE0.out); have HC' := Lib.hid (hC'.ext HE0.out); have HZ' := Lib.hid (hZ'.ext HE0.out)
  clear hC hZ hC' hZ' hn hk hl
  go_enter Tryd.func13, Tryd.ntmps13
  go_wp2_with fail
  clear t1 t2 t3 t4
  generalize ((w.alloc (.cells #[.int .i64 W, .int .i64 H, .slice a n c, .slice b k d] 24)).alloc (.cells #[.int .i64 W, .int .i64 H, .slice a' n c', .slice b' k d'] 24)) = W0 at HE0 B1 B2 HC HZ HC' HZ' ⊢
  go_loopw [5] (fun i wr => ∃ j : Nat, j ≤ n ∧ i = .int .i64 j ∧ Hid (Ext W0 wr)) (fun i _ => n - (intOf i).toNat)
  case atStart => exact ⟨0, Nat.zero_le _, rfl, Lib.hid (Ext.refl _)⟩
  case round =>
    obtain ⟨j, hj, rfl, HE⟩ := hrel
    obtain ⟨-, -, p2, p3⟩ := (B1.out.ext HE.out).four
    obtain ⟨-, -, q2, q3⟩ := (B2.out.ext HE.out).four
    by_cases hlt : j < n
    · obtain ⟨ba, oa, ha, -, -⟩ := (HC.out.ext HE.out).at_ (by omega)
      obtain ⟨bb, ob, hb, -, -⟩ := (HC'.out.ext HE.out).at_ (by omega)
      subst ha; subst hb
      have c1 := int_at (HC.out.ext HE.out) (j := j) (by rw [HN.out]; exact hlt)
      have c2 := int_at (HC'.out.ext HE.out) (j := j) (by rw [HN.out]; exact hlt)
      obtain ⟨x, hx⟩ : ∃ x, x = C.getD j 0 := ⟨_, rfl⟩
      rw [← hx] at c1 c2
      have tx : (x != x) = false := by simp
      have i1 : (j : Int) < n := by omega
      clear hx
      go_upto_region 6 with fail
      go_quiet (fail)
      rename_i nq
      have HE2 := Lib.hid (HE.out.drewN nq)
      clear c1 c2 p2 p3 q2 q3 tx
      go_wp2_with fail
      go_roundw
      case rel => first | exact ⟨j + 1, by omega, by go_num, HE2⟩ | ((repeat apply Exists.intro); exact ⟨⟨j + 1, by omega, by go_num, HE2⟩, rfl⟩)
      case measure => simp [intOf]; omega
    · obtain rfl : j = n := by omega
      clear hlt
      obtain ⟨W1, rfl⟩ : ∃ W1 : World, W1 = wr := ⟨_, rfl⟩
      go_wp2_with fail
      clear p2 p3 q2 q3
      go_loopw [6] (fun i wr => ∃ j : Nat, j ≤ k ∧ i = .int .i64 j ∧ Hid (Ext W0 wr)) (fun i _ => k - (intOf i).toNat)
      case atStart => exact ⟨0, Nat.zero_le _, rfl, HE⟩
      case round =>
        clear HE
        obtain ⟨j, hj, rfl, HE⟩ := hrel
        obtain ⟨-, -, p2, p3⟩ := (B1.out.ext HE.out).four
        obtain ⟨-, -, q2, q3⟩ := (B2.out.ext HE.out).four
        by_cases hlt : j < k
        · obtain ⟨ba, oa, ha, -, -⟩ := (HZ.out.ext HE.out).at_ (by omega)
          obtain ⟨bb, ob, hb, -, -⟩ := (HZ'.out.ext HE.out).at_ (by omega)
          subst ha; subst hb
          have c1 := int_at (HZ.out.ext HE.out) (j := j) (by rw [HK.out]; exact hlt)
          have c2 := int_at (HZ'.out.ext HE.out) (j := j) (by rw [HK.out]; exact hlt)
          obtain ⟨x, hx⟩ : ∃ x, x = Z.getD j 0 := ⟨_, rfl⟩
          rw [← hx] at c1 c2
          have tx : (x != x) = false := by simp
          have i1 : (j : Int) < k := by omega
          clear hx
          go_upto_region 11 with fail
          go_quiet (fail)
          rename_i nq
          have HE2 := Lib.hid (HE.out.drewN nq)
          clear c1 c2 p2 p3 q2 q3 tx
          go_wp2_with fail
          go_roundw
          case rel => first | exact ⟨j + 1, by omega, by go_num, HE2⟩ | ((repeat apply Exists.intro); exact ⟨⟨j + 1, by omega, by go_num, HE2⟩, rfl⟩)
          case measure => simp [intOf]; omega
        · obtain rfl : j = k := by omega
          have HEw := Lib.hid (HE0.out.trans HE.out)
          go_wp2_with fail
          go_returns
          exact ⟨rfl, HEw.out⟩
end Go.Proofs.YtpjkhnkbijpmnaaDoor
