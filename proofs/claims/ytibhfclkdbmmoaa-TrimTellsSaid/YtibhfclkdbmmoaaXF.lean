/- Proof text: math/bits.Div64, its long way. By an AI agent. No condition beyond what each theorem states. -/
import Derived.Test.YtibhfclkdbmmoaaXE
import Derived.Deep.CutBlock
import Derived.Deep.CutRange
set_option linter.unusedVariables false
set_option linter.unusedSimpArgs false
namespace Go.Proofs.Ytibhfclkdbmmoaa
open Go.RowKit

theorem u64_nat {n : Nat} (h : n < 18446744073709551616) : IntKind.u64.wrap (n : Int) = n := by rw [IntKind.wrap_u64]; omega
/-- The bounds of the digits. -/
def Bnd (u y1 y0 n : Nat) : Prop := 2147483648 ≤ y1 ∧ y1 < 4294967296 ∧ y0 < 4294967296 ∧ n < 4294967296 ∧ u < y1 * 4294967296 + y0
/-- At the loop's head. -/
def Hd (u y1 y0 n q r : Nat) : Prop := Dg u y1 y0 n q r ∧ r < 4294967296
/-- Behind the loop. -/
def Dn (u y1 y0 n q : Nat) : Prop := q = (u * 4294967296 + n) / (y1 * 4294967296 + y0)
theorem dig_mul {q y0 : Nat} (hq : q ≤ 4294967296) (h0 : y0 < 4294967296) : q * y0 < 18446744073709551616 := by
  have h1 : q * y0 ≤ 4294967296 * y0 := Nat.mul_le_mul_right _ hq
  omega
theorem hd_start {u y1 y0 n : Nat} (b : Bnd u y1 y0 n) : Hd u y1 y0 n (u / y1) (u % y1) := by
  obtain ⟨b1, b2, b3, b4, b5⟩ := b
  refine ⟨dg_start b1 b3 b4 b5, ?_⟩
  have := Nat.mod_lt u (show 0 < y1 by omega)
  omega
theorem bnd_u {u y1 y0 n : Nat} (b : Bnd u y1 y0 n) : (u : Int) < 18446744073709551616 := by
  obtain ⟨b1, b2, b3, b4, b5⟩ := b; omega
theorem start_q {u y1 y0 n : Nat} : Value.int .u64 ((u : Int) / y1) = .int .u64 ((u / y1 : Nat) : Int) := rfl
theorem start_r {u y1 y0 n : Nat} (b : Bnd u y1 y0 n) : IntKind.u64.wrap ((u : Int) - IntKind.u64.wrap ((u : Int) / y1 * y1)) = ((u % y1 : Nat) : Int) := by
  have hu := bnd_u b
  have e := Nat.div_add_mod u y1
  have e1 : (u : Int) / y1 * y1 = ((y1 * (u / y1) : Nat) : Int) := by rw [Nat.mul_comm, Int.natCast_mul]; rfl
  rw [e1, u64_nat (by omega), show (u : Int) - ((y1 * (u / y1) : Nat) : Int) = ((u % y1 : Nat) : Int) by omega, u64_nat (by omega)]
theorem quot_u {u y1 y0 n : Nat} (b : Bnd u y1 y0 n) : IntKind.u64.wrap ((u : Int) / y1) = (u : Int) / y1 := by
  have hu := bnd_u b
  have : u / y1 ≤ u := Nat.div_le_self _ _
  have e : (u : Int) / y1 = ((u / y1 : Nat) : Int) := rfl
  rw [e, u64_nat (by omega)]
theorem hd_high {u y1 y0 n k r : Nat} (b : Bnd u y1 y0 n) (h : Hd u y1 y0 n (k + 1) r) (hc : 4294967296 ≤ k + 1) :
    (k : Int) ≤ 4294967296 ∧ (r : Int) < 4294967296 ∧ (y1 : Int) < 4294967296 ∧ (2147483648 : Int) ≤ (y1 : Int) ∧ (4294967296 : Int) ≤ (k : Int) + 1 := by
  obtain ⟨⟨h1, h2, h3⟩, h4⟩ := h
  obtain ⟨b1, b2, b3, b4, b5⟩ := b
  omega
theorem hd_out {u y1 y0 n k r : Nat} (b : Bnd u y1 y0 n) (h : Hd u y1 y0 n (k + 1) r) (hc : 4294967296 ≤ k + 1 ∨ (k + 1) * y0 > 4294967296 * r + n) (hr : 4294967296 ≤ r + y1) : Dn u y1 y0 n k := by
  obtain ⟨b1, b2, b3, b4, b5⟩ := b
  have := (dg_down h.1 b1 b3 b4 b5 hc).2
  exact dg_break this b1 b3 (by have := h.1.2.2; omega) hr
theorem hd_on {u y1 y0 n k r : Nat} (b : Bnd u y1 y0 n) (h : Hd u y1 y0 n (k + 1) r) (hc : 4294967296 ≤ k + 1 ∨ (k + 1) * y0 > 4294967296 * r + n) (hr : ¬ 4294967296 ≤ r + y1) : Hd u y1 y0 n k (r + y1) := by
  obtain ⟨b1, b2, b3, b4, b5⟩ := b
  have := (dg_down h.1 b1 b3 b4 b5 hc).2
  exact ⟨this, by omega⟩
/-- The test's two sides, where q isn't too great for them. -/
theorem hd_test {u y1 y0 n q r : Nat} (b : Bnd u y1 y0 n) (h : Hd u y1 y0 n q r) (hc : ¬ 4294967296 ≤ q) :
    (q : Int) < 4294967296 ∧ (r : Int) < 4294967296 ∧ (y1 : Int) < 4294967296 ∧ (2147483648 : Int) ≤ (y1 : Int) ∧ (n : Int) < 4294967296 ∧ IntKind.u64.wrap ((q : Int) * y0) = (q : Int) * y0 ∧ 0 ≤ (q : Int) * y0 := by
  obtain ⟨⟨h1, h2, h3⟩, h4⟩ := h
  obtain ⟨b1, b2, b3, b4, b5⟩ := b
  refine ⟨by omega, by omega, by omega, by omega, by omega, ?_, ?_⟩
  · rw [← Int.natCast_mul]; exact u64_nat (dig_mul (by omega) b3)
  · rw [← Int.natCast_mul]; omega
theorem test_of {q r y0 n : Nat} (h : q * y0 > 4294967296 * r + n) : decide ((q : Int) * y0 > 4294967296 * (r : Int) + n) = true := by
  rw [← Int.natCast_mul]; simp only [decide_eq_true_eq]; omega
theorem hd_test1 {u y1 y0 n k r : Nat} (b : Bnd u y1 y0 n) (h : Hd u y1 y0 n (k + 1) r) (hc : ¬ 4294967296 ≤ k + 1) :
    (k : Int) + 1 < 4294967296 ∧ (r : Int) < 4294967296 ∧ (y1 : Int) < 4294967296 ∧ (2147483648 : Int) ≤ (y1 : Int) ∧ (n : Int) < 4294967296 ∧ IntKind.u64.wrap (((k : Int) + 1) * y0) = ((k : Int) + 1) * y0 ∧ 0 ≤ ((k : Int) + 1) * y0 := by
  have := hd_test b h hc
  rw [Int.natCast_add, Int.natCast_one] at this
  exact this
theorem test_of1 {k r y0 n : Nat} (h : (k + 1) * y0 > 4294967296 * r + n) : decide (((k : Int) + 1) * y0 > 4294967296 * (r : Int) + n) = true := by
  have := test_of h
  rw [Int.natCast_add, Int.natCast_one] at this
  exact this
theorem test_not {q r y0 n : Nat} (h : ¬ q * y0 > 4294967296 * r + n) : decide ((q : Int) * y0 > 4294967296 * (r : Int) + n) = false := by
  rw [← Int.natCast_mul]; simp only [decide_eq_false_iff_not]; omega

set_option maxRecDepth 100000 in
set_option maxHeartbeats 4000000 in
theorem div64_cells (h l y s : Int) (Y a b t : Int) (y1 y0 u n1 n0 v : Nat) (Q R : Nat) (w : World) (e0 : (y == 0) = false) (e1 : decide (y ≤ h) = false) (e2 : (h == 0) = false)
    (hs0 : 0 ≤ s) (hs1 : s ≤ 63) (hl : 0 ≤ l) (hy : 0 < y)
    (c0 : ∀ W, Calls Try.prog 70 #[.int .u64 y] W fun e w' => e = .returned (.int .i64 s) ∧ w' = W)
    (k0 : IntKind.u64.wrap s = s) (k00 : IntKind.u64.wrap (64 - s) = 64 - s)
    (k1 : IntKind.u64.wrap (y * 2 ^ s.toNat) = Y) (k2 : Y / 4294967296 = y1) (k3 : bits .and .u64 Y 4294967295 = y0)
    (k4 : IntKind.u64.wrap (h * 2 ^ s.toNat) = a) (k5 : l / 2 ^ (64 - s).toNat = b) (k6 : bits .or .u64 a b = u)
    (k7 : IntKind.u64.wrap (l * 2 ^ s.toNat) = t) (k8 : t / 4294967296 = n1) (k9 : bits .and .u64 t 4294967295 = n0) (hy1 : (y1 : Int) ≠ 0)
    (B1 : Hid (Bnd u y1 y0 n1)) (B2 : Hid (Bnd v y1 y0 n0))
    (F1 : Hid (∀ q1, Dn u y1 y0 n1 q1 → IntKind.u64.wrap (IntKind.u64.wrap (IntKind.u64.wrap ((u : Int) * 4294967296) + n1) - IntKind.u64.wrap ((q1 : Int) * Y)) = v))
    (F2 : Hid (∀ q1 q0, Dn u y1 y0 n1 q1 → Dn v y1 y0 n0 q0 → IntKind.u64.wrap (IntKind.u64.wrap ((q1 : Int) * 4294967296) + (q0 : Int)) = Q ∧
      IntKind.u64.wrap (IntKind.u64.wrap (IntKind.u64.wrap ((v : Int) * 4294967296) + n0) - IntKind.u64.wrap ((q0 : Int) * Y)) / 2 ^ s.toNat = R)) :
    Calls Try.prog 55 #[.int .u64 h, .int .u64 l, .int .u64 y] w fun e w' => e = .returned (.tuple #[.int .u64 Q, .int .u64 R]) ∧ ∃ n, w' = w.drewN n := by
  have C0 := Lib.hid c0; clear c0
  have k10 := quot_u B1.out
  go_enter Try.func55, Try.ntmps55
  go_upto_block 0 with (go_at_call 70; refine (C0.out _).mono ?_; rintro e w1 ⟨rfl, rfl⟩)
  clear k10 C0 k0 k00 k1 k2 k3 k4 k5 k6 k7 k8 k9 e0 e1 e2
  go_cut [15, 16] from 67 to 85 (fun q r wx => wx = w1 ∧ ∃ qn rn : Nat, q = .int .u64 qn ∧ r = .int .u64 rn ∧ Dn u y1 y0 n1 qn)
  case first =>
    go_wp2_with fail
    go_loop [15, 16] (fun q r => ∃ qn rn : Nat, q = .int .u64 qn ∧ r = .int .u64 rn ∧ Hd u y1 y0 n1 qn rn) (fun q _ => (intOf q).toNat)
    case atStart => exact ⟨u / y1, u % y1, by first | rfl | exact start_q, by first | (rw [start_r B1.out]) | skip, hd_start B1.out⟩
    case round =>
      obtain ⟨qn, rn, rfl, rfl, hD⟩ := hrel
      have HD := Lib.hid hD; clear hD
      by_cases hA : 4294967296 ≤ qn
      · obtain ⟨k, rfl⟩ : ∃ k, qn = k + 1 := ⟨qn - 1, by omega⟩
        obtain ⟨i1, i2, i3, i4, i5⟩ := hd_high B1.out HD.out hA
        have HA := Lib.hid hA; clear hA
        by_cases hB : 4294967296 ≤ rn + y1
        · have iB : (4294967296 : Int) ≤ (rn : Int) + y1 := by omega
          have HB := Lib.hid hB; clear hB
          go_wp2_with fail
          go_meet
          exact ⟨rfl, k, rn + y1, by go_num, by go_num, hd_out B1.out HD.out (.inl HA.out) HB.out⟩
        · have iB : ¬ (4294967296 : Int) ≤ (rn : Int) + y1 := by omega
          have HB := Lib.hid hB; clear hB
          go_wp2_with fail
          go_round
          case rel => exact ⟨k, rn + y1, by go_num, by go_num, hd_on B1.out HD.out (.inl HA.out) HB.out⟩
          case measure => simp [intOf]
      · have HA := Lib.hid hA; clear hA
        by_cases hC : qn * y0 > 4294967296 * rn + n1
        · obtain ⟨k, rfl⟩ : ∃ k, qn = k + 1 := by
            rcases qn with _ | k
            · simp at hC
            · exact ⟨k, rfl⟩
          obtain ⟨i1, i2, i3, i4, i5, i6, i7⟩ := hd_test1 B1.out HD.out HA.out
          have iA : ¬ (4294967296 : Int) ≤ (k : Int) + 1 := by omega
          have dC := test_of1 hC
          have HC := Lib.hid hC; clear hC
          by_cases hB : 4294967296 ≤ rn + y1
          · have iB : (4294967296 : Int) ≤ (rn : Int) + y1 := by omega
            have HB := Lib.hid hB; clear hB
            go_wp2_with fail
            go_meet
            exact ⟨rfl, k, rn + y1, by go_num, by go_num, hd_out B1.out HD.out (.inr HC.out) HB.out⟩
          · have iB : ¬ (4294967296 : Int) ≤ (rn : Int) + y1 := by omega
            have HB := Lib.hid hB; clear hB
            go_wp2_with fail
            go_round
            case rel => exact ⟨k, rn + y1, by go_num, by go_num, hd_on B1.out HD.out (.inr HC.out) HB.out⟩
            case measure => simp [intOf]
        · obtain ⟨i1, i2, i3, i4, i5, i6, i7⟩ := hd_test B1.out HD.out HA.out
          have iA : ¬ (4294967296 : Int) ≤ (qn : Int) := by omega
          have dC := test_not hC
          have HC := Lib.hid hC; clear hC
          go_wp2_with fail
          go_meet
          exact ⟨rfl, qn, rn, rfl, rfl, dg_done HD.out.1 B1.out.1 HC.out⟩
  case rest =>
    obtain ⟨rfl, q1, r1, rfl, rfl, hdn⟩ := hcut
    have HF := Lib.hid (F2.out q1); clear F2
    have h17 := F1.out q1 hdn
    have HN := Lib.hid hdn; clear hdn
    obtain ⟨A1, m1⟩ : ∃ A, IntKind.u64.wrap ((u : Int) * 4294967296) = A := ⟨_, rfl⟩
    rw [m1] at h17
    obtain ⟨A2, m2⟩ : ∃ A, IntKind.u64.wrap (A1 + (n1 : Int)) = A := ⟨_, rfl⟩
    rw [m2] at h17
    obtain ⟨A3, m3⟩ : ∃ A, IntKind.u64.wrap ((q1 : Int) * Y) = A := ⟨_, rfl⟩
    rw [m3] at h17
    have k11 := quot_u B2.out
    go_upto_block 2 with fail
    clear m1 m2 m3 h17 k11
    go_cut [18, 16] from 102 to 120 (fun q r wx => wx = wc ∧ ∃ qn rn : Nat, q = .int .u64 qn ∧ r = .int .u64 rn ∧ Dn v y1 y0 n0 qn)
    case first =>
      go_wp2_with fail
      go_loop [18, 16] (fun q r => ∃ qn rn : Nat, q = .int .u64 qn ∧ r = .int .u64 rn ∧ Hd v y1 y0 n0 qn rn) (fun q _ => (intOf q).toNat)
      case atStart => exact ⟨v / y1, v % y1, by first | rfl | exact start_q, by first | (rw [start_r B2.out]) | skip, hd_start B2.out⟩
      case round =>
        obtain ⟨qn, rn, rfl, rfl, hD⟩ := hrel
        have HD := Lib.hid hD; clear hD
        by_cases hA : 4294967296 ≤ qn
        · obtain ⟨k, rfl⟩ : ∃ k, qn = k + 1 := ⟨qn - 1, by omega⟩
          obtain ⟨i1, i2, i3, i4, i5⟩ := hd_high B2.out HD.out hA
          have HA := Lib.hid hA; clear hA
          by_cases hB : 4294967296 ≤ rn + y1
          · have iB : (4294967296 : Int) ≤ (rn : Int) + y1 := by omega
            have HB := Lib.hid hB; clear hB
            go_wp2_with fail
            go_meet
            exact ⟨rfl, k, rn + y1, by go_num, by go_num, hd_out B2.out HD.out (.inl HA.out) HB.out⟩
          · have iB : ¬ (4294967296 : Int) ≤ (rn : Int) + y1 := by omega
            have HB := Lib.hid hB; clear hB
            go_wp2_with fail
            go_round
            case rel => exact ⟨k, rn + y1, by go_num, by go_num, hd_on B2.out HD.out (.inl HA.out) HB.out⟩
            case measure => simp [intOf]
        · have HA := Lib.hid hA; clear hA
          by_cases hC : qn * y0 > 4294967296 * rn + n0
          · obtain ⟨k, rfl⟩ : ∃ k, qn = k + 1 := by
              rcases qn with _ | k
              · simp at hC
              · exact ⟨k, rfl⟩
            obtain ⟨i1, i2, i3, i4, i5, i6, i7⟩ := hd_test1 B2.out HD.out HA.out
            have iA : ¬ (4294967296 : Int) ≤ (k : Int) + 1 := by omega
            have dC := test_of1 hC
            have HC := Lib.hid hC; clear hC
            by_cases hB : 4294967296 ≤ rn + y1
            · have iB : (4294967296 : Int) ≤ (rn : Int) + y1 := by omega
              have HB := Lib.hid hB; clear hB
              go_wp2_with fail
              go_meet
              exact ⟨rfl, k, rn + y1, by go_num, by go_num, hd_out B2.out HD.out (.inr HC.out) HB.out⟩
            · have iB : ¬ (4294967296 : Int) ≤ (rn : Int) + y1 := by omega
              have HB := Lib.hid hB; clear hB
              go_wp2_with fail
              go_round
              case rel => exact ⟨k, rn + y1, by go_num, by go_num, hd_on B2.out HD.out (.inr HC.out) HB.out⟩
              case measure => simp [intOf]
          · obtain ⟨i1, i2, i3, i4, i5, i6, i7⟩ := hd_test B2.out HD.out HA.out
            have iA : ¬ (4294967296 : Int) ≤ (qn : Int) := by omega
            have dC := test_not hC
            have HC := Lib.hid hC; clear hC
            go_wp2_with fail
            go_meet
            exact ⟨rfl, qn, rn, rfl, rfl, dg_done HD.out.1 B2.out.1 HC.out⟩
    case rest =>
      obtain ⟨rfl, q0, r0, rfl, rfl, hdn⟩ := hcut
      obtain ⟨hQ, hR⟩ := HF.out q0 HN.out hdn
      clear hdn
      obtain ⟨D1, m1⟩ : ∃ A, IntKind.u64.wrap ((q1 : Int) * 4294967296) = A := ⟨_, rfl⟩
      obtain ⟨D2, m2⟩ : ∃ A, IntKind.u64.wrap ((v : Int) * 4294967296) = A := ⟨_, rfl⟩
      obtain ⟨D4, m4⟩ : ∃ A, IntKind.u64.wrap ((q0 : Int) * Y) = A := ⟨_, rfl⟩
      rw [m1] at hQ
      rw [m2, m4] at hR
      obtain ⟨D3, m3⟩ : ∃ A, IntKind.u64.wrap (D2 + (n0 : Int)) = A := ⟨_, rfl⟩
      rw [m3] at hR
      obtain ⟨D5, m5⟩ : ∃ A, IntKind.u64.wrap (D3 - D4) = A := ⟨_, rfl⟩
      rw [m5] at hR
      go_wp2_with fail
      go_ret2
      exact ⟨rfl, 0, rfl⟩
end Go.Proofs.Ytibhfclkdbmmoaa
