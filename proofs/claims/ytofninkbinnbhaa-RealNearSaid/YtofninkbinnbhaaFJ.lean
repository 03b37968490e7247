/- Proof text: the law RealOrders. By an AI agent. No condition beyond what each theorem states. -/
import Derived.Test.YtofninkbinnbhaaFI
import Derived.Deep.CutRange
set_option linter.unusedVariables false
set_option linter.unusedSimpArgs false
namespace Go.Proofs.Ytofninkbinnbhaa
open Go.RowKit
theorem cmp_three (a b : Nat) : cmp a b = -1 ∨ cmp a b = 0 ∨ cmp a b = 1 := by unfold cmp; split <;> (try split) <;> simp
theorem cmp_turn (a b : Nat) : cmp b a = 0 - cmp a b := by unfold cmp; split <;> split <;> (try split) <;> omega
theorem cmp_trans (a b c : Nat) : ¬ (cmp a b ≤ 0 ∧ cmp b c ≤ 0 ∧ cmp a c > 0) ∧ ¬ (cmp a b < 0 ∧ cmp b c ≤ 0 ∧ cmp a c ≥ 0) ∧ ¬ (cmp a b ≤ 0 ∧ cmp b c < 0 ∧ cmp a c ≥ 0) := by
  unfold cmp
  refine ⟨?_, ?_, ?_⟩ <;> split <;> (try split) <;> (try split) <;> (try split) <;> (try split) <;> (try split) <;> omega
theorem wrap64_small {n : Int} (h1 : -9223372036854775808 ≤ n) (h2 : n < 9223372036854775808) : wrap64 n = n := by unfold wrap64; omega
theorem bi_iff {a b : Nat} (ha : a < 18446744073709551616) (hb : b < 18446744073709551616) : cmp a b = 0 ↔ bi a = bi b := by
  have w1 := word_eq ha
  have w2 := word_eq hb
  have l1 := rg_lt a
  have l2 := rg_lt b
  have e1 : wrap64 (a : Int) = if sg a then (rg a : Int) - 9223372036854775808 else rg a := by unfold wrap64; cases h : sg a <;> rw [h] at w1 <;> simp at w1 ⊢ <;> omega
  have e2 : wrap64 (b : Int) = if sg b then (rg b : Int) - 9223372036854775808 else rg b := by unfold wrap64; cases h : sg b <;> rw [h] at w2 <;> simp at w2 ⊢ <;> omega
  have hc : cmp a b = 0 ↔ pl a = pl b := by unfold cmp; split <;> (try split) <;> omega
  rw [hc]
  unfold pl bi
  rw [e1, e2]
  cases hn1 : nn a <;> cases hn2 : nn b <;> unfold nn at hn1 hn2 <;> simp at hn1 hn2 <;> cases sg a <;> cases sg b <;> simp <;> omega
theorem nan_last {a b : Nat} (h : cmp a b = -1) : (kd a != 1) = true := by
  have h1 : nn a = false := by
    cases hn : nn a with
    | false => rfl
    | true =>
      exfalso
      have := pl_nan hn
      have := (pl_bound b).2
      unfold cmp at h
      rw [if_neg (by omega)] at h
      split at h <;> omega
  have := kd_nan.2 h1
  simp [bne, this]
set_option maxHeartbeats 4000000 in
theorem orders_any (l m n : Int) (w : World) : Calls Try.prog 9 #[.int .i64 l, .int .i64 m, .int .i64 n] w fun x w' => x = .returned (.bool true) ∧ w' = w := by
  obtain ⟨x, x1, -, hx⟩ := word_of_int l
  obtain ⟨y, y1, -, hy⟩ := word_of_int m
  obtain ⟨z, z1, -, hz⟩ := word_of_int n
  have O1 := Lib.hid (fun W => of_any l W)
  have O2 := Lib.hid (fun W => of_any m W)
  have O3 := Lib.hid (fun W => of_any n W)
  rw [← x1] at O1
  rw [← y1] at O2
  rw [← z1] at O3
  have C1 := Lib.hid (fun W => compare_any x y hx hy W)
  have C2 := Lib.hid (fun W => compare_any y z hy hz W)
  have C3 := Lib.hid (fun W => compare_any x z hx hz W)
  have C4 := Lib.hid (fun W => compare_any y x hy hx W)
  have B1 := Lib.hid (fun W => rbits_any x hx W)
  have B2 := Lib.hid (fun W => rbits_any y hy W)
  have K1 := Lib.hid (fun W => kind_any x hx W)
  have t3 := cmp_trans x y z
  have tb := bi_iff hx hy
  have tn : cmp x y = -1 → (kd x != 1) = true := fun h => nan_last h
  rw [cmp_turn x y] at C4
  obtain ⟨a, ha⟩ : ∃ a, a = cmp x y := ⟨_, rfl⟩
  obtain ⟨b, hb⟩ : ∃ b, b = cmp y z := ⟨_, rfl⟩
  obtain ⟨c, hc⟩ : ∃ c, c = cmp x z := ⟨_, rfl⟩
  obtain ⟨k, hk⟩ : ∃ k, k = kd x := ⟨_, rfl⟩
  obtain ⟨u, hu⟩ : ∃ u, u = bi x := ⟨_, rfl⟩
  obtain ⟨v, hv⟩ : ∃ v, v = bi y := ⟨_, rfl⟩
  have ra := cmp_three x y
  have rb := cmp_three y z
  have rc := cmp_three x z
  rw [← ha] at C1 C4 t3 tb ra tn
  rw [← hb] at C2 t3 rb
  rw [← hc] at C3 t3 rc
  rw [← hk] at K1 tn
  rw [← hu] at B1 tb
  rw [← hv] at B2 tb
  have TB := Lib.hid tb
  have TN := Lib.hid tn
  have T3 := Lib.hid t3
  have RA := Lib.hid ra
  have RB := Lib.hid rb
  have RC := Lib.hid rc
  clear hx hy hz x1 y1 z1 ha hb hc hk hu hv tb tn t3 ra rb rc
  go_enter Try.func9, Try.ntmps9
  go_wp2_with fail
  refine (O1.out _).mono ?_
  rintro x w1 ⟨rfl, rfl⟩
  go_wp2_with fail
  refine (O2.out _).mono ?_
  rintro x w1 ⟨rfl, rfl⟩
  go_wp2_with fail
  refine (O3.out _).mono ?_
  rintro x w1 ⟨rfl, rfl⟩
  go_wp2_with fail
  refine (C1.out _).mono ?_
  rintro x w1 ⟨rfl, rfl⟩
  go_wp2_with fail
  refine (C2.out _).mono ?_
  rintro x w1 ⟨rfl, rfl⟩
  go_wp2_with fail
  refine (C3.out _).mono ?_
  rintro x w1 ⟨rfl, rfl⟩
  go_upto_region 3 with fail
  go_cut [61] from 28 to 61 (fun t wx => t = .bool false ∧ wx = w1)
  case first =>
    clear O1 O2 O3 C1 C2 C3 C4 B1 B2 K1 TB TN
    have ra := RA.out; have rb := RB.out; have rc := RC.out; have t3 := T3.out
    rcases ra with rfl | rfl | rfl <;> rcases rb with rfl | rfl | rfl <;> rcases rc with rfl | rfl | rfl <;> first | (exfalso; omega) | skip
    all_goals
      clear RA RB RC T3 t3
      go_wp2_with fail
      go_meet
      exact ⟨rfl, rfl⟩
  case rest =>
    obtain ⟨rfl, rfl⟩ := hcut
    clear T3 RB RC O1 O2 O3 C1 C2 C3
    have ra := RA.out
    clear RA
    have hk : (k != 1) = true ∨ (k != 1) = false := by cases (k != 1) <;> simp
    rcases ra with rfl | rfl | rfl
    · have h1 := TN.out rfl
      have h2 : (u == v) = false := by
        have := TB.out
        have h : ¬ u = v := fun h => by have := this.2 h; omega
        simpa using h
      clear TB TN hk
      go_wp2_with fail
      refine (awake1 _).mono ?_
      rintro x w1 ⟨rfl, rfl⟩
      go_wp2_with fail
      refine (C4.out _).mono ?_
      rintro x w1 ⟨rfl, rfl⟩
      go_wp2_with fail
      refine (B1.out _).mono ?_
      rintro x w1 ⟨rfl, rfl⟩
      go_wp2_with fail
      refine (B2.out _).mono ?_
      rintro x w1 ⟨rfl, rfl⟩
      go_wp2_with fail
      refine (K1.out _).mono ?_
      rintro x w1 ⟨rfl, rfl⟩
      go_wp2_with fail
      go_ret
      exact ⟨rfl, rfl⟩
    · have h2 : (u == v) = true := by
        have := TB.out.1 rfl
        simpa using this
      clear TB TN
      rcases hk with h1 | h1
      all_goals
        go_wp2_with fail
        refine (awake1 _).mono ?_
        rintro x w1 ⟨rfl, rfl⟩
        go_wp2_with fail
        refine (C4.out _).mono ?_
        rintro x w1 ⟨rfl, rfl⟩
        go_wp2_with fail
        refine (B1.out _).mono ?_
        rintro x w1 ⟨rfl, rfl⟩
        go_wp2_with fail
        refine (B2.out _).mono ?_
        rintro x w1 ⟨rfl, rfl⟩
        go_wp2_with fail
        refine (K1.out _).mono ?_
        rintro x w1 ⟨rfl, rfl⟩
        go_wp2_with fail
        go_ret
        exact ⟨rfl, rfl⟩
    · have h2 : (u == v) = false := by
        have := TB.out
        have h : ¬ u = v := fun h => by have := this.2 h; omega
        simpa using h
      clear TB TN
      rcases hk with h1 | h1
      all_goals
        go_wp2_with fail
        refine (awake1 _).mono ?_
        rintro x w1 ⟨rfl, rfl⟩
        go_wp2_with fail
        refine (C4.out _).mono ?_
        rintro x w1 ⟨rfl, rfl⟩
        go_wp2_with fail
        refine (B1.out _).mono ?_
        rintro x w1 ⟨rfl, rfl⟩
        go_wp2_with fail
        refine (B2.out _).mono ?_
        rintro x w1 ⟨rfl, rfl⟩
        go_wp2_with fail
        refine (K1.out _).mono ?_
        rintro x w1 ⟨rfl, rfl⟩
        go_wp2_with fail
        go_ret
        exact ⟨rfl, rfl⟩
end Go.Proofs.Ytofninkbinnbhaa
