/- Proof text: the laws RealKinds, RealCompares. By an AI agent. No condition beyond what each theorem states. -/
import Derived.Test.YtofninkbinnbhaaFH
set_option linter.unusedVariables false
set_option linter.unusedSimpArgs false
namespace Go.Proofs.Ytofninkbinnbhaa
open Go.RowKit
theorem word_of_int (n : Int) : ∃ b, b = wd n ∧ (IntKind.u64.wrap n).toNat = b ∧ b < 18446744073709551616 := ⟨wd n, rfl, wrap_wd n, wd_lt n⟩
theorem kinds_any (n : Int) (w : World) : Calls Try.prog 8 #[.int .i64 n] w fun x w' => x = .returned (.bool true) ∧ w' = w := by
  obtain ⟨b, h1, e1, h2⟩ := word_of_int n
  have CK := Lib.hid (fun W => kind_any b h2 W)
  have CK2 := Lib.hid (fun W => rkind_any b h2 _ rfl W)
  have CM := Lib.hid (fun W => minus_any b h2 _ rfl W)
  have CM2 := Lib.hid (fun W => rminus_any b h2 _ rfl W)
  have CB := Lib.hid (fun W => rbits_any b h2 W)
  have CB2 := Lib.hid (fun W => refbits_any b h2 W)
  have CO := Lib.hid (fun W => of_any n W)
  rw [← h1] at CO
  obtain ⟨k, hk⟩ : ∃ k, k = kd b := ⟨_, rfl⟩
  obtain ⟨m, hm⟩ : ∃ m, m = minus b := ⟨_, rfl⟩
  obtain ⟨t, ht⟩ : ∃ t, t = bi b := ⟨_, rfl⟩
  rw [← hk] at CK CK2
  rw [← hm] at CM CM2
  rw [← ht] at CB CB2
  clear h1 h2 hk hm ht
  go_enter Try.func8, Try.ntmps8
  go_wp2_with fail
  refine (awake1 _).mono ?_
  rintro x w1 ⟨rfl, rfl⟩
  go_wp2_with fail
  refine (CK.out _).mono ?_
  rintro x w1 ⟨rfl, rfl⟩
  go_wp2_with fail
  refine (CK2.out _).mono ?_
  rintro x w1 ⟨rfl, rfl⟩
  go_wp2_with fail
  refine (CM.out _).mono ?_
  rintro x w1 ⟨rfl, rfl⟩
  go_wp2_with fail
  refine (CM2.out _).mono ?_
  rintro x w1 ⟨rfl, rfl⟩
  go_wp2_with fail
  refine (CB.out _).mono ?_
  rintro x w1 ⟨rfl, rfl⟩
  go_wp2_with fail
  refine (CB2.out _).mono ?_
  rintro x w1 ⟨rfl, rfl⟩
  go_wp2_with fail
  refine (CO.out _).mono ?_
  rintro x w1 ⟨rfl, rfl⟩
  go_wp2_with fail
  refine (CB.out _).mono ?_
  rintro x w1 ⟨rfl, rfl⟩
  go_wp2_with fail
  refine (CB2.out _).mono ?_
  rintro x w1 ⟨rfl, rfl⟩
  go_wp2_with fail
  go_ret
  exact ⟨by simp, rfl⟩
set_option maxHeartbeats 2000000 in
theorem compares_any (m n : Int) (w : World) : Calls Try.prog 3 #[.int .i64 m, .int .i64 n] w fun x w' => x = .returned (.bool true) ∧ w' = w := by
  obtain ⟨a, -, e1, h1⟩ := word_of_int m
  obtain ⟨b, -, e2, h2⟩ := word_of_int n
  have C1 := Lib.hid (fun W => compare_any a b h1 h2 W)
  have C2 := Lib.hid (fun W => refcompare_any a b h1 h2 W)
  have C3 := Lib.hid (fun W => compare_any b a h2 h1 W)
  have C4 := Lib.hid (fun W => refcompare_any b a h2 h1 W)
  obtain ⟨p, hp⟩ : ∃ p, p = cmp a b := ⟨_, rfl⟩
  obtain ⟨q, hq⟩ : ∃ q, q = cmp b a := ⟨_, rfl⟩
  rw [← hp] at C1 C2
  rw [← hq] at C3 C4
  clear h1 h2 hp hq
  go_enter Try.func3, Try.ntmps3
  go_wp2_with fail
  refine (awake1 _).mono ?_
  rintro x w1 ⟨rfl, rfl⟩
  go_wp2_with fail
  refine (C1.out _).mono ?_
  rintro x w1 ⟨rfl, rfl⟩
  go_wp2_with fail
  refine (C2.out _).mono ?_
  rintro x w1 ⟨rfl, rfl⟩
  go_wp2_with fail
  refine (C3.out _).mono ?_
  rintro x w1 ⟨rfl, rfl⟩
  go_wp2_with fail
  refine (C4.out _).mono ?_
  rintro x w1 ⟨rfl, rfl⟩
  go_wp2_with fail
  go_ret
  exact ⟨by simp, rfl⟩
end Go.Proofs.Ytofninkbinnbhaa
