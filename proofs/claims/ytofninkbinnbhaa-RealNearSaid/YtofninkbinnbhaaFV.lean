/- Proof text: real.Unit whole, and the document's answer. By an AI agent. No condition beyond what each theorem states. -/
import Derived.Test.YtofninkbinnbhaaFU
set_option linter.unusedVariables false
set_option linter.unusedSimpArgs false
namespace Go.Proofs.Ytofninkbinnbhaa
open Go.RowKit
/-- What Unit gives: the number, and why there is none. -/
def uv (b : Nat) (top : Int) : Int × Int := if top < 0 ∨ 16777216 < top then (0, 1) else if nn b then (0, 2) else if key b ≤ 0 then (0, 0) else if 4607182418800017408 ≤ key b then (top, 0) else (un b top.toNat, 0)
theorem key_ex {b : Nat} (hb : b < 18446744073709551616) (h1 : 0 < key b) (h2 : key b < 4607182418800017408) : ex b ≤ 1022 := by
  obtain ⟨p1, p2, p3⟩ := rg_parts b
  unfold key at h1 h2
  cases hs : sg b with
  | true => rw [hs] at h1; simp at h1; omega
  | false => rw [hs] at h2; simp at h2; omega
theorem unit_any (b : Nat) (top : Int) (hb : b < 18446744073709551616) (w : World) : Calls Try.prog 16 #[.float .f64 b, .int .i64 top] w fun x w' => x = .returned (.tuple #[.int .i64 (uv b top).1, .int .i64 (uv b top).2]) ∧ w' = w := by
  by_cases ho : top < 0 ∨ 16777216 < top
  · have HU : Hid (uv b top = (0, 1)) := Lib.hid (by unfold uv; rw [if_pos ho])
    have hc : decide (top < 0) = true ∨ (decide (top < 0) = false ∧ decide (top > 16777216) = true) := by
      by_cases h : top < 0
      · exact .inl (by simpa using h)
      · exact .inr ⟨by simp; omega, by simp; omega⟩
    clear ho hb
    rcases hc with t1 | ⟨t1, t2⟩
    all_goals
      go_enter Try.func16, Try.ntmps16
      go_wp2_with fail
      go_ret2
      exact ⟨by rw [HU.out]; rfl, rfl⟩
  · have o1 : 0 ≤ top := by omega
    have o2 : top ≤ 16777216 := by omega
    cases h : nn b with
    | true =>
      have HU : Hid (uv b top = (0, 2)) := Lib.hid (by unfold uv; rw [if_neg ho, h]; rfl)
      have t1 : (FloatKind.f64.format.order b b != some .eq) = true := by rw [ord_selfn hb, h]
      clear ho hb h
      go_enter Try.func16, Try.ntmps16
      go_wp2_with fail
      go_ret2
      exact ⟨by rw [HU.out]; rfl, rfl⟩
    | false =>
      have t1 : (FloatKind.f64.format.order b b != some .eq) = false := by rw [ord_selfn hb, h]
      by_cases h1 : key b ≤ 0
      · have HU : Hid (uv b top = (0, 0)) := Lib.hid (by unfold uv; rw [if_neg ho, h, if_neg (by decide), if_pos h1])
        have t2 := le_zero hb h
        rw [decide_eq_true h1] at t2
        clear ho hb h h1
        go_enter Try.func16, Try.ntmps16
        go_wp2_with fail
        go_ret2
        exact ⟨by rw [HU.out]; rfl, rfl⟩
      · by_cases h2 : 4607182418800017408 ≤ key b
        · have HU : Hid (uv b top = (top, 0)) := Lib.hid (by unfold uv; rw [if_neg ho, h, if_neg (by decide), if_neg h1, if_pos h2])
          have t2 := le_zero hb h
          rw [decide_eq_false h1] at t2
          have t3 := ge_one hb h
          rw [decide_eq_true h2] at t3
          clear ho hb h h1 h2
          go_enter Try.func16, Try.ntmps16
          go_wp2_with fail
          go_ret2
          exact ⟨by rw [HU.out]; rfl, rfl⟩
        · have hU : uv b top = (((un b top.toNat : Nat) : Int), 0) := by unfold uv; rw [if_neg ho, h, if_neg (by decide), if_neg h1, if_neg h2]
          rw [hU]
          have he := key_ex hb (by omega) (by omega)
          obtain ⟨T, rfl⟩ : ∃ T : Nat, top = T := ⟨top.toNat, by omega⟩
          rw [Int.toNat_natCast]
          rcases (by omega : ex b ≤ 947 ∨ (948 ≤ ex b ∧ ex b ≤ 1011) ∨ (1012 ≤ ex b ∧ ex b ≤ 1022)) with h3 | ⟨h3, h4⟩ | ⟨h3, h4⟩
          · exact unit_far b T w hb (by omega) h (by omega) (by omega) (Nat.zero_le _) h3
          · exact unit_mid b T w hb (by omega) h (by omega) (by omega) h3 h4
          · exact unit_near b T w hb (by omega) h (by omega) (by omega) h3 h4
theorem whole_any (b : Nat) (hb : b < 18446744073709551616) (m : Nat) (q : Int) (h : (ex b = 0 ∧ m = fr b ∧ q = -1074) ∨ (0 < ex b ∧ m = fr b + 4503599627370496 ∧ q = ex b - 1075)) (w : World) :
    Calls Try.prog 33 #[.float .f64 b] w fun x w' => x = .returned (.tuple #[.int .u64 m, .int .i64 q]) ∧ w' = w := by
  rcases h with ⟨h1, rfl, rfl⟩ | ⟨h1, rfl, rfl⟩
  · have CP := Lib.hid (fun W => parts_any b hb 0 (fr b) h1 rfl W)
    clear hb h1
    go_enter Try.func33, Try.ntmps33
    go_wp2_with fail
    refine (CP.out _).mono ?_
    rintro x w1 ⟨rfl, rfl⟩
    go_wp2_with fail
    go_ret2
    exact ⟨rfl, rfl⟩
  · have CP := Lib.hid (fun W => parts_any b hb (ex b) (fr b) rfl rfl W)
    obtain ⟨_, p2, p3⟩ := rg_parts b
    obtain ⟨e, he⟩ : ∃ e, e = ex b := ⟨_, rfl⟩
    obtain ⟨f, hf⟩ : ∃ f, f = fr b := ⟨_, rfl⟩
    rw [← he] at CP h1 p2 ⊢
    rw [← hf] at CP p3 ⊢
    have t1 : ((e : Int) == 0) = false := by simp; omega
    have e1 : (e : Int) < 2048 := by omega
    have f1 : (f : Int) < 4503599627370496 := by omega
    clear hb h1 he hf p2 p3
    go_enter Try.func33, Try.ntmps33
    go_wp2_with fail
    refine (CP.out _).mono ?_
    rintro x w1 ⟨rfl, rfl⟩
    go_wp2_with fail
    go_ret2
    exact ⟨rfl, rfl⟩
theorem le_key {b : Nat} (h : nn b = false) : key b ≤ 0 ↔ (sg b = true ∨ rg b = 0) := by
  unfold key
  cases sg b <;> simp <;> omega
theorem cmp_one {b : Nat} (hb : b < 18446744073709551616) (h : nn b = false) (h1 : 0 < key b) : 0 ≤ cmp b 4607182418800017408 ↔ 4607182418800017408 ≤ key b := by
  have hs : sg b = false := by
    unfold key at h1
    cases hs : sg b with
    | false => rfl
    | true => rw [hs] at h1; simp at h1; omega
  have e1 : pl b = key b := by unfold pl key; rw [h, hs]; rfl
  have e2 : pl 4607182418800017408 = 4607182418800017408 := by decide
  unfold cmp
  rw [e1, e2]
  split
  · omega
  · split <;> omega
end Go.Proofs.Ytofninkbinnbhaa
