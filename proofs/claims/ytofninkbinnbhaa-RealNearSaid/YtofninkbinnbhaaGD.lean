/- Proof text: the document's Fixed. By an AI agent. No condition beyond what each theorem states. -/
import Derived.Test.YtofninkbinnbhaaGC
import Derived.Deep.CutRange
import Derived.Deep.CutBlock
set_option linter.unusedVariables false
set_option linter.unusedSimpArgs false
namespace Go.Proofs.Ytofninkbinnbhaa
open Go.RowKit
theorem whole_mp (b : Nat) (hb : b < 18446744073709551616) (h : rg b < 9218868437227405312) (w : World) : Calls Try.prog 33 #[.float .f64 b] w fun x w' => x = .returned (.tuple #[.int .u64 (mant (rg b)), .int .i64 (plc (rg b))]) ∧ w' = w := by
  obtain ⟨p1, p2, p3⟩ := rg_parts b
  refine whole_any b hb (mant (rg b)) (plc (rg b)) ?_ w
  by_cases h0 : ex b = 0
  · left
    have hr : rg b = fr b := by rw [p1, h0]; omega
    have e1 : mant (rg b) = rg b := by unfold mant; rw [if_pos (by omega)]
    have e2 : plc (rg b) = -1074 := by unfold plc; rw [if_pos (by omega)]
    exact ⟨h0, by rw [e1, hr], e2⟩
  · right
    have hge : 4503599627370496 ≤ rg b := by omega
    have e1 : mant (rg b) = 4503599627370496 + rg b % 4503599627370496 := by unfold mant; rw [if_neg (by omega)]
    have e2 : plc (rg b) = -1074 + (rg b / 4503599627370496 - 1 : Nat) := by unfold plc; rw [if_neg (by omega)]
    refine ⟨by omega, by rw [e1]; omega, by rw [e2]; omega⟩
theorem shl_val {m N : Nat} {M c : Int} (hm : m < 9007199254740992) (hM : M = (m : Int)) (g : 0 ≤ c) (c2 : c ≤ 10) (hN : N = if 0 ≤ c then m * 2 ^ c.toNat else rnd m (-c).toNat) : wrap64 (M * 2 ^ c.toNat) = (N : Int) := by
  rw [if_pos g] at hN
  have h1 : 2 ^ c.toNat ≤ 2 ^ 10 := Nat.pow_le_pow_right (by omega) (by omega)
  have h2 : m * 2 ^ c.toNat ≤ 9007199254740991 * 2 ^ 10 := Nat.mul_le_mul (by omega) h1
  have e : M * 2 ^ c.toNat = ((m * 2 ^ c.toNat : Nat) : Int) := by rw [hM, Int.natCast_mul, Int.natCast_pow]; rfl
  rw [e, ← hN]
  exact wrap64_small (by omega) (by omega)
theorem tiny_val {m N : Nat} {c : Int} (hm : m < 9007199254740992) (g : c < -60) (hN : N = if 0 ≤ c then m * 2 ^ c.toNat else rnd m (-c).toNat) : N = 0 := by
  rw [hN, if_neg (by omega)]
  exact rnd_tiny (by simpa using hm) (by omega)
theorem div_vals {m N : Nat} {M c : Int} (hm : m < 9007199254740992) (hM : M = (m : Int)) (g : c < 0) (g2 : -60 ≤ c) (hN : N = if 0 ≤ c then m * 2 ^ c.toNat else rnd m (-c).toNat) :
    ∃ O A B : Int, wrap64 (2 ^ (-c).toNat) = O ∧ M.tdiv O = A ∧ M % O = B ∧ 1 ≤ O ∧ O ≤ 1152921504606846976 ∧ 0 ≤ A ∧ A < 9007199254740992 ∧ 0 ≤ B ∧ B < 9007199254740992 ∧
      ((2 * B > O ∧ Hid (A + 1 = (N : Int))) ∨ (¬ 2 * B > O ∧ (2 * B == O) = true ∧ (A % 2 == 1) = true ∧ Hid (A + 1 = (N : Int))) ∨ (¬ 2 * B > O ∧ (2 * B == O) = true ∧ (A % 2 == 1) = false ∧ Hid (A = (N : Int))) ∨ (¬ 2 * B > O ∧ (2 * B == O) = false ∧ Hid (A = (N : Int)))) := by
  rw [if_neg (by omega)] at hN
  obtain ⟨k, hk⟩ : ∃ k, k = (-c).toNat := ⟨_, rfl⟩
  rw [← hk] at hN ⊢
  have hk2 : k ≤ 60 := by omega
  have h1 : 2 ^ k ≤ 2 ^ 60 := Nat.pow_le_pow_right (by omega) hk2
  rw [show (2 : Nat) ^ 60 = 1152921504606846976 from rfl] at h1
  have h0 := Nat.two_pow_pos k
  have eo : wrap64 ((2 : Int) ^ k) = ((2 ^ k : Nat) : Int) := by
    rw [show ((2 : Int) ^ k) = ((2 ^ k : Nat) : Int) by rw [Int.natCast_pow]; rfl]
    exact wrap64_small (by omega) (by omega)
  unfold rnd at hN
  generalize 2 ^ k = o at *
  have hd : m / o ≤ m := Nat.div_le_self _ _
  have hmo : m % o ≤ m := Nat.mod_le _ _
  have ha : M.tdiv (o : Int) = ((m / o : Nat) : Int) := by rw [hM, ← Int.ofNat_tdiv]
  have hb : M % (o : Int) = ((m % o : Nat) : Int) := by rw [hM, ← Int.natCast_emod]
  generalize m / o = a at *
  generalize m % o = b at *
  refine ⟨(o : Int), (a : Int), (b : Int), eo, ha, hb, by omega, by omega, by omega, by omega, by omega, by omega, ?_⟩
  clear ha hb eo
  by_cases g1 : o < 2 * b
  · left
    rw [if_pos (.inl g1)] at hN
    exact ⟨by omega, Lib.hid (by omega)⟩
  · by_cases g3 : 2 * b = o
    · by_cases g4 : a % 2 = 1
      · right; left
        rw [if_pos (.inr ⟨g3, g4⟩)] at hN
        exact ⟨by omega, by simp; omega, by simp; omega, Lib.hid (by omega)⟩
      · right; right; left
        rw [if_neg (by omega)] at hN
        exact ⟨by omega, by simp; omega, by simp; omega, Lib.hid (by omega)⟩
    · right; right; right
      rw [if_neg (by omega)] at hN
      exact ⟨by omega, by simp; omega, Lib.hid (by omega)⟩
set_option maxRecDepth 100000 in
set_option maxHeartbeats 1000000 in
theorem reffixed_in (b : Nat) (bs most : Int) (w : World) (hb : b < 18446744073709551616) (b1 : 0 ≤ bs) (b2 : bs ≤ 32) (m1 : 0 ≤ most) (m2 : most ≤ 1099511627776) (hnn : nn b = false) (hr : rg b < 9218868437227405312) (he : plc (rg b) + bs ≤ 10) :
    Calls Try.prog 15 #[.float .f64 b, .int .i64 bs, .int .i64 most] w fun x w' => x = .returned (.tuple #[.int .i64 (fxv b bs most).1, .int .i64 (fxv b bs most).2]) ∧ w' = w := by
  have CK := Lib.hid (fun W => rkind_any b hb _ rfl W)
  have hk := kd_nan.2 hnn
  have hk2 : (kd b == 2) = false := by
    unfold kd
    rw [hnn, if_neg (by decide), if_neg (by omega)]
    split
    · decide
    · split <;> decide
  obtain ⟨k, hkk⟩ : ∃ k, k = kd b := ⟨_, rfl⟩
  rw [← hkk] at CK hk hk2
  have CW := Lib.hid (fun W => whole_mp b hb hr W)
  have CM := Lib.hid (fun W => rminus_any b hb (sg b) (by unfold minus; rw [hnn]; simp) W)
  have hx : fxv b bs most = if most < (fn (rg b) bs : Nat) then (0, 4) else (if sg b then -((fn (rg b) bs : Nat) : Int) else (fn (rg b) bs : Nat), 0) := by
    unfold fxv
    rw [if_neg (by omega), hnn, if_neg (by decide), if_neg (by omega)]
    by_cases hf : most < (fn (rg b) bs : Nat)
    · rw [if_pos (.inr hf), if_pos hf]
    · rw [if_neg (fun h => h.elim (by omega) hf), if_neg hf]
  have hml := mant_lt (rg b)
  have hpg := plc_ge (rg b)
  obtain ⟨m, hm⟩ : ∃ m, m = mant (rg b) := ⟨_, rfl⟩
  obtain ⟨p, hp⟩ : ∃ p, p = plc (rg b) := ⟨_, rfl⟩
  obtain ⟨c, hc⟩ : ∃ c, c = p + bs := ⟨_, rfl⟩
  obtain ⟨N, hN⟩ : ∃ N, N = fn (rg b) bs := ⟨_, rfl⟩
  have hfn : N = if 0 ≤ c then m * 2 ^ c.toNat else rnd m (-c).toNat := by rw [hN]; unfold fn; rw [← hm, ← hp, ← hc]
  rw [← hN] at hx
  rw [← hm, ← hp] at CW
  rw [← hp] at he hpg
  rw [← hm] at hml
  have q9 : wrap64 (p + bs) = c := by rw [hc]; exact wrap64_small (by omega) (by omega)
  have c1 : -1074 ≤ c := by omega
  have c2 : c ≤ 10 := by omega
  obtain ⟨s, hs⟩ : ∃ s, s = sg b := ⟨_, rfl⟩
  rw [← hs] at CM hx
  have HX := Lib.hid hx
  have HF := Lib.hid hfn
  have HM := Lib.hid hml
  obtain ⟨M, hM⟩ : ∃ M : Int, M = (m : Int) := ⟨_, rfl⟩
  rw [← hM] at CW
  have mi : M < 9007199254740992 := by omega
  have mi0 : 0 ≤ M := by omega
  have HMM := Lib.hid hM
  clear hb hnn hr he hkk hx hml hpg hm hp hc hN hfn hs hM
  go_enter Try.func15, Try.ntmps15
  go_wp2_with fail
  refine (CK.out _).mono ?_
  rintro x w1 ⟨rfl, rfl⟩
  go_wp2_with fail
  refine (CW.out _).mono ?_
  rintro x w1 ⟨rfl, rfl⟩
  go_upto_block 1 with fail
  go_cut [9, 10, 11, 12] from 40 to 83 (fun _ nv _ _ wx => nv = .int .i64 N ∧ wx = w1)
  case first =>
    clear HX CM CK CW
    rcases (by omega : 0 ≤ c ∨ (c < 0 ∧ -60 ≤ c) ∨ c < -60) with g | ⟨g, g2⟩ | g
    · have HV := Lib.hid (shl_val HM.out HMM.out g c2 HF.out)
      go_wp2_with fail
      go_meet
      exact ⟨by rw [HV.out], rfl⟩
    · obtain ⟨O, A, B, r1, r2, r3, o1, o2, a1, a2, bb1, bb2, hcase⟩ := div_vals HM.out HMM.out g g2 HF.out
      have r4 : wrap64 A = A := wrap64_small (by omega) (by omega)
      rcases hcase with ⟨t1, HN⟩ | ⟨t1, t2, t3, HN⟩ | ⟨t1, t2, t3, HN⟩ | ⟨t1, t2, HN⟩
      all_goals
        go_wp2_with fail
        go_meet
        exact ⟨by rw [HN.out], rfl⟩
    · have HV := Lib.hid (tiny_val HM.out g HF.out)
      go_wp2_with fail
      go_meet
      exact ⟨by rw [HV.out]; rfl, rfl⟩
  case rest =>
    obtain ⟨rfl, rfl⟩ := hcut
    obtain ⟨NI, hNI⟩ : ∃ NI : Int, NI = (N : Int) := ⟨_, rfl⟩
    have HX2 : Hid (fxv b bs most = if most < NI then (0, 4) else (if s then -NI else NI, 0)) := Lib.hid (by rw [hNI]; exact HX.out)
    have n0 : 0 ≤ NI := by omega
    rw [← hNI]
    clear HX HF HM HMM hNI CK CW
    by_cases hf : most < NI
    · have HR : Hid (fxv b bs most = (0, 4)) := Lib.hid (by rw [HX2.out, if_pos hf])
      go_wp2_with fail
      go_ret2
      exact ⟨by rw [HR.out]; rfl, rfl⟩
    · have hf2 : NI ≤ most := by omega
      have HR : Hid (fxv b bs most = (if s then -NI else NI, 0)) := Lib.hid (by rw [HX2.out, if_neg hf])
      clear hf HX2
      cases s with
      | true =>
        go_wp2_with fail
        refine (CM.out _).mono ?_
        rintro x w1 ⟨rfl, rfl⟩
        go_wp2_with fail
        go_ret2
        exact ⟨by rw [HR.out]; simp, rfl⟩
      | false =>
        go_wp2_with fail
        refine (CM.out _).mono ?_
        rintro x w1 ⟨rfl, rfl⟩
        go_wp2_with fail
        go_ret2
        exact ⟨by rw [HR.out]; rfl, rfl⟩
end Go.Proofs.Ytofninkbinnbhaa
