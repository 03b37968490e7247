/- Proof text: the law RealNear. By an AI agent. No condition beyond what each theorem states. -/
import Derived.Test.YtofninkbinnbhaaGG
set_option linter.unusedVariables false
set_option linter.unusedSimpArgs false
namespace Go.Proofs.Ytofninkbinnbhaa
open Go.RowKit
/-- What a finite float is, in units of the least one. -/
def sv (b : Nat) : Int := if sg b then -(mg (rg b) : Int) else mg (rg b)
theorem sv_lt (a b : Nat) : key a < key b ↔ sv a < sv b := by
  have l1 := mg_lt_iff (rg a) (rg b)
  have l2 := mg_lt_iff (rg b) (rg a)
  have z1 := mg_eq_iff (rg a) 0
  have z2 := mg_eq_iff (rg b) 0
  rw [mg_zero] at z1 z2
  unfold key sv
  generalize mg (rg a) = x at *
  generalize mg (rg b) = y at *
  generalize rg a = u at *
  generalize rg b = v at *
  cases sg a <;> cases sg b <;> simp only [Bool.false_eq_true, if_false, if_true] <;> omega
theorem sv_eq (a b : Nat) : key a = key b ↔ sv a = sv b := by
  have h1 := sv_lt a b
  have h2 := sv_lt b a
  omega
theorem sv_back {n bs : Int} {lb c : Nat} (hc : c = 1074) (h : BackF n bs lb) (b1 : 0 ≤ bs) (b2 : bs ≤ 32) : sv lb * (2 ^ bs.toNat : Nat) = n * (2 ^ c : Nat) := by
  obtain ⟨k, hk⟩ : ∃ k, k = bs.toNat := ⟨_, rfl⟩
  have hk2 : k ≤ 32 := by omega
  have hs := h.sign
  rcases h.val with ⟨rfl, h0⟩ | ⟨h0, e, f, e1, e2, hf, hr, hM⟩
  · unfold sv
    rw [h0, mg_zero]
    simp
  · rw [← hk] at hr ⊢
    obtain ⟨m1, p1⟩ := norm_parts (R := (e - k) * 4503599627370496 + f) (d := e - k - 1) (M := 4503599627370496 + f) (by omega) (by omega) (by omega)
    have hm : mg (rg lb) * 2 ^ k = n.natAbs * 2 ^ c := by
      rw [mg_eq, hr, m1, p1, hM, Nat.mul_assoc, Nat.mul_assoc, ← Nat.pow_add, ← Nat.pow_add]
      congr 2
      omega
    unfold sv
    rw [hs]
    generalize mg (rg lb) = g at *
    generalize 2 ^ k = x at *
    generalize 2 ^ c = y at *
    by_cases hn : n < 0
    · rw [decide_eq_true hn]
      simp only [if_true]
      have e3 : n = -(n.natAbs : Int) := by omega
      rw [e3, Int.neg_mul, Int.neg_mul, ← Int.natCast_mul, ← Int.natCast_mul, hm]
    · rw [decide_eq_false hn]
      simp only [Bool.false_eq_true, if_false]
      have e3 : n = (n.natAbs : Int) := by omega
      rw [e3, ← Int.natCast_mul, ← Int.natCast_mul, hm]
/-- A rounded number is near. -/
theorem rnd_near (m k : Nat) : 2 * m ≤ 2 * rnd m k * 2 ^ k + 2 ^ k ∧ 2 * rnd m k * 2 ^ k ≤ 2 * m + 2 ^ k ∧ (2 * m = 2 * rnd m k * 2 ^ k + 2 ^ k ∨ 2 * rnd m k * 2 ^ k = 2 * m + 2 ^ k → rnd m k % 2 = 0) := by
  unfold rnd
  have h0 := Nat.two_pow_pos k
  generalize 2 ^ k = o at *
  have hd := Nat.div_add_mod m o
  have hr := Nat.mod_lt m h0
  generalize m / o = q at *
  generalize m % o = r at *
  have hq : o * q = q * o := Nat.mul_comm _ _
  split
  · rename_i hc
    have e1 : 2 * (q + 1) * o = 2 * (q * o) + 2 * o := by rw [Nat.mul_add, Nat.add_mul, Nat.mul_assoc]
    rw [e1]
    generalize q * o = t at *
    rcases hc with hc | ⟨hc, hc2⟩
    · exact ⟨by omega, by omega, fun h => by omega⟩
    · exact ⟨by omega, by omega, fun h => by omega⟩
  · rename_i hc
    have e1 : 2 * (q + 0) * o = 2 * (q * o) := by rw [Nat.add_zero, Nat.mul_assoc]
    rw [e1]
    generalize q * o = t at *
    exact ⟨by omega, by omega, fun h => by omega⟩
theorem fn_near {r c : Nat} {bs : Int} (hc : c = 1074) (b1 : 0 ≤ bs) : 2 * (mg r * 2 ^ bs.toNat) ≤ 2 * fn r bs * 2 ^ c + 2 ^ c ∧ 2 * fn r bs * 2 ^ c ≤ 2 * (mg r * 2 ^ bs.toNat) + 2 ^ c ∧
    (2 * (mg r * 2 ^ bs.toNat) = 2 * fn r bs * 2 ^ c + 2 ^ c ∨ 2 * fn r bs * 2 ^ c = 2 * (mg r * 2 ^ bs.toNat) + 2 ^ c → fn r bs % 2 = 0) := by
  have hp := plc_ge r
  unfold fn
  by_cases h : 0 ≤ plc r + bs
  · rw [if_pos h]
    have e : mg r * 2 ^ bs.toNat = mant r * 2 ^ (plc r + bs).toNat * 2 ^ c := by
      rw [mg_eq, Nat.mul_assoc, Nat.mul_assoc, ← Nat.pow_add, ← Nat.pow_add]
      congr 2
      omega
    rw [e]
    have h0 := Nat.two_pow_pos c
    generalize mant r * 2 ^ (plc r + bs).toNat = N
    rw [Nat.mul_assoc]
    generalize N * 2 ^ c = t
    generalize 2 ^ c = u at *
    exact ⟨by omega, by omega, fun h => by omega⟩
  · rw [if_neg h]
    obtain ⟨k, hk⟩ : ∃ k, k = (-(plc r + bs)).toNat := ⟨_, rfl⟩
    rw [← hk]
    obtain ⟨x1, x2, x3⟩ := rnd_near (mant r) k
    obtain ⟨j, hj⟩ : ∃ j, j = (plc r + 1074 + bs).toNat := ⟨_, rfl⟩
    have e1 : mg r * 2 ^ bs.toNat = mant r * 2 ^ j := by
      rw [mg_eq, Nat.mul_assoc, ← Nat.pow_add]
      congr 2
      omega
    have e2 : 2 ^ c = 2 ^ k * 2 ^ j := by
      rw [← Nat.pow_add]
      congr 1
      omega
    rw [e1, e2]
    have h0 := Nat.two_pow_pos j
    have y1 := Nat.mul_le_mul_right (2 ^ j) x1
    have y2 := Nat.mul_le_mul_right (2 ^ j) x2
    have y3 : ∀ p q : Nat, p * 2 ^ j = q * 2 ^ j → p = q := fun p q h => Nat.eq_of_mul_eq_mul_right h0 h
    have a1 : 2 * (mant r * 2 ^ j) = 2 * mant r * 2 ^ j := (Nat.mul_assoc _ _ _).symm
    have a2 : 2 * rnd (mant r) k * (2 ^ k * 2 ^ j) + 2 ^ k * 2 ^ j = (2 * rnd (mant r) k * 2 ^ k + 2 ^ k) * 2 ^ j := by rw [Nat.add_mul, Nat.mul_assoc (2 * rnd (mant r) k)]
    have a3 : 2 * rnd (mant r) k * (2 ^ k * 2 ^ j) = 2 * rnd (mant r) k * 2 ^ k * 2 ^ j := (Nat.mul_assoc _ _ _).symm
    have a4 : 2 * (mant r * 2 ^ j) + 2 ^ k * 2 ^ j = (2 * mant r + 2 ^ k) * 2 ^ j := by rw [Nat.add_mul, a1]
    refine ⟨by rw [a1, a2]; exact y1, by rw [a3, a4]; exact y2, fun h => x3 ?_⟩
    rcases h with h | h
    · left; rw [a1, a2] at h; exact y3 _ _ h
    · right; rw [a3, a4] at h; exact y3 _ _ h
/-- The fixed number's neighbours. -/
theorem near_keys {b lw hw : Nat} {a bs : Int} (b1 : 0 ≤ bs) (b2 : bs ≤ 31) (ha : a = if sg b then -((fn (rg b) bs : Nat) : Int) else (fn (rg b) bs : Nat)) (hl : BackF (2 * a - 1) (bs + 1) lw) (hh : BackF (2 * a + 1) (bs + 1) hw) :
    key lw ≤ key b ∧ key b ≤ key hw ∧ (key b = key lw ∨ key b = key hw → a % 2 = 0) := by
  obtain ⟨c, hc⟩ : ∃ c : Nat, c = 1074 := ⟨_, rfl⟩
  have s1 := sv_back hc hl (by omega) (by omega)
  have s2 := sv_back hc hh (by omega) (by omega)
  obtain ⟨n1, n2, n3⟩ := fn_near (r := rg b) hc b1
  have hK : (bs + 1).toNat = bs.toNat + 1 := by omega
  rw [hK, Nat.pow_succ] at s1 s2
  have g1 := sv_lt b lw
  have g2 := sv_lt hw b
  have g3 := sv_eq b lw
  have g4 := sv_eq b hw
  have hsv : sv b * ((2 ^ bs.toNat * 2 : Nat) : Int) = if sg b then -((2 * (mg (rg b) * 2 ^ bs.toNat) : Nat) : Int) else (2 * (mg (rg b) * 2 ^ bs.toNat) : Nat) := by
    unfold sv
    have e : mg (rg b) * (2 ^ bs.toNat * 2) = 2 * (mg (rg b) * 2 ^ bs.toNat) := by rw [← Nat.mul_assoc, Nat.mul_comm]
    cases sg b
    · simp only [Bool.false_eq_true, if_false]
      rw [← Int.natCast_mul, e]
    · simp only [if_true]
      rw [Int.neg_mul, ← Int.natCast_mul, e]
  have hpos : 0 < 2 ^ bs.toNat * 2 := Nat.mul_pos (Nat.two_pow_pos _) (by decide)
  have hposI : (0 : Int) < ((2 ^ bs.toNat * 2 : Nat) : Int) := by omega
  generalize 2 ^ bs.toNat * 2 = Z at *
  generalize mg (rg b) * 2 ^ bs.toNat = X at *
  generalize fn (rg b) bs = N at *
  have eN : 2 * N * 2 ^ c = N * 2 ^ c * 2 := by rw [Nat.mul_assoc, Nat.mul_comm]
  rw [eN] at n1 n2 n3
  have e1 : (2 * a - 1) * ((2 ^ c : Nat) : Int) = 2 * (a * ((2 ^ c : Nat) : Int)) - ((2 ^ c : Nat) : Int) := by rw [Int.sub_mul, Int.one_mul, Int.mul_assoc]
  have e2 : (2 * a + 1) * ((2 ^ c : Nat) : Int) = 2 * (a * ((2 ^ c : Nat) : Int)) + ((2 ^ c : Nat) : Int) := by rw [Int.add_mul, Int.one_mul, Int.mul_assoc]
  rw [e1] at s1
  rw [e2] at s2
  have e3 : a * ((2 ^ c : Nat) : Int) = if sg b then -((N * 2 ^ c : Nat) : Int) else (N * 2 ^ c : Nat) := by
    rw [ha]
    cases sg b
    · simp only [Bool.false_eq_true, if_false]; rw [← Int.natCast_mul]
    · simp only [if_true]; rw [Int.neg_mul, ← Int.natCast_mul]
  rw [e3] at s1 s2
  have m1 : ∀ u v : Int, u < v → u * (Z : Int) < v * (Z : Int) := fun u v h => Int.mul_lt_mul_of_pos_right h hposI
  have k1 := m1 (sv b) (sv lw)
  have k2 := m1 (sv hw) (sv b)
  rw [hsv, s1] at k1
  rw [hsv, s2] at k2
  have t1 : sv b = sv lw → sv b * (Z : Int) = sv lw * (Z : Int) := fun h => by rw [h]
  have t2 : sv b = sv hw → sv b * (Z : Int) = sv hw * (Z : Int) := fun h => by rw [h]
  rw [hsv, s1] at t1
  rw [hsv, s2] at t2
  clear hsv s1 s2 e1 e2 e3 eN m1 hl hh
  generalize N * 2 ^ c = T at *
  generalize 2 ^ c = U at *
  generalize sv b = p at *
  generalize sv lw = q at *
  generalize sv hw = r at *
  generalize sg b = s at *
  cases s
  · simp only [Bool.false_eq_true, if_false] at k1 k2 t1 t2 ha
    refine ⟨by omega, by omega, fun h => ?_⟩
    have := n3 (by omega)
    omega
  · simp only [if_true] at k1 k2 t1 t2 ha
    refine ⟨by omega, by omega, fun h => ?_⟩
    have := n3 (by omega)
    omega
end Go.Proofs.Ytofninkbinnbhaa
