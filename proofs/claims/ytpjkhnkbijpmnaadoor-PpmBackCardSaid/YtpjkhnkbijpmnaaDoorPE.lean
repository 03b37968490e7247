/- Proof text: colors as numbers (store.Pack, rastrumref23.Pack, Unpack). By an AI agent. No condition beyond what each theorem states. -/
import Derived.Test.YtpjkhnkbijpmnaaDoorPD
set_option linter.unusedVariables false
set_option linter.unusedSimpArgs false
namespace Go.Proofs.YtpjkhnkbijpmnaaDoor
open Go.RowKit
/-- A color as a number. -/
def pk (a b c d : Int) : Int := ((a * 256 + b) * 256 + c) * 256 + d
theorem or_i64_nat (a b : Nat) (ha : a < 4611686018427387904) (hb : b < 4611686018427387904) : bits .or .i64 (a : Int) (b : Int) = ((a ||| b : Nat) : Int) := by
  have hx : a ||| b < 2 ^ 62 := Nat.or_lt_two_pow (by omega) (by omega)
  have h1 : (BitVec.ofInt 64 (a : Int)).toNat = a := by
    rw [BitVec.ofInt_natCast, BitVec.toNat_ofNat]; exact Nat.mod_eq_of_lt (by omega)
  have h2 : (BitVec.ofInt 64 (b : Int)).toNat = b := by
    rw [BitVec.ofInt_natCast, BitVec.toNat_ofNat]; exact Nat.mod_eq_of_lt (by omega)
  show IntKind.i64.wrap ((BitVec.ofInt 64 (a : Int) ||| BitVec.ofInt 64 (b : Int)).toNat : Int) = _
  rw [BitVec.toNat_or, h1, h2, IntKind.wrap_i64]
  omega
theorem or_add (k x b : Nat) (hb : b < 2 ^ k) (hx : 2 ^ k * x < 4611686018427387904) (hk : 2 ^ k ≤ 4611686018427387904) (A B : Int) (hA : A = ((2 ^ k * x : Nat) : Int)) (hB : B = (b : Int)) : bits .or .i64 A B = A + B := by
  rw [hA, hB, or_i64_nat _ _ hx (by omega), ← Nat.two_pow_add_eq_or_of_lt hb]
  omega
theorem or_pack (a b c d : Nat) (ha : a ≤ 255) (hb : b ≤ 255) (hc : c ≤ 255) (hd : d ≤ 255) :
    bits .or .i64 (bits .or .i64 (bits .or .i64 ((a : Int) * 16777216) ((b : Int) * 65536)) ((c : Int) * 256)) (d : Int) = pk a b c d := by
  have e1 := or_add 24 a (b * 65536) (by omega) (by omega) (by decide) ((a : Int) * 16777216) ((b : Int) * 65536) (by omega) (by omega)
  have e2 := or_add 16 (a * 256 + b) (c * 256) (by omega) (by omega) (by decide) ((a : Int) * 16777216 + (b : Int) * 65536) ((c : Int) * 256) (by omega) (by omega)
  have e3 := or_add 8 (a * 65536 + b * 256 + c) d (by omega) (by omega) (by decide) ((a : Int) * 16777216 + (b : Int) * 65536 + (c : Int) * 256) (d : Int) (by omega) rfl
  rw [e1, e2, e3]
  unfold pk
  omega
theorem rpack_any (a b c d : Nat) (w : World) (ha : a ≤ 255) (hb : b ≤ 255) (hc : c ≤ 255) (hd : d ≤ 255) :
    Calls Tryd.prog 24 #[.agg #[.int .i64 a, .int .i64 b, .int .i64 c, .int .i64 d]] w fun e w' => e = .returned (.int .i64 (pk a b c d)) ∧ Ext w w' := by
  go_enter Tryd.func24, Tryd.ntmps24
  go_wp2_with fail
  go_returns
  exact ⟨rfl, by (repeat (first | with_reducible exact Ext.refl _ | with_reducible assumption | with_reducible refine Ext.alloc ?_ _ | with_reducible refine Ext.drew ?_ | with_reducible refine Ext.drewN ?_ _ | with_reducible refine Ext.later ?_ _ | (with_reducible refine Ext.setCell ?_ _ ?hp; case hp => first | (simp; done) | (simp; omega) | omega)))⟩
theorem pack_any (a b c d : Nat) (w : World) (ha : a ≤ 255) (hb : b ≤ 255) (hc : c ≤ 255) (hd : d ≤ 255) :
    Calls Tryd.prog 20 #[.agg #[.int .i64 a, .int .i64 b, .int .i64 c, .int .i64 d]] w fun e w' => e = .returned (.int .i64 (pk a b c d)) ∧ Ext w w' := by
  have HP := Lib.hid (or_pack a b c d ha hb hc hd)
  go_enter Tryd.func20, Tryd.ntmps20
  go_wp2_with fail
  go_returns
  refine ⟨?_, by (repeat (first | with_reducible exact Ext.refl _ | with_reducible assumption | with_reducible refine Ext.alloc ?_ _ | with_reducible refine Ext.drew ?_ | with_reducible refine Ext.drewN ?_ _ | with_reducible refine Ext.later ?_ _ | (with_reducible refine Ext.setCell ?_ _ ?hp; case hp => first | (simp; done) | (simp; omega) | omega)))⟩
  rw [← HP.out]
  rfl
theorem unpack_any (n : Nat) (w : World) (ha : n ≤ 4294967295) :
    Calls Tryd.prog 27 #[.int .i64 n] w fun e w' => e = .returned (.agg #[.int .i64 ((n : Int) / 16777216 % 256), .int .i64 ((n : Int) / 65536 % 256), .int .i64 ((n : Int) / 256 % 256), .int .i64 ((n : Int) % 256)]) ∧ Ext w w' := by
  go_enter Tryd.func27, Tryd.ntmps27
  go_wp2_with fail
  go_returns
  exact ⟨rfl, by (repeat (first | with_reducible exact Ext.refl _ | with_reducible assumption | with_reducible refine Ext.alloc ?_ _ | with_reducible refine Ext.drew ?_ | with_reducible refine Ext.drewN ?_ _ | with_reducible refine Ext.later ?_ _ | (with_reducible refine Ext.setCell ?_ _ ?hp; case hp => first | (simp; done) | (simp; omega) | omega)))⟩
/-- An image, as plain data. -/
structure Im where
  W : Int
  H : Int
  C : List Int
  Z : List Int
/-- An image as a value that is read. -/
def ImR (w : World) (v : Value) (m : Im) : Prop :=
  ∃ a b c d, v = .agg #[.int .i64 m.W, .int .i64 m.H, .slice a m.C.length c, .slice b m.Z.length d] ∧ Rd w 1 a m.C.length c (ivs m.C) ∧ Rd w 1 b m.Z.length d (ivs m.Z)
theorem ImR.ext {w w' : World} {v : Value} {m : Im} (h : ImR w v m) (e : Ext w w') : ImR w' v m := by
  obtain ⟨a, b, c, d, h1, h2, h3⟩ := h
  exact ⟨a, b, c, d, h1, h2.ext e, h3.ext e⟩
/-- Which images may be. -/
def Im.Ok (m : Im) : Prop := 1 ≤ m.W ∧ m.W ≤ 1024 ∧ 1 ≤ m.H ∧ m.H ≤ 1024 ∧ (m.C.length : Int) = m.W * m.H ∧ (m.Z.length : Int) = m.W * m.H ∧ ∀ i, i < m.C.length → (0 ≤ m.C.getD i 0 ∧ m.C.getD i 0 ≤ 4294967295) ∧ 0 ≤ m.Z.getD i 0 ∧ m.Z.getD i 0 ≤ 16777215
/-- Where a pixel stands. -/
theorem at_any (W H : Int) (vc vz : Value) (hc : vc.oneCell' = true) (hz : vz.oneCell' = true) (x y : Nat) (w : World) (hx : (x : Int) < W) (hy : (y : Int) < H) (hW : W ≤ 1024) (hH : H ≤ 1024) :
    Calls Tryd.prog 26 #[.agg #[.int .i64 W, .int .i64 H, vc, vz], .int .i64 x, .int .i64 y] w fun e w' => e = .returned (.int .i64 ((y : Int) * W + x)) ∧ Ext w w' := by
  have hm1 : 0 ≤ (y : Int) * W := Int.mul_nonneg (by omega) (by omega)
  have hm2 : (y : Int) * W ≤ 1048576 := by
    have : (y : Int) * W ≤ 1024 * 1024 := Int.mul_le_mul (by omega) hW (by omega) (by omega)
    omega
  have d1 : decide ((x : Int) ≥ W) = false := by simp; omega
  have d2 : decide ((y : Int) ≥ H) = false := by simp; omega
  go_enter Tryd.func26, Tryd.ntmps26
  go_wp2_with fail
  go_returns
  exact ⟨rfl, by (repeat (first | with_reducible exact Ext.refl _ | with_reducible assumption | with_reducible refine Ext.alloc ?_ _ | with_reducible refine Ext.drew ?_ | with_reducible refine Ext.drewN ?_ _ | with_reducible refine Ext.later ?_ _ | (with_reducible refine Ext.setCell ?_ _ ?hp; case hp => first | (simp; done) | (simp; omega) | omega)))⟩
end Go.Proofs.YtpjkhnkbijpmnaaDoor
