/- Proof text: the way of a line, its small methods (walk.least, size, step, under, across, pixel, count, in; diamond.In). By an AI agent. No condition beyond what each theorem states. -/
import Derived.Test.YtplljnfjkkloeaaGreatDoorQA
import Derived.Test.YtplljnfjkkloeaaGreatDoorQL
set_option linter.unusedVariables false
set_option linter.unusedSimpArgs false
set_option maxHeartbeats 4000000
namespace Go.Proofs.YtplljnfjkkloeaaGreatDoor
open Go.RowKit
@[reducible] def wrow (W : Way) (fst lst_ : Int) (ex op : Bool) (u v : Int) : Array Value :=
 #[.int .i64 W.au, .int .i64 W.av, .int .i64 W.bu, .int .i64 W.bv, .bool W.turned, .int .i64 W.back, .int .i64 fst, .int .i64 lst_, .bool ex, .bool op, .int .i64 u, .int .i64 v]
def Pl (x : Int) : Prop := -268450000 ≤ x ∧ x ≤ 268450000
structure Way.In (W : Way) : Prop where
 au : Pl W.au
 av : Pl W.av
 bu : Pl W.bu
 bv : Pl W.bv
 back : W.back = 0 ∨ W.back = 1
theorem least_any (u : Int) (w : World) (h : Pl u) : Calls Tryz.prog 265 #[.int .i64 u] w fun e w' => e = .returned (.int .i64 (lst u)) ∧ w = w' := by
 obtain ⟨h1, h2⟩ := h
 go_enter Tryz.func265, Tryz.ntmps265
 go_wp2_with fail
 go_ret
 exact ⟨rfl, rfl⟩
theorem pixel_any (W : Way) (g : Nat) (fs ls : Int) (ex op : Bool) (pu pv u v : Int) (w : World) (hB : Blk w g 341 (wrow W fs ls ex op pu pv)) :
  Calls Tryz.prog 227 #[.pointer (some ⟨g, 0, none⟩), .int .i64 u, .int .i64 v] w fun e w' =>
   e = .returned (.tuple #[.int .i64 (if W.turned = true then v else u), .int .i64 (if W.turned = true then u else v)]) ∧ w = w' := by
 obtain ⟨q0, q1, q2, q3, q4, q5, q6, q7, q8, q9, q10, q11⟩ := hB.c12
 cases ht : W.turned
 all_goals
  rw [ht] at q4
  have HT := Lib.hid ht
  clear ht
  clear q0 q1 q2 q3 q5 q6 q7 q8 q9 q10 q11
  go_enter Tryz.func227, Tryz.ntmps227
  go_wp2_with fail
  go_ret2
  exact ⟨rfl, rfl⟩
theorem size_any (W : Way) (g : Nat) (fs ls : Int) (ex op : Bool) (pu pv : Int) (w : World) (hB : Blk w g 341 (wrow W fs ls ex op pu pv)) (hf : Pl fs) (hl : Pl ls) :
  Calls Tryz.prog 228 #[.pointer (some ⟨g, 0, none⟩)] w fun e w' => e = .returned (.int .i64 ((ls - fs).natAbs : Nat)) ∧ Ext w w' := by
 obtain ⟨q0, q1, q2, q3, q4, q5, q6, q7, q8, q9, q10, q11⟩ := hB.c12
 clear q0 q1 q2 q3 q4 q5 q8 q9 q10 q11
 obtain ⟨f1, f2⟩ := hf
 obtain ⟨l1, l2⟩ := hl
 have e1 : max (ls - fs) (fs - ls) = ((ls - fs).natAbs : Nat) := by omega
 have HE := Lib.hid e1; clear e1
 go_enter Tryz.func228, Tryz.ntmps228
 go_wp2_with fail
 go_quiet (fail)
 go_wp2_with fail
 go_ret
 rw [HE.out]
 exact ⟨rfl, by (repeat (first | with_reducible (first | exact eR_ _ | assumption | refine eA_ ?_ _ | refine eD_ ?_ | refine eN_ ?_ _ | refine eL_ ?_ _) | (with_reducible refine eS_ ?_ _ ?hp; case hp => first | (simp; done) | (simp; omega) | omega)))⟩
theorem step_any (W : Way) (g : Nat) (fs ls : Int) (ex op : Bool) (pu pv : Int) (w : World) (hB : Blk w g 341 (wrow W fs ls ex op pu pv)) :
  Calls Tryz.prog 229 #[.pointer (some ⟨g, 0, none⟩)] w fun e w' => e = .returned (.int .i64 (if ls < fs then -1 else 1)) ∧ Ext w w' := by
 obtain ⟨q0, q1, q2, q3, q4, q5, q6, q7, q8, q9, q10, q11⟩ := hB.c12
 clear q0 q1 q2 q3 q4 q5 q8 q9 q10 q11
 by_cases h : ls < fs
 ·have d1 : decide (ls < fs) = true := by simpa using h
  rw [if_pos h]
  clear h
  go_enter Tryz.func229, Tryz.ntmps229
  go_wp2_with fail
  go_quiet (fail)
  go_wp2_with fail
  go_ret
  exact ⟨rfl, by (repeat (first | with_reducible (first | exact eR_ _ | assumption | refine eA_ ?_ _ | refine eD_ ?_ | refine eN_ ?_ _ | refine eL_ ?_ _) | (with_reducible refine eS_ ?_ _ ?hp; case hp => first | (simp; done) | (simp; omega) | omega)))⟩
 ·have d1 : decide (ls < fs) = false := by simpa using h
  rw [if_neg h]
  clear h
  go_enter Tryz.func229, Tryz.ntmps229
  go_wp2_with fail
  go_quiet (fail)
  go_wp2_with fail
  go_ret
  exact ⟨rfl, by (repeat (first | with_reducible (first | exact eR_ _ | assumption | refine eA_ ?_ _ | refine eD_ ?_ | refine eN_ ?_ _ | refine eL_ ?_ _) | (with_reducible refine eS_ ?_ _ ?hp; case hp => first | (simp; done) | (simp; omega) | omega)))⟩
theorem mul_pl {a b m n : Int} (h1 : -m ≤ a) (h2 : a ≤ m) (h3 : -n ≤ b) (h4 : b ≤ n) (hm : 0 ≤ m) (hn : 0 ≤ n) : -(m * n) ≤ a * b ∧ a * b ≤ m * n := by
 have h : (a * b).natAbs ≤ (m * n).natAbs := by
  rw [Int.natAbs_mul, Int.natAbs_mul]
  exact Nat.mul_le_mul (by omega) (by omega)
 have hp : 0 ≤ m * n := Int.mul_nonneg hm hn
 constructor <;> omega
def Way.Nigh (W : Way) (u : Int) : Prop := -536900300 ≤ 256 * u + 128 - W.au ∧ 256 * u + 128 - W.au ≤ 536900300
theorem Way.In.d {W : Way} (h : W.In) : -536900000 ≤ W.du ∧ W.du ≤ 536900000 ∧ -536900000 ≤ W.dv ∧ W.dv ≤ 536900000 := by
 obtain ⟨⟨a1, a2⟩, ⟨b1, b2⟩, ⟨c1, c2⟩, ⟨d1, d2⟩, -⟩ := h
 unfold Way.du Way.dv
 split <;> omega
theorem Way.In.num {W : Way} (h : W.In) {u : Int} (hu : W.Nigh u) :
  (-144130805000000000 ≤ W.av * W.du ∧ W.av * W.du ≤ 144130805000000000) ∧ (-288261771100000000 ≤ W.dv * (256 * u + 128 - W.au) ∧ W.dv * (256 * u + 128 - W.au) ≤ 288261771100000000) := by
 obtain ⟨d1, d2, d3, d4⟩ := h.d
 have h1 := mul_pl h.av.1 h.av.2 d1 d2 (by omega) (by omega)
 have h2 := mul_pl d3 d4 hu.1 hu.2 (by omega) (by omega)
 omega
theorem under_any (W : Way) (g : Nat) (fs ls : Int) (ex op : Bool) (pu pv u : Int) (w : World) (hB : Blk w g 341 (wrow W fs ls ex op pu pv)) (hi : W.In) (hu : W.Nigh u) :
  Calls Tryz.prog 268 #[.pointer (some ⟨g, 0, none⟩), .int .i64 u] w fun e w' => e = .returned (.tuple #[.int .i64 (W.num u), .int .i64 (256 * W.du)]) ∧ Ext w w' := by
 obtain ⟨q0, q1, q2, q3, q4, q5, q6, q7, q8, q9, q10, q11⟩ := hB.c12
 clear q4 q6 q7 q8 q9 q10 q11
 obtain ⟨⟨n1, n2⟩, n3, n4⟩ := hi.num hu
 obtain ⟨d1, d2, d3, d4⟩ := hi.d
 obtain ⟨⟨a1, a2⟩, ⟨b1, b2⟩, ⟨c1, c2⟩, ⟨e1, e2⟩, hb⟩ := hi
 obtain ⟨u1, u2⟩ := hu
 have hk : 0 ≤ W.back ∧ W.back ≤ 1 := by omega
 obtain ⟨k1, k2⟩ := hk
 clear hb hB
 by_cases h : W.bu - W.au < 0
 ·have t1 : decide (W.bu - W.au < 0) = true := by simpa using h
  have eu : W.du = -(W.bu - W.au) := by unfold Way.du; rw [if_pos (by omega)]; omega
  have ev : W.dv = -(W.bv - W.av) := by unfold Way.dv; rw [if_pos (by omega)]; omega
  unfold Way.num
  rw [eu] at n1 n2 ⊢
  rw [ev] at n3 n4 ⊢
  clear eu ev d1 d2 d3 d4
  have w1 : IntKind.i64.wrap (W.av * -(W.bu - W.au)) = W.av * -(W.bu - W.au) := by rw [IntKind.wrap_i64]; omega
  have w2 : IntKind.i64.wrap (-(W.bv - W.av) * (256 * u + 128 - W.au)) = -(W.bv - W.av) * (256 * u + 128 - W.au) := by rw [IntKind.wrap_i64]; omega
  have w3 : IntKind.i64.wrap (W.av * -(W.bu - W.au) + -(W.bv - W.av) * (256 * u + 128 - W.au)) = W.av * -(W.bu - W.au) + -(W.bv - W.av) * (256 * u + 128 - W.au) := by rw [IntKind.wrap_i64]; omega
  have w4 : IntKind.i64.wrap (W.av * -(W.bu - W.au) + -(W.bv - W.av) * (256 * u + 128 - W.au) - W.back) = W.av * -(W.bu - W.au) + -(W.bv - W.av) * (256 * u + 128 - W.au) - W.back := by rw [IntKind.wrap_i64]; omega
  clear n1 n2 n3 n4
  go_enter Tryz.func268, Tryz.ntmps268
  go_wp2_with fail
  go_quiet (fail)
  go_wp2_with fail
  go_quiet (fail)
  go_wp2_with fail
  go_ret2
  exact ⟨rfl, by (repeat (first | with_reducible (first | exact eR_ _ | assumption | refine eA_ ?_ _ | refine eD_ ?_ | refine eN_ ?_ _ | refine eL_ ?_ _) | (with_reducible refine eS_ ?_ _ ?hp; case hp => first | (simp; done) | (simp; omega) | omega)))⟩
 ·have t1 : decide (W.bu - W.au < 0) = false := by simpa using h
  have eu : W.du = W.bu - W.au := by unfold Way.du; rw [if_neg (by omega)]
  have ev : W.dv = W.bv - W.av := by unfold Way.dv; rw [if_neg (by omega)]
  unfold Way.num
  rw [eu] at n1 n2 ⊢
  rw [ev] at n3 n4 ⊢
  clear eu ev d1 d2 d3 d4
  have w1 : IntKind.i64.wrap (W.av * (W.bu - W.au)) = W.av * (W.bu - W.au) := by rw [IntKind.wrap_i64]; omega
  have w2 : IntKind.i64.wrap ((W.bv - W.av) * (256 * u + 128 - W.au)) = (W.bv - W.av) * (256 * u + 128 - W.au) := by rw [IntKind.wrap_i64]; omega
  have w3 : IntKind.i64.wrap (W.av * (W.bu - W.au) + (W.bv - W.av) * (256 * u + 128 - W.au)) = W.av * (W.bu - W.au) + (W.bv - W.av) * (256 * u + 128 - W.au) := by rw [IntKind.wrap_i64]; omega
  have w4 : IntKind.i64.wrap (W.av * (W.bu - W.au) + (W.bv - W.av) * (256 * u + 128 - W.au) - W.back) = W.av * (W.bu - W.au) + (W.bv - W.av) * (256 * u + 128 - W.au) - W.back := by rw [IntKind.wrap_i64]; omega
  clear n1 n2 n3 n4
  go_enter Tryz.func268, Tryz.ntmps268
  go_wp2_with fail
  go_quiet (fail)
  go_wp2_with fail
  go_quiet (fail)
  go_wp2_with fail
  go_ret2
  exact ⟨rfl, by (repeat (first | with_reducible (first | exact eR_ _ | assumption | refine eA_ ?_ _ | refine eD_ ?_ | refine eN_ ?_ _ | refine eL_ ?_ _) | (with_reducible refine eS_ ?_ _ ?hp; case hp => first | (simp; done) | (simp; omega) | omega)))⟩
theorem tdiv_floor {n d : Int} (hd : 0 < d) : (n.tmod d < 0 → n.tdiv d - 1 = n / d) ∧ (¬ n.tmod d < 0 → n.tdiv d = n / d) := by
 have h1 := Int.mul_tdiv_add_tmod n d
 have h2 := Int.mul_ediv_add_emod n d
 have h3 := Int.emod_nonneg n (show d ≠ 0 by omega)
 have h4 := Int.emod_lt_of_pos n hd
 have h5 := Int.tmod_lt_of_pos n hd
 have h6 : -d < n.tmod d := by
  have h7 := Int.tmod_lt_of_pos (-n) hd
  rw [Int.neg_tmod] at h7
  omega
 constructor
 ·intro h
  have := (div_is (n := n) (d := d) (v := n.tdiv d - 1) hd).2 (by rw [Int.mul_sub, Int.mul_one]; omega)
  exact this.symm
 ·intro h
  exact ((div_is (n := n) (d := d) (v := n.tdiv d) hd).2 (by omega)).symm
theorem across_any (W : Way) (g : Nat) (fs ls : Int) (ex op : Bool) (pu pv u : Int) (w : World) (hB : Blk w g 341 (wrow W fs ls ex op pu pv)) (hi : W.In) (hu : W.Nigh u) (hd : 0 < W.du) :
  Calls Tryz.prog 269 #[.pointer (some ⟨g, 0, none⟩), .int .i64 u] w fun e w' => e = .returned (.int .i64 (W.across u)) ∧ Ext w w' := by
 have HC := Lib.hid (fun W' (x : Blk W' g 341 (wrow W fs ls ex op pu pv)) => under_any W g fs ls ex op pu pv u W' x hi hu)
 have HB := Lib.hid hB; clear hB
 have hnum := hi.num hu
 have hn1 : -500000000000000000 ≤ W.num u ∧ W.num u ≤ 500000000000000000 := by
  unfold Way.num
  have := hi.back
  omega
 have hd2 : 256 * W.du ≤ 137446400000 := by have := hi.d; omega
 have hd1 : 0 < 256 * W.du := by omega
 obtain ⟨ht1, ht2⟩ := tdiv_floor (n := W.num u) hd1
 unfold Way.across
 have hq : W.num u / (256 * W.du) ≤ 500000000000000000 ∧ -500000000000000000 ≤ W.num u / (256 * W.du) := by
  obtain ⟨k1, k2⟩ := hn1
  have h7 := Int.ediv_le_ediv hd1 k2
  have h8 := Int.ediv_le_ediv hd1 k1
  have h9 : (500000000000000000 : Int) / (256 * W.du) ≤ 500000000000000000 := Int.ediv_le_self _ (by omega)
  have h10 : -500000000000000000 ≤ (-500000000000000000 : Int) / (256 * W.du) := by
   rw [Int.le_ediv_iff_mul_le hd1]
   omega
  omega
 clear hnum hi hu hd
 obtain ⟨n, hn⟩ : ∃ n, n = W.num u := ⟨_, rfl⟩
 obtain ⟨d, hdd⟩ : ∃ d, d = 256 * W.du := ⟨_, rfl⟩
 rw [← hn, ← hdd] at HC
 rw [← hn, ← hdd] at ht1 ht2 hq ⊢
 rw [← hn] at hn1
 rw [← hdd] at hd1 hd2
 clear hn hdd
 have hne : ¬ d = 0 := by omega
 have hne' : (d == 0) = false := by simpa using hne
 by_cases h : n.tmod d < 0
 ·have t1 : decide (n.tmod d < 0) = true := by simpa using h
  have HT := Lib.hid (ht1 h)
  have b1 : -499999999999999999 ≤ n.tdiv d := by have := ht1 h; omega
  have b2 : n.tdiv d ≤ 500000000000000001 := by have := ht1 h; omega
  clear h ht1 ht2 hq
  go_enter Tryz.func269, Tryz.ntmps269
  go_wp2_with fail
  refine (HC.out _ HB.out).mono ?_
  rintro e w1 ⟨rfl, hE⟩
  obtain ⟨x1, rfl⟩ := Later.mk' hE
  clear hE
  go_wp2_with fail
  go_ret
  rw [HT.out]
  exact ⟨rfl, by (repeat (first | with_reducible (first | exact eR_ _ | assumption | refine eA_ ?_ _ | refine eD_ ?_ | refine eN_ ?_ _ | refine eL_ ?_ _) | (with_reducible refine eS_ ?_ _ ?hp; case hp => first | (simp; done) | (simp; omega) | omega)))⟩
 ·have t1 : decide (n.tmod d < 0) = false := by simpa using h
  have HT := Lib.hid (ht2 h)
  clear h ht1 ht2 hq
  go_enter Tryz.func269, Tryz.ntmps269
  go_wp2_with fail
  refine (HC.out _ HB.out).mono ?_
  rintro e w1 ⟨rfl, hE⟩
  obtain ⟨x1, rfl⟩ := Later.mk' hE
  clear hE
  go_wp2_with fail
  go_ret
  rw [HT.out]
  exact ⟨rfl, by (repeat (first | with_reducible (first | exact eR_ _ | assumption | refine eA_ ?_ _ | refine eD_ ?_ | refine eN_ ?_ _ | refine eL_ ?_ _) | (with_reducible refine eS_ ?_ _ ?hp; case hp => first | (simp; done) | (simp; omega) | omega)))⟩
theorem count_any (W : Way) (g : Nat) (fs ls : Int) (ex op : Bool) (pu pv : Int) (w : World) (hB : Blk w g 341 (wrow W fs ls ex op pu pv)) (hf : Pl fs) (hl : Pl ls) :
  Calls Tryz.prog 226 #[.pointer (some ⟨g, 0, none⟩)] w fun e w' =>
   e = .returned (.int .i64 (((ls - fs).natAbs : Nat) - (if op = true then 1 else 0) + (if ex = true then 1 else 0))) ∧ Ext w w' := by
 have hn : 0 ≤ (((ls - fs).natAbs : Nat) : Int) ∧ (((ls - fs).natAbs : Nat) : Int) ≤ 536900000 := by
  obtain ⟨f1, f2⟩ := hf
  obtain ⟨l1, l2⟩ := hl
  omega
 have HC := Lib.hid (fun W' (x : Blk W' g 341 (wrow W fs ls ex op pu pv)) => size_any W g fs ls ex op pu pv W' x hf hl)
 have HB := Lib.hid hB; clear hB
 clear hf hl
 obtain ⟨n, hnn⟩ : ∃ n : Int, n = ((ls - fs).natAbs : Nat) := ⟨_, rfl⟩
 rw [← hnn] at hn HC ⊢
 clear hnn
 obtain ⟨n1, n2⟩ := hn
 cases op <;> cases ex
 all_goals
  go_enter Tryz.func226, Tryz.ntmps226
  go_wp2_with fail
  refine (HC.out _ HB.out).mono ?_
  rintro e w1 ⟨rfl, hE⟩
  obtain ⟨x1, rfl⟩ := Later.mk' hE
  clear hE
  have HB1 := Lib.hid (HB.out.later x1)
  obtain ⟨q0, q1, q2, q3, q4, q5, q6, q7, q8, q9, q10, q11⟩ := HB1.out.c12
  clear q0 q1 q2 q3 q4 q5 q6 q7 q10 q11
  go_wp2_with fail
  go_ret
  exact ⟨by simp, by (repeat (first | with_reducible (first | exact eR_ _ | assumption | refine eA_ ?_ _ | refine eD_ ?_ | refine eN_ ?_ _ | refine eL_ ?_ _) | (with_reducible refine eS_ ?_ _ ?hp; case hp => first | (simp; done) | (simp; omega) | omega)))⟩
end Go.Proofs.YtplljnfjkkloeaaGreatDoor
set_option linter.unusedVariables false
set_option linter.unusedSimpArgs false
namespace Go.Proofs.YtplljnfjkkloeaaGreatDoor
attribute [local go_sem] Go.Oper.semAt_some
open Go.RowKit
def byte (c : Int) : Prop := 0 ≤ c ∧ c ≤ 255
structure Wv.Fits (v : Wv) : Prop where
 x : -268435456 ≤ v.x ∧ v.x ≤ 268435456
 y : -268435456 ≤ v.y ∧ v.y ≤ 268435456
 z : 0 ≤ v.z ∧ v.z ≤ 16777215
 c0 : byte v.c0
 c1 : byte v.c1
 c2 : byte v.c2
 c3 : byte v.c3
theorem Wv.Fits.ok {v : Wv} (h : v.Fits) : v.Ok := by
 obtain ⟨-, -, ⟨a, b⟩, ⟨a0, b0⟩, ⟨a1, b1⟩, ⟨a2, b2⟩, ⟨a3, b3⟩⟩ := h
 exact ⟨by unfold okc; omega, by unfold okc; omega, by unfold okc; omega, by unfold okc; omega, by unfold okc; omega⟩
theorem idx_c (c0 c1 c2 c3 : Int) (w : World) : (Instr.index 30 (.agg #[.int .i64 c0, .int .i64 c1, .int .i64 c2, .int .i64 c3]) (.int .i64 0)).run Tryz.prog w = .ok (.int .i64 c0) w ∧
  (Instr.index 30 (.agg #[.int .i64 c0, .int .i64 c1, .int .i64 c2, .int .i64 c3]) (.int .i64 1)).run Tryz.prog w = .ok (.int .i64 c1) w ∧
  (Instr.index 30 (.agg #[.int .i64 c0, .int .i64 c1, .int .i64 c2, .int .i64 c3]) (.int .i64 2)).run Tryz.prog w = .ok (.int .i64 c2) w ∧
  (Instr.index 30 (.agg #[.int .i64 c0, .int .i64 c1, .int .i64 c2, .int .i64 c3]) (.int .i64 3)).run Tryz.prog w = .ok (.int .i64 c3) w := ⟨by kernel_rfl, by kernel_rfl, by kernel_rfl, by kernel_rfl⟩
set_option maxRecDepth 100000 in
theorem fits_any (v : Wv) (w : World) (h : v.Fits) : Calls Tryz.prog 213 #[v.v] w fun e w' => e = .returned (.bool true) ∧ Ext w w' := by
 obtain ⟨⟨x0, x1⟩, ⟨y0, y1⟩, ⟨z0, z1⟩, ⟨c00, c01⟩, ⟨c10, c11⟩, ⟨c20, c21⟩, ⟨c30, c31⟩⟩ := h
 have i0 := fun w => (idx_c v.c0 v.c1 v.c2 v.c3 w).1
 have i1 := fun w => (idx_c v.c0 v.c1 v.c2 v.c3 w).2.1
 have i2 := fun w => (idx_c v.c0 v.c1 v.c2 v.c3 w).2.2.1
 have i3 := fun w => (idx_c v.c0 v.c1 v.c2 v.c3 w).2.2.2
 go_enter Tryz.func213, Tryz.ntmps213
 go_wp2_with fail
 refine wp_loop_rounds 5 ?_
 rw [rounds_succ]
 go_wp2_with fail
 rw [rounds_succ]
 go_wp2_with fail
 rw [rounds_succ]
 go_wp2_with fail
 rw [rounds_succ]
 go_wp2_with fail
 rw [rounds_succ]
 go_wp2_with fail
 go_ret
 exact ⟨rfl, by (repeat (first | with_reducible (first | exact eR_ _ | assumption | refine eA_ ?_ _ | refine eD_ ?_ | refine eN_ ?_ _ | refine eL_ ?_ _) | (with_reducible refine eS_ ?_ _ ?hp; case hp => first | (simp; done) | (simp; omega) | omega)))⟩
theorem wright_any (a b : Wv) (n : Int) (d : Da) (w : World) (ha : a.Fits) (hb : b.Fits) (hd : d.Ok) (n0 : 1 ≤ n) (n1 : n ≤ 64) : Calls Tryz.prog 167 #[a.v, b.v, .int .i64 n, d.v] w fun e w' => e = .returned (.bool true) ∧ Ext w w' := by
 have HA := Lib.hid (fun w => fits_any a w ha)
 have HB := Lib.hid (fun w => fits_any b w hb)
 have HD := Lib.hid (fun w => dright_any d w hd)
 clear ha hb hd
 go_enter Tryz.func167, Tryz.ntmps167
 go_wp2_with fail
 refine (HA.out _).mono ?_
 rintro e w1 ⟨rfl, hE⟩
 obtain ⟨x1, rfl⟩ := Later.mk' hE
 clear hE
 go_wp2_with fail
 refine (HB.out _).mono ?_
 rintro e w1 ⟨rfl, hE⟩
 obtain ⟨x2, rfl⟩ := Later.mk' hE
 clear hE
 have hd3 : Blk x2.w (w.heap.size + 1 + 1) 44 #[.int .i64 d.bits, .int .i64 d.every, .int .i64 d.done] := by (repeat (first | with_reducible exact Hid.out (by assumption) | (with_reducible refine Blk.new' _ _ _ ?_; (simp; done)) | with_reducible (first | refine Blk.alloc ?_ _ | refine Blk.drew ?_ | refine Blk.drewN ?_ _ | refine Blk.later ?_ _) | (with_reducible refine Blk.far ?_ ?hp _; case hp => first | (simp; done) | (simp; omega) | omega)))
 have cd := hd3.c3
 clear hd3
 go_wp2_with fail
 refine (HD.out _).mono ?_
 rintro e w1 ⟨rfl, hE⟩
 obtain ⟨x3, rfl⟩ := Later.mk' hE
 clear hE
 go_wp2_with fail
 go_ret
 exact ⟨rfl, by (repeat (first | with_reducible (first | exact eR_ _ | assumption | refine eA_ ?_ _ | refine eD_ ?_ | refine eN_ ?_ _ | refine eL_ ?_ _) | (with_reducible refine eS_ ?_ _ ?hp; case hp => first | (simp; done) | (simp; omega) | omega)))⟩
end Go.Proofs.YtplljnfjkkloeaaGreatDoor
set_option linter.unusedVariables false
set_option linter.unusedSimpArgs false
namespace Go.Proofs.YtplljnfjkkloeaaGreatDoor
attribute [local go_sem] Go.Oper.semAt_some
open Go.RowKit
theorem sunpack_any (c : Int) (w : World) (c0 : 0 ≤ c) (c1 : c < 4294967296) : Calls Tryz.prog 282 #[.int .i64 c] w fun e w' => e = .returned (.agg #[.int .i64 (c / 16777216 % 256), .int .i64 (c / 65536 % 256), .int .i64 (c / 256 % 256), .int .i64 (c % 256)]) ∧ Ext w w' := by
 go_enter Tryz.func282, Tryz.ntmps282
 go_wp2_with fail
 refine bodyPost_ret (v := .agg #[.int .i64 (c / 16777216 % 256), .int .i64 (c / 65536 % 256), .int .i64 (c / 256 % 256), .int .i64 (c % 256)]) (by simp [results, Tryz.results282, go_sem]) rfl ⟨rfl, by (repeat (first | with_reducible (first | exact eR_ _ | assumption | refine eA_ ?_ _ | refine eD_ ?_ | refine eN_ ?_ _ | refine eL_ ?_ _) | (with_reducible refine eS_ ?_ _ ?hp; case hp => first | (simp; done) | (simp; omega) | omega)))⟩
theorem sin_yes (g : Nat) (W H x y : Int) (w : World) (hw : w.cell? ⟨g, 0, none⟩ = some (.int .i64 W)) (hh : w.cell? ⟨g, 1, none⟩ = some (.int .i64 H)) (x0 : 0 ≤ x) (x1 : x < W) (y0 : 0 ≤ y) (y1 : y < H) (w1 : W ≤ 1099511627776) (h1 : H ≤ 1099511627776) :
  Calls Tryz.prog 281 #[.pointer (some ⟨g, 0, none⟩), .int .i64 x, .int .i64 y] w fun e w' => e = .returned (.bool true) ∧ w = w' := by
 go_enter Tryz.func281, Tryz.ntmps281
 go_wp2_with fail
 go_ret
 exact ⟨rfl, rfl⟩
end Go.Proofs.YtplljnfjkkloeaaGreatDoor
set_option linter.unusedVariables false
set_option linter.unusedSimpArgs false
namespace Go.Proofs.YtplljnfjkkloeaaGreatDoor
open Go.RowKit
def optV (o : Option (Int × Int)) : Value := .tuple #[.int .i64 (o.getD (0, 0)).1, .int .i64 (o.getD (0, 0)).2, .bool o.isSome]
theorem in_any (px py : Int) (w : World) (hx : Pl px) (hy : Pl py) : Calls Tryz.prog 302 #[.agg #[.int .i64 px, .int .i64 py]] w fun e w' => e = .returned (optV (dIn px py)) ∧ Ext w w' := by
 obtain ⟨x1, x2⟩ := hx
 obtain ⟨y1, y2⟩ := hy
 have m1 : 0 ≤ px % 256 ∧ px % 256 < 256 := by omega
 have m2 : 0 ≤ py % 256 ∧ py % 256 < 256 := by omega
 obtain ⟨m1, m3⟩ := m1
 obtain ⟨m2, m4⟩ := m2
 have w1 : IntKind.i64.wrap (px % 256 - 128) = px % 256 - 128 := by rw [IntKind.wrap_i64]; omega
 have w2 : IntKind.i64.wrap (py % 256 - 128) = py % 256 - 128 := by rw [IntKind.wrap_i64]; omega
 obtain ⟨u, hu⟩ : ∃ u, u = px % 256 - 128 := ⟨_, rfl⟩
 obtain ⟨v, hv⟩ : ∃ v, v = py % 256 - 128 := ⟨_, rfl⟩
 have hc : ((u == -128) = true ∧ (v == 0) = true ∧ Hid (dIn px py = some (px / 256 - 1, py / 256))) ∨
   (((u == -128) = false ∨ ((u == -128) = true ∧ (v == 0) = false)) ∧
    ((decide (max u (-u) + max v (-v) < 128) = true ∧ Hid (dIn px py = some (px / 256, py / 256))) ∨
    (decide (max u (-u) + max v (-v) < 128) = false ∧ (max u (-u) + max v (-v) == 128) = true ∧ decide (u > 0) = true ∧ Hid (dIn px py = some (px / 256, py / 256))) ∨
    (decide (max u (-u) + max v (-v) < 128) = false ∧ (max u (-u) + max v (-v) == 128) = true ∧ decide (u > 0) = false ∧ Hid (dIn px py = none)) ∨
    (decide (max u (-u) + max v (-v) < 128) = false ∧ (max u (-u) + max v (-v) == 128) = false ∧ Hid (dIn px py = none)))) := by
  have hd : dIn px py = if u = -128 ∧ v = 0 then some (px / 256 - 1, py / 256) else if max u (-u) + max v (-v) < 128 ∨ (max u (-u) + max v (-v) = 128 ∧ 0 < u) then some (px / 256, py / 256) else none := by
   rw [hu, hv]; rfl
  clear hu hv w1 w2
  simp only [beq_iff_eq, beq_eq_false_iff_ne, decide_eq_true_eq, decide_eq_false_iff_not, ne_eq]
  by_cases c1 : u = -128
  ·by_cases c2 : v = 0
   ·exact .inl ⟨c1, c2, Lib.hid (by rw [hd, if_pos ⟨c1, c2⟩])⟩
   ·refine .inr ⟨.inr ⟨c1, c2⟩, ?_⟩
    rw [if_neg (fun h => c2 h.2)] at hd
    by_cases c3 : max u (-u) + max v (-v) < 128
    ·exact .inl ⟨c3, Lib.hid (by rw [hd, if_pos (.inl c3)])⟩
    ·by_cases c4 : max u (-u) + max v (-v) = 128
     ·by_cases c5 : u > 0
      ·exact .inr (.inl ⟨c3, c4, c5, Lib.hid (by rw [hd, if_pos (.inr ⟨c4, c5⟩)])⟩)
      ·exact .inr (.inr (.inl ⟨c3, c4, c5, Lib.hid (by rw [hd, if_neg (fun h => h.elim c3 (fun k => c5 k.2))])⟩))
     ·exact .inr (.inr (.inr ⟨c3, c4, Lib.hid (by rw [hd, if_neg (fun h => h.elim c3 (fun k => c4 k.1))])⟩))
  ·refine .inr ⟨.inl c1, ?_⟩
   rw [if_neg (fun h => c1 h.1)] at hd
   by_cases c3 : max u (-u) + max v (-v) < 128
   ·exact .inl ⟨c3, Lib.hid (by rw [hd, if_pos (.inl c3)])⟩
   ·by_cases c4 : max u (-u) + max v (-v) = 128
    ·by_cases c5 : u > 0
     ·exact .inr (.inl ⟨c3, c4, c5, Lib.hid (by rw [hd, if_pos (.inr ⟨c4, c5⟩)])⟩)
     ·exact .inr (.inr (.inl ⟨c3, c4, c5, Lib.hid (by rw [hd, if_neg (fun h => h.elim c3 (fun k => c5 k.2))])⟩))
    ·exact .inr (.inr (.inr ⟨c3, c4, Lib.hid (by rw [hd, if_neg (fun h => h.elim c3 (fun k => c4 k.1))])⟩))
 have b1 : -128 ≤ u ∧ u ≤ 127 := by omega
 have b2 : -128 ≤ v ∧ v ≤ 127 := by omega
 obtain ⟨b1, b3⟩ := b1
 obtain ⟨b2, b4⟩ := b2
 have w3 : IntKind.i64.wrap (px % 256 - 128) = u := w1.trans hu.symm
 have w4 : IntKind.i64.wrap (py % 256 - 128) = v := w2.trans hv.symm
 clear w1 w2 m1 m2 m3 m4 hu hv
 have o1 : -134217728 ≤ px / 256 := by omega
 have o2 : px / 256 ≤ 134217728 := by omega
 rcases hc with ⟨c1, c2, HD⟩ | ⟨c1 | ⟨c1, c2⟩, ⟨c3, HD⟩ | ⟨c3, c4, c5, HD⟩ | ⟨c3, c4, c5, HD⟩ | ⟨c3, c4, HD⟩⟩
 all_goals
  go_enter Tryz.func302, Tryz.ntmps302
  go_wp2_with fail
  go_quiet (fail)
  go_wp2_with fail
  go_quiet (fail)
  go_wp2_with fail
  go_ret3
  rw [HD.out]
  exact ⟨rfl, by (repeat (first | with_reducible (first | exact eR_ _ | assumption | refine eA_ ?_ _ | refine eD_ ?_ | refine eN_ ?_ _ | refine eL_ ?_ _) | (with_reducible refine eS_ ?_ _ ?hp; case hp => first | (simp; done) | (simp; omega) | omega)))⟩
end Go.Proofs.YtplljnfjkkloeaaGreatDoor
set_option linter.unusedVariables false
set_option linter.unusedSimpArgs false
namespace Go.Proofs.YtplljnfjkkloeaaGreatDoor
def Din (tn : Bool) (pu pv u v : Int) : Prop :=
 -128 < (pu - 256 * u - 128) + (pv - 256 * v - 128) ∧ (pu - 256 * u - 128) + (pv - 256 * v - 128) ≤ 128 ∧
  (if tn = true then -128 < (pv - 256 * v - 128) - (pu - 256 * u - 128) ∧ (pv - 256 * v - 128) - (pu - 256 * u - 128) ≤ 128
   else -128 < (pu - 256 * u - 128) - (pv - 256 * v - 128) ∧ (pu - 256 * u - 128) - (pv - 256 * v - 128) ≤ 128)
theorem Way.inW_is (W : Way) (pu pv u v : Int) : W.inW pu pv u v ↔ Din W.turned pu pv u v := Iff.rfl
def Cr (p q u : Int) : Prop := min p q ≤ 256 * u + 128 ∧ 256 * u + 128 < max p q
theorem Way.crossed_cr (W : Way) (u : Int) : W.crossed u ↔ Cr W.au W.bu u := Iff.rfl
structure Tri (au av bu bv cu cv : Int) : Prop where
 m : (au ≤ bu ∧ bu ≤ cu ∧ bv - av ≤ bu - au ∧ av - bv ≤ bu - au ∧ cv - bv ≤ cu - bu ∧ bv - cv ≤ cu - bu) ∨ (cu ≤ bu ∧ bu ≤ au ∧ bv - av ≤ au - bu ∧ av - bv ≤ au - bu ∧ cv - bv ≤ bu - cu ∧ bv - cv ≤ bu - cu)
section
variable {tn : Bool} {au av bu bv cu cv : Int} (T : Tri au av bu bv cu cv)
include T
theorem Tri.mid_in {u v : Int} (ha : Din tn au av u v) (hc : Din tn cu cv u v) : Din tn bu bv u v := by
 obtain ⟨m⟩ := T
 unfold Din at *
 cases tn <;> simp only [if_true, Bool.false_eq_true, if_false] at * <;> omega
theorem Tri.out_next {u v u' v' : Int} (ha : Din tn au av u v) (hn : ¬ Cr au bu u) (hb : ¬ Din tn bu bv u v) (hd : Din tn bu bv u' v') (hc : ¬ Cr bu cu u') (hm : ∀ x, ¬ Cr au bu x) : Din tn cu cv u' v' := by
 have h1 := hm u'
 clear hm
 obtain ⟨m⟩ := T
 unfold Din Cr at *
 cases tn <;> simp only [if_true, Bool.false_eq_true, if_false] at * <;> omega
theorem Tri.end_in {u v : Int} (hd : Din tn bu bv u v) (h1 : ¬ Cr au bu u) (h2 : ¬ Cr bu cu u) : Din tn au av u v ∨ Din tn cu cv u v := by
 obtain ⟨m⟩ := T
 unfold Din Cr at *
 cases tn <;> simp only [if_true, Bool.false_eq_true, if_false] at * <;> omega
theorem Tri.both {u v x y : Int} (hd : Din tn bu bv u v) (h1 : Cr au bu x) (h2 : Cr bu cu y) : Cr au bu u ∨ Cr bu cu u := by
 obtain ⟨m⟩ := T
 unfold Din Cr at *
 cases tn <;> simp only [if_true, Bool.false_eq_true, if_false] at * <;> omega
theorem Tri.fore {u v x : Int} (hd : Din tn bu bv u v) (h1 : Cr au bu x) : Cr au bu u ∨ Cr bu cu u ∨ Din tn cu cv u v := by
 obtain ⟨m⟩ := T
 unfold Din Cr at *
 cases tn <;> simp only [if_true, Bool.false_eq_true, if_false] at * <;> omega
theorem Tri.cr (u : Int) : Cr au cu u ↔ Cr au bu u ∨ Cr bu cu u := by
 obtain ⟨m⟩ := T
 unfold Cr
 omega
theorem Tri.cr_not {u : Int} (h : Cr au bu u) : ¬ Cr bu cu u := by
 obtain ⟨m⟩ := T
 unfold Cr at *
 omega
end
theorem two_in {tn : Bool} {pu pv qu qv u v x : Int} (hp : Din tn pu pv u v) (hq : Din tn qu qv u v) (hx : Cr pu qu x) : x = u := by
 unfold Din Cr at *
 cases tn <;> simp only [if_true, Bool.false_eq_true, if_false] at * <;> omega
theorem Din.one {tn : Bool} {pu pv u v u' v' : Int} (h : Din tn pu pv u v) (h' : Din tn pu pv u' v') : u = u' ∧ v = v' := by
 unfold Din at *
 cases tn <;> simp only [if_true, Bool.false_eq_true, if_false] at * <;> omega
structure Parts (A B C : Way) : Prop where
 au : B.au = A.au
 av : B.av = A.av
 bu : C.bu = A.bu
 bv : C.bv = A.bv
 mu : C.au = B.bu
 mv : C.av = B.bv
 tb : B.turned = A.turned
 tc : C.turned = A.turned
 kb : B.back = A.back
 kc : C.back = A.back
 oa : A.Ok
 ob : B.Ok
 oc : C.Ok
 lb : ∀ u v, B.L u v ↔ A.L u v
 lc : ∀ u v, C.L u v ↔ A.L u v
 dir : (B.au < B.bu ∧ C.au < C.bu) ∨ (B.bu < B.au ∧ C.bu < C.au)
namespace Parts
variable {A B C : Way} (S : Parts A B C)
include S
theorem tri : Tri A.au A.av B.bu B.bv A.bu A.bv := by
 have h1 := S.ob.lo
 have h2 := S.ob.hi
 have h3 := S.oc.lo
 have h4 := S.oc.hi
 have hd := S.dir
 unfold Way.du Way.dv at *
 rw [S.au, S.av] at h1 h2
 rw [S.mu, S.mv, S.bu, S.bv] at h3 h4
 rw [S.au, S.mu, S.bu] at hd
 constructor
 rcases hd with ⟨d1, d2⟩ | ⟨d1, d2⟩
 ·rw [if_neg (by omega), if_neg (by omega)] at h1 h2 h3 h4
  omega
 ·rw [if_pos (by omega), if_pos (by omega)] at h1 h2 h3 h4
  omega
theorem ab (u : Int) : B.across u = A.across u := (Way.across_is S.ob.pos u _).2 ((S.lb u _).2 ((Way.across_is S.oa.pos u _).1 rfl))
theorem ac (u : Int) : C.across u = A.across u := (Way.across_is S.oc.pos u _).2 ((S.lc u _).2 ((Way.across_is S.oa.pos u _).1 rfl))
theorem sizes : A.size = B.size + C.size ∧ (∀ n, n < B.size → A.mid n = B.mid n) ∧ (∀ n, n < C.size → A.mid (B.size + n) = C.mid n) := by
 have hd := S.dir
 have e1 := S.au
 have e2 := S.mu
 have e3 := S.bu
 unfold Way.mid Way.size Way.step Way.first Way.last lst
 rw [S.au, S.mu, S.bu]
 rw [S.au, S.mu, S.bu] at hd
 generalize A.au = a at *
 generalize B.bu = b at *
 generalize A.bu = c at *
 rcases hd with ⟨d1, d2⟩ | ⟨d1, d2⟩
 ·have k1 : ¬ (c + 127) / 256 < (a + 127) / 256 := by omega
  have k2 : ¬ (b + 127) / 256 < (a + 127) / 256 := by omega
  have k3 : ¬ (c + 127) / 256 < (b + 127) / 256 := by omega
  simp only [if_neg k1, if_neg k2, if_neg k3]
  refine ⟨by omega, fun n hn => by first | trivial | omega, fun n hn => by omega⟩
 ·refine ⟨?_, fun n hn => ?_, fun n hn => ?_⟩
  ·split <;> split <;> split <;> omega
  ·have k2 : (b + 127) / 256 < (a + 127) / 256 := by
    refine Classical.byContradiction fun k => ?_
    simp only [if_neg k] at hn
    omega
   have k1 : (c + 127) / 256 < (a + 127) / 256 := by omega
   simp only [if_pos k1, if_pos k2]
   rw [if_pos (by omega), if_pos (by omega)]
  ·have k3 : (c + 127) / 256 < (b + 127) / 256 := by
    refine Classical.byContradiction fun k => ?_
    simp only [if_neg k] at hn
    omega
   have k1 : (c + 127) / 256 < (a + 127) / 256 := by omega
   simp only [if_pos k1, if_pos k3]
   rw [if_pos (show (c + 127) / 256 - 1 < (a + 127) / 256 - 1 by omega), if_pos (show (c + 127) / 256 - 1 < (b + 127) / 256 - 1 by omega)]
   by_cases k2 : (b + 127) / 256 < (a + 127) / 256
   ·simp only [if_pos k2]; omega
   ·simp only [if_neg k2]; omega
end Parts
end Go.Proofs.YtplljnfjkkloeaaGreatDoor
