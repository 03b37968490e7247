/- Proof text of the claims about the statements of layer 4 (code). By an AI agent. No condition beyond what each theorem states. -/
import Derived.Test.YtgibagnllbbeiaaDoorO
import Derived.Test.YtgibagnllbbeiaaDoorW
import Derived.Deep.RegionHeld3
import Derived.OpenShut
set_option linter.unusedVariables false
namespace Go.Proofs.YtgibagnllbbeiaaDoor
open Go.RowKit
theorem rep_take (k n : Nat) (xs : List Value) (hn : xs.length = n * 1) (hk : k < n) (h : xs.take k = ivs (List.replicate k 18)) :
    (xs.take k ++ Value.int .i64 18 :: xs.drop (k + 1)).take (k + 1) = ivs (List.replicate (k + 1) 18) := by
  rw [show xs.take k ++ Value.int .i64 18 :: xs.drop (k + 1) = xs.take k ++ [Value.int .i64 18] ++ xs.drop (k + 1) by simp,
    List.take_append_of_le_length (by simp; omega), List.take_of_length_le (by simp; omega), h, List.replicate_succ']
  simp
theorem many_all {k : Nat} (h : 1 ≤ k) : ivs (List.replicate k 18) = ivs (manyL k false) := by
  have : List.replicate k (18 : Int) = List.replicate (k - 1) 18 ++ [18] := by rw [← List.replicate_succ', show k - 1 + 1 = k by omega]
  rw [this]; rfl
theorem many_last {k : Nat} (h : 1 ≤ k) : (ivs (List.replicate k 18)).take (k - 1) ++ [Value.int .i64 0] ++ (ivs (List.replicate k 18)).drop (k - 1 + 1) = ivs (manyL k true) := by
  rw [List.drop_of_length_le (by simp; omega), List.append_nil, ← List.map_take, List.take_replicate, Nat.min_eq_left (by omega)]
  simp [manyL]
/-- What is to be shown of what 'Get' gave. -/
def manyOk (k : Nat) (b : Bool) (g : G) : Prop :=
  if 4096 < k then g = .error (4096, 12) else if b then g = .error (k - 1, 5) else ∃ l, g = .ok l ∧ l.length = k
theorem many_ok {k : Nat} (b : Bool) (h : 1 ≤ k) : manyOk k b (getT (manyL k b)) := by
  unfold manyOk
  by_cases h1 : 4096 < k
  · rw [if_pos h1]; exact many_long b h1
  · rw [if_neg h1]
    cases b with
    | true => exact many_wrong h (by omega)
    | false => exact many_right h (by omega)
set_option maxHeartbeats 1000000 in
theorem many_tl (m : Int) (k : Nat) (w : World) (h : Glob w) (h0 : 0 ≤ m) (h1 : m ≤ 255) (hk : 4094 + m % 5 = (k : Int)) (hk1 : 4094 ≤ k) (hk2 : k ≤ 4098) (hc : 4096 < k) :
    Calls Tryd.prog 6 #[.int .u8 m, .bool true] w fun e w' => e = .returned (.bool true) ∧ Ext w w' := by
  have Hg := Lib.hid h
  have HG := Lib.hid (many_ok (k := k) true (by omega))
  clear h
  have hd : decide ((k : Int) > 4096) = true := by simp; omega
  have hs : ((k : Int) - 1).toNat = k - 1 := by omega
  obtain ⟨i0, hi, hz0, hz1, hz2⟩ := info_parts info3
  have hm0 : 0 ≤ m % 5 := by omega
  have hm1 : m % 5 < 5 := by omega
  go_enter Tryd.func6, Tryd.ntmps6
  go_wp2_with (at_make; refine wpList_make_full _ rfl _ _ _ rfl w.heap.size 3 i0 (.int .i64 0) 1 Tryd.underlying22 hi hz0 hz1 _ _ _ _ k rfl rfl rfl rfl ?c1 ?c2 ?c3 ?_)
  case c1 => rw [hz2]; omega
  case c2 => unfold maxLen; omega
  case c3 => simp
  intro w1 ho hg
  have hE : Ext w w1 := (Ext.refl _).grown hg (by simp)
  clear hg hi hz0 hz1 hz2
  go_wp2
  go_loopw [7] (fun i wr => ∃ j : Nat, ∃ xs : List Value, j ≤ k ∧ i = .int .i64 j ∧ wr.ownsRow w.heap.size 3 1 (.slice (some ⟨w.heap.size, 0, none⟩) k k) k xs ∧ Hid (xs.take j = ivs (List.replicate j 18)) ∧ Ext w wr) (fun i _ => k - (intOf i).toNat)
  case atStart => exact ⟨0, _, Nat.zero_le _, rfl, ho, by simp [Hid], hE⟩
  case round =>
    obtain ⟨j, xs, hj, rfl, ho, HX, hE⟩ := hrel
    by_cases hlt : j < k
    · go_wp2_with (refine wpList_store_own rfl (.tmp 24) (.const (.int .i64 18)) 3 rfl w.heap.size 3 1 w.heap.size k k xs j rfl (.int .i64 18) rfl ho size3 ?c1 ?c2 ?_)
      case c1 => simp [Value.cells, Value.oneCell']
      case c2 => simp [Value.cells]; omega
      intro w2 ho2 hg2
      have hE2 : Ext w w2 := hE.grown hg2 (by simp)
      clear hg2 hE
      go_wp2
      go_roundw
      case rel => exact ⟨j + 1, _, by omega, by go_num, ho2, rep_take j k xs ho.1 hlt HX.out, hE2⟩
      case measure => simp [intOf]; omega
    · obtain rfl : j = k := by omega
      have hx := HX.out
      rw [List.take_of_length_le (by rw [ho.1]; omega)] at hx
      subst hx
      have HE := Lib.hid hE
      clear hE
      go_wp2_with (refine wpList_store_own rfl (.tmp 29) (.const (.int .i64 0)) 3 rfl w.heap.size 3 1 w.heap.size j j (ivs (List.replicate j 18)) (j - 1) rfl (.int .i64 0) rfl ho size3 ?c1 ?c2 ?_)
      case c1 => simp [Value.cells, Value.oneCell']
      case c2 => simp [Value.cells]; omega
      intro w3 ho3 hg3
      have HE2 := Lib.hid (HE.out.grown hg3 (by simp))
      have ho4 : w3.ownsRow w.heap.size 3 1 (.slice (some ⟨w.heap.size, 0, none⟩) j j) j (ivs (manyL j true)) := by rw [← many_last (by omega)]; simpa [Value.cells] using ho3
      clear hg3 ho3
      obtain ⟨ga, gc, ge, hrd⟩ := ownsRow_rd ho4
      obtain ⟨rfl, rfl⟩ : some ⟨w.heap.size, 0, none⟩ = ga ∧ j = gc := by simpa using ge
      have HR := Lib.hid ((get_any (some ⟨w.heap.size, 0, none⟩) j j (manyL j true) w3 (Hg.out.ext HE2.out) hrd (by omega)).mono fun _ _ => got_of)
      clear hrd ge
      go_wp2_with fail
      refine HR.out.mono ?_
      rintro e w5 ⟨a5, n5, c5, k5, d5, l5, rfl, hr5, hE5, hm5⟩
      have hl5 := hr5.len
      have HE5 := Lib.hid (HE2.out.trans hE5)
      have hq := HG.out
      unfold manyOk at hq
      clear hr5 hE5
      rw [if_pos (by omega)] at hq
      rw [hq] at hm5
      obtain ⟨rfl, rfl, rfl⟩ := hm5
      have hn5 : n5 = 0 := by simpa using hl5.symm
      subst hn5
      clear hq hl5
      go_wp2_with (go_at_call 10; refine (awake_any _ (Hg.out.ext HE5.out)).mono ?_; rintro e w6 ⟨rfl, hE6⟩)
      go_ret
      exact ⟨rfl, HE5.out.trans hE6⟩
set_option maxHeartbeats 1000000 in
theorem many_ts (m : Int) (k : Nat) (w : World) (h : Glob w) (h0 : 0 ≤ m) (h1 : m ≤ 255) (hk : 4094 + m % 5 = (k : Int)) (hk1 : 4094 ≤ k) (hk2 : k ≤ 4098) (hc : ¬ 4096 < k) :
    Calls Tryd.prog 6 #[.int .u8 m, .bool true] w fun e w' => e = .returned (.bool true) ∧ Ext w w' := by
  have Hg := Lib.hid h
  have HG := Lib.hid (many_ok (k := k) true (by omega))
  clear h
  have hd : decide ((k : Int) > 4096) = false := by simp; omega
  have he : (((k - 1 : Nat) : Int) == (k : Int) - 1) = true := by simp; omega
  have hs : ((k : Int) - 1).toNat = k - 1 := by omega
  obtain ⟨i0, hi, hz0, hz1, hz2⟩ := info_parts info3
  have hm0 : 0 ≤ m % 5 := by omega
  have hm1 : m % 5 < 5 := by omega
  go_enter Tryd.func6, Tryd.ntmps6
  go_wp2_with (at_make; refine wpList_make_full _ rfl _ _ _ rfl w.heap.size 3 i0 (.int .i64 0) 1 Tryd.underlying22 hi hz0 hz1 _ _ _ _ k rfl rfl rfl rfl ?c1 ?c2 ?c3 ?_)
  case c1 => rw [hz2]; omega
  case c2 => unfold maxLen; omega
  case c3 => simp
  intro w1 ho hg
  have hE : Ext w w1 := (Ext.refl _).grown hg (by simp)
  clear hg hi hz0 hz1 hz2
  go_wp2
  go_loopw [7] (fun i wr => ∃ j : Nat, ∃ xs : List Value, j ≤ k ∧ i = .int .i64 j ∧ wr.ownsRow w.heap.size 3 1 (.slice (some ⟨w.heap.size, 0, none⟩) k k) k xs ∧ Hid (xs.take j = ivs (List.replicate j 18)) ∧ Ext w wr) (fun i _ => k - (intOf i).toNat)
  case atStart => exact ⟨0, _, Nat.zero_le _, rfl, ho, by simp [Hid], hE⟩
  case round =>
    obtain ⟨j, xs, hj, rfl, ho, HX, hE⟩ := hrel
    by_cases hlt : j < k
    · go_wp2_with (refine wpList_store_own rfl (.tmp 24) (.const (.int .i64 18)) 3 rfl w.heap.size 3 1 w.heap.size k k xs j rfl (.int .i64 18) rfl ho size3 ?c1 ?c2 ?_)
      case c1 => simp [Value.cells, Value.oneCell']
      case c2 => simp [Value.cells]; omega
      intro w2 ho2 hg2
      have hE2 : Ext w w2 := hE.grown hg2 (by simp)
      clear hg2 hE
      go_wp2
      go_roundw
      case rel => exact ⟨j + 1, _, by omega, by go_num, ho2, rep_take j k xs ho.1 hlt HX.out, hE2⟩
      case measure => simp [intOf]; omega
    · obtain rfl : j = k := by omega
      have hx := HX.out
      rw [List.take_of_length_le (by rw [ho.1]; omega)] at hx
      subst hx
      have HE := Lib.hid hE
      clear hE
      go_wp2_with (refine wpList_store_own rfl (.tmp 29) (.const (.int .i64 0)) 3 rfl w.heap.size 3 1 w.heap.size j j (ivs (List.replicate j 18)) (j - 1) rfl (.int .i64 0) rfl ho size3 ?c1 ?c2 ?_)
      case c1 => simp [Value.cells, Value.oneCell']
      case c2 => simp [Value.cells]; omega
      intro w3 ho3 hg3
      have HE2 := Lib.hid (HE.out.grown hg3 (by simp))
      have ho4 : w3.ownsRow w.heap.size 3 1 (.slice (some ⟨w.heap.size, 0, none⟩) j j) j (ivs (manyL j true)) := by rw [← many_last (by omega)]; simpa [Value.cells] using ho3
      clear hg3 ho3
      obtain ⟨ga, gc, ge, hrd⟩ := ownsRow_rd ho4
      obtain ⟨rfl, rfl⟩ : some ⟨w.heap.size, 0, none⟩ = ga ∧ j = gc := by simpa using ge
      have HR := Lib.hid ((get_any (some ⟨w.heap.size, 0, none⟩) j j (manyL j true) w3 (Hg.out.ext HE2.out) hrd (by omega)).mono fun _ _ => got_of)
      clear hrd ge
      go_wp2_with fail
      refine HR.out.mono ?_
      rintro e w5 ⟨a5, n5, c5, k5, d5, l5, rfl, hr5, hE5, hm5⟩
      have hl5 := hr5.len
      have HE5 := Lib.hid (HE2.out.trans hE5)
      have hq := HG.out
      unfold manyOk at hq
      clear hr5 hE5
      rw [if_neg (by omega), if_pos rfl] at hq
      rw [hq] at hm5
      obtain ⟨rfl, rfl, rfl⟩ := hm5
      have hn5 : n5 = 0 := by simpa using hl5.symm
      subst hn5
      clear hq hl5
      go_wp2_with (go_at_call 10; refine (awake_any _ (Hg.out.ext HE5.out)).mono ?_; rintro e w6 ⟨rfl, hE6⟩)
      go_ret
      exact ⟨rfl, HE5.out.trans hE6⟩
set_option maxHeartbeats 1000000 in
theorem many_fl (m : Int) (k : Nat) (w : World) (h : Glob w) (h0 : 0 ≤ m) (h1 : m ≤ 255) (hk : 4094 + m % 5 = (k : Int)) (hk1 : 4094 ≤ k) (hk2 : k ≤ 4098) (hc : 4096 < k) :
    Calls Tryd.prog 6 #[.int .u8 m, .bool false] w fun e w' => e = .returned (.bool true) ∧ Ext w w' := by
  have Hg := Lib.hid h
  have HG := Lib.hid (many_ok (k := k) false (by omega))
  clear h
  have hd : decide ((k : Int) > 4096) = true := by simp; omega
  obtain ⟨i0, hi, hz0, hz1, hz2⟩ := info_parts info3
  have hm0 : 0 ≤ m % 5 := by omega
  have hm1 : m % 5 < 5 := by omega
  go_enter Tryd.func6, Tryd.ntmps6
  go_wp2_with (at_make; refine wpList_make_full _ rfl _ _ _ rfl w.heap.size 3 i0 (.int .i64 0) 1 Tryd.underlying22 hi hz0 hz1 _ _ _ _ k rfl rfl rfl rfl ?c1 ?c2 ?c3 ?_)
  case c1 => rw [hz2]; omega
  case c2 => unfold maxLen; omega
  case c3 => simp
  intro w1 ho hg
  have hE : Ext w w1 := (Ext.refl _).grown hg (by simp)
  clear hg hi hz0 hz1 hz2
  go_wp2
  go_loopw [7] (fun i wr => ∃ j : Nat, ∃ xs : List Value, j ≤ k ∧ i = .int .i64 j ∧ wr.ownsRow w.heap.size 3 1 (.slice (some ⟨w.heap.size, 0, none⟩) k k) k xs ∧ Hid (xs.take j = ivs (List.replicate j 18)) ∧ Ext w wr) (fun i _ => k - (intOf i).toNat)
  case atStart => exact ⟨0, _, Nat.zero_le _, rfl, ho, by simp [Hid], hE⟩
  case round =>
    obtain ⟨j, xs, hj, rfl, ho, HX, hE⟩ := hrel
    by_cases hlt : j < k
    · go_wp2_with (refine wpList_store_own rfl (.tmp 24) (.const (.int .i64 18)) 3 rfl w.heap.size 3 1 w.heap.size k k xs j rfl (.int .i64 18) rfl ho size3 ?c1 ?c2 ?_)
      case c1 => simp [Value.cells, Value.oneCell']
      case c2 => simp [Value.cells]; omega
      intro w2 ho2 hg2
      have hE2 : Ext w w2 := hE.grown hg2 (by simp)
      clear hg2 hE
      go_wp2
      go_roundw
      case rel => exact ⟨j + 1, _, by omega, by go_num, ho2, rep_take j k xs ho.1 hlt HX.out, hE2⟩
      case measure => simp [intOf]; omega
    · obtain rfl : j = k := by omega
      have hx := HX.out
      rw [List.take_of_length_le (by rw [ho.1]; omega)] at hx
      subst hx
      have HE := Lib.hid hE
      clear hE
      have ho4 : wr.ownsRow w.heap.size 3 1 (.slice (some ⟨w.heap.size, 0, none⟩) j j) j (ivs (manyL j false)) := by rw [← many_all (by omega)]; exact ho
      obtain ⟨ga, gc, ge, hrd⟩ := ownsRow_rd ho4
      obtain ⟨rfl, rfl⟩ : some ⟨w.heap.size, 0, none⟩ = ga ∧ j = gc := by simpa using ge
      have HR := Lib.hid ((get_any (some ⟨w.heap.size, 0, none⟩) j j (manyL j false) wr (Hg.out.ext HE.out) hrd (by omega)).mono fun _ _ => got_of)
      clear hrd ge
      go_wp2_with fail
      refine HR.out.mono ?_
      rintro e w5 ⟨a5, n5, c5, k5, d5, l5, rfl, hr5, hE5, hm5⟩
      have hl5 := hr5.len
      have HE5 := Lib.hid (HE.out.trans hE5)
      have hq := HG.out
      unfold manyOk at hq
      clear hr5 hE5
      rw [if_pos (by omega)] at hq
      rw [hq] at hm5
      obtain ⟨rfl, rfl, rfl⟩ := hm5
      have hn5 : n5 = 0 := by simpa using hl5.symm
      subst hn5
      clear hq hl5
      go_wp2_with (go_at_call 10; refine (awake_any _ (Hg.out.ext HE5.out)).mono ?_; rintro e w6 ⟨rfl, hE6⟩)
      go_ret
      exact ⟨rfl, HE5.out.trans hE6⟩
set_option maxHeartbeats 1000000 in
theorem many_fs (m : Int) (k : Nat) (w : World) (h : Glob w) (h0 : 0 ≤ m) (h1 : m ≤ 255) (hk : 4094 + m % 5 = (k : Int)) (hk1 : 4094 ≤ k) (hk2 : k ≤ 4098) (hc : ¬ 4096 < k) :
    Calls Tryd.prog 6 #[.int .u8 m, .bool false] w fun e w' => e = .returned (.bool true) ∧ Ext w w' := by
  have Hg := Lib.hid h
  have HG := Lib.hid (many_ok (k := k) false (by omega))
  clear h
  have hd : decide ((k : Int) > 4096) = false := by simp; omega
  obtain ⟨i0, hi, hz0, hz1, hz2⟩ := info_parts info3
  have hm0 : 0 ≤ m % 5 := by omega
  have hm1 : m % 5 < 5 := by omega
  go_enter Tryd.func6, Tryd.ntmps6
  go_wp2_with (at_make; refine wpList_make_full _ rfl _ _ _ rfl w.heap.size 3 i0 (.int .i64 0) 1 Tryd.underlying22 hi hz0 hz1 _ _ _ _ k rfl rfl rfl rfl ?c1 ?c2 ?c3 ?_)
  case c1 => rw [hz2]; omega
  case c2 => unfold maxLen; omega
  case c3 => simp
  intro w1 ho hg
  have hE : Ext w w1 := (Ext.refl _).grown hg (by simp)
  clear hg hi hz0 hz1 hz2
  go_wp2
  go_loopw [7] (fun i wr => ∃ j : Nat, ∃ xs : List Value, j ≤ k ∧ i = .int .i64 j ∧ wr.ownsRow w.heap.size 3 1 (.slice (some ⟨w.heap.size, 0, none⟩) k k) k xs ∧ Hid (xs.take j = ivs (List.replicate j 18)) ∧ Ext w wr) (fun i _ => k - (intOf i).toNat)
  case atStart => exact ⟨0, _, Nat.zero_le _, rfl, ho, by simp [Hid], hE⟩
  case round =>
    obtain ⟨j, xs, hj, rfl, ho, HX, hE⟩ := hrel
    by_cases hlt : j < k
    · go_wp2_with (refine wpList_store_own rfl (.tmp 24) (.const (.int .i64 18)) 3 rfl w.heap.size 3 1 w.heap.size k k xs j rfl (.int .i64 18) rfl ho size3 ?c1 ?c2 ?_)
      case c1 => simp [Value.cells, Value.oneCell']
      case c2 => simp [Value.cells]; omega
      intro w2 ho2 hg2
      have hE2 : Ext w w2 := hE.grown hg2 (by simp)
      clear hg2 hE
      go_wp2
      go_roundw
      case rel => exact ⟨j + 1, _, by omega, by go_num, ho2, rep_take j k xs ho.1 hlt HX.out, hE2⟩
      case measure => simp [intOf]; omega
    · obtain rfl : j = k := by omega
      have hx := HX.out
      rw [List.take_of_length_le (by rw [ho.1]; omega)] at hx
      subst hx
      have HE := Lib.hid hE
      clear hE
      have ho4 : wr.ownsRow w.heap.size 3 1 (.slice (some ⟨w.heap.size, 0, none⟩) j j) j (ivs (manyL j false)) := by rw [← many_all (by omega)]; exact ho
      obtain ⟨ga, gc, ge, hrd⟩ := ownsRow_rd ho4
      obtain ⟨rfl, rfl⟩ : some ⟨w.heap.size, 0, none⟩ = ga ∧ j = gc := by simpa using ge
      have HR := Lib.hid ((get_any (some ⟨w.heap.size, 0, none⟩) j j (manyL j false) wr (Hg.out.ext HE.out) hrd (by omega)).mono fun _ _ => got_of)
      clear hrd ge
      go_wp2_with fail
      refine HR.out.mono ?_
      rintro e w5 ⟨a5, n5, c5, k5, d5, l5, rfl, hr5, hE5, hm5⟩
      have hl5 := hr5.len
      have HE5 := Lib.hid (HE.out.trans hE5)
      have hq := HG.out
      unfold manyOk at hq
      clear hr5 hE5
      rw [if_neg (by omega), if_neg (by simp)] at hq
      obtain ⟨l, hq, hll⟩ := hq
      rw [hq] at hm5
      obtain ⟨rfl, rfl, rfl⟩ := hm5
      have hn5 : n5 = j := by rw [← hl5, hll]
      subst hn5
      clear hq hl5 hll
      go_wp2_with (go_at_call 10; refine (awake_any _ (Hg.out.ext HE5.out)).mono ?_; rintro e w6 ⟨rfl, hE6⟩)
      go_ret
      exact ⟨rfl, HE5.out.trans hE6⟩
theorem law_many (m : Int) (b : Bool) (w : World) (h : Glob w) (hw : (Lit.int .u8 m).wf = true) :
    Calls Tryd.prog 6 #[.int .u8 m, .bool b] w fun e w' => e = .returned (.bool true) ∧ Ext w w' := by
  obtain ⟨h0, h1⟩ := bounds_u8 hw
  obtain ⟨k, hk⟩ : ∃ k : Nat, 4094 + m % 5 = (k : Int) := ⟨(4094 + m % 5).toNat, by omega⟩
  have hk1 : 4094 ≤ k := by omega
  have hk2 : k ≤ 4098 := by omega
  cases b with
  | true =>
    by_cases hc : 4096 < k
    · exact many_tl m k w h h0 h1 hk hk1 hk2 hc
    · exact many_ts m k w h h0 h1 hk hk1 hk2 hc
  | false =>
    by_cases hc : 4096 < k
    · exact many_fl m k w h h0 h1 hk hk1 hk2 hc
    · exact many_fs m k w h h0 h1 hk hk1 hk2 hc
end Go.Proofs.YtgibagnllbbeiaaDoor
