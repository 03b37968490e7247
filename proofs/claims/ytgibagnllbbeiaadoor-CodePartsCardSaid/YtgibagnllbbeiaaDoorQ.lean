/- Proof text of the claims about the statements of layer 4 (code). By an AI agent. No condition beyond what each theorem states. -/
import Derived.Test.YtgibagnllbbeiaaDoorO
import Derived.Test.YtgibagnllbbeiaaDoorW
import Derived.Deep.RegionHeld3
set_option linter.unusedVariables false
namespace Go.Proofs.YtgibagnllbbeiaaDoor
open Go.RowKit
set_option maxHeartbeats 1000000 in
theorem parts_0 (a : Option Addr) (n cap : Nat) (a' : Option Addr) (n' cap' : Nat) (A B : List Int) (w : World) (h : Glob w) (hA : Rd w 1 a n cap (ivs A)) (hB : Rd w 1 a' n' cap' (ivs B)) (h8 : 200 < n ∨ 200 < n') :
    Calls Tryd.prog 5 #[.slice a n cap, .slice a' n' cap'] w fun e w' => e = .returned (.bool true) ∧ Ext w w' := by
  have Hg := Lib.hid h
  have HA := Lib.hid hA
  have HB := Lib.hid hB
  have hn := hA.nat_le
  have hn' := hB.nat_le
  have LA := Lib.hid (show A.length = n by simpa using hA.len)
  have LB := Lib.hid (show B.length = n' by simpa using hB.len)
  clear h hA hB
  by_cases h6 : 200 < n
  · have hd : decide ((n : Int) > 200) = true := by simp; omega
    go_enter Tryd.func5, Tryd.ntmps5
    go_wp2_with (go_at_call 10; refine (awake_any _ Hg.out).mono ?_; rintro e w1 ⟨rfl, hE⟩)
    go_ret
    exact ⟨rfl, hE⟩
  have hd : decide ((n : Int) > 200) = false := by simp; omega
  by_cases h7 : 200 < n'
  · have hd' : decide ((n' : Int) > 200) = true := by simp; omega
    go_enter Tryd.func5, Tryd.ntmps5
    go_wp2_with (go_at_call 10; refine (awake_any _ Hg.out).mono ?_; rintro e w1 ⟨rfl, hE⟩)
    go_ret
    exact ⟨rfl, hE⟩
  omega

set_option maxHeartbeats 1000000 in
theorem parts_1 (a : Option Addr) (n cap : Nat) (a' : Option Addr) (n' cap' : Nat) (A B : List Int) (w : World) (h : Glob w) (hA : Rd w 1 a n cap (ivs A)) (hB : Rd w 1 a' n' cap' (ivs B)) (h6 : ¬ 200 < n) (h7 : ¬ 200 < n') (j : Nat) (c : Int) (hg1 : getT A = .error (j, c)) :
    Calls Tryd.prog 5 #[.slice a n cap, .slice a' n' cap'] w fun e w' => e = .returned (.bool true) ∧ Ext w w' := by
  have Hg := Lib.hid h
  have HA := Lib.hid hA
  have HB := Lib.hid hB
  have hn := hA.nat_le
  have hn' := hB.nat_le
  have LA := Lib.hid (show A.length = n by simpa using hA.len)
  have LB := Lib.hid (show B.length = n' by simpa using hB.len)
  clear h hA hB
  have hd : decide ((n : Int) > 200) = false := by simp; omega
  have hd' : decide ((n' : Int) > 200) = false := by simp; omega
  have hc := getF_err _ _ _ _ _ _ hg1
  have Hg1 := Lib.hid hg1
  clear hg1
  have G1 := Lib.hid (fun w1 (e1 : Ext w w1) => (get_any a n cap A w1 (Hg.out.ext e1) (HA.out.ext e1) (by omega)).mono fun _ _ => got_of)
  have G2 := Lib.hid (fun w1 (e1 : Ext w w1) => (get_any a' n' cap' B w1 (Hg.out.ext e1) (HB.out.ext e1) (by omega)).mono fun _ _ => got_of)
  go_enter Tryd.func5, Tryd.ntmps5
  go_wp2_with fail
  refine (G1.out w (Ext.refl w)).mono ?_
  rintro e w1 ⟨a1, n1, c1, k1, d1, l1, rfl, hr1, hE1, hm1⟩
  have R1 := Lib.hid hr1
  have M1 := Lib.hid hm1
  have HE1 := Lib.hid hE1
  clear hr1 hm1 hE1
  go_wp2_with fail
  refine (G2.out w1 HE1.out).mono ?_
  rintro e w2 ⟨a2, n2, c2, k2, d2, l2, rfl, hr2, hE2, hm2⟩
  have R2 := Lib.hid hr2
  have M2 := Lib.hid hm2
  have HE2 := Lib.hid (HE1.out.trans hE2)
  have R12 := Lib.hid (R1.out.ext hE2)
  clear hr2 hm2 hE2
  go_wp2_with (refine wpList_append_rd rfl (.tmp 36) (.tmp 37) 22 rfl w2.heap.size 3 _ 1 8 Tryd.underlying22 info3 rfl (by decide) (.slice (some ⟨w2.heap.size, 0, none⟩) 0 0) 0 [] rfl (World.ownsRow_lit w2 #[] 0 (Nat.le_refl _) (Nat.zero_le _) rfl) a n cap (ivs A) rfl ((HA.out.ext HE2.out).ext ((Ext.refl w2).alloc _)) (ivs_one A) ?_ (by decide) ?_ ?_)
  · omega
  · exact Nat.le_of_lt (by simp)
  intro v3 w3 ho3 hg3
  have ho3' : w3.ownsRow w2.heap.size 3 1 v3 n (ivs A) := by simpa using ho3
  have hE3 : Ext w2 w3 := ((Ext.refl w2).alloc (.cells #[] 3)).grown hg3 (by simp [Value.ownBlock])
  have HO3 := Lib.hid ho3'
  have HE3 := Lib.hid hE3
  clear ho3 ho3' hg3 hE3
  go_wp2_with (refine wpList_append_rd rfl (.tmp 38) (.tmp 39) 22 rfl w2.heap.size 3 _ 1 8 Tryd.underlying22 info3 rfl (by decide) v3 n (ivs A) rfl HO3.out a' n' cap' (ivs B) rfl ((HB.out.ext HE2.out).ext HE3.out) (ivs_one B) ?_ (by decide) ?_ ?_)
  · omega
  · exact HE3.out.size
  intro v4 w4 ho4 hg4
  have hE4 : Ext w2 w4 := HE3.out.grown hg4 (fun k hk => (HO3.out.lt k hk).1)
  obtain ⟨a4, c4, rfl, hr4⟩ := ownsRow_rd ho4
  have hr4' : Rd w4 1 a4 (n + n') c4 (ivs (A ++ B)) := by simpa using hr4
  have HE4 := Lib.hid (HE2.out.trans hE4)
  have R14 := Lib.hid (R12.out.ext hE4)
  have R24 := Lib.hid (R2.out.ext hE4)
  have G3 := Lib.hid ((get_any a4 (n + n') c4 (A ++ B) w4 (Hg.out.ext HE4.out) hr4' (by omega)).mono fun _ _ => got_of)
  clear ho4 hg4 hE4 hr4 hr4'
  go_wp2_with fail
  refine G3.out.mono ?_
  rintro e w5 ⟨a5, n5, c5, k5, d5, l5, rfl, hr5, hE5, hm5⟩
  have R5 := Lib.hid hr5
  have M5 := Lib.hid hm5
  have HE5 := Lib.hid (HE4.out.trans hE5)
  have R15 := Lib.hid (R14.out.ext hE5)
  have R25 := Lib.hid (R24.out.ext hE5)
  clear hr5 hm5 hE5
  have m1 := M1.out
  rw [Hg1.out] at m1
  obtain ⟨rfl, rfl, rfl⟩ := m1
  have hn1 : n1 = 0 := by have := R1.out.len; simpa using this.symm
  subst hn1
  have hne : (d1 != 0) = true := by simp; omega
  go_wp2_with (go_at_call 10; refine (awake_any _ (Hg.out.ext HE5.out)).mono ?_; rintro e w6 ⟨rfl, hE6⟩)
  go_ret
  exact ⟨rfl, HE5.out.trans hE6⟩

set_option maxHeartbeats 1000000 in
theorem parts_2 (a : Option Addr) (n cap : Nat) (a' : Option Addr) (n' cap' : Nat) (A B : List Int) (w : World) (h : Glob w) (hA : Rd w 1 a n cap (ivs A)) (hB : Rd w 1 a' n' cap' (ivs B)) (h6 : ¬ 200 < n) (h7 : ¬ 200 < n') (l : List R) (j : Nat) (c : Int) (hg1 : getT A = .ok l) (hg2 : getT B = .error (j, c)) :
    Calls Tryd.prog 5 #[.slice a n cap, .slice a' n' cap'] w fun e w' => e = .returned (.bool true) ∧ Ext w w' := by
  have Hg := Lib.hid h
  have HA := Lib.hid hA
  have HB := Lib.hid hB
  have hn := hA.nat_le
  have hn' := hB.nat_le
  have LA := Lib.hid (show A.length = n by simpa using hA.len)
  have LB := Lib.hid (show B.length = n' by simpa using hB.len)
  clear h hA hB
  have hd : decide ((n : Int) > 200) = false := by simp; omega
  have hd' : decide ((n' : Int) > 200) = false := by simp; omega
  have hp := getT_parts (by rw [LA.out]; omega) (by rw [LB.out]; omega) hg1
  have hc := getF_err _ _ _ _ _ _ hg2
  have hj := getF_place _ _ _ _ _ _ hg2
  rw [hg2] at hp
  have Hg1 := Lib.hid hg1
  have Hg2 := Lib.hid hg2
  have Hp := Lib.hid hp
  have hjn : (j : Int) ≤ 300 := by rw [LB.out] at hj; omega
  clear hg1 hg2 hp hj
  have G1 := Lib.hid (fun w1 (e1 : Ext w w1) => (get_any a n cap A w1 (Hg.out.ext e1) (HA.out.ext e1) (by omega)).mono fun _ _ => got_of)
  have G2 := Lib.hid (fun w1 (e1 : Ext w w1) => (get_any a' n' cap' B w1 (Hg.out.ext e1) (HB.out.ext e1) (by omega)).mono fun _ _ => got_of)
  go_enter Tryd.func5, Tryd.ntmps5
  go_wp2_with fail
  refine (G1.out w (Ext.refl w)).mono ?_
  rintro e w1 ⟨a1, n1, c1, k1, d1, l1, rfl, hr1, hE1, hm1⟩
  have R1 := Lib.hid hr1
  have M1 := Lib.hid hm1
  have HE1 := Lib.hid hE1
  clear hr1 hm1 hE1
  go_wp2_with fail
  refine (G2.out w1 HE1.out).mono ?_
  rintro e w2 ⟨a2, n2, c2, k2, d2, l2, rfl, hr2, hE2, hm2⟩
  have R2 := Lib.hid hr2
  have M2 := Lib.hid hm2
  have HE2 := Lib.hid (HE1.out.trans hE2)
  have R12 := Lib.hid (R1.out.ext hE2)
  clear hr2 hm2 hE2
  go_wp2_with (refine wpList_append_rd rfl (.tmp 36) (.tmp 37) 22 rfl w2.heap.size 3 _ 1 8 Tryd.underlying22 info3 rfl (by decide) (.slice (some ⟨w2.heap.size, 0, none⟩) 0 0) 0 [] rfl (World.ownsRow_lit w2 #[] 0 (Nat.le_refl _) (Nat.zero_le _) rfl) a n cap (ivs A) rfl ((HA.out.ext HE2.out).ext ((Ext.refl w2).alloc _)) (ivs_one A) ?_ (by decide) ?_ ?_)
  · omega
  · exact Nat.le_of_lt (by simp)
  intro v3 w3 ho3 hg3
  have ho3' : w3.ownsRow w2.heap.size 3 1 v3 n (ivs A) := by simpa using ho3
  have hE3 : Ext w2 w3 := ((Ext.refl w2).alloc (.cells #[] 3)).grown hg3 (by simp [Value.ownBlock])
  have HO3 := Lib.hid ho3'
  have HE3 := Lib.hid hE3
  clear ho3 ho3' hg3 hE3
  go_wp2_with (refine wpList_append_rd rfl (.tmp 38) (.tmp 39) 22 rfl w2.heap.size 3 _ 1 8 Tryd.underlying22 info3 rfl (by decide) v3 n (ivs A) rfl HO3.out a' n' cap' (ivs B) rfl ((HB.out.ext HE2.out).ext HE3.out) (ivs_one B) ?_ (by decide) ?_ ?_)
  · omega
  · exact HE3.out.size
  intro v4 w4 ho4 hg4
  have hE4 : Ext w2 w4 := HE3.out.grown hg4 (fun k hk => (HO3.out.lt k hk).1)
  obtain ⟨a4, c4, rfl, hr4⟩ := ownsRow_rd ho4
  have hr4' : Rd w4 1 a4 (n + n') c4 (ivs (A ++ B)) := by simpa using hr4
  have HE4 := Lib.hid (HE2.out.trans hE4)
  have R14 := Lib.hid (R12.out.ext hE4)
  have R24 := Lib.hid (R2.out.ext hE4)
  have G3 := Lib.hid ((get_any a4 (n + n') c4 (A ++ B) w4 (Hg.out.ext HE4.out) hr4' (by omega)).mono fun _ _ => got_of)
  clear ho4 hg4 hE4 hr4 hr4'
  go_wp2_with fail
  refine G3.out.mono ?_
  rintro e w5 ⟨a5, n5, c5, k5, d5, l5, rfl, hr5, hE5, hm5⟩
  have R5 := Lib.hid hr5
  have M5 := Lib.hid hm5
  have HE5 := Lib.hid (HE4.out.trans hE5)
  have R15 := Lib.hid (R14.out.ext hE5)
  have R25 := Lib.hid (R24.out.ext hE5)
  clear hr5 hm5 hE5
  have m1 := M1.out
  rw [Hg1.out] at m1
  obtain ⟨rfl, rfl, rfl⟩ := m1
  have m2 := M2.out
  have m5 := M5.out
  rw [Hg2.out] at m2
  rw [Hp.out] at m5
  obtain ⟨rfl, rfl, rfl⟩ := m2
  obtain ⟨rfl, e5, rfl⟩ := m5
  have e5' : k5 = (n : Int) + (j : Int) := by rw [e5]; have := LA.out; omega
  clear e5
  subst e5'
  have hn5 : n5 = 0 := by have := R5.out.len; simpa using this.symm
  subst hn5
  have hne1 : ((0 : Int) != 0) = false := by simp
  have hne : (d5 != 0) = true := by simp; omega
  go_wp2_with (go_at_call 10; refine (awake_any _ (Hg.out.ext HE5.out)).mono ?_; rintro e w6 ⟨rfl, hE6⟩)
  go_ret
  exact ⟨rfl, HE5.out.trans hE6⟩

set_option maxHeartbeats 1000000 in
theorem parts_3 (a : Option Addr) (n cap : Nat) (a' : Option Addr) (n' cap' : Nat) (A B : List Int) (w : World) (h : Glob w) (hA : Rd w 1 a n cap (ivs A)) (hB : Rd w 1 a' n' cap' (ivs B)) (h6 : ¬ 200 < n) (h7 : ¬ 200 < n') (l m : List R) (hg1 : getT A = .ok l) (hg2 : getT B = .ok m) :
    Calls Tryd.prog 5 #[.slice a n cap, .slice a' n' cap'] w fun e w' => e = .returned (.bool true) ∧ Ext w w' := by
  have Hg := Lib.hid h
  have HA := Lib.hid hA
  have HB := Lib.hid hB
  have hn := hA.nat_le
  have hn' := hB.nat_le
  have LA := Lib.hid (show A.length = n by simpa using hA.len)
  have LB := Lib.hid (show B.length = n' by simpa using hB.len)
  clear h hA hB
  have hd : decide ((n : Int) > 200) = false := by simp; omega
  have hd' : decide ((n' : Int) > 200) = false := by simp; omega
  have hp := getT_parts (by rw [LA.out]; omega) (by rw [LB.out]; omega) hg1
  rw [hg2] at hp
  have Hg1 := Lib.hid hg1
  have Hg2 := Lib.hid hg2
  have Hp := Lib.hid hp
  clear hg1 hg2 hp
  have G1 := Lib.hid (fun w1 (e1 : Ext w w1) => (get_any a n cap A w1 (Hg.out.ext e1) (HA.out.ext e1) (by omega)).mono fun _ _ => got_of)
  have G2 := Lib.hid (fun w1 (e1 : Ext w w1) => (get_any a' n' cap' B w1 (Hg.out.ext e1) (HB.out.ext e1) (by omega)).mono fun _ _ => got_of)
  go_enter Tryd.func5, Tryd.ntmps5
  go_wp2_with fail
  refine (G1.out w (Ext.refl w)).mono ?_
  rintro e w1 ⟨a1, n1, c1, k1, d1, l1, rfl, hr1, hE1, hm1⟩
  have R1 := Lib.hid hr1
  have M1 := Lib.hid hm1
  have HE1 := Lib.hid hE1
  clear hr1 hm1 hE1
  go_wp2_with fail
  refine (G2.out w1 HE1.out).mono ?_
  rintro e w2 ⟨a2, n2, c2, k2, d2, l2, rfl, hr2, hE2, hm2⟩
  have R2 := Lib.hid hr2
  have M2 := Lib.hid hm2
  have HE2 := Lib.hid (HE1.out.trans hE2)
  have R12 := Lib.hid (R1.out.ext hE2)
  clear hr2 hm2 hE2
  go_wp2_with (refine wpList_append_rd rfl (.tmp 36) (.tmp 37) 22 rfl w2.heap.size 3 _ 1 8 Tryd.underlying22 info3 rfl (by decide) (.slice (some ⟨w2.heap.size, 0, none⟩) 0 0) 0 [] rfl (World.ownsRow_lit w2 #[] 0 (Nat.le_refl _) (Nat.zero_le _) rfl) a n cap (ivs A) rfl ((HA.out.ext HE2.out).ext ((Ext.refl w2).alloc _)) (ivs_one A) ?_ (by decide) ?_ ?_)
  · omega
  · exact Nat.le_of_lt (by simp)
  intro v3 w3 ho3 hg3
  have ho3' : w3.ownsRow w2.heap.size 3 1 v3 n (ivs A) := by simpa using ho3
  have hE3 : Ext w2 w3 := ((Ext.refl w2).alloc (.cells #[] 3)).grown hg3 (by simp [Value.ownBlock])
  have HO3 := Lib.hid ho3'
  have HE3 := Lib.hid hE3
  clear ho3 ho3' hg3 hE3
  go_wp2_with (refine wpList_append_rd rfl (.tmp 38) (.tmp 39) 22 rfl w2.heap.size 3 _ 1 8 Tryd.underlying22 info3 rfl (by decide) v3 n (ivs A) rfl HO3.out a' n' cap' (ivs B) rfl ((HB.out.ext HE2.out).ext HE3.out) (ivs_one B) ?_ (by decide) ?_ ?_)
  · omega
  · exact HE3.out.size
  intro v4 w4 ho4 hg4
  have hE4 : Ext w2 w4 := HE3.out.grown hg4 (fun k hk => (HO3.out.lt k hk).1)
  obtain ⟨a4, c4, rfl, hr4⟩ := ownsRow_rd ho4
  have hr4' : Rd w4 1 a4 (n + n') c4 (ivs (A ++ B)) := by simpa using hr4
  have HE4 := Lib.hid (HE2.out.trans hE4)
  have R14 := Lib.hid (R12.out.ext hE4)
  have R24 := Lib.hid (R2.out.ext hE4)
  have G3 := Lib.hid ((get_any a4 (n + n') c4 (A ++ B) w4 (Hg.out.ext HE4.out) hr4' (by omega)).mono fun _ _ => got_of)
  clear ho4 hg4 hE4 hr4 hr4'
  go_wp2_with fail
  refine G3.out.mono ?_
  rintro e w5 ⟨a5, n5, c5, k5, d5, l5, rfl, hr5, hE5, hm5⟩
  have R5 := Lib.hid hr5
  have M5 := Lib.hid hm5
  have HE5 := Lib.hid (HE4.out.trans hE5)
  have R15 := Lib.hid (R14.out.ext hE5)
  have R25 := Lib.hid (R24.out.ext hE5)
  clear hr5 hm5 hE5
  have m1 := M1.out
  rw [Hg1.out] at m1
  obtain ⟨rfl, rfl, rfl⟩ := m1
  have m2 := M2.out
  have m5 := M5.out
  rw [Hg2.out] at m2
  rw [Hp.out] at m5
  obtain ⟨rfl, rfl, rfl⟩ := m2
  obtain ⟨rfl, rfl, rfl⟩ := m5
  have hne1 : ((0 : Int) != 0) = false := by simp
  obtain ⟨vs1, q1, p1⟩ := R15.out
  obtain ⟨vs2, q2, p2⟩ := R25.out
  have hl1 := R15.out.len
  have hl2 := R25.out.len
  have hb1 : n1 ≤ 200 := by have := getF_count _ _ _ _ _ Hg1.out; have := LA.out; omega
  have hb2 : n2 ≤ 200 := by have := getF_count _ _ _ _ _ Hg2.out; have := LB.out; omega
  have Q1 := Lib.hid q1
  have Q2 := Lib.hid q2
  have P1 := Lib.hid p1
  have P2 := Lib.hid p2
  clear q1 q2 p1 p2 hl1 hl2
  go_wp2_with fail
  refine (awake_any _ (Hg.out.ext HE5.out)).mono ?_
  rintro e w6 ⟨rfl, hE6⟩
  have HE6 := Lib.hid hE6
  clear hE6
  go_wp2_with (refine wpList_append_rd_g rfl (.tmp 81) (.tmp 82) 29 rfl w6.heap.size 24 _ 2 32 Tryd.underlying29 info24 rfl (by decide) (.slice (some ⟨w6.heap.size, 0, none⟩) 0 0) 0 [] rfl (World.ownsRow_lit w6 #[] 0 (Nat.le_refl _) (Nat.zero_le _) rfl) a1 n1 c1 vs1 rfl ((Q1.out.ext HE6.out).ext ((Ext.refl w6).alloc _)) P1.out.one ?_ (by decide) ?_ ?_)
  · omega
  · exact Nat.le_of_lt (by simp)
  intro v7 w7 ho7 hg7
  have ho7' : w7.ownsRow w6.heap.size 24 2 v7 n1 vs1 := by simpa using ho7
  have hE7 : Ext w6 w7 := ((Ext.refl w6).alloc (.cells #[] 24)).grown hg7 (by simp [Value.ownBlock])
  have HO7 := Lib.hid ho7'
  have HE7 := Lib.hid hE7
  clear ho7 ho7' hg7 hE7
  go_wp2_with (refine wpList_append_rd_g rfl (.tmp 83) (.tmp 84) 29 rfl w6.heap.size 24 _ 2 32 Tryd.underlying29 info24 rfl (by decide) v7 n1 vs1 rfl HO7.out a2 n2 c2 vs2 rfl ((Q2.out.ext HE6.out).ext HE7.out) P2.out.one ?_ (by decide) ?_ ?_)
  · omega
  · exact HE7.out.size
  intro v8 w8 ho8 hg8
  have hE8 : Ext w5 w8 := HE6.out.trans (HE7.out.grown hg8 (fun k hk => (HO7.out.lt k hk).1))
  obtain ⟨a8, c8, rfl, hr8⟩ := ownsRow_rd ho8
  have R8 : RdRecs w8 a8 (n1 + n2) c8 (l1 ++ l2) := ⟨_, hr8, (P1.out.append P2.out).mono fun _ _ _ _ hx => hx.ext hE8⟩
  have HS := Lib.hid (same_eq a5 a8 n5 (n1 + n2) c5 c8 (l1 ++ l2) w8 (R5.out.ext hE8) R8)
  have HE8 := Lib.hid hE8
  clear ho8 hg8 hE8 hr8 R8
  go_wp2_with fail
  refine HS.out.mono ?_
  rintro e w9 ⟨rfl, hE9⟩
  go_wp2
  go_ret
  exact ⟨rfl, (HE5.out.trans HE8.out).trans hE9⟩
theorem law_parts (a : Option Addr) (n cap : Nat) (a' : Option Addr) (n' cap' : Nat) (A B : List Int) (w : World) (h : Glob w) (hA : Rd w 1 a n cap (ivs A)) (hB : Rd w 1 a' n' cap' (ivs B)) :
    Calls Tryd.prog 5 #[.slice a n cap, .slice a' n' cap'] w fun e w' => e = .returned (.bool true) ∧ Ext w w' := by
  by_cases h6 : 200 < n
  · exact parts_0 a n cap a' n' cap' A B w h hA hB (.inl h6)
  by_cases h7 : 200 < n'
  · exact parts_0 a n cap a' n' cap' A B w h hA hB (.inr h7)
  cases hg1 : getT A with
  | error p => exact parts_1 a n cap a' n' cap' A B w h hA hB h6 h7 p.1 p.2 hg1
  | ok l =>
    cases hg2 : getT B with
    | error p => exact parts_2 a n cap a' n' cap' A B w h hA hB h6 h7 l p.1 p.2 hg1 hg2
    | ok m => exact parts_3 a n cap a' n' cap' A B w h hA hB h6 h7 l m hg1 hg2
end Go.Proofs.YtgibagnllbbeiaaDoor
