/- Proof text: two images that are the same (rastrumref23.Same, alike). By an AI agent. No condition beyond what each theorem states. -/
import Derived.Test.YtplljnfjkkloeaaGreatDoorJO
import Derived.BigQuiet
import Derived.Deep.QuietTactic
import Derived.Test.YtplljnfjkkloeaaGreatDoorMC
import Derived.Test.YtplljnfjkkloeaaGreatDoorJE
set_option linter.unusedVariables false
set_option linter.unusedSimpArgs false
namespace Go.Proofs.YtplljnfjkkloeaaGreatDoor
attribute [local go_sem] Go.Oper.semAt_some
open Go.RowKit
@[reducible] def imC (W H : Int) (A B : Option Addr) (n c m d : Nat) : Array Value := #[.int .i64 W, .int .i64 H, .slice A n c, .slice B m d]
set_option maxRecDepth 100000 in
set_option maxHeartbeats 16000000 in
theorem same_any (W H : Int) (C Z : List Int) (A1 A2 B1 B2 : Option Addr) (n c1 c2 m d1 d2 : Nat) (w : World) (hr1 : Rd w 1 A1 n c1 (ivs C)) (hr2 : Rd w 1 A2 n c2 (ivs C)) (hz1 : Rd w 1 B1 m d1 (ivs Z)) (hz2 : Rd w 1 B2 m d2 (ivs Z)) (hn : n ≤ 1000) (hm : m ≤ 1000) :
    Calls Tryz.prog 36 #[.agg (imC W H A1 B1 n c1 m d1), .agg (imC W H A2 B2 n c2 m d2)] w fun e w' => e = .returned (.bool true) ∧ Ext w w' := by
  have HR1 := Lib.hid hr1
  have HR2 := Lib.hid hr2
  have HZ1 := Lib.hid hz1
  have HZ2 := Lib.hid hz2
  have HLN : Hid (C.length = n) := Lib.hid (by have := hr1.len; simpa using this)
  have HLM : Hid (Z.length = m) := Lib.hid (by have := hz1.len; simpa using this)
  obtain ⟨P1, hP1⟩ : ∃ P, P = w.heap.size := ⟨_, rfl⟩
  obtain ⟨P2, hP2⟩ : ∃ P, P = P1 + 1 := ⟨_, rfl⟩
  have HB1 : Hid (Blk ((w.alloc (.cells (imC W H A1 B1 n c1 m d1) 28)).alloc (.cells (imC W H A2 B2 n c2 m d2) 28)) P1 28 (imC W H A1 B1 n c1 m d1)) := Lib.hid (by rw [hP1]; exact (Blk.new _ _ _).alloc _)
  have HB2 : Hid (Blk ((w.alloc (.cells (imC W H A1 B1 n c1 m d1) 28)).alloc (.cells (imC W H A2 B2 n c2 m d2) 28)) P2 28 (imC W H A2 B2 n c2 m d2)) := Lib.hid (by
    have := Blk.new (w.alloc (.cells (imC W H A1 B1 n c1 m d1) 28)) 28 (imC W H A2 B2 n c2 m d2)
    rw [World.size_alloc, ← hP1, ← hP2] at this
    exact this)
  have HE0 : Hid (Ext w ((w.alloc (.cells (imC W H A1 B1 n c1 m d1) 28)).alloc (.cells (imC W H A2 B2 n c2 m d2) 28))) := Lib.hid (((Ext.refl w).alloc _).alloc _)
  clear hr1 hr2 hz1 hz2
  go_enter Tryz.func36, Tryz.ntmps36
  go_upto_region 1 with fail
  simp only [← hP1, ← hP2]
  clear hP1 hP2
  generalize ((w.alloc (.cells (imC W H A1 B1 n c1 m d1) 28)).alloc (.cells (imC W H A2 B2 n c2 m d2) 28)) = W0 at *
  obtain ⟨p0, p1, p2, p3⟩ := HB1.out.c4
  obtain ⟨q0, q1, q2, q3⟩ := HB2.out.c4
  go_wp2_with fail
  clear p0 p1 p2 p3 q0 q1 q2 q3
  go_loopw [5] (fun i wr => ∃ k : Nat, k ≤ n ∧ i = .int .i64 k ∧ Hid (Ext W0 wr)) (fun i _ => n - (intOf i).toNat)
  case atStart => exact ⟨0, Nat.zero_le _, rfl, Lib.hid (Ext.refl _)⟩
  case round =>
    obtain ⟨k, hk, rfl, HX⟩ := hrel
    obtain ⟨W3, rfl⟩ : ∃ W3 : World, W3 = wr := ⟨_, rfl⟩
    obtain ⟨p0, p1, p2, p3⟩ := (HB1.out.ext HX.out).c4
    obtain ⟨q0, q1, q2, q3⟩ := (HB2.out.ext HX.out).c4
    by_cases hlt : k < n
    · obtain ⟨x, hx⟩ : ∃ x, C[k]? = some x := ⟨_, List.getElem?_eq_getElem (by rw [HLN.out]; exact hlt)⟩
      obtain ⟨b1, o1, ha1, -, -⟩ := HR1.out.at_ (by omega)
      obtain ⟨b2, o2, ha2, -, -⟩ := HR2.out.at_ (by omega)
      subst ha1 ha2
      have c0 : W3.cell? ⟨b1, o1 + k, none⟩ = some (.int .i64 x) := (HR1.out.ext (HE0.out.trans HX.out)).get rfl (by simp [hx])
      have e0 : W3.cell? ⟨b2, o2 + k, none⟩ = some (.int .i64 x) := (HR2.out.ext (HE0.out.trans HX.out)).get rfl (by simp [hx])
      have hkn : (k : Int) < n := by omega
      have hk0 : (0 : Int) ≤ k := by omega
      have hkN : (k : Int) + 1 ≤ 1000 := by omega
      have d1 : decide ((k : Int) < n) = true := by simp; omega
      clear hx
      go_upto_region 6 with fail
      go_quiet (fail)
      go_wp2_with fail
      go_roundw
      case rel => first | exact ⟨k + 1, by omega, by go_num, Lib.hid (Ext.drewN HX.out _)⟩ | ((repeat apply Exists.intro); exact ⟨⟨k + 1, by omega, by go_num, Lib.hid (Ext.drewN HX.out _)⟩, rfl⟩)
      case measure => simp [intOf]; omega
    · obtain rfl : k = n := by omega
      have d1 : decide ((k : Int) < k) = false := by simp
      go_wp2_with fail
      clear p0 p1 p2 p3 q0 q1 q2 q3
      have HX0 := HX
      clear HX
      go_loopw [6] (fun i wr => ∃ j : Nat, j ≤ m ∧ i = .int .i64 j ∧ Hid (Ext W3 wr)) (fun i _ => m - (intOf i).toNat)
      case atStart => exact ⟨0, Nat.zero_le _, rfl, Lib.hid (Ext.refl _)⟩
      case round =>
        obtain ⟨j, hj, rfl, HX⟩ := hrel
        obtain ⟨W4, rfl⟩ : ∃ W4 : World, W4 = wr := ⟨_, rfl⟩
        have HXX := Lib.hid (HX0.out.trans HX.out)
        obtain ⟨p0, p1, p2, p3⟩ := (HB1.out.ext HXX.out).c4
        obtain ⟨q0, q1, q2, q3⟩ := (HB2.out.ext HXX.out).c4
        by_cases hlt : j < m
        · obtain ⟨x, hx⟩ : ∃ x, Z[j]? = some x := ⟨_, List.getElem?_eq_getElem (by rw [HLM.out]; exact hlt)⟩
          obtain ⟨b1, o1, ha1, -, -⟩ := HZ1.out.at_ (by omega)
          obtain ⟨b2, o2, ha2, -, -⟩ := HZ2.out.at_ (by omega)
          subst ha1 ha2
          have c0 : W4.cell? ⟨b1, o1 + j, none⟩ = some (.int .i64 x) := (HZ1.out.ext (HE0.out.trans HXX.out)).get rfl (by simp [hx])
          have e0 : W4.cell? ⟨b2, o2 + j, none⟩ = some (.int .i64 x) := (HZ2.out.ext (HE0.out.trans HXX.out)).get rfl (by simp [hx])
          have hjm : (j : Int) < m := by omega
          have hj0 : (0 : Int) ≤ j := by omega
          have hjN : (j : Int) + 1 ≤ 1000 := by omega
          have d2 : decide ((j : Int) < m) = true := by simp; omega
          clear hx
          go_upto_region 11 with fail
          go_quiet (fail)
          go_wp2_with fail
          go_roundw
          case rel => first | exact ⟨j + 1, by omega, by go_num, Lib.hid (Ext.drewN HX.out _)⟩ | ((repeat apply Exists.intro); exact ⟨⟨j + 1, by omega, by go_num, Lib.hid (Ext.drewN HX.out _)⟩, rfl⟩)
          case measure => simp [intOf]; omega
        · obtain rfl : j = m := by omega
          have d2 : decide ((j : Int) < j) = false := by simp
          go_wp2_with fail
          go_ret
          exact ⟨rfl, HE0.out.trans HXX.out⟩
set_option maxRecDepth 100000 in
set_option maxHeartbeats 16000000 in
theorem alike_any (W H : Int) (C Z : List Int) (A1 A2 B1 B2 : Option Addr) (n c1 c2 m d1 d2 : Nat) (w : World) (hr1 : Rd w 1 A1 n c1 (ivs C)) (hr2 : Rd w 1 A2 n c2 (ivs C)) (hz1 : Rd w 1 B1 m d1 (ivs Z)) (hz2 : Rd w 1 B2 m d2 (ivs Z)) (hn : n ≤ 1000) (hm : m ≤ 1000) :
    Calls Tryz.prog 14 #[.agg (imC W H A1 B1 n c1 m d1), .agg (imC W H A2 B2 n c2 m d2)] w fun e w' => e = .returned (.bool true) ∧ Ext w w' := by
  have HS : Hid (∀ wz, Ext w wz → Calls Tryz.prog 36 #[.agg (imC W H A1 B1 n c1 m d1), .agg (imC W H A2 B2 n c2 m d2)] wz fun e w' => e = .returned (.bool true) ∧ Ext wz w') := Lib.hid (fun wz e => same_any W H C Z A1 A2 B1 B2 n c1 c2 m d1 d2 wz (hr1.ext e) (hr2.ext e) (hz1.ext e) (hz2.ext e) hn hm)
  obtain ⟨P1, hP1⟩ : ∃ P, P = w.heap.size := ⟨_, rfl⟩
  obtain ⟨P2, hP2⟩ : ∃ P, P = P1 + 1 := ⟨_, rfl⟩
  have HB1 : Hid (Blk ((w.alloc (.cells (imC W H A1 B1 n c1 m d1) 28)).alloc (.cells (imC W H A2 B2 n c2 m d2) 28)) P1 28 (imC W H A1 B1 n c1 m d1)) := Lib.hid (by rw [hP1]; exact (Blk.new _ _ _).alloc _)
  have HB2 : Hid (Blk ((w.alloc (.cells (imC W H A1 B1 n c1 m d1) 28)).alloc (.cells (imC W H A2 B2 n c2 m d2) 28)) P2 28 (imC W H A2 B2 n c2 m d2)) := Lib.hid (by
    have := Blk.new (w.alloc (.cells (imC W H A1 B1 n c1 m d1) 28)) 28 (imC W H A2 B2 n c2 m d2)
    rw [World.size_alloc, ← hP1, ← hP2] at this
    exact this)
  have HE0 : Hid (Ext w ((w.alloc (.cells (imC W H A1 B1 n c1 m d1) 28)).alloc (.cells (imC W H A2 B2 n c2 m d2) 28))) := Lib.hid (((Ext.refl w).alloc _).alloc _)
  clear hr1 hr2 hz1 hz2
  go_enter Tryz.func14, Tryz.ntmps14
  go_upto_region 1 with fail
  simp only [← hP1, ← hP2]
  clear hP1 hP2
  generalize ((w.alloc (.cells (imC W H A1 B1 n c1 m d1) 28)).alloc (.cells (imC W H A2 B2 n c2 m d2) 28)) = W0 at *
  obtain ⟨p0, p1, p2, p3⟩ := HB1.out.c4
  obtain ⟨q0, q1, q2, q3⟩ := HB2.out.c4
  go_wp2_with fail
  refine (HS.out _ HE0.out).mono ?_
  rintro e w1 ⟨rfl, hE⟩
  have HE1 := Lib.hid (HE0.out.trans hE)
  clear hE
  go_wp2_with fail
  go_ret
  exact ⟨rfl, HE1.out⟩
end Go.Proofs.YtplljnfjkkloeaaGreatDoor
set_option linter.unusedVariables false
set_option linter.unusedSimpArgs false
namespace Go.Proofs.YtplljnfjkkloeaaGreatDoor
open Go.RowKit
def ptS (a : Int × Int) (dx dy s : Int) : Int × Int := (a.1 + s * dx, a.2 + s * dy)
def sumS : List Int → Int
  | [] => 0
  | m :: l => m % 32 + sumS l
def sPts (a : Int × Int) (dx dy : Int) : Int → List Int → List (Int × Int)
  | _, [] => []
  | s, m :: l => ptS a dx dy (s + m % 32) :: sPts a dx dy (s + m % 32) l
theorem ptS_zero (a : Int × Int) (dx dy : Int) : ptS a dx dy 0 = a := by simp [ptS]
theorem sumS_snoc (m : Int) : ∀ l : List Int, sumS (l ++ [m]) = sumS l + m % 32
  | [] => by simp [sumS]
  | x :: l => by rw [List.cons_append, sumS, sumS, sumS_snoc m l]; omega
theorem sPts_snoc (a : Int × Int) (dx dy m : Int) : ∀ (l : List Int) (s : Int), sPts a dx dy s (l ++ [m]) = sPts a dx dy s l ++ [ptS a dx dy (s + sumS l + m % 32)]
  | [], s => by simp [sPts, sumS]
  | x :: l, s => by
    rw [List.cons_append, sPts, sPts, sPts_snoc a dx dy m l, sumS, List.cons_append]
    congr 4
    omega
theorem sPts_len (a : Int × Int) (dx dy : Int) : ∀ (l : List Int) (s : Int), (sPts a dx dy s l).length = l.length
  | [], s => rfl
  | x :: l, s => by rw [sPts, List.length_cons, sPts_len a dx dy l, List.length_cons]
theorem sumS_take {N : List Int} {k : Nat} {m : Int} (h : N[k]? = some m) : sumS (N.take (k + 1)) = sumS (N.take k) + m % 32 := by
  obtain ⟨hk, rfl⟩ := List.getElem?_eq_some_iff.1 h
  rw [List.take_succ_eq_append_getElem hk, sumS_snoc]
theorem sPts_take (a : Int × Int) (dx dy : Int) {N : List Int} {k : Nat} {m : Int} (h : N[k]? = some m) : sPts a dx dy 0 (N.take (k + 1)) = sPts a dx dy 0 (N.take k) ++ [ptS a dx dy (sumS (N.take (k + 1)))] := by
  obtain ⟨hk, rfl⟩ := List.getElem?_eq_some_iff.1 h
  rw [List.take_succ_eq_append_getElem hk, sPts_snoc, sumS_snoc, Int.zero_add]
theorem sumS_in : ∀ l : List Int, 0 ≤ sumS l ∧ sumS l ≤ 31 * l.length
  | [] => by simp [sumS]
  | x :: l => by
    have := sumS_in l
    rw [sumS, List.length_cons]
    omega
theorem mul_in {s d M B : Int} (h0 : 0 ≤ s) (h1 : s ≤ M) (d0 : -B ≤ d) (d1 : d ≤ B) : -(M * B) ≤ s * d ∧ s * d ≤ M * B := by
  have hB : 0 ≤ B := by omega
  have a1 : s * d ≤ s * B := Int.mul_le_mul_of_nonneg_left d1 h0
  have a2 : s * -B ≤ s * d := Int.mul_le_mul_of_nonneg_left d0 h0
  have a3 : s * B ≤ M * B := Int.mul_le_mul_of_nonneg_right h1 hB
  rw [Int.mul_neg] at a2
  omega
theorem ptS_in {a : Int × Int} {dx dy s : Int} (h1 : -32768 ≤ a.1 ∧ a.1 < 32768) (h2 : -32768 ≤ a.2 ∧ a.2 < 32768) (hx : -128 ≤ dx ∧ dx < 128) (hy : -128 ≤ dy ∧ dy < 128) (h0 : 0 ≤ s) (hs : s ≤ 310) : Unit (ptS a dx dy s) ∧ (-39680 ≤ s * dx ∧ s * dx ≤ 39680) ∧ (-39680 ≤ s * dy ∧ s * dy ≤ 39680) := by
  have m1 := mul_in (B := 128) h0 hs (by omega) (show dx ≤ 128 by omega)
  have m2 := mul_in (B := 128) h0 hs (by omega) (show dy ≤ 128 by omega)
  unfold Unit ptS
  simp only
  omega
theorem sPts_in {a : Int × Int} {dx dy : Int} (h1 : -32768 ≤ a.1 ∧ a.1 < 32768) (h2 : -32768 ≤ a.2 ∧ a.2 < 32768) (hx : -128 ≤ dx ∧ dx < 128) (hy : -128 ≤ dy ∧ dy < 128) : ∀ (l : List Int) (s : Int), 0 ≤ s → s + 31 * l.length ≤ 310 → ∀ q ∈ sPts a dx dy s l, Unit q
  | [], s, _, _, q, hq => by simp [sPts] at hq
  | m :: l, s, h0, hs, q, hq => by
    rw [List.length_cons] at hs
    rw [sPts, List.mem_cons] at hq
    rcases hq with rfl | hq
    · exact (ptS_in h1 h2 hx hy (by omega) (by omega)).1
    · exact sPts_in h1 h2 hx hy l _ (by omega) (by omega) q hq
theorem unit_all {a : Int × Int} {dx dy : Int} (h1 : -32768 ≤ a.1 ∧ a.1 < 32768) (h2 : -32768 ≤ a.2 ∧ a.2 < 32768) (hx : -128 ≤ dx ∧ dx < 128) (hy : -128 ≤ dy ∧ dy < 128) (l : List Int) (hl : l.length ≤ 10) : ∀ q ∈ a :: sPts a dx dy 0 l, Unit q := by
  intro q hq
  rw [List.mem_cons] at hq
  rcases hq with rfl | hq
  · unfold Unit; omega
  · exact sPts_in h1 h2 hx hy l 0 (by omega) (by omega) q hq
theorem sPts_steps (a : Int × Int) (dx dy : Int) : ∀ (l : List Int) (s : Int) (k : Nat) (p q : Int × Int), (ptS a dx dy s :: sPts a dx dy s l)[k]? = some p → (ptS a dx dy s :: sPts a dx dy s l)[k + 1]? = some q →
    ∃ m, (l.map (· % 32))[k]? = some m ∧ q.1 - p.1 = m * dx ∧ q.2 - p.2 = m * dy
  | [], s, k, p, q, hp, hq => by simp [sPts] at hq
  | m :: l, s, 0, p, q, hp, hq => by
    simp [sPts] at hp hq
    subst hp hq
    refine ⟨m % 32, by simp, ?_, ?_⟩
    · unfold ptS; simp only; rw [Int.add_mul]; omega
    · unfold ptS; simp only; rw [Int.add_mul]; omega
  | m :: l, s, k + 1, p, q, hp, hq => by
    rw [sPts, List.getElem?_cons_succ] at hp hq
    obtain ⟨m', h1, h2⟩ := sPts_steps a dx dy l (s + m % 32) k p q hp hq
    exact ⟨m', by rw [List.map_cons, List.getElem?_cons_succ]; exact h1, h2⟩
theorem split_same (n : Nat) (d : Da) (hd : d.Low) (a : Int × Int) (dx dy : Int) (l : List Int) : endC n true d (a :: sPts a dx dy 0 l) = endC n true d [a, (a :: sPts a dx dy 0 l).getLast (by simp)] := by
  have h := (stripL_line (dx := dx) (dy := dy) n true r98 (l.map (· % 32)) a d hd (fun m hm => by
    obtain ⟨x, -, rfl⟩ := List.mem_map.1 hm
    omega) (sPts a dx dy 0 l) (fun k p q hp hq => sPts_steps a dx dy l 0 k p q (by rw [ptS_zero]; exact hp) (by rw [ptS_zero]; exact hq)) (by rw [sPts_len, List.length_map])).1
  unfold endC
  rw [h]
  congr 1
  simp [stripL]
def dS (P R : Int) : Da := ⟨P, 1 + R, 0⟩
theorem dS_ok {P R : Int} (h : 0 ≤ P ∧ P < 65536) (r : 0 ≤ R ∧ R < 256) : (dS P R).Ok ∧ (dS P R).Low := by
  unfold dS
  refine ⟨⟨h.1, h.2, ?_, ?_, Int.le_refl _, (show (0 : Int) ≤ 1099511627776 by decide)⟩, ?_, ?_⟩
  · show 1 ≤ 1 + R; omega
  · show 1 + R ≤ 256; omega
  · show 1 ≤ 1 + R; omega
  · show 0 % ((1 + R) * 16) = 0; exact Int.zero_emod _
def howL (w R P : Int) : List (Int × List Int) := placesL 9 8 ++ [(19, [1 + w % 64]), (20, [1, 1 + R, P])]
def splitCs (w R P : Int) (pts : List (Int × Int)) : List (Int × List Int) := howL w R P ++ shapeL 2 pts
theorem right_19 (w : Int) : rightT (askT 19) [1 + w % 64] = 0 := by
  have e : askT 19 = some [(1, 64)] := rfl
  rw [e]
  simp [rightT, allIn, within]
  omega
theorem right_20 {R P : Int} (h : 0 ≤ P ∧ P < 65536) (r : 0 ≤ R ∧ R < 256) : rightT (askT 20) [1, 1 + R, P] = 0 := by
  have e : askT 20 = some [(0, 1), (1, 256), (0, 65535)] := rfl
  rw [e]
  simp [rightT, allIn, within]
  omega
theorem how_steps (w R P : Int) (h : 0 ≤ P ∧ P < 65536) (r : 0 ≤ R ∧ R < 256) : Steps ps0 hp0 (howL w R P) (sB (1 + w % 64) true (dS P R)) pB := by
  refine places_steps.append (.cons (c := (19, [1 + w % 64])) (Step.width _ _ _ (right_19 w) rfl) (.cons (c := (20, [1, 1 + R, P])) (Step.dash _ _ 1 (1 + R) P (right_20 h r) rfl) ?_))
  exact .nil _ _
theorem splitCs_steps (w R P : Int) (h : 0 ≤ P ∧ P < 65536) (r : 0 ≤ R ∧ R < 256) (n : Nat) (hn : (n : Int) = 1 + w % 64) (pts : List (Int × Int)) (hu : ∀ q ∈ pts, Unit q) (hl : pts.length ≤ 256) : Steps ps0 hp0 (splitCs w R P pts) (sE n true (dS P R)) (pE n true (dS P R) pts) := by
  have h1 := how_steps w R P h r
  rw [← hn] at h1
  have h2 := shape_steps n true (dS P R) pts hu hl (by omega) (by omega) (dS_ok h r).1
  exact h1.append h2
end Go.Proofs.YtplljnfjkkloeaaGreatDoor
set_option linter.unusedVariables false
set_option linter.unusedSimpArgs false
namespace Go.Proofs.YtplljnfjkkloeaaGreatDoor
open Go.RowKit
structure EP (W : World) (F : Nat → Value → World → Prop) (E : (Nat → Value) → World → Prop) (ks : List (Nat × Nat)) (kl : List Nat) (ic il : Nat) (st : Nat → Bool) (u : Nat → Value) (x : World) : Prop where
  e : Ext W x
  val : ∀ q ∈ ks, st q.1 = true → (st ic = false ∨ q.1 ∈ kl) → st il = false → F q.2 (u q.2) x
  fin : st il = true → E u x
theorem wrap_i (n : Int) : IntKind.i64.wrap n = wrap64 n := by unfold wrap64; exact IntKind.wrap_i64 n
section
variable {W x y : World} {F : Nat → Value → World → Prop} {E : (Nat → Value) → World → Prop} {ks : List (Nat × Nat)} {kl : List Nat} {ic il : Nat} {st : Nat → Bool} {u : Nat → Value}
theorem EP.begin (e : Ext W x) : EP W F E ks kl ic il (fun _ => false) u x := ⟨e, fun _ _ h => (by cases h), fun h => (by cases h)⟩
theorem EP.step (h : EP W F E ks kl ic il st u x) (i d : Nat) (hk : ∀ q ∈ ks, (q.2 = d ↔ q.1 = i)) (hi : ic ≠ i ∧ il ≠ i) (hil : st il = false) (e : Ext x y) (hF : ∀ s v, F s v x → F s v y) {v : Value} (hv : F d v y) : EP W F E ks kl ic il (ups st i) (upu u d v) y := by
  obtain ⟨i1, i2⟩ := hi
  refine ⟨h.e.trans e, fun q hq hs hc hl => ?_, fun hs => ?_⟩
  · by_cases hi : q.1 = i
    · have hd := (hk q hq).2 hi
      rw [hd, upu_eq]
      exact hv
    · rw [upu_ne (fun hd => hi ((hk q hq).1 hd))]
      rw [ups_ne hi] at hs
      rw [ups_ne i1] at hc
      exact hF _ _ (h.val q hq hs hc hil)
  · rw [ups_ne i2, hil] at hs
    cases hs
theorem EP.quiet (h : EP W F E ks kl ic il st u x) (i d : Nat) (hk : ∀ q ∈ ks, (q.2 = d ↔ q.1 = i)) (hi : ic ≠ i ∧ il ≠ i) (hil : st il = false) {v : Value} (hv : F d v x) : EP W F E ks kl ic il (ups st i) (upu u d v) x :=
  h.step i d hk hi hil (Ext.refl x) (fun _ _ h => h) hv
theorem EP.cut (h : EP W F E ks kl ic il st u x) (d : Nat) (hk : ∀ q ∈ ks, (q.2 = d ↔ q.1 = ic)) (hi : il ≠ ic) (hst : st ic = false) (hil : st il = false) (e : Ext W y) (hF : ∀ q ∈ ks, q.1 ≠ ic → q.1 ∈ kl → ∀ v, F q.2 v x → F q.2 v y) {v : Value} (hv : F d v y) : EP W F E ks kl ic il (ups st ic) (upu u d v) y := by
  refine ⟨e, fun q hq hs hc hl => ?_, fun hs => ?_⟩
  · by_cases hi : q.1 = ic
    · have hd := (hk q hq).2 hi
      rw [hd, upu_eq]
      exact hv
    · rw [upu_ne (fun hd => hi ((hk q hq).1 hd))]
      rw [ups_ne hi] at hs
      rw [ups_eq] at hc
      rcases hc with hc | hc
      · cases hc
      · exact hF q hq hi hc _ (h.val q hq hs (.inl hst) hil)
  · rw [ups_ne hi, hil] at hs
    cases hs
theorem EP.last (e : Ext W y) (h : E u y) : EP W F E ks kl ic il (ups st il) u y :=
  ⟨e, fun q hq hs hc hl => (by rw [ups_eq] at hl; cases hl), fun _ => h⟩
end
theorem wp_append_full {P : Program} {o : Oper} {a : Act} {w : World} {K : Act → World → Prop} {Q : Exit → Act → World → Prop} (hg : o.guard = none) (s x : Operand) (t : TypeId) (hop : o.op = Op.call { callee := Callee.builtin Builtin.append, args := #[s, x], argTypes := #[t, t] })
    (e : TypeId) (size bytes : Nat) (z : Value) (h1 : P.underlying t = some (.slice e)) (hi : (P.info? e).map (fun i => (i.zero, i.size, i.bytes)) = some (some z, size, bytes)) (h6 : z.cells.size = size) (h7 : 0 < size)
    (ao : Option Addr) (n : Nat) (olds : List Value) (hs : a.eval s = .slice ao n n) (hr : Rd w size ao n n olds) (hnone : ao = none → n = 0 ∧ n = 0)
    (ad : Addr) (m c : Nat) (news : List Value) (hx : a.eval x = .slice (some ad) m c) (hr2 : Rd w size (some ad) m c news) (h1c : ∀ u ∈ news, u.oneCell' = true) (h0 : 0 < m) (b1 : n + m ≤ maxLen) (b2 : (n + m) * bytes ≤ 140737488355328)
    (hK : ∀ v' w', w'.ownsRow w.heap.size e size v' (n + m) (olds ++ news) → Ext w w' → K (a.put o.dst v') w') : o.wp P a w K Q := by
  obtain ⟨i0, hi0, hz0, hz1, hz2⟩ := info_parts hi
  have hw : ∀ ops : Array Oper, Region.wanted o (yielded ops a.tmps) = true := fun ops => by simp [Region.wanted, hg]
  have H := step_append_grows (P := P) (ops := #[]) (o := o) (a := a) (w := w) (K := K) (Q := Q) (E := False) hg s x t hop e i0 z size bytes h1 hi0 hz0 hz1 hz2 h6 h7 ao n n olds hs hnone hr.len (fun b hb => (hb ▸ hr : Rd w size (some b) n n olds).news)
    ad m c news hx hr2.len hr2.news h1c (by omega) b1 b2 (fun v' w' hown hgrow => hK v' w' hown ((Ext.refl w).grown hgrow (fun k hk => by cases hk)))
  rw [if_pos (hw _)] at H
  exact H
theorem wpList_append_full {P : Program} {ops : Array Oper} {rest : List Oper} {o : Oper} {a : Act} {w : World} {Q : Exit → Act → World → Prop} (hg : o.guard = none) (s x : Operand) (t : TypeId) (hop : o.op = Op.call { callee := Callee.builtin Builtin.append, args := #[s, x], argTypes := #[t, t] })
    (e : TypeId) (size bytes : Nat) (z : Value) (h1 : P.underlying t = some (.slice e)) (hi : (P.info? e).map (fun i => (i.zero, i.size, i.bytes)) = some (some z, size, bytes)) (h6 : z.cells.size = size) (h7 : 0 < size)
    (ao : Option Addr) (n : Nat) (olds : List Value) (hs : a.eval s = .slice ao n n) (hr : Rd w size ao n n olds) (hnone : ao = none → n = 0 ∧ n = 0)
    (ad : Addr) (m c : Nat) (news : List Value) (hx : a.eval x = .slice (some ad) m c) (hr2 : Rd w size (some ad) m c news) (h1c : ∀ u ∈ news, u.oneCell' = true) (h0 : 0 < m) (b1 : n + m ≤ maxLen) (b2 : (n + m) * bytes ≤ 140737488355328)
    (h : ∀ v' w', w'.ownsRow w.heap.size e size v' (n + m) (olds ++ news) → Ext w w' → wpList P ops Q rest (a.put o.dst v') w') : wpList P ops Q (o :: rest) a w :=
  wpList_plain hg fun _ hK => wp_append_full hg s x t hop e size bytes z h1 hi h6 h7 ao n olds hs hr hnone ad m c news hx hr2 h1c h0 b1 b2 fun v' w' h2 h3 => hK _ _ (h v' w' h2 h3)
end Go.Proofs.YtplljnfjkkloeaaGreatDoor
set_option linter.unusedVariables false
set_option linter.unusedSimpArgs false
namespace Go.Proofs.YtplljnfjkkloeaaGreatDoor
open Go.RowKit
theorem CmdO.nil {w : World} {base : Nat} {v : Value} (h : w.ownsRow base 88 2 v 0 []) : CmdO w base v [] [] := ⟨rfl, h, fun k q hq => by simp at hq⟩
theorem CmdO.copy {w w' : World} {b b' : Nat} {v v' : Value} {L : List (Int × List Int)} {Q : List Rq} (h : CmdO w b v L Q) (e : Ext w w') (own' : w'.ownsRow b' 88 2 v' L.length (Q.flatMap Rq.cells)) : CmdO w' b' v' L Q :=
  ⟨h.n, own', fun k q hq => let ⟨C, h1, h2, h3⟩ := h.q k q hq; ⟨C, h1, h2.ext e, h3⟩⟩
@[reducible] def rayC (a1 a2 dx dy : Int) (A : Option Addr) (n c : Nat) (wd rp pt : Int) : Array Value := #[.int .i16 a1, .int .i16 a2, .int .i8 dx, .int .i8 dy, .slice A n c, .int .u8 wd, .int .u8 rp, .int .u16 pt]
def SlB (x : World) (T : TypeId) (n : Nat) (cs : Array Value) (v : Value) : Prop := ∃ G, v = .slice (some ⟨G, 0, none⟩) n n ∧ Blk x G T cs
def RcB (x : World) (op : Int) (n : Nat) (cs : Array Value) (v : Value) : Prop := ∃ G, v = .agg #[.int .i64 op, .slice (some ⟨G, 0, none⟩) n n] ∧ Blk x G 3 cs
def CmB (m : Nat) (x : World) (L : List (Int × List Int)) (v : Value) : Prop := ∃ b Q, m ≤ b ∧ b ≤ x.heap.size ∧ CmdO x b v L Q
section
variable {x y : World}
theorem SlB.ext {T : TypeId} {n : Nat} {cs : Array Value} {v : Value} (e : Ext x y) (h : SlB x T n cs v) : SlB y T n cs v := let ⟨G, h1, h2⟩ := h; ⟨G, h1, h2.ext e⟩
theorem RcB.ext {op : Int} {n : Nat} {cs : Array Value} {v : Value} (e : Ext x y) (h : RcB x op n cs v) : RcB y op n cs v := let ⟨G, h1, h2⟩ := h; ⟨G, h1, h2.ext e⟩
theorem CmB.ext {m : Nat} {L : List (Int × List Int)} {v : Value} (e : Ext x y) (h : CmB m x L v) : CmB m y L v := let ⟨b, Q, h1, h2, h3⟩ := h; ⟨b, Q, h1, Nat.le_trans h2 e.size, h3.ext e⟩
def TwB (x : World) (c1 c2 : Array Value) (n1 n2 : Nat) (o1 o2 : Int) (v : Value) : Prop := ∃ G G1 G2, v = .slice (some ⟨G, 0, none⟩) 2 2 ∧ Blk x G 88 #[.int .i64 o1, .slice (some ⟨G1, 0, none⟩) n1 n1, .int .i64 o2, .slice (some ⟨G2, 0, none⟩) n2 n2] ∧ Blk x G1 3 c1 ∧ Blk x G2 3 c2
theorem TwB.ext {c1 c2 : Array Value} {n1 n2 : Nat} {o1 o2 : Int} {v : Value} (e : Ext x y) (h : TwB x c1 c2 n1 n2 o1 o2 v) : TwB y c1 c2 n1 n2 o1 o2 v := let ⟨G, G1, G2, h0, h1, h2, h3⟩ := h; ⟨G, G1, G2, h0, h1.ext e, h2.ext e, h3.ext e⟩
def F11 (m R : Nat) (wd rp pt : Int) (s : Nat) (v : Value) (x : World) : Prop := match s with
  | 64 => CmB m x (placesL 9 8) v
  | 65 => v = .pointer (some ⟨R, 5, none⟩)
  | 66 => v = .int .u8 wd
  | 67 => v = .int .u8 (wd % 64)
  | 68 => v = .int .i64 (wd % 64)
  | 69 => v = .int .i64 (1 + wd % 64)
  | 70 => SlB x 3 1 (irow [1 + wd % 64]) v
  | 71 => RcB x 19 1 (irow [1 + wd % 64]) v
  | 72 => v = .pointer (some ⟨R, 6, none⟩)
  | 73 => v = .int .u8 rp
  | 74 => v = .int .i64 rp
  | 75 => v = .int .i64 (1 + rp)
  | 76 => v = .pointer (some ⟨R, 7, none⟩)
  | 77 => v = .int .u16 pt
  | 78 => v = .int .i64 pt
  | 79 => SlB x 3 3 (irow [1, 1 + rp, pt]) v
  | 80 => RcB x 20 3 (irow [1, 1 + rp, pt]) v
  | 81 => TwB x (irow [1 + wd % 64]) (irow [1, 1 + rp, pt]) 1 3 19 20 v
  | 82 => CmB m x (howL wd rp pt) v
  | _ => True
def E11 (m : Nat) (wd rp pt : Int) (u : Nat → Value) (x : World) : Prop := CmB m x (howL wd rp pt) (u 7)
theorem F11_ext {m R : Nat} {wd rp pt : Int} (e : Ext x y) (s : Nat) (v : Value) (h : F11 m R wd rp pt s v x) : F11 m R wd rp pt s v y := by
  unfold F11
  split
  all_goals first | exact CmB.ext e h | exact SlB.ext e h | exact RcB.ext e h | exact TwB.ext e h | exact h | trivial
def cE (n : Nat) (d : Da) (pts : List (Int × Int)) (l : Sl) : Array Value := (sE n true d).cs (pE n true d pts) l
def z72 : List Int := List.replicate 72 16777215
theorem cE_cells (n : Nat) (d : Da) (pts : List (Int × Int)) (l : Sl) : (cE n d pts l)[0]? = some (.int .i64 0) ∧ (cE n d pts l)[1]? = some (.int .i64 9) ∧ (cE n d pts l)[2]? = some (.int .i64 8) ∧ (cE n d pts l)[3]? = some (.slice l.c 72 l.cc) ∧ (cE n d pts l)[4]? = some (.slice l.z 72 l.cz) := by
  refine ⟨rfl, rfl, rfl, ?_, rfl⟩
  have h : (cE n d pts l)[3]? = some (.slice l.c (pE n true d pts).C.length l.cc) := rfl
  rw [h]
  congr 2
  exact endC_len n true d pts
theorem cE_one (n : Nat) (d : Da) (pts : List (Int × Int)) (l : Sl) : ∀ u ∈ (cE n d pts l).toList, u.oneCell' = true := Ps.cs_one _ _ _
theorem cE_size (n : Nat) (d : Da) (pts : List (Int × Int)) (l : Sl) : (cE n d pts l).size = 94 := rfl
def ImB (x : World) (n : Nat) (d : Da) (pts : List (Int × Int)) (l : Sl) : Prop := RdB x 3 1 l.c 72 l.cc (ivs (endC n true d pts)) ∧ RdB x 3 1 l.z 72 l.cz (ivs z72)
theorem ImB.ext {n : Nat} {d : Da} {pts : List (Int × Int)} {l : Sl} (e : Ext x y) (h : ImB x n d pts l) : ImB y n d pts l := ⟨h.1.ext e, h.2.ext e⟩
theorem ImB.keep {n : Nat} {d : Da} {pts : List (Int × Int)} {l : Sl} (h : ImB x n d pts l) (k : ∀ g cs, Blk x g 3 cs → Blk y g 3 cs) : ImB y n d pts l := ⟨h.1.keep k, h.2.keep k⟩
theorem lies_im {n : Nat} {d : Da} {pts : List (Int × Int)} {l : Sl} (h : LiesB (sE n true d) (pE n true d pts) l x) : ImB x n d pts l := by
  have hc : (pE n true d pts).C.length = 72 := endC_len n true d pts
  have h1 := h.lies.c
  rw [hc] at h1
  have h2 := h.lies.z
  exact ⟨⟨h1, fun _ ad e => h.bc (by rw [hc]; decide) ad e⟩, ⟨h2, fun _ ad e => h.bz (show 0 < 72 by decide) ad e⟩⟩
def F13 (m : Nat) (hv lv : Value) (a l : Int × Int) (N K lb lo : Nat) (wd rp pt : Int) (n : Nat) (d : Da) (s : Nat) (v : Value) (x : World) : Prop := match s with
  | 9 => ∃ A, m ≤ A ∧ v = .pointer (some ⟨A, 0, none⟩) ∧ Blk x A 53 Tryz.zeroCells53
  | 90 => ∃ G, v = .slice (some ⟨G, 0, none⟩) 0 0
  | 91 => v = hv
  | 92 => CmB m x (howL wd rp pt) v
  | 93 => v = .agg #[.int .i64 a.1, .int .i64 a.2]
  | 94 => v = lv
  | 95 => v = lv
  | 96 => v = .int .i64 (N : Int)
  | 97 => v = .int .i64 (K : Int)
  | 98 => v = .pointer (some ⟨lb, lo + K * 2, none⟩)
  | 99 => v = .agg #[.int .i64 l.1, .int .i64 l.2]
  | 100 => SlB x 79 2 #[.int .i64 a.1, .int .i64 a.2, .int .i64 l.1, .int .i64 l.2] v
  | 101 => CmB m x (shapeL 2 [a, l]) v
  | 102 => CmB m x (howL wd rp pt ++ shapeL 2 [a, l]) v
  | 103 => ∃ z, v = .agg (cE n d [a, l] z) ∧ ImB x n d [a, l] z
  | _ => True
def E13 (m : Nat) (a l : Int × Int) (n : Nat) (d : Da) (u : Nat → Value) (x : World) : Prop := ∃ A z, m ≤ A ∧ u 9 = .pointer (some ⟨A, 0, none⟩) ∧ Blk x A 53 (cE n d [a, l] z) ∧ ImB x n d [a, l] z
theorem F13_ext {m : Nat} {hv lv : Value} {a l : Int × Int} {N K lb lo : Nat} {wd rp pt : Int} {n : Nat} {d : Da} (e : Ext x y) (s : Nat) (v : Value) (h : F13 m hv lv a l N K lb lo wd rp pt n d s v x) : F13 m hv lv a l N K lb lo wd rp pt n d s v y := by
  unfold F13
  split
  · exact let ⟨A, h1, h2, h3⟩ := h; ⟨A, h1, h2, h3.ext e⟩
  all_goals first | exact CmB.ext e h | exact SlB.ext e h | exact (let ⟨z, h1, h2⟩ := h; ⟨z, h1, h2.ext e⟩) | exact h | trivial
theorem F13_cut {m : Nat} {hv lv : Value} {a l : Int × Int} {N K lb lo : Nat} {wd rp pt : Int} {n : Nat} {d : Da} {b cnt : Nat} {v0 : Value} {xs : List Value} (ho : x.ownsRow b 88 2 v0 cnt xs) (hg : x.grownBy y v0.ownBlock) {s : Nat} (hs : s = 103 ∨ s = 9) {v : Value} (h : F13 m hv lv a l N K lb lo wd rp pt n d s v x) : F13 m hv lv a l N K lb lo wd rp pt n d s v y := by
  rcases hs with rfl | rfl
  · obtain ⟨z, h1, h2⟩ := h
    exact ⟨z, h1, h2.keep (fun g cs hb => hb.grown' hg (own_ne_blk ho hb (by decide)))⟩
  · obtain ⟨A, h1, h2, h3⟩ := h
    exact ⟨A, h1, h2, h3.grown' hg (own_ne_blk ho h3 (by decide))⟩
end
theorem blk_rd2 {w : World} {G : Nat} {T : TypeId} {x0 x1 x2 x3 : Value} (h : Blk w G T #[x0, x1, x2, x3]) : Rd w 2 (some ⟨G, 0, none⟩) 2 2 [x0, x1, x2, x3] :=
  ⟨rfl, Nat.le_refl _, by unfold maxLen; omega, fun _ => ⟨G, 0, rfl, h.lt, fun j hj => by rw [Nat.zero_add, h.cell]; simp⟩⟩
theorem two_cat {w w' : World} {b : Nat} {v v' : Value} {L : List (Int × List Int)} {Q : List Rq} (h : CmdO w b v L Q) {G1 G2 n1 n2 : Nat} {C1 C2 : List Int} {o1 o2 : Int} (h1 : Blk w G1 3 (irow C1)) (h2 : Blk w G2 3 (irow C2)) (l1 : C1.length = n1) (l2 : C2.length = n2) (m1 : n1 ≤ 4096) (m2 : n2 ≤ 4096)
    (hg : w.grownBy w' v.ownBlock) (ho : w'.ownsRow b 88 2 v' (L.length + 2) (Q.flatMap Rq.cells ++ [.int .i64 o1, .slice (some ⟨G1, 0, none⟩) n1 n1, .int .i64 o2, .slice (some ⟨G2, 0, none⟩) n2 n2])) :
    ∃ Q', CmdO w' b v' (L ++ [(o1, C1), (o2, C2)]) Q' :=
  ⟨_, h.cat (M := [(o1, C1), (o2, C2)]) (R := [⟨o1, some ⟨G1, 0, none⟩, n1, n1⟩, ⟨o2, some ⟨G2, 0, none⟩, n2, n2⟩]) rfl (fun k q hq => by
    rcases k with _ | _ | k
    · obtain rfl := Option.some.inj hq
      exact ⟨C1, rfl, blk_rdB h1 l1 m1, m1⟩
    · obtain rfl := Option.some.inj hq
      exact ⟨C2, rfl, blk_rdB h2 l2 m2, m2⟩
    · simp at hq) hg ho⟩
end Go.Proofs.YtplljnfjkkloeaaGreatDoor
