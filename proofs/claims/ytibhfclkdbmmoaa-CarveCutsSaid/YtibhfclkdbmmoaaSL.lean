/- Proof text: all sides (side.List). By an AI agent. No condition beyond what each theorem states. -/
import Derived.Test.YtibhfclkdbmmoaaSF
import Derived.Laws.MakeOwn
import Derived.Deep.LoopGhost
set_option linter.unusedVariables false
set_option linter.unusedSimpArgs false
namespace Go.Proofs.Ytibhfclkdbmmoaa
open Go.RowKit
@[reducible] def Sd.row (s : Sd) : List Value := [.int .i64 s.k, .int .i64 s.p0, .int .i64 s.p1, .int .i64 s.p2, .int .i64 s.p3]
/-- The cells of sides, one behind the other. -/
def srow (l : List Sd) : List Value := l.flatMap Sd.row
theorem srow_len (l : List Sd) : (srow l).length = l.length * 5 := by
  induction l with
  | nil => rfl
  | cons s l ih => simp only [srow, List.flatMap_cons, List.length_append] at ih ⊢; simp only [ih, List.length_cons, List.length_nil]; omega
theorem srow_append (l m : List Sd) : srow (l ++ m) = srow l ++ srow m := by simp [srow]
theorem srow_one (l : List Sd) : ∀ u ∈ srow l, u.oneCell' = true := by
  intro u hu
  obtain ⟨s, _, hs⟩ := List.mem_flatMap.1 hu
  simp only [Sd.row, List.mem_cons, List.not_mem_nil, or_false] at hs
  rcases hs with rfl | rfl | rfl | rfl | rfl <;> rfl
theorem srow_get {l : List Sd} {j : Nat} {s : Sd} (h : l[j]? = some s) (i : Nat) (hi : i < 5) : (srow l)[j * 5 + i]? = s.row[i]? := by
  induction l generalizing j with
  | nil => simp at h
  | cons t l ih =>
    simp only [srow, List.flatMap_cons]
    cases j with
    | zero =>
      obtain rfl : t = s := by simpa using h
      rw [Nat.zero_mul, Nat.zero_add, List.getElem?_append_left (by simpa using hi)]
    | succ j =>
      rw [List.getElem?_append_right (by simp; omega), show (j + 1) * 5 + i - t.row.length = j * 5 + i by simp; omega]
      exact ih (by simpa using h)
theorem side_at {w : World} {b off n cap j : Nat} {l : List Sd} {s : Sd} (h : Rd w 5 (some ⟨b, off, none⟩) n cap (srow l)) (hs : l[j]? = some s) :
    w.cell? ⟨b, off + j * 5, none⟩ = some (.int .i64 s.k) ∧ w.cell? ⟨b, off + j * 5 + 1, none⟩ = some (.int .i64 s.p0) ∧ w.cell? ⟨b, off + j * 5 + 2, none⟩ = some (.int .i64 s.p1) ∧ w.cell? ⟨b, off + j * 5 + 3, none⟩ = some (.int .i64 s.p2) ∧ w.cell? ⟨b, off + j * 5 + 4, none⟩ = some (.int .i64 s.p3) :=
  ⟨h.get rfl ((srow_get hs 0 (by omega)).trans rfl), h.get rfl ((srow_get hs 1 (by omega)).trans rfl), h.get rfl ((srow_get hs 2 (by omega)).trans rfl), h.get rfl ((srow_get hs 3 (by omega)).trans rfl), h.get rfl ((srow_get hs 4 (by omega)).trans rfl)⟩
theorem cells5 {w : World} {g : Nat} {t : TypeId} {s : Sd} (h : Blk w g t s.row.toArray) : w.cell? ⟨g, 0, none⟩ = some (.int .i64 s.k) ∧ w.cell? ⟨g, 1, none⟩ = some (.int .i64 s.p0) ∧ w.cell? ⟨g, 2, none⟩ = some (.int .i64 s.p1) ∧ w.cell? ⟨g, 3, none⟩ = some (.int .i64 s.p2) ∧ w.cell? ⟨g, 4, none⟩ = some (.int .i64 s.p3) :=
  ⟨h.cell 0, h.cell 1, h.cell 2, h.cell 3, h.cell 4⟩
theorem srow_take {l : List Sd} {j : Nat} {s : Sd} (h : l[j]? = some s) (m : List Sd) : srow (m ++ l.take j) ++ s.row = srow (m ++ l.take (j + 1)) := by
  have hj := (List.getElem?_eq_some_iff.1 h).1
  have hs := (List.getElem?_eq_some_iff.1 h).2
  rw [List.take_succ_eq_append_getElem hj, hs, ← List.append_assoc, srow_append (m ++ l.take j)]
  simp [srow]
theorem info_side : (Try.prog.info? 45).map (fun i => (i.zero, i.size, i.bytes)) = some (some (.agg #[.int .i64 0, .int .i64 0, .int .i64 0, .int .i64 0, .int .i64 0]), 5, 40) := by kernel_rfl
theorem size3 : (Try.prog.info? 3).map (·.size) = some 1 := by kernel_rfl
/-- The three sides that always are, while k of them have their kinds. -/
def base3 (k : Nat) : List Sd := [⟨0, 0, 0, 0, 0⟩, ⟨if 1 < k then 1 else 0, 0, 0, 0, 0⟩, ⟨if 2 < k then 2 else 0, 0, 0, 0, 0⟩]
theorem made15 : ∀ n, n < 7 → (madeCells #[.int .i64 0, .int .i64 0, .int .i64 0, .int .i64 0, .int .i64 0] ((3 + n) * 5)).toList.take 15 = srow (base3 0)
  | 0, _ => by kernel_rfl
  | 1, _ => by kernel_rfl
  | 2, _ => by kernel_rfl
  | 3, _ => by kernel_rfl
  | 4, _ => by kernel_rfl
  | 5, _ => by kernel_rfl
  | 6, _ => by kernel_rfl
  | n + 7, h => by omega
theorem make_sides (n : Nat) (hn : n < 7) : ∃ cur : Array Value, ∀ w : World, (Instr.makeSlice 32 (.int .i64 3) (.int .i64 (3 + (n : Int)))).run Try.prog w = .ok (.slice (some ⟨w.heap.size, 0, none⟩) 3 (3 + n)) (w.alloc (.cells cur 45)) ∧
    (w.alloc (.cells cur 45)).ownsRow w.heap.size 45 5 (.slice (some ⟨w.heap.size, 0, none⟩) 3 (3 + n)) 3 (srow (base3 0)) := by
  obtain ⟨i0, hi, hz0, hz1, hz2⟩ := info_parts info_side
  refine ⟨madeCells #[.int .i64 0, .int .i64 0, .int .i64 0, .int .i64 0, .int .i64 0] ((3 + n) * 5), fun w => ⟨?_, ?_, .inr ⟨w.heap.size, 3 + n, _, rfl, Nat.le_refl _, heap_alloc_new w _, by omega, by unfold maxLen; omega, size_madeCells _ _, made15 n hn⟩⟩⟩
  · have h := run_make (P := Try.prog) w 32 45 i0 _ Try.underlying32 hi hz0 .i64 .i64 3 (3 + (n : Int)) (by omega) (by omega) (by rw [hz2]; omega) (by omega)
    rw [hz1, show (3 + (n : Int)).toNat = 3 + n by omega] at h
    exact h
  · rfl
def ListPost (l : List Sd) (w : World) (e : Ending) (w' : World) : Prop := ∃ a c, e = .returned (.tuple #[.slice a (3 + l.length) c, .int .i64 0]) ∧ Rd w' 5 a (3 + l.length) c (srow (base3 3 ++ l)) ∧ Ext w w'
theorem base_step (k : Nat) (hk : k < 3) : (srow (base3 k)).take (k * 5) ++ Value.int .i64 (k : Int) :: (srow (base3 k)).drop (k * 5 + 1) = srow (base3 (k + 1)) := by
  have : k = 0 ∨ k = 1 ∨ k = 2 := by omega
  rcases this with rfl | rfl | rfl <;> rfl
set_option maxRecDepth 100000 in
set_option maxHeartbeats 2000000 in
theorem list_yes (l : List Sd) (a : Option Addr) (n cap : Nat) (w : World) (hr : Rd w 5 a n cap (srow l)) (hl : l.length = n) (hn : n < 7) (hok : ∀ s ∈ l, s.k = 3 ∧ s.Ok) :
    Calls Try.prog 26 #[.slice a n cap] w (ListPost l w) := by
  obtain ⟨cur, hmk⟩ := make_sides n hn
  have HR := Lib.hid hr; clear hr
  have HL := Lib.hid hl; clear hl
  have HO := Lib.hid hok; clear hok
  have m1 := fun W => (hmk W).1
  have M2 := Lib.hid (fun W => (hmk W).2)
  clear hmk
  have d0 : decide ((n : Int) > 6) = false := by simp; omega
  go_enter Try.func26, Try.ntmps26
  go_wp2_with fail
  have ho := M2.out w
  clear m1 M2
  go_loopw [5, 15] (fun _ i wr => ∃ k : Nat, k ≤ 3 ∧ i = .int .i64 k ∧ wr.ownsRow w.heap.size 45 5 (.slice (some ⟨w.heap.size, 0, none⟩) 3 (3 + n)) 3 (srow (base3 k)) ∧ Ext w wr) (fun _ i _ => 3 - (intOf i).toNat)
  case atStart => exact ⟨0, by omega, rfl, ho, by (repeat (first | with_reducible exact Ext.refl _ | with_reducible assumption | with_reducible refine Ext.alloc ?_ _ | with_reducible refine Ext.drew ?_ | with_reducible refine Ext.drewN ?_ _ | with_reducible refine Ext.later ?_ _ | (with_reducible refine Ext.setCell ?_ _ ?hp; case hp => first | (simp; done) | (simp; omega) | omega)))⟩
  case round =>
    obtain ⟨k, hk, rfl, ho, hE⟩ := hrel
    by_cases hlt : k < 3
    · go_wp2_with (refine wpList_store_own rfl (.tmp 22) (.tmp 20) 3 rfl w.heap.size 45 5 w.heap.size 3 (3 + n) (srow (base3 k)) (k * 5) rfl (.int .i64 k) rfl ho size3 ?c1 ?c2 ?_)
      case c1 => simp [Value.cells, Value.oneCell']
      case c2 => simp [Value.cells]; omega
      intro w2 ho2 hg2
      have hE2 : Ext w w2 := hE.grown hg2 (by simp)
      clear hg2 hE
      go_wp2_with fail
      go_roundw
      case rel => exact ⟨k + 1, by omega, by go_num, by rw [← base_step k hlt]; exact ho2, hE2⟩
      case measure => simp [intOf]; omega
    · obtain rfl : k = 3 := by omega
      go_wp2_with fail
      go_loopw [4, 7, 26] (fun vv _ i wr => ∃ (j : Nat) (v : Value), j ≤ n ∧ v = vv ∧ i = .int .i64 j ∧ wr.ownsRow w.heap.size 45 5 v (3 + j) (srow (base3 3 ++ l.take j)) ∧ Ext w wr) (fun _ _ i _ => n - (intOf i).toNat)
      case atStart => exact ⟨0, _, by omega, rfl, rfl, by simpa using ho, hE⟩
      case round =>
        clear ho hE
        obtain ⟨j, v, hj, rfl, rfl, hi, hE⟩ := hrel
        by_cases hlt : j < n
        · obtain ⟨s, hs⟩ : ∃ s, l[j]? = some s := ⟨_, List.getElem?_eq_getElem (by rw [HL.out]; exact hlt)⟩
          obtain ⟨b, off, ha, hb, hcell⟩ := (HR.out.ext hE).at_ (by omega)
          subst ha
          have HR5 := (HR.out.ext hE)
          obtain ⟨c0, c1, c2, c3, c4⟩ := side_at HR5 hs
          have HS := Lib.hid hs
          have hok := HO.out s (List.mem_of_getElem? hs)
          have d1 : (s.k != 3) = false := by simp [hok.1]
          have HK := Lib.hid hok.2
          clear hok hcell HR5 hs
          have HO2 := Lib.hid hi; clear hi
          have HE := Lib.hid hE; clear hE
          go_wp2_with fail
          refine (right_yes s _ HK.out).mono ?_
          rintro e w1 ⟨rfl, hE1⟩
          obtain ⟨x1, rfl⟩ := Later.mk' hE1
          clear hE1
          obtain ⟨k0, k1, k2, k3, k4⟩ := cells5 (s := s) ((Blk.new wr 45 s.row.toArray).later x1)
          have ho := ownsRow_ext HO2.out (((Ext.refl wr).alloc (.cells s.row.toArray 45)).later x1)
          have HE2 := Lib.hid ((HE.out.alloc (.cells s.row.toArray 45)).later x1)
          clear c0 c1 c2 c3 c4
          have HA1 := Lib.hid (news_at x1.w s.row 45)
          go_wp2_with (refine wpList_append_src rfl (.tmp 38) (.tmp 40) 32 rfl w.heap.size 45 _ 5 40 Try.underlying32 info_side rfl (by decide) v (3 + j) (srow (base3 3 ++ l.take j)) rfl (ho.alloc _) ⟨x1.w.heap.size, 0, none⟩ 1 1 s.row rfl rfl ?c1 ?c2 ?c3 (by decide) ?c5 ?_)
          case c1 => simpa [Addr.add] using HA1.out
          case c2 => exact srow_one [s]
          case c3 => omega
          case c5 => have := HE2.out.size; simp; omega
          intro v' w' ho' hg' _
          have HE3 := Lib.hid ((HE2.out.alloc (.cells s.row.toArray 45)).grown hg' (fun k hk => by
            rcases ho.2 with ⟨h0, _⟩ | ⟨g, cap, cur, h0, hb0, _⟩
            · rw [h0] at hk; simp [Value.ownBlock] at hk
            · rw [h0] at hk; simp [Value.ownBlock] at hk; omega))
          rw [srow_take HS.out] at ho'
          clear hg' ho HE HE2 HA1 HO2
          go_wp2_with fail
          go_roundw
          case rel => (repeat apply Exists.intro); exact ⟨⟨j + 1, v', by omega, rfl, by go_num, by rw [← Nat.add_assoc]; exact ho', HE3.out⟩, rfl⟩
          case measure => simp [intOf]; omega
        · obtain rfl : j = n := by omega
          obtain ⟨a', c', rfl, hrd⟩ := ownsRow_rd hi
          go_wp2_with fail
          go_ret2
          refine ⟨a', c', by rw [HL.out]; rfl, ?_, hE⟩
          rw [HL.out]
          rw [List.take_of_length_le (by rw [HL.out]; exact Nat.le_refl _)] at hrd
          exact hrd
end Go.Proofs.Ytibhfclkdbmmoaa
