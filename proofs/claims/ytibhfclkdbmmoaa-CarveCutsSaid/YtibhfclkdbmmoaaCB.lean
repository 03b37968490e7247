/- Proof text: corners of vertices and flags, and back (carve.corners, carve.parts, carve.meet). By an AI agent. No condition beyond what each theorem states. -/
import Derived.Test.YtibhfclkdbmmoaaCA
import Derived.Laws.OwnMore
import Derived.RegionTactic
import Derived.Deep.CutRange
set_option linter.unusedVariables false
set_option linter.unusedSimpArgs false
namespace Go.Proofs.Ytibhfclkdbmmoaa
open Go.RowKit
theorem made_rows {α : Type} {f : α → List Value} {K : Nat} (hK : ∀ s, (f s).length = K) (h0 : 0 < K) (s : α) (z : Array Value) (hz : z.toList = f s) (n : Nat) : (madeCells z (n * K)).toList = (List.replicate n s).flatMap f := by
  have hzs : z.size = K := by rw [← Array.length_toList, hz, hK]
  apply List.ext_getElem?
  intro i
  by_cases hi : i < n * K
  · have h1 : (List.replicate n s)[i / K]? = some s := by
      rw [List.getElem?_replicate, if_pos (Nat.div_lt_of_lt_mul (by rw [Nat.mul_comm]; exact hi))]
    have h2 := frow_get hK h1 (i % K) (Nat.mod_lt _ h0)
    rw [Nat.div_add_mod' i K] at h2
    have h3 : i % K < z.size := by rw [hzs]; exact Nat.mod_lt _ h0
    rw [h2, ← hz]
    simp only [madeCells, hzs, Array.getElem?_toList, Array.getElem?_map, Array.getElem?_range, hi, if_true, Option.map_some]
    rw [Array.getElem?_eq_getElem h3, getElem!_pos z (i % K) h3]
  · rw [List.getElem?_eq_none (by rw [Array.length_toList, size_madeCells]; omega), List.getElem?_eq_none (by rw [frow_len hK]; simpa using hi)]
theorem make_own {P : Program} {α : Type} {f : α → List Value} {K bytes : Nat} (hK : ∀ s, (f s).length = K) (h0 : 0 < K) (s : α) (t e : TypeId) (z : Value) (ht : P.underlying t = some (.slice e)) (hinfo : (P.info? e).map (fun i => (i.zero, i.size, i.bytes)) = some (some z, K, bytes))
    (hz : z.cells.toList = f s) (n : Nat) (hb : (bytes : Int) * n ≤ 281474976710656) (hm : n ≤ maxLen) :
    ∃ cur : Array Value, ∀ w : World, (Instr.makeSlice t (.int .i64 (n : Int)) (.int .i64 (n : Int))).run P w = .ok (.slice (some ⟨w.heap.size, 0, none⟩) n n) (w.alloc (.cells cur e)) ∧
      ∀ base, base ≤ w.heap.size → (w.alloc (.cells cur e)).ownsRow base e K (.slice (some ⟨w.heap.size, 0, none⟩) n n) n ((List.replicate n s).flatMap f) := by
  obtain ⟨i0, hi, hz0, hz1, hz2⟩ := info_parts hinfo
  refine ⟨madeCells z.cells (n * K), fun w => ⟨?_, fun base hbase => ?_⟩⟩
  · have h := run_make (P := P) w t e i0 _ ht hi hz0 .i64 .i64 (n : Int) (n : Int) (by omega) (Int.le_refl _) (by rw [hz2]; exact hb) (by unfold maxLen at hm; omega)
    rw [hz1, show ((n : Int)).toNat = n by omega] at h
    exact h
  · rw [← made_rows hK h0 s z.cells hz n]
    exact World.ownsRow_lit w _ n hbase hm (size_madeCells _ _)
/-- Some cells of one element are written. -/
theorem frow_put {α : Type} {f : α → List Value} {K : Nat} (hK : ∀ s, (f s).length = K) {i : Nat} {us : List Value} {s s' : α} (hi : i + us.length ≤ K) (hf : f s' = (f s).take i ++ us ++ (f s).drop (i + us.length)) :
    ∀ {l : List α} {j : Nat}, l[j]? = some s → (l.flatMap f).take (j * K + i) ++ us ++ (l.flatMap f).drop (j * K + i + us.length) = (l.set j s').flatMap f
  | [], j, h => by simp at h
  | t :: l, 0, h => by
    obtain rfl : t = s := by simpa using h
    simp only [List.set_cons_zero, List.flatMap_cons]
    have hk := hK t
    rw [Nat.zero_mul, Nat.zero_add, List.take_append_of_le_length (by omega), List.drop_append_of_le_length (by omega), hf]
    simp only [List.append_assoc]
  | t :: l, j + 1, h => by
    have ih := frow_put hK hi hf (l := l) (j := j) (by simpa using h)
    simp only [List.set_cons_succ, List.flatMap_cons]
    have hk := hK t
    rw [← ih, show (j + 1) * K + i = (f t).length + (j * K + i) by rw [hk, Nat.succ_mul]; omega, List.take_length_add_append, Nat.add_assoc, List.drop_length_add_append]
    simp only [List.append_assoc]
theorem set_upto {α : Type} {l m : List α} {j n : Nat} {s : α} (hl : l.length = n) (hj : j < n) (h : ∀ k, k < j → l[k]? = m[k]?) (hm : m[j]? = some s) : ∀ k, k < j + 1 → (l.set j s)[k]? = m[k]? := by
  intro k hk
  by_cases h1 : k = j
  · subst h1
    rw [List.getElem?_set_self (by omega), hm]
  · rw [List.getElem?_set_ne (by omega)]
    exact h k (by omega)
/-- Corners of vertices and flags. -/
def cns (l : List Vx) (e : List Bool) : List Cn := (l.zip e).map fun p => ⟨p.1, 0, p.2⟩
theorem cns_len {l : List Vx} {e : List Bool} {n : Nat} (hl : l.length = n) (he : e.length = n) : (cns l e).length = n := by simp [cns, hl, he]
theorem cns_get {l : List Vx} {e : List Bool} {j : Nat} {v : Vx} {x : Bool} (hv : l[j]? = some v) (hx : e[j]? = some x) : (cns l e)[j]? = some ⟨v, 0, x⟩ := by
  simp [cns, List.zip, List.getElem?_zipWith, hv, hx]
theorem info_corner : (Try.prog.info? 88).map (fun i => (i.zero, i.size, i.bytes)) = some (some (.agg #[.int .i64 0, .int .i64 0, .int .i64 0, .int .i64 0, .int .i64 0, .int .i64 0, .int .i64 0, .int .i64 0, .int .i64 0, .bool false]), 10, 80) := by kernel_rfl
theorem info_vert : (Try.prog.info? 25).map (fun i => (i.zero, i.size, i.bytes)) = some (some (.agg #[.int .i64 0, .int .i64 0, .int .i64 0, .int .i64 0, .int .i64 0, .int .i64 0, .int .i64 0, .int .i64 0]), 8, 64) := by kernel_rfl
theorem info_bool : (Try.prog.info? 4).map (fun i => (i.zero, i.size, i.bytes)) = some (some (.bool false), 1, 1) := by kernel_rfl
theorem size_corner : (Try.prog.info? 88).map (·.size) = some 10 := by kernel_rfl
theorem size_vert : (Try.prog.info? 25).map (·.size) = some 8 := by kernel_rfl
theorem size_bool : (Try.prog.info? 4).map (·.size) = some 1 := by kernel_rfl
def Cn0 : Cn := ⟨⟨0, 0, 0, 0, 0, 0, 0, 0⟩, 0, false⟩
theorem make_cns (n : Nat) (hn : n ≤ 1000000) : ∃ cur : Array Value, ∀ w : World, (Instr.makeSlice 62 (.int .i64 (n : Int)) (.int .i64 (n : Int))).run Try.prog w = .ok (.slice (some ⟨w.heap.size, 0, none⟩) n n) (w.alloc (.cells cur 88)) ∧
      ∀ base, base ≤ w.heap.size → (w.alloc (.cells cur 88)).ownsRow base 88 10 (.slice (some ⟨w.heap.size, 0, none⟩) n n) n (crows (List.replicate n Cn0)) :=
  make_own (f := Cn.rl) (K := 10) (fun _ => rfl) (by omega) Cn0 _ _ _ Try.underlying62 info_corner rfl n (by omega) (by unfold maxLen; omega)
theorem make_verts (n : Nat) (hn : n ≤ 1000000) : ∃ cur : Array Value, ∀ w : World, (Instr.makeSlice 36 (.int .i64 (n : Int)) (.int .i64 (n : Int))).run Try.prog w = .ok (.slice (some ⟨w.heap.size, 0, none⟩) n n) (w.alloc (.cells cur 25)) ∧
      ∀ base, base ≤ w.heap.size → (w.alloc (.cells cur 25)).ownsRow base 25 8 (.slice (some ⟨w.heap.size, 0, none⟩) n n) n (vrows (List.replicate n ⟨0, 0, 0, 0, 0, 0, 0, 0⟩)) :=
  make_own (f := Vx.rl) (K := 8) (fun _ => rfl) (by omega) ⟨0, 0, 0, 0, 0, 0, 0, 0⟩ _ _ _ Try.underlying36 info_vert rfl n (by omega) (by unfold maxLen; omega)
theorem make_bools (n : Nat) (hn : n ≤ 1000000) : ∃ cur : Array Value, ∀ w : World, (Instr.makeSlice 37 (.int .i64 (n : Int)) (.int .i64 (n : Int))).run Try.prog w = .ok (.slice (some ⟨w.heap.size, 0, none⟩) n n) (w.alloc (.cells cur 4)) ∧
      ∀ base, base ≤ w.heap.size → (w.alloc (.cells cur 4)).ownsRow base 4 1 (.slice (some ⟨w.heap.size, 0, none⟩) n n) n (brows (List.replicate n false)) :=
  make_own (f := fun b => [Value.bool b]) (K := 1) (fun _ => rfl) (by omega) false _ _ _ Try.underlying37 info_bool rfl n (by omega) (by unfold maxLen; omega)
theorem crows_put {l : List Cn} {j : Nat} {s s' : Cn} (h : l[j]? = some s) : (crows l).take (j * 10) ++ s'.row.toList ++ (crows l).drop (j * 10 + 10) = crows (l.set j s') :=
  frow_put (f := Cn.rl) (K := 10) (fun _ => rfl) (i := 0) (us := s'.rl) (s := s) (by simp) (by simp) h
theorem crows_in {l : List Cn} {j : Nat} {s : Cn} {d : Int} (h : l[j]? = some s) : (crows l).take (j * 10 + 8) ++ [Value.int .i64 d] ++ (crows l).drop (j * 10 + 8 + 1) = crows (l.set j ⟨s.v, d, s.on⟩) :=
  frow_put (f := Cn.rl) (K := 10) (fun _ => rfl) (i := 8) (us := [.int .i64 d]) (s := s) (by simp) (by simp) h
theorem vrows_put {l : List Vx} {j : Nat} {s s' : Vx} (h : l[j]? = some s) : (vrows l).take (j * 8) ++ s'.row.toList ++ (vrows l).drop (j * 8 + 8) = vrows (l.set j s') :=
  frow_put (f := Vx.rl) (K := 8) (fun _ => rfl) (i := 0) (us := s'.rl) (s := s) (by simp) (by simp) h
theorem brows_put {l : List Bool} {j : Nat} {s s' : Bool} (h : l[j]? = some s) : (brows l).take j ++ [Value.bool s'] ++ (brows l).drop (j + 1) = brows (l.set j s') := by
  have := frow_put (f := fun b => [Value.bool b]) (K := 1) (fun _ => rfl) (i := 0) (us := [.bool s']) (s := s) (s' := s') (by simp) (by simp) h
  rw [Nat.mul_one, Nat.add_zero] at this
  exact this
set_option maxRecDepth 100000 in
set_option maxHeartbeats 2000000 in
theorem corners_any (l : List Vx) (e : List Bool) (A B : Option Addr) (n ca cb : Nat) (w : World) (hA : Rd w 8 A n ca (vrows l)) (hB : Rd w 1 B n cb (brows e)) (hl : l.length = n) (he : e.length = n) (hn : n ≤ 131072) :
    Calls Try.prog 34 #[.slice A n ca, .slice B n cb] w fun x w' => ∃ v, x = .returned v ∧ w'.ownsRow w.heap.size 88 10 v n (crows (cns l e)) ∧ Ext w w' := by
  obtain ⟨cur, hmk⟩ := make_cns n (by omega)
  have HA := Lib.hid hA; clear hA
  have HB := Lib.hid hB; clear hB
  have HL := Lib.hid hl; clear hl
  have HE := Lib.hid he; clear he
  have HC := Lib.hid (cns_len HL.out HE.out)
  have hni : (n : Int) ≤ 131072 := by omega
  clear hn
  have m1 := fun W => (hmk W).1
  have M2 := Lib.hid (fun W => (hmk W).2)
  clear hmk
  go_enter Try.func34, Try.ntmps34
  go_wp2_with fail
  have ho := M2.out w w.heap.size (Nat.le_refl _)
  clear m1 M2
  go_loopw [6, 7, 13] (fun _ _ i wr => ∃ (j : Nat) (L : List Cn), j ≤ n ∧ i = .int .i64 j ∧ L.length = n ∧ Hid (∀ k, k < j → L[k]? = (cns l e)[k]?) ∧ wr.ownsRow w.heap.size 88 10 (.slice (some ⟨w.heap.size, 0, none⟩) n n) n (crows L) ∧ Ext w wr) (fun _ _ i _ => n - (intOf i).toNat)
  case atStart => exact ⟨0, _, Nat.zero_le _, rfl, by simp, Lib.hid (fun k hk => by omega), ho, by (repeat (first | with_reducible exact Ext.refl _ | with_reducible assumption | with_reducible refine Ext.alloc ?_ _ | with_reducible refine Ext.drew ?_ | with_reducible refine Ext.drewN ?_ _ | with_reducible refine Ext.later ?_ _ | (with_reducible refine Ext.setCell ?_ _ ?hp; case hp => first | (simp; done) | (simp; omega) | omega)))⟩
  case round =>
    clear ho
    obtain ⟨j, L, hj, rfl, hLn, HJ, ho, hE⟩ := hrel
    by_cases hlt : j < n
    · obtain ⟨v, hv⟩ : ∃ v, l[j]? = some v := ⟨_, List.getElem?_eq_getElem (by rw [HL.out]; exact hlt)⟩
      obtain ⟨x, hx⟩ : ∃ x, e[j]? = some x := ⟨_, List.getElem?_eq_getElem (by rw [HE.out]; exact hlt)⟩
      obtain ⟨s, hs⟩ : ∃ s, L[j]? = some s := ⟨_, List.getElem?_eq_getElem (by rw [hLn]; exact hlt)⟩
      obtain ⟨b1, o1, ha1, _, _⟩ := HA.out.at_ (by omega)
      obtain ⟨b2, o2, ha2, _, _⟩ := HB.out.at_ (by omega)
      subst ha1; subst ha2
      obtain ⟨c0, c1, c2, c3, c4, c5, c6, c7⟩ := vert_at (HA.out.ext hE) hv
      have f1 := flag_at (HB.out.ext hE) hx
      have HX := Lib.hid (cns_get hv hx)
      have HS := Lib.hid hs
      have HO := Lib.hid ho; clear ho
      have HEr := Lib.hid hE; clear hE
      have HLn := Lib.hid hLn; clear hLn
      clear hv hx hs
      go_upto_region 5 with fail
      refine wp_region_later_tail 9 (by kernel_rfl) (by kernel_rfl) ?_
      simp only [List.take_succ_cons, List.take_zero, List.drop_succ_cons, List.drop_zero]
      repeat (go_big_quiet_step (fail))
      refine wpQuiet_nil ?_
      intro y
      refine wpList_store_own rfl (.tmp 26) (.tmp 25) 88 rfl w.heap.size 88 10 w.heap.size n n (crows L) (j * 10) rfl (Cn.val ⟨v, 0, x⟩) rfl (ownsRow_ext (HO.out.alloc _) y.ext) size_corner ?c1 ?c2 ?_
      case c1 => exact crows_one [⟨v, 0, x⟩]
      case c2 => simp [Value.cells]; omega
      intro w2 ho2 hg2
      have HE2 := Lib.hid (((HEr.out.alloc (.cells v.row 25)).later y).grown hg2 (by simp))
      have ho3 : w2.ownsRow w.heap.size 88 10 (.slice (some ⟨w.heap.size, 0, none⟩) n n) n (crows (L.set j ⟨v, 0, x⟩)) := by
        rw [← crows_put HS.out]; exact ho2
      have HO3 := Lib.hid ho3
      have HJ2 := Lib.hid (set_upto HLn.out hlt HJ.out HX.out)
      clear ho2 ho3 hg2 c0 c1 c2 c3 c4 c5 c6 c7 f1
      go_wp2_with fail
      go_roundw
      case rel => first | exact ⟨j + 1, _, by omega, by go_num, by rw [List.length_set]; exact HLn.out, HJ2, HO3.out, HE2.out⟩ | ((repeat apply Exists.intro); exact ⟨⟨j + 1, _, by omega, by go_num, by rw [List.length_set]; exact HLn.out, HJ2, HO3.out, HE2.out⟩, rfl⟩)
      case measure => simp [intOf]; omega
    · obtain rfl : j = n := by omega
      obtain rfl := list_same hLn HC.out HJ.out
      have HO := Lib.hid ho; clear ho
      have HEr := Lib.hid hE; clear hE
      go_wp2_with fail
      go_ret
      exact ⟨_, rfl, HO.out, HEr.out⟩
end Go.Proofs.Ytibhfclkdbmmoaa
