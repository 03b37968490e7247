/- Proof text: the words of a line (rastrumref29.words). By an AI agent. No condition beyond what each theorem states. -/
import Derived.Test.YtaklnijmcidpkaaDoorLN
set_option linter.unusedVariables false
set_option linter.unusedSimpArgs false
namespace Go.Proofs.YtaklnijmcidpkaaDoor
open Go.RowKit
abbrev svs (l : List (List UInt8)) : List Value := l.map fun x => Value.string ⟨x.toArray⟩
theorem svs_one (l : List (List UInt8)) : ∀ u ∈ svs l, u.oneCell' = true := by
  intro u hu
  obtain ⟨x, _, rfl⟩ := List.mem_map.1 hu
  rfl
theorem own_some {w : World} {base : Nat} {e : TypeId} {size : Nat} {v : Value} {n : Nat} {xs : List Value} (h : w.ownsRow base e size v n xs) (hn : 0 < n) : ∃ g cap, v = .slice (some ⟨g, 0, none⟩) n cap := by
  rcases h.2 with ⟨_, h0⟩ | ⟨g, cap, _, hv, _⟩
  · omega
  · exact ⟨g, cap, hv⟩
theorem info_str : (Tryd.prog.info? 9).map (fun i => (i.zero, i.size, i.bytes)) = some (some (.string ⟨#[]⟩), 1, 16) := by kernel_rfl
theorem size_str : (Tryd.prog.info? 9).map (·.size) = some 1 := by kernel_rfl
/-- Words, the last one open, ahead of more. -/
def glue (pre : List (List UInt8)) (cur : List UInt8) : List (List UInt8) → List (List UInt8)
  | [] => pre ++ [cur]
  | x :: r => pre ++ (cur ++ x) :: r
theorem glue_blank (pre : List (List UInt8)) (cur l : List UInt8) : glue pre cur (splitW (32 :: l)) = glue (pre ++ [cur]) [] (splitW l) := by
  rw [show splitW (32 :: l) = [] :: splitW l by simp [splitW]]
  cases h : splitW l with
  | nil => exact absurd h (splitW_ne l)
  | cons x r => simp [glue]
theorem splitW_byte {l : List UInt8} {b : UInt8} {x : List UInt8} {r : List (List UInt8)} (hb : b ≠ 32) (h : splitW l = x :: r) : splitW (b :: l) = (b :: x) :: r := by rw [splitW, if_neg hb, h]
theorem glue_byte (pre : List (List UInt8)) (cur l : List UInt8) {b : UInt8} (hb : b ≠ 32) : glue pre cur (splitW (b :: l)) = glue pre (cur ++ [b]) (splitW l) := by
  cases h : splitW l with
  | nil => exact absurd h (splitW_ne l)
  | cons x r => rw [splitW_byte hb h]; simp [glue]
theorem glue_nil (pre : List (List UInt8)) (cur : List UInt8) : glue pre cur (splitW []) = pre ++ [cur] := by simp [splitW, glue]
theorem glue_zero (l : List UInt8) : glue [] [] (splitW l) = splitW l := by
  cases h : splitW l with
  | nil => exact absurd h (splitW_ne l)
  | cons x r => simp [glue]
theorem drop_byte {s : ByteArray} {k : Nat} (h : k < s.size) : s.data.toList.drop k = s[k] :: s.data.toList.drop (k + 1) := by
  rw [List.drop_eq_getElem_cons (by rw [← Lib.size_eq]; exact h)]
  rfl
theorem put_last (pre : List (List UInt8)) (cur x : List UInt8) : (svs (pre ++ [cur])).take pre.length ++ (Value.string ⟨x.toArray⟩).cells.toList ++ (svs (pre ++ [cur])).drop (pre.length + (Value.string ⟨x.toArray⟩).cells.size) = svs (pre ++ [x]) := by
  have e1 : (Value.string ⟨x.toArray⟩).cells = #[Value.string ⟨x.toArray⟩] := by simp [Value.cells]
  rw [e1, svs, List.map_append, List.take_left' (by simp), List.drop_of_length_le (by simp)]
  simp [svs]
set_option maxRecDepth 10000 in
set_option maxHeartbeats 1000000 in
theorem words_any (s : ByteArray) (w : World) (hs : s.size ≤ 1000000) : Calls Tryd.prog 32 #[.string s] w fun e w' => ∃ v, e = .returned v ∧ w'.ownsRow w.heap.size 9 1 v (splitW s.data.toList).length (svs (splitW s.data.toList)) ∧ Ext w w' := by
  obtain ⟨tot, ht⟩ : ∃ tot, tot = splitW s.data.toList := ⟨_, rfl⟩
  rw [← ht]
  have HT : Hid (glue [] [] (splitW (s.data.toList.drop 0)) = tot) := Lib.hid (by rw [List.drop_zero, glue_zero, ht])
  clear ht
  go_enter Tryd.func32, Tryd.ntmps32
  go_wp2_with fail
  have HO : Hid ((w.alloc (.cells #[.string ⟨#[]⟩] 9)).ownsRow w.heap.size 9 1 (.slice (some ⟨w.heap.size, 0, none⟩) 1 1) 1 (svs [[]])) := Lib.hid (World.ownsRow_lit w #[.string ⟨#[]⟩] 1 (Nat.le_refl _) (by unfold maxLen; omega) rfl)
  have HE := Lib.hid ((Ext.refl w).alloc (.cells #[.string ⟨#[]⟩] 9))
  go_loopw [3, 4] (fun v i wr => ∃ (k g cap n : Nat) (pre : List (List UInt8)) (cur : List UInt8), k ≤ s.size ∧ v = .slice (some ⟨g, 0, none⟩) n cap ∧ i = .int .i64 k ∧ Hid (n = pre.length + 1) ∧ Hid (wr.ownsRow w.heap.size 9 1 (.slice (some ⟨g, 0, none⟩) n cap) n (svs (pre ++ [cur]))) ∧ Hid (Ext w wr) ∧ Hid (glue pre cur (splitW (s.data.toList.drop k)) = tot) ∧ Hid (pre.length + cur.length ≤ k)) (fun _ i _ => s.size - (intOf i).toNat)
  case atStart => exact ⟨0, w.heap.size, 1, 1, [], [], Nat.zero_le _, rfl, rfl, Lib.hid rfl, HO, HE, HT, Lib.hid (Nat.le_refl _)⟩
  case round =>
    clear HO HE HT
    obtain ⟨k, g, cap, n, pre, cur, hk, rfl, rfl, HN, HO, HE, HT, HB⟩ := hrel
    by_cases hlt : k < s.size
    · have hd := drop_byte hlt
      have ht := HT.out
      rw [hd] at ht
      have i1 : (k : Int) < s.size := by omega
      by_cases h32 : s[k].toNat = 32
      · rw [show s[k] = 32 from UInt8.toNat_inj.1 h32, glue_blank] at ht
        have HT2 := Lib.hid ht
        have t1 : ((s[k].toNat : Int) == 32) = true := by simp; omega
        clear ht hd HT h32
        go_wp2_with (refine wpList_append_rd rfl (.tmp 16) (.tmp 17) 48 rfl w.heap.size 9 _ 1 16 Tryd.underlying48 info_str rfl (by decide) (.slice (some ⟨g, 0, none⟩) n cap) n (svs (pre ++ [cur])) rfl (HO.out.alloc _) (some ⟨wr.heap.size, 0, none⟩) 1 1 (svs [[]]) rfl (Rd_new wr (svs [[]]) 9 1 1 rfl (by unfold maxLen; omega)) (svs_one _) ?_ (by decide) ?_ ?_)
        · have h1 := HN.out; have h2 := HB.out; omega
        · have := HE.out.size; simp; omega
        intro v' w5 ho hg
        have HE5 := Lib.hid ((HE.out.alloc _).grown hg (fun k hk => (HO.out.lt _ hk).1))
        obtain ⟨g', cap', rfl⟩ := own_some ho (Nat.succ_pos _)
        have ho2 : w5.ownsRow w.heap.size 9 1 (.slice (some ⟨g', 0, none⟩) (n + 1) cap') (n + 1) (svs ((pre ++ [cur]) ++ [[]])) := by
          simpa [svs] using ho
        have HO5 := Lib.hid ho2
        have hN : Hid (n + 1 = (pre ++ [cur]).length + 1) := Lib.hid (by rw [HN.out]; simp)
        have hB : Hid ((pre ++ [cur]).length + ([] : List UInt8).length ≤ k + 1) := Lib.hid (by have := HB.out; simp; omega)
        clear ho hg ho2 HO HE HN HB
        go_wp2_with fail
        go_roundw
        case rel => first | exact ⟨k + 1, g', cap', n + 1, pre ++ [cur], [], by omega, rfl, by go_num, hN, HO5, HE5, HT2, hB⟩ | ((repeat apply Exists.intro); exact ⟨⟨k + 1, g', cap', n + 1, pre ++ [cur], [], by omega, rfl, by go_num, hN, HO5, HE5, HT2, hB⟩, rfl⟩)
        case measure => simp [intOf]; omega
      · rw [glue_byte _ _ _ (fun e => h32 (by rw [e]; rfl))] at ht
        have HT2 := Lib.hid ht
        have t1 : ((s[k].toNat : Int) == 32) = false := by simp; omega
        clear ht hd HT h32
        obtain ⟨m, hm⟩ : ∃ m, m = pre.length := ⟨_, rfl⟩
        have hnm : n = m + 1 := by rw [HN.out, hm]
        have cc : wr.cell? ⟨g, m, none⟩ = some (.string ⟨cur.toArray⟩) := by
          rw [HO.out.cellAt m (by omega), hm, svs, List.map_append]
          simp
        have hnb : n ≤ 1000001 := by have := HB.out; omega
        have u1 : IntKind.i64.wrap ((n : Int) - 1) = (m : Int) := by rw [IntKind.wrap_i64]; omega
        have u2 : IntKind.i64.wrap ((k : Int) + 1) = (k : Int) + 1 := by rw [IntKind.wrap_i64]; omega
        have v1 : (m : Int) < n := by omega
        have v2 : (0 : Int) ≤ (k : Int) + 1 := by omega
        have v3 : (k : Int) + 1 ≤ s.size := by omega
        have v4 : ((k : Int) + 1).toNat = k + 1 := by omega
        have n1 : k + 1 ≤ s.size := by omega
        have ksz : ¬ 9223372036854775807 < cur.length + 1 := by have := HB.out; omega
        have HM := Lib.hid hm
        have HNM := Lib.hid hnm
        clear hm hnm
        go_upto_region 7 with fail
        refine wp_region_later_tail 17 (by kernel_rfl) (by kernel_rfl) ?_
        simp only [List.take_succ_cons, List.take_zero, List.drop_succ_cons, List.drop_zero]
        repeat (go_big_quiet_step (fail))
        refine wpQuiet_nil ?_
        intro y
        have hE := HE.out.trans y.ext
        have hO := ownsRow_ext HO.out y.ext
        have HEy := Lib.hid hE
        have HOy := Lib.hid hO
        obtain ⟨xs, hxs⟩ : ∃ xs : List Value, xs = svs (pre ++ [cur]) := ⟨_, rfl⟩
        rw [← hxs] at hO
        have HXS := Lib.hid hxs
        refine wpList_store_own rfl (.tmp 35) (.tmp 34) 9 rfl w.heap.size 9 1 g n cap xs m rfl (.string (⟨cur.toArray⟩ ++ s.extract k (k + 1))) rfl hO size_str ?c1 ?c2 ?_
        case c1 => simp [Value.cells]; rfl
        case c2 => simp [Value.cells]; omega
        intro w7 ho hg
        have hcut : (⟨cur.toArray⟩ ++ s.extract k (k + 1) : ByteArray) = ⟨(cur ++ [s[k]]).toArray⟩ := by
          apply data_eq
          rw [ByteArray.data_append, Array.toList_append, ByteArray.data_extract, Array.toList_extract]
          have hd := drop_byte hlt
          simp [List.extract, hd]
        have ho2 : w7.ownsRow w.heap.size 9 1 (.slice (some ⟨g, 0, none⟩) n cap) n (svs (pre ++ [cur ++ [s[k]]])) := by
          rw [hcut, HXS.out, HM.out, put_last] at ho
          exact ho
        have HO7 := Lib.hid ho2
        have HE7 := Lib.hid (HEy.out.grown hg (fun k hk => Option.some.inj hk ▸ (HO.out.lt g rfl).1))
        have hB : Hid (pre.length + (cur ++ [s[k]]).length ≤ k + 1) := Lib.hid (by have := HB.out; simp; omega)
        clear ho hg ho2 hE hO hxs hcut cc u1 u2 v2 v4 ksz
        go_wp2_with fail
        go_roundw
        case rel => first | exact ⟨k + 1, g, cap, n, pre, cur ++ [s[k]], by omega, rfl, by go_num, HN, HO7, HE7, HT2, hB⟩ | ((repeat apply Exists.intro); exact ⟨⟨k + 1, g, cap, n, pre, cur ++ [s[k]], by omega, rfl, by go_num, HN, HO7, HE7, HT2, hB⟩, rfl⟩)
        case measure => simp [intOf]; omega
    · obtain rfl : k = s.size := by omega
      have ht := HT.out
      rw [List.drop_of_length_le (by rw [← Lib.size_eq]; exact Nat.le_refl _), glue_nil] at ht
      have HT2 := Lib.hid ht
      clear ht HT
      go_wp2_with fail
      go_ret
      refine ⟨_, rfl, ?_, HE.out⟩
      rw [← HT2.out]
      have hl : (pre ++ [cur]).length = n := by rw [HN.out]; simp
      rw [hl]
      exact HO.out
end Go.Proofs.YtaklnijmcidpkaaDoor
