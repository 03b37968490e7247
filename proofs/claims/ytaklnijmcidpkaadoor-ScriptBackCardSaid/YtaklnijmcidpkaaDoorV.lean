/- Proof text of the claims about the statements of layer 4 (code). By an AI agent. No condition beyond what each theorem states. -/
import Derived.Test.YtaklnijmcidpkaaDoorO2
import Derived.Deep.RegionHeld3
import Derived.OpenShut
set_option linter.unusedVariables false
set_option linter.unusedSimpArgs false
namespace Go.Proofs.YtaklnijmcidpkaaDoor
open Go.RowKit
/-- What 'Put' hands back. -/
def GivesInts (w : World) (g : Except Int (List Int)) (e : Ending) (w' : World) : Prop :=
  match g with
  | .ok l => ∃ v, e = .returned (.tuple #[v, .int .i64 0]) ∧ w'.ownsRow w.heap.size 3 1 v l.length (ivs l) ∧ Ext w w'
  | .error c => e = .returned (.tuple #[.slice none 0 0, .int .i64 c]) ∧ Ext w w'
theorem putF_cons_none {op : Int} {A : List Int} {r : List R} {acc : List Int} (h : askT op = none) : putF ((op, A) :: r) acc = .error 5 := by simp [putF, h]
theorem putF_cons_bad {op : Int} {A : List Int} {r : List R} {acc : List Int} {l : List (Int × Int)} (h : askT op = some l) (hl : ¬ l.length = A.length) : putF ((op, A) :: r) acc = .error 1 := by simp [putF, h, hl]
theorem putF_cons_ok {op : Int} {A : List Int} {r : List R} {acc : List Int} {l : List (Int × Int)} (h : askT op = some l) (hl : l.length = A.length) : putF ((op, A) :: r) acc = putF r (acc ++ (op :: A)) := by simp [putF, h, hl]

set_option maxHeartbeats 1000000 in
theorem put_any (a : Option Addr) (n cap : Nat) (l : List R) (w : World) (h : Glob w) (hl : RdRecs w a n cap l) : Calls Tryd.prog 23 #[.slice a n cap] w (GivesInts w (putT l)) := by
  have HL := Lib.hid hl
  have Hg := Lib.hid h
  have Hn := Lib.hid hl.len
  have hn := hl.le63
  clear hl h
  by_cases h4 : 4096 < n
  · have hd : decide ((n : Int) > 4096) = true := by simp; omega
    have e0 : putT l = .error 12 := by unfold putT; rw [if_pos (by rw [Hn.out]; exact h4)]
    rw [e0]
    clear e0
    go_enter Tryd.func23, Tryd.ntmps23
    go_wp2
    go_ret2
    exact ⟨rfl, Ext.refl w⟩
  · have hd : decide ((n : Int) > 4096) = false := by simp; omega
    have HT : Hid (putF (l.drop 0) [] = putT l) := by unfold putT; rw [if_neg (by rw [Hn.out]; exact h4)]; rfl
    generalize putT l = tot at HT ⊢
    go_enter Tryd.func23, Tryd.ntmps23
    go_wp2
    go_loopw [4, 14] (fun v i wr => ∃ (k : Nat) (acc : List Int), k ≤ n ∧ i = .int .i64 k ∧ wr.ownsRow w.heap.size 3 1 v acc.length (ivs acc) ∧ acc.length ≤ 17 * k ∧ Ext w wr ∧ Hid (putF (l.drop k) acc = tot)) (fun _ i _ => n - (intOf i).toNat)
    case atStart => exact ⟨0, [], Nat.zero_le _, rfl, World.ownsRow_nil _ _ _ _, by simp, Ext.refl _, HT⟩
    case round =>
      obtain ⟨k, acc, hk, rfl, ho, hacc, hEr, HT⟩ := hrel
      by_cases hlt : k < n
      · have hkl : k < l.length := by rw [Hn.out]; exact hlt
        obtain ⟨b, off, ak, ck, rfl, z1, z2, x3⟩ := HL.out.at_ k hlt
        have x1 := hEr.cell_some z1
        have x2 := hEr.cell_some z2
        clear z1 z2
        have HT2 := Lib.hid (show putF (l.getD k (0, []) :: l.drop (k + 1)) acc = tot by rw [← drop_rec hkl]; exact HT.out)
        have HE := Lib.hid hEr
        have X3 := Lib.hid x3
        have HO := Lib.hid ho
        clear HT hkl hEr x3 ho
        generalize l.getD k (0, []) = r at x1 x2 X3 HT2
        obtain ⟨op, A⟩ := r
        simp only at x1 x2 X3
        have hki : (k : Int) < (n : Int) := by omega
        have hk0 : (0 : Int) ≤ (k : Int) := by omega
        have hkd : decide ((k : Int) < (n : Int)) = true := by simp; omega
        have hA63 := X3.out.nat_le
        have AR := Lib.hid (fun w1 (e1 : Ext wr w1) => arity_any op w1 (Hg.out.ext (HE.out.trans e1)))
        cases hask : askT op with
        | none =>
          have hh := HT2.out
          rw [putF_cons_none hask] at hh
          subst hh
          rw [hask] at AR
          clear HT2 hask
          go_wp2_with (go_at_call 31; refine (AR.out _ ((Ext.refl wr).alloc _)).mono ?_; rintro e w1 ⟨rfl, hE1⟩; simp only [Option.isSome_none])
          go_ret2
          exact ⟨rfl, (HE.out.alloc _).trans hE1⟩
        | some q =>
          rw [hask] at AR
          have hq16 : q.length ≤ 16 := by have := ask_len op; rw [hask] at this; exact this
          by_cases hqa : q.length = A.length
          · have hh := HT2.out
            rw [putF_cons_ok hask hqa] at hh
            have HT3 := Lib.hid hh
            have hne : ((q.length : Int) != (A.length : Int)) = false := by simp [hqa]
            have hA16 : A.length ≤ 16 := by omega
            clear HT2 hask hh hqa
            go_wp2_with (first
              | (go_at_call 31; refine (AR.out _ ((Ext.refl wr).alloc _)).mono ?_; rintro e w1 ⟨rfl, hE1⟩; obtain ⟨x, rfl⟩ := Later.mk' hE1; simp only [Option.isSome_some, Option.getD_some])
              | (refine wpList_append_rd rfl (.tmp 31) (.tmp 34) 39 rfl w.heap.size 3 _ 1 8 Tryd.underlying39 info3 rfl (by decide) u4 acc.length (ivs acc) rfl ((ownsRow_ext HO.out (((Ext.refl wr).alloc _).later x)).alloc _) (some ⟨x.w.heap.size, 0, none⟩) 1 1 [.int .i64 op] rfl (Rd_new x.w [.int .i64 op] 3 1 1 rfl (by unfold maxLen; omega)) (ivs_one [op]) ?d1 (by decide) ?d2 ?_))
            case d1 => omega
            case d2 => exact Nat.le_trans (Nat.le_trans (((HE.out.alloc _).later x)).size (Nat.le_of_lt (by simp))) (Nat.le_refl _)
            intro v1 w2 ho2 hg2
            have hE2 : Ext (wr.alloc (.cells #[.int .i64 op, .slice ak A.length ck] 41)) x.w := x.ext
            have hB2 : Ext w w2 := (((HE.out.alloc _).later x).alloc _).grown hg2 (fun j hj => (HO.out.lt j hj).1)
            have c1 : w2.cell? ⟨wr.heap.size, 1, none⟩ = some (.slice ak A.length ck) := hg2.cell (by simp [go_sem]) (fun hc => by have h9 : wr.heap.size < wr.heap.size := (HO.out.lt _ hc.symm).2; omega)
            have HO2 := Lib.hid ho2
            have HB2 := Lib.hid hB2
            clear ho2 hg2 hB2 hE2
            go_wp2_with (refine wpList_append_rd rfl (.tmp 36) (.tmp 38) 39 rfl w.heap.size 3 _ 1 8 Tryd.underlying39 info3 rfl (by decide) v1 (acc.length + 1) (ivs acc ++ [.int .i64 op]) rfl HO2.out ak A.length ck (ivs A) rfl (X3.out.ext HB2.out) (ivs_one A) ?d1 (by decide) ?d2 ?_)
            case d1 => omega
            case d2 => exact HB2.out.size
            intro v2 w3 ho3 hg3
            have hB3 : Ext w w3 := HB2.out.grown hg3 (fun j hj => (HO2.out.lt j hj).1)
            clear hg3
            go_wp2
            go_roundw
            case rel =>
              refine ⟨k + 1, acc ++ (op :: A), by omega, by go_num, ?_, by simp; omega, hB3, HT3⟩
              have e1 : (acc ++ (op :: A)).length = acc.length + 1 + A.length := by simp; omega
              have e2 : ivs (acc ++ (op :: A)) = ivs acc ++ [.int .i64 op] ++ ivs A := by simp
              rw [e1, e2]
              simpa using ho3
            case measure => simp [intOf]; omega
          · have hh := HT2.out
            rw [putF_cons_bad hask hqa] at hh
            subst hh
            have hne : ((q.length : Int) != (A.length : Int)) = true := by simp; omega
            clear HT2 hask hqa
            go_wp2_with (go_at_call 31; refine (AR.out _ ((Ext.refl wr).alloc _)).mono ?_; rintro e w1 ⟨rfl, hE1⟩; obtain ⟨x, rfl⟩ := Later.mk' hE1; simp only [Option.isSome_some, Option.getD_some])
            go_ret2
            exact ⟨rfl, (HE.out.alloc _).later x⟩
      · go_wp2
        go_ret2
        have hh := HT.out
        rw [List.drop_of_length_le (by rw [Hn.out]; omega)] at hh
        have hh2 : Except.ok acc = tot := hh
        subst hh2
        exact ⟨_, rfl, ho, hEr⟩
end Go.Proofs.YtaklnijmcidpkaaDoor
