/- Proof text of the claims about the statements of layer 4 (code). By an AI agent. No condition beyond what each theorem states. -/
import Derived.Test.YtaklnijmcidpkaaDoorV
import Derived.Deep.RegionHeld3
import Derived.OpenShut
set_option linter.unusedVariables false
set_option linter.unusedSimpArgs false
namespace Go.Proofs.YtaklnijmcidpkaaDoor
open Go.RowKit
set_option maxHeartbeats 1000000 in
theorem rput_any (a : Option Addr) (n cap : Nat) (l : List R) (w : World) (hl : RdRecs w a n cap l) : Calls Tryd.prog 27 #[.slice a n cap] w (GivesInts w (putT l)) := by
  have HL := Lib.hid hl
  have Hn := Lib.hid hl.len
  have hn := hl.le63
  clear hl
  by_cases h4 : 4096 < n
  · have hd : decide ((n : Int) > 4096) = true := by simp; omega
    have e0 : putT l = .error 12 := by unfold putT; rw [if_pos (by rw [Hn.out]; exact h4)]
    rw [e0]
    clear e0
    go_enter Tryd.func27, Tryd.ntmps27
    go_wp2
    go_ret2
    exact ⟨rfl, Ext.refl w⟩
  · have hd : decide ((n : Int) > 4096) = false := by simp; omega
    have HT : Hid (putF (l.drop 0) [] = putT l) := by unfold putT; rw [if_neg (by rw [Hn.out]; exact h4)]; rfl
    generalize putT l = tot at HT ⊢
    go_enter Tryd.func27, Tryd.ntmps27
    go_wp2
    go_loopw [4, 5] (fun v i wr => ∃ (k : Nat) (acc : List Int), k ≤ n ∧ i = .int .i64 k ∧ wr.ownsRow w.heap.size 3 1 v acc.length (ivs acc) ∧ acc.length ≤ 17 * k ∧ Ext w wr ∧ Hid (putF (l.drop k) acc = tot)) (fun _ i _ => n - (intOf i).toNat)
    case atStart => exact ⟨0, [], Nat.zero_le _, rfl, World.ownsRow_nil _ _ _ _, by simp, Ext.refl _, HT⟩
    case round =>
      obtain ⟨k, acc, hk, rfl, ho, hacc, hEr, HT⟩ := hrel
      by_cases hlt : k < n
      · have hkl : k < l.length := by rw [Hn.out]; exact hlt
        obtain ⟨b, off, ak, ck, rfl, z1, z2, x3⟩ := HL.out.at_ k hlt
        have x1 := hEr.cell_some z1
        have x2 := hEr.cell_some z2
        have HT2 := Lib.hid (show putF (l.getD k (0, []) :: l.drop (k + 1)) acc = tot by rw [← drop_rec hkl]; exact HT.out)
        have HE := Lib.hid hEr
        have X3 := Lib.hid x3
        have HO := Lib.hid ho
        clear HT hkl hEr x3 ho
        generalize l.getD k (0, []) = r at x1 x2 z1 z2 X3 HT2
        obtain ⟨op, A⟩ := r
        simp only at x1 x2 z1 z2 X3
        have Z1 := Lib.hid z1
        have Z2 := Lib.hid z2
        clear z1 z2
        have hki : (k : Int) < (n : Int) := by omega
        have hk0 : (0 : Int) ≤ (k : Int) := by omega
        have hkd : decide ((k : Int) < (n : Int)) = true := by simp; omega
        have hA63 := X3.out.nat_le
        have RR := Lib.hid (fun w1 (e1 : Ext w w1) => rright_any op ak A.length ck A w1 (X3.out.ext e1))
        have HB := Lib.hid (ask_bounds op)
        cases hask : askT op with
        | none =>
          have hh := HT2.out
          rw [putF_cons_none hask] at hh
          subst hh
          rw [← HB.out, hask] at RR
          have RR2 := Lib.hid (show ∀ w1, Ext w w1 → Calls Tryd.prog 37 #[.agg #[.int .i64 op, .slice ak A.length ck]] w1 fun e w' => e = .returned (.int .i64 5) ∧ Ext w1 w' from RR.out)
          clear HT2 hask RR
          go_wp2_with (go_at_call 37; refine (RR2.out _ HE.out).mono ?_; rintro e w1 ⟨rfl, hE1⟩)
          go_ret2
          exact ⟨rfl, HE.out.trans hE1⟩
        | some q =>
          rw [← HB.out, hask] at RR
          have hq16 : q.length ≤ 16 := by have := ask_len op; rw [hask] at this; exact this
          by_cases hqa : q.length = A.length
          · have hh := HT2.out
            rw [putF_cons_ok hask hqa] at hh
            have HT3 := Lib.hid hh
            have hA16 : A.length ≤ 16 := by omega
            obtain ⟨ev, hev, RR2⟩ : ∃ ev : Int, (ev = 0 ∨ ev = 4) ∧ Hid (∀ w1, Ext w w1 → Calls Tryd.prog 37 #[.agg #[.int .i64 op, .slice ak A.length ck]] w1 fun e w' => e = .returned (.int .i64 ev) ∧ Ext w1 w') :=
              ⟨rightT (some q) A, by simp only [rightT]; rw [if_pos hqa]; split <;> simp, RR.out⟩
            clear HT2 hask hh hqa RR
            rcases hev with rfl | rfl
            all_goals
              go_wp2_with (go_at_call 37; refine (RR2.out _ HE.out).mono ?_; rintro e w2 ⟨rfl, hE2⟩)
              have y1 := hE2.cell_some x1
              have y2 := hE2.cell_some x2
              have HE2 := Lib.hid hE2
              clear hE2 x1 x2
              go_region_held3 (fun w' => w'.cell? ⟨b, off + k * 2, none⟩ = some (.int .i64 op) ∧ w'.cell? ⟨b, off + k * 2 + 1, none⟩ = some (.slice ak A.length ck)) (first | exact ⟨y1, y2⟩ | exact ⟨y3, y4⟩ | exact ⟨y5, y6⟩ | go_keep)
                ((first
                  | (refine step_append_rd rfl (.tmp 28) (.tmp 34) 39 rfl w.heap.size 3 _ 1 8 Tryd.underlying39 info3 rfl (by decide) u4 acc.length (ivs acc) rfl ?_ (some ⟨w2.heap.size, 0, none⟩) 1 1 [.int .i64 op] rfl ?_ (ivs_one [op]) ?_ (by decide) ?_ ?_; exact ((ownsRow_ext HO.out HE2.out).alloc _).drew; exact (Rd_new w2 [.int .i64 op] 3 1 1 rfl (by unfold maxLen; omega)).ext (Ext.drew (Ext.refl _)); omega; exact Nat.le_trans (Nat.le_trans HE.out.size HE2.out.size) (Nat.le_of_lt (by simp)); intro v1 w3 ho3 hg3; have hB3 : Ext w w3 := ((((HE.out.trans HE2.out).alloc (.cells #[.int .i64 op] 3)).drew).grown hg3 (fun j hj => (HO.out.lt j hj).1)); have y3 := hB3.cell_some Z1.out; have y4 := hB3.cell_some Z2.out; have HO3 := Lib.hid ho3; have HB3 := Lib.hid hB3; clear ho3 hg3 hB3)
                  | (refine step_append_rd rfl (.tmp 35) (.tmp 40) 39 rfl w.heap.size 3 _ 1 8 Tryd.underlying39 info3 rfl (by decide) v1 (acc.length + 1) (ivs acc ++ [.int .i64 op]) rfl ?_ ak A.length ck (ivs A) rfl ?_ (ivs_one A) ?_ (by decide) ?_ ?_; exact HO3.out; exact X3.out.ext HB3.out; omega; exact HB3.out.size; intro v2 w4 ho4 hg4; have hB4 : Ext w w4 := HB3.out.grown hg4 (fun j hj => (HO3.out.lt j hj).1); have y5 := hB4.cell_some Z1.out; have y6 := hB4.cell_some Z2.out; have HB4 := Lib.hid hB4; clear hg4 hB4)))
              go_wp2
              go_roundw
              case rel =>
                refine ⟨k + 1, acc ++ (op :: A), by omega, by go_num, ?_, by simp; omega, HB4.out, HT3⟩
                have e1 : (acc ++ (op :: A)).length = acc.length + 1 + A.length := by simp; omega
                have e2 : ivs (acc ++ (op :: A)) = ivs acc ++ [.int .i64 op] ++ ivs A := by simp
                rw [e1, e2]
                simpa using ho4
              case measure => simp [intOf]; omega
          · have hh := HT2.out
            rw [putF_cons_bad hask hqa] at hh
            subst hh
            have e1 : rightT (some q) A = 1 := by simp only [rightT]; rw [if_neg hqa]
            have RR2 := Lib.hid (show ∀ w1, Ext w w1 → Calls Tryd.prog 37 #[.agg #[.int .i64 op, .slice ak A.length ck]] w1 fun e w' => e = .returned (.int .i64 1) ∧ Ext w1 w' from e1 ▸ RR.out)
            clear HT2 hask hqa e1 RR
            go_wp2_with (go_at_call 37; refine (RR2.out _ HE.out).mono ?_; rintro e w1 ⟨rfl, hE1⟩)
            go_ret2
            exact ⟨rfl, HE.out.trans hE1⟩
      · go_wp2
        go_ret2
        have hh := HT.out
        rw [List.drop_of_length_le (by rw [Hn.out]; omega)] at hh
        have hh2 : Except.ok acc = tot := hh
        subst hh2
        exact ⟨_, rfl, ho, hEr⟩
end Go.Proofs.YtaklnijmcidpkaaDoor
