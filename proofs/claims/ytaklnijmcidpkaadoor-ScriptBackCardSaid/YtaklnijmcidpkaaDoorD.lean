/- Proof text of the claims about the statements of layer 4 (code). By an AI agent. No condition beyond what each theorem states. -/
import Derived.Test.YtaklnijmcidpkaaDoorR
import Derived.Deep.RegionHeld3
set_option linter.unusedVariables false
set_option linter.unusedSimpArgs false
namespace Go.Proofs.YtaklnijmcidpkaaDoor
open Go.RowKit
theorem headD_get (r : List Int) (h : 1 ≤ r.length) : (ivs r)[0]? = some (.int .i64 (r.headD 0)) := by
  cases r with
  | nil => simp at h
  | cons x t => rfl

theorem pairs_one (x y : Int) : ∀ u ∈ [Value.int .i64 x, Value.int .i64 y], u.oneCell' = true := by simp [Value.oneCell']
set_option maxHeartbeats 1000000 in
theorem bounds_any (op : Int) (w : World) : Calls Tryd.prog 43 #[.int .i64 op] w (Gives w (boundsT op)) := by
  generalize hb0 : boundsT op = o
  have HB : Hid (bfind op (rowsT.drop 0) = o) := hb0
  clear hb0
  go_enter Tryd.func43, Tryd.ntmps43
  go_wp2_with (go_at_call 55; refine (rows_any _).mono ?_; rintro e w1 ⟨a, cap, vs, rfl, hr, hE⟩)
  have HR := Lib.hid hr
  clear hr
  go_loopw [4, 6] (fun v i wr => ∃ k : Nat, k ≤ 32 ∧ i = .int .i64 k ∧ v = .slice none 0 0 ∧ Hid (RdRows wr a 32 cap rowsT vs) ∧ Ext w wr ∧ Hid (bfind op (rowsT.drop k) = o)) (fun _ i _ => 32 - (intOf i).toNat)
  case atStart => exact ⟨0, by omega, rfl, rfl, HR, hE, HB⟩
  case round =>
    obtain ⟨k, hk, rfl, rfl, HR, hE, HB⟩ := hrel
    by_cases hlt : k < 32
    · obtain ⟨b, off, rfl, hb, hc⟩ := HR.out.rd.at_ (by omega)
      obtain ⟨aj, cj, hv, hj⟩ := HR.out.row k hlt
      have hmem : rowsT.getD k [] ∈ rowsT := by
        have : k < rowsT.length := hlt
        simp [this]
      obtain ⟨hok, hr1, hr100, hg16⟩ := rows_ok _ hmem
      have hstep := bfind_cons hlt HB.out
      clear hmem
      generalize rowsT.getD k [] = r at hv hj hok hr1 hr100 hg16 hstep
      have co : wr.cell? ⟨b, off + k, none⟩ = some (.slice aj r.length cj) := (hc k (by omega)).trans hv
      obtain ⟨bj, oj, rfl, hbj, hcj⟩ := hj.at_ (by omega)
      have c0 : wr.cell? ⟨bj, oj, none⟩ = some (.int .i64 (r.headD 0)) := (hcj 0 (by omega)).trans (headD_get r hr1)
      have Hcj := Lib.hid hcj
      have Hj := Lib.hid hj
      have Hst := Lib.hid hstep
      have Hok := Lib.hid hok
      clear hcj hj hstep hok hc hv
      have hp1 : (0 : Int) < (r.length : Int) := by omega
      have hkd : decide ((k : Int) < 32) = true := by simp; omega
      have hki : (k : Int) < 32 := by omega
      have hk0 : (0 : Int) ≤ (k : Int) := by omega
      generalize r.headD 0 = hd at c0 Hst
      by_cases heq : hd = op
      · have hne : (hd != op) = false := by simp [heq]
        have Heq := Lib.hid heq
        clear heq
        have hgr := Hst.out
        rw [if_pos Heq.out] at hgr
        subst hgr
        have HE := Lib.hid hE
        clear HB Hst hE
        go_wp2
        obtain ⟨wo, rfl⟩ : ∃ wo : World, wo = wr := ⟨_, rfl⟩
        go_loopw [4, 7] (fun v i wr => ∃ (kk : Nat) (pre : List (Int × Int)), kk ≤ r.length ∧ i = .int .i64 kk ∧ wr.ownsRow wo.heap.size 76 2 v pre.length (prs pre) ∧ pre.length ≤ 16 ∧ Ext wo wr ∧ Hid (pre ++ groups (r.drop kk) = groups (r.drop 1)) ∧ Hid (okT (r.drop kk) = true)) (fun _ i _ => r.length - (intOf i).toNat)
        case atStart => exact ⟨1, [], hr1, rfl, World.ownsRow_nil _ _ _ _, by simp, Ext.refl _, rfl, Hok⟩
        case round =>
          obtain ⟨kk, pre, hkk, rfl, ho, hpre, hE2, Hgr, Hok2⟩ := hrel
          have co' := hE2.cell_some co
          rcases okT_cases Hok2.out with hnil | ⟨n, x, y, t, hd3, hn0, hn16, hokt⟩
          · have := drop_len hnil
            obtain rfl : kk = r.length := by omega
            go_wp2
            go_ret2
            have e0 : pre = groups (r.drop 1) := by have := Hgr.out; rw [hnil] at this; simpa [groups] using this
            subst e0
            exact ⟨_, rfl, ownsRow_base ho HE.out.size, HE.out.trans hE2⟩
          · obtain ⟨hk2, e0, e1, e2, e3⟩ := drop3 hd3
            have cn : wo.cell? ⟨bj, oj + kk, none⟩ = some (.int .i64 n) := by rw [← e0]; exact ((Hcj.out kk (by omega)).trans (ivs_get r kk (by omega)))
            have cx : wo.cell? ⟨bj, oj + (kk + 1), none⟩ = some (.int .i64 x) := by rw [← e1]; exact ((Hcj.out (kk + 1) (by omega)).trans (ivs_get r (kk + 1) (by omega)))
            have cy : wo.cell? ⟨bj, oj + (kk + 2), none⟩ = some (.int .i64 y) := by rw [← e2]; exact ((Hcj.out (kk + 2) (by omega)).trans (ivs_get r (kk + 2) (by omega)))
            have hgl : pre.length + n.toNat ≤ 16 := by
              have := congrArg List.length Hgr.out
              rw [hd3] at this
              simp [groups] at this hg16
              omega
            have hg2 : Hid ((pre ++ List.replicate n.toNat (x, y)) ++ groups (r.drop (kk + 3)) = groups (r.drop 1)) := by
              have := Hgr.out
              rw [hd3] at this
              rw [e3, List.append_assoc]
              exact this
            have hok3 : Hid (okT (r.drop (kk + 3)) = true) := by rw [e3]; exact hokt
            obtain ⟨m, rfl⟩ := Int.eq_ofNat_of_zero_le hn0
            have Hgl := Lib.hid hgl
            clear e0 e1 e2 e3 hd3 Hgr Hok2 hokt hgl
            simp only [Int.toNat_natCast] at hg2 Hgl
            have hkk2 : (kk : Int) < (r.length : Int) := by omega
            go_wp2
            obtain ⟨wq, rfl⟩ : ∃ wq : World, wq = wr := ⟨_, rfl⟩
            go_loopw [4, 8] (fun v i wr => ∃ (q : Nat), q ≤ m ∧ i = .int .i64 q ∧ wr.ownsRow wo.heap.size 76 2 v (pre.length + q) (prs (pre ++ List.replicate q (x, y))) ∧ Ext wo wr) (fun _ i _ => m - (intOf i).toNat)
            case atStart => exact ⟨0, Nat.zero_le _, rfl, by simpa using ho, hE2⟩
            case round =>
              obtain ⟨q, hq, rfl, ho3, hE3⟩ := hrel
              have co3 := hE3.cell_some co
              have cn3 := hE3.cell_some cn
              have cx3 := hE3.cell_some cx
              have cy3 := hE3.cell_some cy
              by_cases hqm : q < m
              · have hs1 : IntKind.i64.wrap ((kk : Int) + 1) = (kk : Int) + 1 := IntWalk.i64_in _ (by omega)
                have hs2 : IntKind.i64.wrap ((kk : Int) + 2) = (kk : Int) + 2 := IntWalk.i64_in _ (by omega)
                have ht1 : ((kk : Int) + 1).toNat = kk + 1 := by omega
                have ht2 : ((kk : Int) + 2).toNat = kk + 2 := by omega
                have hk3 : (kk : Int) + 1 < (r.length : Int) := by omega
                have hk4 : (kk : Int) + 2 < (r.length : Int) := by omega
                have hk5 : (0 : Int) ≤ (kk : Int) + 1 := by omega
                have hk6 : (0 : Int) ≤ (kk : Int) + 2 := by omega
                go_wp2
                go_region_held3 (fun w' => w'.cell? ⟨b, off + k, none⟩ = some (.slice (some ⟨bj, oj, none⟩) r.length cj) ∧ w'.cell? ⟨bj, oj + (kk + 1), none⟩ = some (.int .i64 x) ∧ w'.cell? ⟨bj, oj + (kk + 2), none⟩ = some (.int .i64 y)) (first | exact ⟨co3, cx3, cy3⟩ | exact ⟨co4, cx4, cy4⟩ | go_keep)
                  ((refine step_append_src rfl (.tmp 44) (.tmp 62) 70 rfl wo.heap.size 76 _ 2 16 Tryd.underlying70 info47 rfl (by decide) u4 (pre.length + q) (prs (pre ++ List.replicate q (x, y))) rfl ?_ ⟨wr.heap.size, 0, none⟩ 1 1 [.int .i64 x, .int .i64 y] rfl rfl ?_ (pairs_one x y) ?_ (by decide) ?_ ?_; exact (ho3.alloc _).drew; exact news_at wr [.int .i64 x, .int .i64 y] 76; omega; exact Nat.le_trans hE3.size (by simp); intro v' w3 ho4 hg4 _; have co4 : w3.cell? ⟨b, off + k, none⟩ = some (.slice (some ⟨bj, oj, none⟩) r.length cj) := hg4.cell (by first | assumption | simp [go_sem, co3]) (fun hc => by have h9 : wo.heap.size ≤ b := (ho3.lt _ hc.symm).1; omega); have cx4 : w3.cell? ⟨bj, oj + (kk + 1), none⟩ = some (.int .i64 x) := hg4.cell (by first | assumption | simp [go_sem, cx3]) (fun hc => by have h9 : wo.heap.size ≤ bj := (ho3.lt _ hc.symm).1; omega); have cy4 : w3.cell? ⟨bj, oj + (kk + 2), none⟩ = some (.int .i64 y) := hg4.cell (by first | assumption | simp [go_sem, cy3]) (fun hc => by have h9 : wo.heap.size ≤ bj := (ho3.lt _ hc.symm).1; omega)))
                clear hs1 hs2 ht1 ht2 hk3 hk4 hk5 hk6
                go_wp2
                go_roundw
                case rel => exact ⟨q + 1, by omega, by go_num, by rw [show pre.length + (q + 1) = pre.length + q + 1 from rfl, List.replicate_succ', ← List.append_assoc, prs_append]; exact ho4, ((hE3.alloc _).drew).grown hg4 (fun j hj => (ho3.lt j hj).1)⟩
                case measure => simp [intOf]; omega
              · go_wp2
                obtain rfl : q = m := by omega
                go_roundw
                case rel => exact ⟨kk + 3, _, by omega, by go_num, by rw [List.length_append, List.length_replicate]; exact ho3, by rw [List.length_append, List.length_replicate]; exact Hgl.out, hE3, hg2, hok3⟩
                case measure => simp [intOf]; omega
      · have hne : (hd != op) = true := by simpa using heq
        have Heq := Lib.hid heq
        clear heq
        go_wp2
        go_roundw
        case rel => exact ⟨k + 1, by omega, by go_num, rfl, HR, hE, by have h := Hst.out; rw [if_neg Heq.out] at h; exact h⟩
        case measure => simp [intOf]; omega
    · go_wp2
      go_ret2
      obtain rfl : k = 32 := by omega
      have h : none = o := HB.out
      subst h
      exact ⟨_, rfl, World.ownsRow_nil _ _ _ _, hE⟩
end Go.Proofs.YtaklnijmcidpkaaDoor
