/- Proof text of the claims about the statements of layer 4 (code). By an AI agent. No condition beyond what each theorem states. -/
import Derived.Test.YtgibagnllbbeiaaDoorF
import Derived.Test.YtgibagnllbbeiaaDoorE
import Derived.Deep.RegionHeld3
set_option linter.unusedVariables false
namespace Go.Proofs.YtgibagnllbbeiaaDoor
open Go.RowKit
theorem boundsAr (op : Int) (w : World) : Calls Tryd.prog 17 #[.int .i64 op] w fun e w' => e = .returned (.tuple #[.int .i64 ((askT op).getD []).length, .bool (askT op).isSome]) ∧ Ext w w' := by
  rw [ask_bounds]
  exact rarity_any op w
set_option maxHeartbeats 1000000 in
theorem rget_any (a : Option Addr) (n cap : Nat) (A : List Int) (w : World) (hA : Rd w 1 a n cap (ivs A)) (hn : n ≤ 100000) :
    Calls Tryd.prog 14 #[.slice a n cap] w (GivesRecs w (getT A)) := by
  have hAl : A.length = n := by simpa using hA.len
  have HT : Hid (cont [] (getF A.length (A.drop 0) 0 0) = getT A) := by rw [cont_nil]; rfl
  generalize getT A = tot at HT ⊢
  have HA := Lib.hid hA
  have Hl := Lib.hid hAl
  have hcap : n ≤ cap := hA.le
  have hmx : (cap : Int) ≤ 9223372036854775807 := by have := hA.mx; unfold maxLen at this; omega
  clear hA hAl
  go_enter Tryd.func14, Tryd.ntmps14
  go_wp2
  go_loopw [5, 6] (fun v i wr => ∃ (k f : Nat) (pre : List R) (vs : List Value), k ≤ n ∧ i = .int .i64 k ∧ wr.ownsRow w.heap.size 24 2 v pre.length vs ∧ Hid (RecCells (RdT wr 3 1) vs pre) ∧ pre.length ≤ k ∧ Ext w wr ∧ n - k ≤ f ∧ Hid (cont pre (getF f (A.drop k) k pre.length) = tot)) (fun _ i _ => n - (intOf i).toNat)
  case atStart => exact ⟨0, A.length, [], [], Nat.zero_le _, rfl, World.ownsRow_nil _ _ _ _, trivial, by simp, Ext.refl _, by rw [Hl.out]; omega, HT⟩
  case round =>
    obtain ⟨k, f, pre, vs, hk, rfl, hov, Hrc, hpk, hEr, hf, HT⟩ := hrel
    have HEr := Lib.hid hEr
    obtain ⟨av, capv, rfl, _⟩ := ownsRow_rd hov
    by_cases hlt : k < n
    · obtain ⟨f, rfl⟩ : ∃ f', f = f' + 1 := ⟨f - 1, by omega⟩
      have hkA : k < A.length := by rw [Hl.out]; exact hlt
      have hd : A.drop k = A.getD k 0 :: A.drop (k + 1) := by rw [List.drop_eq_getElem_cons hkA]; simp [hkA]
      have HT2 : Hid (cont pre (getF (f + 1) (A.getD k 0 :: A.drop (k + 1)) k pre.length) = tot) := by rw [← hd]; exact HT
      obtain ⟨b, off, rfl, hb, hc⟩ := HA.out.at_ (by omega)
      have ca : wr.cell? ⟨b, off + k, none⟩ = some (.int .i64 (A.getD k 0)) := HEr.out.cell_some ((hc k (by omega)).trans (ivs_get A k hkA))
      generalize A.getD k 0 = op at ca HT2
      have hdl : (A.drop (k + 1)).length = n - (k + 1) := by rw [List.length_drop, Hl.out]
      have Hdl := Lib.hid hdl
      clear HT hd hc hkA hdl hEr
      have hkn : decide ((k : Int) < (n : Int)) = true := by simp; omega
      by_cases hfull : pre.length = 4096
      · have h1 : ((pre.length : Int) == 4096) = true := by simp; omega
        have hh := HT2.out
        rw [getF_full hfull] at hh
        subst hh
        have Hfull := Lib.hid hfull
        clear hfull HT2
        go_wp2
        go_ret3
        exact ⟨rfl, HEr.out⟩
      · have h1 : ((pre.length : Int) == 4096) = false := by simp; omega
        have HAr := Lib.hid (boundsAr op wr)
        have Hfull := Lib.hid hfull
        cases hask : askT op with
        | none =>
          have hh := HT2.out
          rw [getF_none hfull hask] at hh
          subst hh
          rw [hask] at HAr
          clear HT2 hask hfull
          go_wp2_with (go_at_call 17; refine HAr.out.mono ?_; rintro e w2 ⟨rfl, hE2⟩; simp only [Option.isSome_none])
          go_ret3
          exact ⟨rfl, (HEr.out).trans hE2⟩
        | some l =>
          rw [hask] at HAr
          have hl16 : l.length ≤ 16 := by have := ask_len op; rw [hask] at this; exact this
          by_cases hshort : (A.drop (k + 1)).length < l.length
          · have hh := HT2.out
            rw [getF_short hfull hask hshort] at hh
            subst hh
            have h2 : decide ((l.length : Int) > (n : Int) - (k : Int) - 1) = true := by have := Hdl.out; simp; omega
            clear HT2 hask hfull hshort
            go_wp2_with (go_at_call 17; refine HAr.out.mono ?_; rintro e w2 ⟨rfl, hE2⟩; simp only [Option.isSome_some, Option.getD_some])
            go_ret3
            exact ⟨rfl, (HEr.out).trans hE2⟩
          · have hh := HT2.out
            rw [getF_step hfull hask hshort, cont_snoc] at hh
            have HT3 := Lib.hid hh
            have hend : k + 1 + l.length ≤ n := by have := Hdl.out; omega
            have h2 : decide ((l.length : Int) > (n : Int) - (k : Int) - 1) = false := by simp; omega
            clear HT2 hask hfull hshort hh
            go_wp2_with (go_at_call 17; refine HAr.out.mono ?_; rintro e w2 ⟨rfl, hE2⟩; simp only [Option.isSome_some, Option.getD_some])
            have ca2 := hE2.cell_some ca
            have hov2 := ownsRow_ext hov hE2
            obtain ⟨asub, hsl, hrs⟩ := part2_ex (P := Tryd.prog) Tryd.underlying22 size3 ((HA.out.ext HEr.out).ext hE2) ((k : Int) + 1) ((k : Int) + 1 + (l.length : Int)) (k + 1) (k + 1 + l.length) l.length (cap - (k + 1)) (by omega) (by omega) (by omega) (by omega) (by omega) (by omega)
            have hrs' : Rd w2 1 asub l.length (cap - (k + 1)) (ivs ((A.drop (k + 1)).take l.length)) := by simpa [List.map_drop, List.map_take] using hrs
            have Hrs := Lib.hid hrs'
            have Hov := Lib.hid hov2
            have hlA : ((A.drop (k + 1)).take l.length).length = l.length := by rw [List.length_take, Hdl.out]; omega
            have HlA := Lib.hid hlA
            have hs1 : IntKind.i64.wrap ((k : Int) + 1) = (k : Int) + 1 := IntWalk.i64_in _ (by omega)
            have hs2 : IntKind.i64.wrap ((k : Int) + 1 + (l.length : Int)) = (k : Int) + 1 + (l.length : Int) := IntWalk.i64_in _ (by omega)
            have hki : (k : Int) < (n : Int) := by omega
            have hk0 : (0 : Int) ≤ (k : Int) := by omega
            clear hov2 hrs hrs' hlA
            go_region_held3 (fun w' => w'.cell? ⟨b, off + k, none⟩ = some (.int .i64 op)) (first | exact ca2 | exact ca3 | exact ca4 | go_keep)
              ((first
                | (refine step_append_rd rfl (.tmp 41) (.tmp 49) 22 rfl w2.heap.size 3 _ 1 8 Tryd.underlying22 info3 rfl (by decide) (.slice (some ⟨w2.heap.size, 0, none⟩) 0 0) 0 [] rfl ?_ asub l.length (cap - (k + 1)) (ivs ((A.drop (k + 1)).take l.length)) rfl ?_ (ivs_one _) ?_ (by decide) ?_ ?_; exact (World.ownsRow_lit w2 #[] 0 (Nat.le_refl _) (Nat.zero_le _) rfl).drew; exact Hrs.out.ext (((Ext.refl w2).alloc _).drew); omega; exact Nat.le_of_lt (by simp); intro v3 w3 ho3 hg3; have hE3 : Ext w2 w3 := (((Ext.refl w2).alloc (.cells #[] 3)).drew).grown hg3 (by simp [Value.ownBlock]); have ho3' : w3.ownsRow w2.heap.size 3 1 v3 l.length (ivs ((A.drop (k + 1)).take l.length)) := (by simpa using ho3); obtain ⟨a3, c3, rfl, hr3⟩ := ownsRow_rdT ho3'; have HE3 := Lib.hid hE3; have Hr3 := Lib.hid hr3; have ca3 := hE3.cell_some ca2; clear ho3 ho3' hr3 hg3 hE3)
                | (refine step_append_rd rfl (.tmp 36) (.tmp 52) 29 rfl w.heap.size 24 _ 2 32 Tryd.underlying29 info24 rfl (by decide) (.slice av pre.length capv) pre.length vs rfl ?_ (some ⟨w3.heap.size, 0, none⟩) 1 1 [.int .i64 op, .slice a3 l.length c3] rfl ?_ (rec_one _ _ _ _) ?_ (by decide) ?_ ?_; exact (ownsRow_ext Hov.out HE3.out).alloc _; exact Rd_new w3 [.int .i64 op, .slice a3 l.length c3] 24 2 1 rfl (by unfold maxLen; omega); omega; exact Nat.le_trans (Nat.le_trans (Nat.le_trans HEr.out.size hE2.size) HE3.out.size) (by simp); intro v' w4 hov4 hg4; have ca4 : w4.cell? ⟨b, off + k, none⟩ = some (.int .i64 op) := hg4.cell (by first | assumption | simp [go_sem, ca3]) (fun hcc => by have h9 : w.heap.size ≤ b := (Hov.out.lt _ hcc.symm).1; omega))))
            have Hrc3 : Hid (RecCells (RdT w4 3 1) (vs ++ [.int .i64 op, .slice a3 l.length c3]) (pre ++ [(op, (A.drop (k + 1)).take l.length)])) := by
              have tr : ∀ a n c xs, RdT w3 3 1 a n c xs → RdT w4 3 1 a n c xs := fun a n c xs hx => (hx.ext ((Ext.refl w3).alloc _)).grown ((ownsRow_ext Hov.out HE3.out).alloc _) hg4 (by decide)
              have h0 := ((Hrc.out.mono (fun a n c xs hx => (hx.ext hE2).ext HE3.out)).mono tr).snoc op ((A.drop (k + 1)).take l.length) a3 c3 (by rw [HlA.out]; exact tr _ _ _ _ Hr3.out)
              rw [HlA.out] at h0
              exact h0
            clear hs2
            clear hs1 hsl
            go_wp2
            go_roundw
            case rel =>
              refine ⟨k + 1 + l.length, f, pre ++ [(op, (A.drop (k + 1)).take l.length)], _, by omega, by go_num, by rw [List.length_append]; exact hov4, Hrc3, by simp; omega, (((HEr.out.trans hE2).trans HE3.out).alloc _).grown hg4 (fun j hj => (Hov.out.lt j hj).1), by omega, ?_⟩
              have := HT3.out
              rw [List.drop_drop] at this
              rw [List.length_append]
              exact this
            case measure => simp [intOf]; omega
    · go_wp2
      go_ret3
      obtain rfl : k = n := by omega
      have hh := HT.out
      rw [List.drop_of_length_le (by rw [Hl.out]; exact Nat.le_refl _), getF_nil] at hh
      have hh2 : (Except.ok pre : G) = tot := by simpa [cont] using hh
      subst hh2
      exact ⟨_, vs, rfl, hov, Hrc.out, HEr.out⟩
end Go.Proofs.YtgibagnllbbeiaaDoor
