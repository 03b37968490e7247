/- Proof text of the claims about the statements of layer 4 (code). By an AI agent. No condition beyond what each theorem states. -/
import Derived.Test.YtgibagnllbbeiaaDoorF
import Derived.Deep.RegionHeld3
set_option linter.unusedVariables false
namespace Go.Proofs.YtgibagnllbbeiaaDoor
open Go.RowKit
theorem get1 : getT [15, 1, 18] = .ok [(15, [1]), (18, [])] := by rfl
theorem get2 : getT [18, 15] = .error (1, 1) := by rfl
theorem right1 : rightT (askT 19) [65] = 4 := by rfl
set_option maxHeartbeats 1000000 in
theorem awake_any (w : World) (h : Glob w) : Calls Tryd.prog 10 #[] w fun e w' => e = .returned (.bool true) ∧ Ext w w' := by
  have Hg := Lib.hid h
  clear h
  go_enter Tryd.func10, Tryd.ntmps10
  go_wp2_with fail
  refine (get_any (some ⟨w.heap.size, 0, none⟩) 3 3 [15, 1, 18] _ (Hg.out.ext ((Ext.refl w).alloc _)) (Rd_new w (ivs [15, 1, 18]) 3 1 3 rfl (by unfold maxLen; omega)) (by omega)).mono ?_
  intro e w1 hgr
  rw [get1] at hgr
  obtain ⟨v, vs, rfl, ho, hrc, hE⟩ := hgr
  obtain ⟨x1, rfl⟩ := Later.mk' hE
  go_wp2_with fail
  refine (get_any (some ⟨x1.w.heap.size, 0, none⟩) 2 2 [18, 15] _ (Hg.out.ext ((((Ext.refl w).alloc _).later x1).alloc _)) (Rd_new x1.w (ivs [18, 15]) 3 1 2 rfl (by unfold maxLen; omega)) (by omega)).mono ?_
  intro e w2 hgr2
  rw [get2] at hgr2
  obtain ⟨rfl, hE2⟩ := hgr2
  have hrc2 : RecCells (RdT w2 3 1) vs [(15, [1]), (18, [])] := hrc.mono fun a n c xs hx => (hx.ext ((Ext.refl _).alloc _)).ext hE2
  obtain ⟨av, capv, rfl, hrv⟩ := ownsRow_rd ho
  have hrv2 := (hrv.ext ((Ext.refl _).alloc (.cells (ivs [18, 15]).toArray 3))).ext hE2
  obtain ⟨b, off, rfl, hb, hc⟩ := hrv2.at_ (by decide)
  have g0 := hrc2.get 0 (by decide)
  have g1 := hrc2.get 1 (by decide)
  have c0 : w2.cell? ⟨b, off, none⟩ = some (.int .i64 15) := (hc 0 (by decide)).trans g0.1
  have c1 : w2.cell? ⟨b, off + 2, none⟩ = some (.int .i64 18) := (hc 2 (by decide)).trans g1.1
  have HE := Lib.hid (((((Ext.refl w).alloc (.cells (ivs [15, 1, 18]).toArray 3)).later x1).alloc (.cells (ivs [18, 15]).toArray 3)).trans hE2)
  clear hc g0 g1 hrc hrc2 hrv hrv2 ho hE hE2
  go_wp2_with (go_at_call 11; refine (right_any 19 (some ⟨w2.heap.size, 0, none⟩) 1 1 [65] _ (Hg.out.ext (HE.out.alloc _)) (Rd_new w2 (ivs [65]) 3 1 1 rfl (by unfold maxLen; omega))).mono ?_; rintro e w3 ⟨rfl, hE3⟩; rw [right1])
  go_ret
  exact ⟨rfl, (HE.out.alloc _).trans hE3⟩
end Go.Proofs.YtgibagnllbbeiaaDoor
