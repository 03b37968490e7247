/- Proof text: what comes of a polygon at a side (carve.Cut). By an AI agent. No condition beyond what each theorem states. -/
import Derived.Test.YtibhfclkdbmmoaaKF
set_option linter.unusedVariables false
set_option linter.unusedSimpArgs false
namespace Go.Proofs.Ytibhfclkdbmmoaa
open Go.RowKit
theorem corners_cn (l : List Vx) (e : List Bool) (A B : Option Addr) (n ca cb : Nat) (w : World) (hA : Rd w 8 A n ca (vrows l)) (hB : Rd w 1 B n cb (brows e)) (hl : l.length = n) (he : e.length = n) (hn : n ≤ 131072) :
    Calls Try.prog 34 #[.slice A n ca, .slice B n cb] w fun x w' => ∃ v, x = .returned v ∧ w'.ownsRow w.heap.size 88 10 v (cns l e).length (crows (cns l e)) ∧ Ext w w' := by
  rw [cns_len hl he]
  exact corners_any l e A B n ca cb w hA hB hl he hn
theorem cns_fit {l : List Vx} {e : List Bool} (hf : ∀ v ∈ l, v.Fit) : ∀ c ∈ cns l e, c.v.Fit := pl_fit cns_pl (zip_fit hf)
set_option maxRecDepth 100000 in
set_option maxHeartbeats 600000 in
theorem pcut_any (l : List Vx) (e : List Bool) (s : Sd) (A E : Option Addr) (n ca ce : Nat) (w : World) (hA : Rd w 8 A n ca (vrows l)) (hl : l.length = n) (hE : Rd w 1 E n ce (brows e)) (he : e.length = n) (hn : n ≤ 65536) (hs : s.Ok) (hf : ∀ v ∈ l, v.Fit) :
    Calls Try.prog 19 #[.slice A n ca, .slice E n ce, s.v] w (RCut l e s w) := by
  have HN := Lib.hid hn
  have HA := Lib.hid hA; have HEr := Lib.hid hE
  have HL := Lib.hid hl; have HLE := Lib.hid he
  have HS := Lib.hid hs; have HF := Lib.hid hf
  have HC := Lib.hid (cns_len hl he)
  clear hA hE hl he hs hf hn
  have hb : Blk (w.alloc (.cells s.row.toArray 45)) w.heap.size 45 s.row.toArray := Blk.new _ _ _
  have hE0 : Ext w (w.alloc (.cells s.row.toArray 45)) := (Ext.refl w).alloc _
  go_enter Try.func19, Try.ntmps19
  go_upto_region 1 with fail
  generalize (w.alloc (.cells s.row.toArray 45)) = W at hb hE0 ⊢
  obtain ⟨p0, p1, p2, p3, p4⟩ := cells5 hb
  have HE := Lib.hid hE0
  clear hb hE0
  go_region_held3 (fun w' => w'.cell? ⟨w.heap.size, 0, none⟩ = some (.int .i64 s.k) ∧ w'.cell? ⟨w.heap.size, 1, none⟩ = some (.int .i64 s.p0) ∧ w'.cell? ⟨w.heap.size, 2, none⟩ = some (.int .i64 s.p1) ∧ w'.cell? ⟨w.heap.size, 3, none⟩ = some (.int .i64 s.p2) ∧ w'.cell? ⟨w.heap.size, 4, none⟩ = some (.int .i64 s.p3))
    (first | exact ⟨p0, p1, p2, p3, p4⟩ | exact ⟨r0, r1, r2, r3, r4⟩ | exact ⟨s0, s1, s2, s3, s4⟩ | exact ⟨t0, t1, t2, t3, t4⟩ | go_keep)
    ((first
      | (go_at_call 34; refine (corners_cn l e A E n ca ce _ (HA.out.ext HE.out.drew) (HEr.out.ext HE.out.drew) HL.out HLE.out (Nat.le_trans HN.out (by decide))).mono ?_; rintro x w1 ⟨v1, rfl, ho1, hE1⟩; have r0 := hE1.cell_some p0; have r1 := hE1.cell_some p1; have r2 := hE1.cell_some p2; have r3 := hE1.cell_some p3; have r4 := hE1.cell_some p4)
      | (go_at_call 35; refine (cut_any _ _ (cns l e) v1 s hE1 ho1 (by rw [HC.out]; exact Nat.le_trans HN.out (by decide)) HS.out (cns_fit HF.out)).mono ?_; rintro x w2 ⟨v2, L2, rfl, ho2, hp2, hE2⟩; have HP2 := Lib.hid hp2; clear hp2; obtain ⟨a2, c2, rfl, hR2⟩ := ownsRow_rd ho2; have s0 := hE2.cell_some p0; have s1 := hE2.cell_some p1; have s2 := hE2.cell_some p2; have s3 := hE2.cell_some p3; have s4 := hE2.cell_some p4)
      | (go_at_call 36; refine (parts_any L2 a2 L2.length c2 _ hR2 rfl (by have h1 := cutBy_len2 s ((cns l e).map Cn.pl); have h2 := HN.out; have h3 := HC.out; rw [← HP2.out, List.length_map, List.length_map, h3] at h1; omega)).mono ?_; rintro x w3 ⟨a3, c3, b3, d3, rfl, h31, h32, hE3⟩; have t0 := hE3.cell_some s0; have t1 := hE3.cell_some s1; have t2 := hE3.cell_some s2; have t3 := hE3.cell_some s3; have t4 := hE3.cell_some s4)))
  go_wp2_with fail
  try simp only [Exit.inBlock, Exit.then]
  go_ret2
  have hpl : L2.map Cn.pl = cutBy (cutF s) (l.zip e) := by rw [HP2.out, cns_pl]
  have e1 : L2.length = (cutBy (cutF s) (l.zip e)).length := by rw [← hpl, List.length_map]
  have e2 : L2.map (·.v) = (cutBy (cutF s) (l.zip e)).map (·.1) := by rw [← hpl, List.map_map]; rfl
  have e3 : L2.map (·.on) = (cutBy (cutF s) (l.zip e)).map (·.2) := by rw [← hpl, List.map_map]; rfl
  rw [e1, e2] at h31
  rw [e1, e3] at h32
  refine ⟨a3, c3, b3, d3, by rw [e1]; rfl, h31, h32, ?_⟩
  exact (HE.out.drew.trans hE2).trans hE3
end Go.Proofs.Ytibhfclkdbmmoaa
