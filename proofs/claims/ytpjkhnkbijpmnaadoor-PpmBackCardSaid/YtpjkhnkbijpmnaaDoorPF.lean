/- Proof text: a pixel's color (rastrumref23.Get), which images may be (rastrumref23.Right), whether two are the same (rastrumref23.Same). By an AI agent. No condition beyond what each theorem states. -/
import Derived.Test.YtpjkhnkbijpmnaaDoorPE
set_option linter.unusedVariables false
set_option linter.unusedSimpArgs false
namespace Go.Proofs.YtpjkhnkbijpmnaaDoor
open Go.RowKit
@[reducible] def col4 (a b c d : Int) : Array Value := #[.int .i64 a, .int .i64 b, .int .i64 c, .int .i64 d]
theorem Blk.set4 {w : World} {g : Nat} {t : TypeId} {x y z u : Value} (h : Blk w g t #[x, y, z, u]) (a b c d : Value) : Blk ((((w.setCell ⟨g, 0, none⟩ a).setCell ⟨g, 1, none⟩ b).setCell ⟨g, 2, none⟩ c).setCell ⟨g, 3, none⟩ d) g t #[a, b, c, d] := by
  have h4 := (((h.set_ 0 a).set_ 1 b).set_ 2 c).set_ 3 d
  simpa using h4
theorem Blk.far4 {w : World} {g g' : Nat} {t : TypeId} {cs : Array Value} (h : Blk w g t cs) (hne : g ≠ g') (a b c d : Value) : Blk ((((w.setCell ⟨g', 0, none⟩ a).setCell ⟨g', 1, none⟩ b).setCell ⟨g', 2, none⟩ c).setCell ⟨g', 3, none⟩ d) g t cs :=
  (((h.far (p := ⟨g', 0, none⟩) hne a).far (p := ⟨g', 1, none⟩) hne b).far (p := ⟨g', 2, none⟩) hne c).far (p := ⟨g', 3, none⟩) hne d
theorem Ext.set4 {w W : World} (h : Ext w W) {g : Nat} (hg : w.heap.size ≤ g) (a b c d : Value) : Ext w ((((W.setCell ⟨g, 0, none⟩ a).setCell ⟨g, 1, none⟩ b).setCell ⟨g, 2, none⟩ c).setCell ⟨g, 3, none⟩ d) :=
  (((h.setCell (p := ⟨g, 0, none⟩) a hg).setCell (p := ⟨g, 1, none⟩) b hg).setCell (p := ⟨g, 2, none⟩) c hg).setCell (p := ⟨g, 3, none⟩) d hg
theorem cell_far4 {w : World} {g b o : Nat} (hne : b ≠ g) (x y z u : Value) : ((((w.setCell ⟨g, 0, none⟩ x).setCell ⟨g, 1, none⟩ y).setCell ⟨g, 2, none⟩ z).setCell ⟨g, 3, none⟩ u).cell? ⟨b, o, none⟩ = w.cell? ⟨b, o, none⟩ := by
  rw [World.cell?_setCell_far _ _ _ _ (Ne.symm hne), World.cell?_setCell_far _ _ _ _ (Ne.symm hne), World.cell?_setCell_far _ _ _ _ (Ne.symm hne), World.cell?_setCell_far _ _ _ _ (Ne.symm hne)]
theorem int_at {w : World} {b off n cap j : Nat} {l : List Int} (h : Rd w 1 (some ⟨b, off, none⟩) n cap (ivs l)) (hj : j < l.length) : w.cell? ⟨b, off + j, none⟩ = some (.int .i64 (l.getD j 0)) :=
  h.get rfl (ivs_get l j hj)
theorem rdl {w : World} {a : Option Addr} {n cap : Nat} {l : List Int} (h : Rd w 1 a n cap (ivs l)) : l.length = n := by
  have := h.len
  simpa using this
set_option maxRecDepth 10000 in
set_option maxHeartbeats 1000000 in
theorem rget_any (m : Im) (v : Value) (x y i : Nat) (w : World) (hv : ImR w v m) (hok : m.Ok) (hx : (x : Int) < m.W) (hy : (y : Int) < m.H) (hi : (i : Int) = (y : Int) * m.W + x) (hil : i < m.C.length) (n : Nat) (hn : m.C.getD i 0 = n) :
    Calls Tryd.prog 16 #[v, .int .i64 x, .int .i64 y] w fun e w' => e = .returned (.tuple #[.agg (col4 ((n : Int) / 16777216 % 256) ((n : Int) / 65536 % 256) ((n : Int) / 256 % 256) ((n : Int) % 256)), .int .i64 (m.Z.getD i 0), .bool true]) ∧ Ext w w' := by
  obtain ⟨a, b, c, d, rfl, hC, hZ⟩ := hv
  have hlz : i < m.Z.length := by have h1 := hok.2.2.2.2.1; have h2 := hok.2.2.2.2.2.1; omega
  have hn2 : n ≤ 4294967295 := by have := (hok.2.2.2.2.2.2 i hil).1.2; omega
  have HAT := Lib.hid (fun W => at_any m.W m.H (.slice a m.C.length c) (.slice b m.Z.length d) rfl rfl x y W hx hy hok.2.1 hok.2.2.2.1)
  have HUN := Lib.hid (fun W => unpack_any n W hn2)
  obtain ⟨ba, oa, rfl, hba, -⟩ := hC.at_ (by omega)
  obtain ⟨bb, ob, rfl, hbb, -⟩ := hZ.at_ (by omega)
  have HC := Lib.hid hC; have HZ := Lib.hid hZ; have HI := Lib.hid hi
  have hi0 : (i : Int) < m.C.length := by omega
  have hi1 : (i : Int) < m.Z.length := by omega
  have hbig : (i : Int) ≤ 1048576 := by
    have h1 := hok.2.2.2.2.1
    have h2 : m.W * m.H ≤ 1024 * 1024 := Int.mul_le_mul hok.2.1 hok.2.2.2.1 (by have := hok.2.2.1; omega) (by omega)
    omega
  have HN := Lib.hid hn
  obtain ⟨zi, hzi⟩ : ∃ z, z = m.Z.getD i 0 := ⟨_, rfl⟩
  have HZI := Lib.hid hzi
  rw [← hzi]
  have HL := Lib.hid (And.intro hil hlz)
  clear hC hZ hok hx hy hil hlz hn hzi hi hn2
  go_enter Tryd.func16, Tryd.ntmps16
  go_wp2_with fail
  refine (HAT.out _).mono ?_
  rintro e w1 ⟨rfl, hE⟩
  rw [← HI.out]
  have b3 : Blk w1 w.heap.size 24 #[.int .i64 m.W, .int .i64 m.H, .slice (some ⟨ba, oa, none⟩) m.C.length c, .slice (some ⟨bb, ob, none⟩) m.Z.length d] := ((Blk.new w _ _).alloc _).ext hE
  have b6 : Blk w1 (w.heap.size + 1) 37 (col4 0 0 0 0) := (Blk.new' _ _ _ (by simp)).ext hE
  have hE1 : Ext w w1 := (((Ext.refl w).alloc _).alloc _).trans hE
  have B3 := Lib.hid b3; have B6 := Lib.hid b6; have HE1 := Lib.hid hE1
  have cc := int_at (HC.out.ext hE1) HL.out.1
  have cz := int_at (HZ.out.ext hE1) HL.out.2
  rw [HN.out] at cc
  rw [← HZI.out] at cz
  obtain ⟨-, -, p2, p3⟩ := b3.four
  clear b3 b6 hE1 hE HAT
  go_upto_region 4 with fail
  go_region_held3 (fun w' => w'.cell? ⟨w.heap.size, 2, none⟩ = some (.slice (some ⟨ba, oa, none⟩) m.C.length c) ∧ w'.cell? ⟨w.heap.size, 3, none⟩ = some (.slice (some ⟨bb, ob, none⟩) m.Z.length d) ∧ w'.cell? ⟨ba, oa + i, none⟩ = some (.int .i64 n) ∧ w'.cell? ⟨bb, ob + i, none⟩ = some (.int .i64 zi))
    (first | exact ⟨p2, p3, cc, cz⟩ | exact ⟨q2, q3, qc, qz⟩ | (refine ⟨?_, ?_, ?_, ?_⟩ <;> rw [cell_far4 (by omega)] <;> assumption) | go_keep)
    ((go_at_call 27; refine (HUN.out _).mono ?_; rintro e w2 ⟨rfl, hE2⟩; have q2 := hE2.cell_some p2; have q3 := hE2.cell_some p3; have qc := hE2.cell_some cc; have qz := hE2.cell_some cz; have b9 := B6.out.drew.ext hE2; obtain ⟨t0, t1, t2, t3⟩ := b9.four; obtain ⟨u0, u1, u2, u3⟩ := b9.frees4))
  go_wp2_with fail
  try simp only [Exit.inBlock, Exit.then]
  obtain ⟨s0, s1, s2, s3⟩ := (b9.set4 (.int .i64 ((n : Int) / 16777216 % 256)) (.int .i64 ((n : Int) / 65536 % 256)) (.int .i64 ((n : Int) / 256 % 256)) (.int .i64 ((n : Int) % 256))).four
  refine bodyPost_ret (v := .tuple #[.agg (col4 ((n : Int) / 16777216 % 256) ((n : Int) / 65536 % 256) ((n : Int) / 256 % 256) ((n : Int) % 256)), .int .i64 zi, .bool true]) (by simp [results, Tryd.results16, go_sem, s0, s1, s2, s3]) rfl ?_
  refine ⟨rfl, ?_⟩
  exact (HE1.out.drew.trans hE2).set4 (by omega) _ _ _ _
end Go.Proofs.YtpjkhnkbijpmnaaDoor
