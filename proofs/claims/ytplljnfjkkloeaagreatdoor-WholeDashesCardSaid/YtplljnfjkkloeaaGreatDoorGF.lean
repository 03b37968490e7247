/- Proof text: a fragment that comes (frag.One). By an AI agent. No condition beyond what each theorem states. -/
import Derived.Test.YtplljnfjkkloeaaGreatDoorWH
import Derived.Laws.CopyOwn
set_option linter.unusedVariables false
set_option linter.unusedSimpArgs false
set_option maxHeartbeats 4000000
namespace Go.Proofs.YtplljnfjkkloeaaGreatDoor
attribute [local go_sem] Go.Oper.semAt_some
open Go.RowKit
end Go.Proofs.YtplljnfjkkloeaaGreatDoor
set_option linter.unusedVariables false
set_option linter.unusedSimpArgs false
namespace Go.Proofs.YtplljnfjkkloeaaGreatDoor
attribute [local go_sem] Go.Oper.semAt_some
open Go.RowKit
theorem fcells_len (f : Fr) : f.cells.length = 8 := rfl
theorem frag_at {w : World} {b off n cap j : Nat} {L : List Fr} {f : Fr} (h : Rd w 8 (some ⟨b, off, none⟩) n cap (L.flatMap Fr.cells)) (hs : L[j]? = some f) :
  w.cell? ⟨b, off + j * 8, none⟩ = some (.int .i64 f.x) ∧ w.cell? ⟨b, off + j * 8 + 1, none⟩ = some (.int .i64 f.y) ∧ w.cell? ⟨b, off + j * 8 + 2, none⟩ = some (.int .i64 f.z) ∧ w.cell? ⟨b, off + j * 8 + 3, none⟩ = some (.int .i64 f.c0) ∧
  w.cell? ⟨b, off + j * 8 + 4, none⟩ = some (.int .i64 f.c1) ∧ w.cell? ⟨b, off + j * 8 + 5, none⟩ = some (.int .i64 f.c2) ∧ w.cell? ⟨b, off + j * 8 + 6, none⟩ = some (.int .i64 f.c3) ∧ w.cell? ⟨b, off + j * 8 + 7, none⟩ = some (.int .i64 f.m) :=
 have g := fun i (hi : i < 8) => frow_get fcells_len hs i hi
 ⟨h.get rfl ((g 0 (by omega)).trans rfl), h.get rfl ((g 1 (by omega)).trans rfl), h.get rfl ((g 2 (by omega)).trans rfl), h.get rfl ((g 3 (by omega)).trans rfl), h.get rfl ((g 4 (by omega)).trans rfl), h.get rfl ((g 5 (by omega)).trans rfl), h.get rfl ((g 6 (by omega)).trans rfl), h.get rfl ((g 7 (by omega)).trans rfl)⟩
def Takes (W H : Nat) (L : List Fr) : Prop := ∀ f ∈ L, f.Fits ∧ 0 ≤ f.x ∧ f.x < W ∧ 0 ≤ f.y ∧ f.y < H
end Go.Proofs.YtplljnfjkkloeaaGreatDoor
set_option linter.unusedVariables false
set_option linter.unusedSimpArgs false
namespace Go.Proofs.YtplljnfjkkloeaaGreatDoor
attribute [local go_sem] Go.Oper.semAt_some
open Go.RowKit
theorem own_blk {w : World} {base : Nat} {e : TypeId} {X n : Nat} {xs : List Value} (h : w.ownsRow base e 1 (.slice (some ⟨X, 0, none⟩) n n) n xs) : Blk w X e xs.toArray ∧ base ≤ X := by
 obtain ⟨hl, hr⟩ := h
 rcases hr with ⟨h0, -⟩ | ⟨g, cap, cur, h0, hb, hg, hnc, hcm, hcs, ht⟩
 ·cases h0
 ·simp only [Value.slice.injEq, Option.some.injEq, Addr.mk.injEq, and_true, true_and] at h0
  obtain ⟨rfl, rfl⟩ := h0
  have : cur.toList = xs := by
   rw [← ht, List.take_of_length_le (by simp; omega)]
  refine ⟨?_, hb⟩
  unfold Blk
  rw [hg, ← this]
theorem size_int1 : (Tryz.prog.info? 3).map (·.size) = some 1 := by kernel_rfl
theorem wpList_copy_all {w : World} {ops : Array Oper} {rest : List Oper} {o : Oper} {a : Act} {Q : Exit → Act → World → Prop} (hgd : o.guard = none) (d s : Operand) (ho : o.op = .call { callee := .builtin .copy, args := #[d, s], argTypes := #[26, 26] })
  (g n : Nat) (sp : Option Addr) (cap : Nat) (hd : a.eval d = .slice (some ⟨g, 0, none⟩) n n) (hs : a.eval s = .slice sp n cap) (xs C : List Int) (hg : Blk w g 3 (irow xs)) (hx : xs.length = n) (hC : C.length = n) (h0 : 0 < n) (hr : Rd w 1 sp n cap (ivs C))
  (h : ∀ w', Blk w' g 3 (irow C) → Kp (· ≠ g) w w' → wpList Tryz.prog ops Q rest (a.put o.dst (.int .i64 (n : Int))) w') : wpList Tryz.prog ops Q (o :: rest) a w := by
 obtain ⟨b, off, rfl, -, -⟩ := hr.at_ h0
 have hl : (ivs C).length = n := by simp [hC]
 refine wpList_copy_own hgd d s _ _ ho 3 Tryz.underlying26 size_int1 g 0 n n _ n cap hd hs (irow xs) 3 hg (ivs C) (by rw [hl]; exact (Nat.min_self n).symm) hr.news (by rw [irow_size, hl, hx]; omega) (ivs_one C) ?_
 have hrow : ((irow xs).toList.take 0 ++ (ivs C ++ (irow xs).toList.drop (0 + (ivs C).length))).toArray = irow C := by
  rw [List.take_zero, List.nil_append, Nat.zero_add, hl, List.drop_eq_nil_of_le (by rw [Array.length_toList, irow_size, hx]; exact Nat.le_refl _), List.append_nil]
  rfl
 rw [hrow, hl]
 exact h _ (hg.row) (Kp.setRow _ (fun h => h rfl))
def CopyP (w : World) (W H : Int) (n : Nat) (C Z : List Int) (e : Ending) (w' : World) : Prop :=
 ∃ X Y : Nat, e = .returned (.agg #[.int .i64 W, .int .i64 H, .slice (some ⟨X, 0, none⟩) n n, .slice (some ⟨Y, 0, none⟩) n n]) ∧ Blk w' X 3 (irow C) ∧ Blk w' Y 3 (irow Z) ∧ X ≠ Y ∧ w.heap.size ≤ X ∧ w.heap.size ≤ Y ∧ Ext w w'
structure Cpy (w wr : World) (W H : Int) (n X Y P : Nat) (A B : Option Addr) (ca cb : Nat) (C Z C0 Z0 : List Int) : Prop where
 m : Blk wr w.heap.size 28 #[.int .i64 W, .int .i64 H, .slice A n ca, .slice B n cb]
 r : Blk wr (w.heap.size + 1) 28 #[.int .i64 0, .int .i64 0, .slice none 0 0, .slice none 0 0]
 p : Blk wr P 28 #[.int .i64 W, .int .i64 H, .slice (some ⟨X, 0, none⟩) n n, .slice (some ⟨Y, 0, none⟩) n n]
 x : Blk wr X 3 (irow C0)
 y : Blk wr Y 3 (irow Z0)
 a : Rd wr 1 A n ca (ivs C)
 b : Rd wr 1 B n cb (ivs Z)
 e : Ext w wr
 ne : X ≠ Y ∧ P ≠ X ∧ P ≠ Y
 lt : w.heap.size + 1 < X ∧ w.heap.size + 1 < Y ∧ w.heap.size + 1 < P
 at_ : (∀ ad, A = some ad → ad.block < w.heap.size) ∧ (∀ ad, B = some ad → ad.block < w.heap.size)
theorem Cpy.putX {w wr w' : World} {W H : Int} {n X Y P : Nat} {A B : Option Addr} {ca cb : Nat} {C Z C0 Z0 C1 : List Int} (h : Cpy w wr W H n X Y P A B ca cb C Z C0 Z0) (k : Kp (· ≠ X) wr w') (hx : Blk w' X 3 (irow C1)) : Cpy w w' W H n X Y P A B ca cb C Z C1 Z0 := by
 obtain ⟨n1, n2, n3⟩ := h.ne
 obtain ⟨l1, l2, l3⟩ := h.lt
 exact ⟨h.m.kp k (by omega), h.r.kp k (by omega), h.p.kp k n2, hx, h.y.kp k n1.symm, h.a.kp k (fun ad he => by have := h.at_.1 ad he; omega), h.b.kp k (fun ad he => by have := h.at_.2 ad he; omega), k.ext h.e (fun j hj => by omega), h.ne, h.lt, h.at_⟩
theorem Cpy.putY {w wr w' : World} {W H : Int} {n X Y P : Nat} {A B : Option Addr} {ca cb : Nat} {C Z C0 Z0 Z1 : List Int} (h : Cpy w wr W H n X Y P A B ca cb C Z C0 Z0) (k : Kp (· ≠ Y) wr w') (hx : Blk w' Y 3 (irow Z1)) : Cpy w w' W H n X Y P A B ca cb C Z C0 Z1 := by
 obtain ⟨n1, n2, n3⟩ := h.ne
 obtain ⟨l1, l2, l3⟩ := h.lt
 exact ⟨h.m.kp k (by omega), h.r.kp k (by omega), h.p.kp k n3, h.x.kp k n1, hx, h.a.kp k (fun ad he => by have := h.at_.1 ad he; omega), h.b.kp k (fun ad he => by have := h.at_.2 ad he; omega), k.ext h.e (fun j hj => by omega), h.ne, h.lt, h.at_⟩
theorem new_row {cur : Array Value} {n : Nat} (M : ∀ W : World, ∀ base, base ≤ W.heap.size → (W.alloc (.cells cur 3)).ownsRow base 3 1 (.slice (some ⟨W.heap.size, 0, none⟩) n n) n (ivs (List.replicate n 0))) (W : World) (X : Nat) (hX : X = W.heap.size) :
  Blk (W.alloc (.cells cur 3)) X 3 (irow (List.replicate n 0)) := hX ▸ (own_blk (M W 0 (by omega))).1
theorem Rd.block_lt {w : World} {size : Nat} {a : Option Addr} {n cap : Nat} {xs : List Value} (h : Rd w size a n cap xs) (h0 : 0 < n) : ∀ ad, a = some ad → ad.block < w.heap.size := by
 intro ad ha
 obtain ⟨b, off, hb, hl, -⟩ := h.at_ h0
 rw [ha] at hb
 injection hb with hb
 subst hb
 exact hl
set_option maxRecDepth 100000 in
theorem copy_any (W H : Int) (C Z : List Int) (n : Nat) (A B : Option Addr) (ca cb : Nat) (w : World) (hC : C.length = n) (hZ : Z.length = n) (h0 : 0 < n) (h1 : n ≤ 1048576) (ra : Rd w 1 A n ca (ivs C)) (rb : Rd w 1 B n cb (ivs Z)) :
  Calls Tryz.prog 153 #[.agg #[.int .i64 W, .int .i64 H, .slice A n ca, .slice B n cb]] w (CopyP w W H n C Z) := by
 obtain ⟨cur, hcur⟩ := make_ints n h1
 have m1 := fun W => (hcur W).1
 have M1 := Lib.hid (fun W => (hcur W).2)
 clear hcur
 have hni : (n : Int) ≤ 1048576 := by omega
 have HAT := Lib.hid (And.intro (ra.block_lt h0) (rb.block_lt h0))
 have HRA := Lib.hid ra
 have HRB := Lib.hid rb
 have HLC := Lib.hid hC
 have HLZ := Lib.hid hZ
 have B0 : Hid (Blk ((w.alloc (.cells #[.int .i64 W, .int .i64 H, .slice A n ca, .slice B n cb] 28)).alloc (.cells #[.int .i64 0, .int .i64 0, .slice none 0 0, .slice none 0 0] 28)) w.heap.size 28 #[.int .i64 W, .int .i64 H, .slice A n ca, .slice B n cb]) := Lib.hid (by (repeat (first | with_reducible exact Hid.out (by assumption) | (with_reducible refine Blk.new' _ _ _ ?_; (simp; done)) | with_reducible (first | refine Blk.alloc ?_ _ | refine Blk.drew ?_ | refine Blk.drewN ?_ _ | refine Blk.later ?_ _) | (with_reducible refine Blk.far ?_ ?hp _; case hp => first | (simp; done) | (simp; omega) | omega))))
 have B1 : Hid (Blk ((w.alloc (.cells #[.int .i64 W, .int .i64 H, .slice A n ca, .slice B n cb] 28)).alloc (.cells #[.int .i64 0, .int .i64 0, .slice none 0 0, .slice none 0 0] 28)) (w.heap.size + 1) 28 #[.int .i64 0, .int .i64 0, .slice none 0 0, .slice none 0 0]) := Lib.hid (by (repeat (first | with_reducible exact Hid.out (by assumption) | (with_reducible refine Blk.new' _ _ _ ?_; (simp; done)) | with_reducible (first | refine Blk.alloc ?_ _ | refine Blk.drew ?_ | refine Blk.drewN ?_ _ | refine Blk.later ?_ _) | (with_reducible refine Blk.far ?_ ?hp _; case hp => first | (simp; done) | (simp; omega) | omega))))
 have BE : Hid (Ext w ((w.alloc (.cells #[.int .i64 W, .int .i64 H, .slice A n ca, .slice B n cb] 28)).alloc (.cells #[.int .i64 0, .int .i64 0, .slice none 0 0, .slice none 0 0] 28))) := Lib.hid (by (repeat (first | with_reducible (first | exact eR_ _ | assumption | refine eA_ ?_ _ | refine eD_ ?_ | refine eN_ ?_ _ | refine eL_ ?_ _) | (with_reducible refine eS_ ?_ _ ?hp; case hp => first | (simp; done) | (simp; omega) | omega))))
 have BS : ((w.alloc (.cells #[.int .i64 W, .int .i64 H, .slice A n ca, .slice B n cb] 28)).alloc (.cells #[.int .i64 0, .int .i64 0, .slice none 0 0, .slice none 0 0] 28)).heap.size = w.heap.size + 2 := by simp
 clear hC hZ ra rb h1
 go_enter Tryz.func153, Tryz.ntmps153
 go_upto_region 1 with fail
 generalize (w.alloc (.cells #[.int .i64 W, .int .i64 H, .slice A n ca, .slice B n cb] 28)).alloc (.cells #[.int .i64 0, .int .i64 0, .slice none 0 0, .slice none 0 0] 28) = W0 at *
 have cm := B0.out.c4
 go_cut [3] from 4 to 16 (fun s3 wx => ∃ X Y P : Nat, s3 = .pointer (some ⟨P, 0, none⟩) ∧ Hid (Cpy w wx W H n X Y P A B ca cb C Z (List.replicate n 0) (List.replicate n 0)))
 case first =>
  go_region
  all_goals
   go_wp2_with fail
   go_meet
   have BEO := BE.out
   first
    | (refine ⟨w.heap.size + 2, w.heap.size + 2 + 1, w.heap.size + 2 + 1 + 1, rfl, Lib.hid ⟨?_, ?_, ?_, ?_, ?_, ?_, ?_, ?_, ?_, ?_, HAT.out⟩⟩ <;> (first | ((repeat (first | with_reducible exact Hid.out (by assumption) | with_reducible refine Blk.drew ?_ | (with_reducible refine Blk.new' _ _ _ ?_; (simp [BS]; done)) | (refine new_row M1.out _ _ ?_; (simp [BS]; done)) | with_reducible refine Blk.alloc ?_ _)); done) | (refine HRA.out.ext ?_; (repeat (first | with_reducible (first | exact eR_ _ | assumption | refine eA_ ?_ _ | refine eD_ ?_ | refine eN_ ?_ _ | refine eL_ ?_ _) | (with_reducible refine eS_ ?_ _ ?hp; case hp => first | (simp; done) | (simp; omega) | omega))); done) | (refine HRB.out.ext ?_; (repeat (first | with_reducible (first | exact eR_ _ | assumption | refine eA_ ?_ _ | refine eD_ ?_ | refine eN_ ?_ _ | refine eL_ ?_ _) | (with_reducible refine eS_ ?_ _ ?hp; case hp => first | (simp; done) | (simp; omega) | omega))); done) | ((repeat (first | with_reducible (first | exact eR_ _ | assumption | refine eA_ ?_ _ | refine eD_ ?_ | refine eN_ ?_ _ | refine eL_ ?_ _) | (with_reducible refine eS_ ?_ _ ?hp; case hp => first | (simp; done) | (simp; omega) | omega))); done) | (refine ⟨?_, ?_, ?_⟩ <;> omega)); done)
    | (refine ⟨w.heap.size + 2, w.heap.size + 2 + 1 + 1, w.heap.size + 2 + 1, rfl, Lib.hid ⟨?_, ?_, ?_, ?_, ?_, ?_, ?_, ?_, ?_, ?_, HAT.out⟩⟩ <;> (first | ((repeat (first | with_reducible exact Hid.out (by assumption) | with_reducible refine Blk.drew ?_ | (with_reducible refine Blk.new' _ _ _ ?_; (simp [BS]; done)) | (refine new_row M1.out _ _ ?_; (simp [BS]; done)) | with_reducible refine Blk.alloc ?_ _)); done) | (refine HRA.out.ext ?_; (repeat (first | with_reducible (first | exact eR_ _ | assumption | refine eA_ ?_ _ | refine eD_ ?_ | refine eN_ ?_ _ | refine eL_ ?_ _) | (with_reducible refine eS_ ?_ _ ?hp; case hp => first | (simp; done) | (simp; omega) | omega))); done) | (refine HRB.out.ext ?_; (repeat (first | with_reducible (first | exact eR_ _ | assumption | refine eA_ ?_ _ | refine eD_ ?_ | refine eN_ ?_ _ | refine eL_ ?_ _) | (with_reducible refine eS_ ?_ _ ?hp; case hp => first | (simp; done) | (simp; omega) | omega))); done) | ((repeat (first | with_reducible (first | exact eR_ _ | assumption | refine eA_ ?_ _ | refine eD_ ?_ | refine eN_ ?_ _ | refine eL_ ?_ _) | (with_reducible refine eS_ ?_ _ ?hp; case hp => first | (simp; done) | (simp; omega) | omega))); done) | (refine ⟨?_, ?_, ?_⟩ <;> omega)); done)
    | (refine ⟨w.heap.size + 2 + 1, w.heap.size + 2, w.heap.size + 2 + 1 + 1, rfl, Lib.hid ⟨?_, ?_, ?_, ?_, ?_, ?_, ?_, ?_, ?_, ?_, HAT.out⟩⟩ <;> (first | ((repeat (first | with_reducible exact Hid.out (by assumption) | with_reducible refine Blk.drew ?_ | (with_reducible refine Blk.new' _ _ _ ?_; (simp [BS]; done)) | (refine new_row M1.out _ _ ?_; (simp [BS]; done)) | with_reducible refine Blk.alloc ?_ _)); done) | (refine HRA.out.ext ?_; (repeat (first | with_reducible (first | exact eR_ _ | assumption | refine eA_ ?_ _ | refine eD_ ?_ | refine eN_ ?_ _ | refine eL_ ?_ _) | (with_reducible refine eS_ ?_ _ ?hp; case hp => first | (simp; done) | (simp; omega) | omega))); done) | (refine HRB.out.ext ?_; (repeat (first | with_reducible (first | exact eR_ _ | assumption | refine eA_ ?_ _ | refine eD_ ?_ | refine eN_ ?_ _ | refine eL_ ?_ _) | (with_reducible refine eS_ ?_ _ ?hp; case hp => first | (simp; done) | (simp; omega) | omega))); done) | ((repeat (first | with_reducible (first | exact eR_ _ | assumption | refine eA_ ?_ _ | refine eD_ ?_ | refine eN_ ?_ _ | refine eL_ ?_ _) | (with_reducible refine eS_ ?_ _ ?hp; case hp => first | (simp; done) | (simp; omega) | omega))); done) | (refine ⟨?_, ?_, ?_⟩ <;> omega)); done)
    | (refine ⟨w.heap.size + 2 + 1, w.heap.size + 2 + 1 + 1, w.heap.size + 2, rfl, Lib.hid ⟨?_, ?_, ?_, ?_, ?_, ?_, ?_, ?_, ?_, ?_, HAT.out⟩⟩ <;> (first | ((repeat (first | with_reducible exact Hid.out (by assumption) | with_reducible refine Blk.drew ?_ | (with_reducible refine Blk.new' _ _ _ ?_; (simp [BS]; done)) | (refine new_row M1.out _ _ ?_; (simp [BS]; done)) | with_reducible refine Blk.alloc ?_ _)); done) | (refine HRA.out.ext ?_; (repeat (first | with_reducible (first | exact eR_ _ | assumption | refine eA_ ?_ _ | refine eD_ ?_ | refine eN_ ?_ _ | refine eL_ ?_ _) | (with_reducible refine eS_ ?_ _ ?hp; case hp => first | (simp; done) | (simp; omega) | omega))); done) | (refine HRB.out.ext ?_; (repeat (first | with_reducible (first | exact eR_ _ | assumption | refine eA_ ?_ _ | refine eD_ ?_ | refine eN_ ?_ _ | refine eL_ ?_ _) | (with_reducible refine eS_ ?_ _ ?hp; case hp => first | (simp; done) | (simp; omega) | omega))); done) | ((repeat (first | with_reducible (first | exact eR_ _ | assumption | refine eA_ ?_ _ | refine eD_ ?_ | refine eN_ ?_ _ | refine eL_ ?_ _) | (with_reducible refine eS_ ?_ _ ?hp; case hp => first | (simp; done) | (simp; omega) | omega))); done) | (refine ⟨?_, ?_, ?_⟩ <;> omega)); done)
    | (refine ⟨w.heap.size + 2 + 1 + 1, w.heap.size + 2, w.heap.size + 2 + 1, rfl, Lib.hid ⟨?_, ?_, ?_, ?_, ?_, ?_, ?_, ?_, ?_, ?_, HAT.out⟩⟩ <;> (first | ((repeat (first | with_reducible exact Hid.out (by assumption) | with_reducible refine Blk.drew ?_ | (with_reducible refine Blk.new' _ _ _ ?_; (simp [BS]; done)) | (refine new_row M1.out _ _ ?_; (simp [BS]; done)) | with_reducible refine Blk.alloc ?_ _)); done) | (refine HRA.out.ext ?_; (repeat (first | with_reducible (first | exact eR_ _ | assumption | refine eA_ ?_ _ | refine eD_ ?_ | refine eN_ ?_ _ | refine eL_ ?_ _) | (with_reducible refine eS_ ?_ _ ?hp; case hp => first | (simp; done) | (simp; omega) | omega))); done) | (refine HRB.out.ext ?_; (repeat (first | with_reducible (first | exact eR_ _ | assumption | refine eA_ ?_ _ | refine eD_ ?_ | refine eN_ ?_ _ | refine eL_ ?_ _) | (with_reducible refine eS_ ?_ _ ?hp; case hp => first | (simp; done) | (simp; omega) | omega))); done) | ((repeat (first | with_reducible (first | exact eR_ _ | assumption | refine eA_ ?_ _ | refine eD_ ?_ | refine eN_ ?_ _ | refine eL_ ?_ _) | (with_reducible refine eS_ ?_ _ ?hp; case hp => first | (simp; done) | (simp; omega) | omega))); done) | (refine ⟨?_, ?_, ?_⟩ <;> omega)); done)
    | (refine ⟨w.heap.size + 2 + 1 + 1, w.heap.size + 2 + 1, w.heap.size + 2, rfl, Lib.hid ⟨?_, ?_, ?_, ?_, ?_, ?_, ?_, ?_, ?_, ?_, HAT.out⟩⟩ <;> (first | ((repeat (first | with_reducible exact Hid.out (by assumption) | with_reducible refine Blk.drew ?_ | (with_reducible refine Blk.new' _ _ _ ?_; (simp [BS]; done)) | (refine new_row M1.out _ _ ?_; (simp [BS]; done)) | with_reducible refine Blk.alloc ?_ _)); done) | (refine HRA.out.ext ?_; (repeat (first | with_reducible (first | exact eR_ _ | assumption | refine eA_ ?_ _ | refine eD_ ?_ | refine eN_ ?_ _ | refine eL_ ?_ _) | (with_reducible refine eS_ ?_ _ ?hp; case hp => first | (simp; done) | (simp; omega) | omega))); done) | (refine HRB.out.ext ?_; (repeat (first | with_reducible (first | exact eR_ _ | assumption | refine eA_ ?_ _ | refine eD_ ?_ | refine eN_ ?_ _ | refine eL_ ?_ _) | (with_reducible refine eS_ ?_ _ ?hp; case hp => first | (simp; done) | (simp; omega) | omega))); done) | ((repeat (first | with_reducible (first | exact eR_ _ | assumption | refine eA_ ?_ _ | refine eD_ ?_ | refine eN_ ?_ _ | refine eL_ ?_ _) | (with_reducible refine eS_ ?_ _ ?hp; case hp => first | (simp; done) | (simp; omega) | omega))); done) | (refine ⟨?_, ?_, ?_⟩ <;> omega)); done)
 case rest =>
  obtain ⟨X, Y, P, rfl, HM0⟩ := hcut
  clear m1 M1 cm B0 B1 BE BS HRA HRB
  generalize wc = W1 at *
  have cp := HM0.out.p.c4
  have cm := HM0.out.m.c4
  go_wp2_with (refine wpList_copy_all rfl (.tmp 18) (.tmp 20) rfl X n A ca rfl rfl (List.replicate n 0) C HM0.out.x (by simp) HLC.out h0 HM0.out.a ?_)
  intro w2 hb hk
  have HM1 := Lib.hid (HM0.out.putX hk hb)
  clear hb hk cp cm HM0
  have cp := HM1.out.p.c4
  have cm := HM1.out.m.c4
  go_wp2_with (refine wpList_copy_all rfl (.tmp 23) (.tmp 25) rfl Y n B cb rfl rfl (List.replicate n 0) Z HM1.out.y (by simp) HLZ.out h0 HM1.out.b ?_)
  intro w3 hb hk
  have HM2 := Lib.hid (HM1.out.putY hk hb)
  clear hb hk cp cm HM1
  have cp := HM2.out.p.c4
  have cr := HM2.out.r.c4
  have fr := HM2.out.r.f4
  go_wp2_with fail
  obtain ⟨l1, l2, l3⟩ := HM2.out.lt
  have HS := HM2.out.r.s4 (.int .i64 W) (.int .i64 H) (.slice (some ⟨X, 0, none⟩) n n) (.slice (some ⟨Y, 0, none⟩) n n)
  obtain ⟨s0, s1, s2, s3⟩ := HS.c4
  have kk : Kp (· ≠ w.heap.size + 1) w3 ((((w3.setCell ⟨w.heap.size + 1, 0, none⟩ (.int .i64 W)).setCell ⟨w.heap.size + 1, 1, none⟩ (.int .i64 H)).setCell ⟨w.heap.size + 1, 2, none⟩ (.slice (some ⟨X, 0, none⟩) n n)).setCell ⟨w.heap.size + 1, 3, none⟩ (.slice (some ⟨Y, 0, none⟩) n n)) :=
   ((((Kp.refl _ _).setCell (p := ⟨w.heap.size + 1, 0, none⟩) _ (fun h => h rfl)).setCell (p := ⟨w.heap.size + 1, 1, none⟩) _ (fun h => h rfl)).setCell (p := ⟨w.heap.size + 1, 2, none⟩) _ (fun h => h rfl)).setCell (p := ⟨w.heap.size + 1, 3, none⟩) _ (fun h => h rfl)
  refine bodyPost_ret (v := .agg #[.int .i64 W, .int .i64 H, .slice (some ⟨X, 0, none⟩) n n, .slice (some ⟨Y, 0, none⟩) n n]) (by simp [results, Tryz.results153, go_sem, s0, s1, s2, s3]) rfl ⟨X, Y, rfl, HM2.out.x.kp kk (by omega), HM2.out.y.kp kk (by omega), HM2.out.ne.1, by omega, by omega, kk.ext HM2.out.e (fun j hj => by omega)⟩
end Go.Proofs.YtplljnfjkkloeaaGreatDoor
