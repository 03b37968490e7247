/- Proof text: bytes that are put behind one another. By an AI agent. No condition beyond what each theorem states. -/
import Derived.Test.YtpjkhnkbijpmnaaDoorPJ
set_option linter.unusedVariables false
set_option linter.unusedSimpArgs false
namespace Go.Proofs.YtpjkhnkbijpmnaaDoor
open Go.RowKit
/-- A row of the call's own that holds bytes. -/
def Own (base : Nat) (v : Value) (l : List UInt8) (w : World) : Prop := w.ownsRow base 5 1 v l.length (bvs l)
/-- What lay below stays. -/
def Kp (base : Nat) (w w' : World) : Prop := ∀ W0, Ext W0 w → W0.heap.size ≤ base → Ext W0 w'
theorem Own.ext {base : Nat} {v : Value} {l : List UInt8} {w w' : World} (h : Own base v l w) (e : Ext w w') : Own base v l w' := ownsRow_ext h e
theorem str_cells (l : List UInt8) : Lib.strCells ⟨l.toArray⟩ = bvs l := by simp [Lib.strCells]
theorem bvs_append (l m : List UInt8) : bvs (l ++ m) = bvs l ++ bvs m := by simp [bvs]
/-- A text behind bytes. -/
theorem wpList_append_text {w : World} {ops : Array Oper} {rest : List Oper} {o : Oper} {a : Act} {Q : Exit → Act → World → Prop} (hgd : o.guard = none) (sl x : Operand)
    (ho : o.op = .call { callee := .builtin .append, args := #[sl, x], argTypes := #[33, 9] })
    (base : Nat) (v : Value) (acc l : List UInt8) (hs : a.eval sl = v) (hown : Own base v acc w) (hx : a.eval x = .string ⟨l.toArray⟩)
    (hlen : acc.length + l.length ≤ 100000000) (hbase : base ≤ w.heap.size)
    (h : ∀ v' w', Own base v' (acc ++ l) w' → Kp base w w' → wpList Tryd.prog ops Q rest (a.put o.dst v') w') : wpList Tryd.prog ops Q (o :: rest) a w := by
  obtain ⟨i0, hi, hz, hs1, hb1⟩ := info_parts info_u8
  have e : (⟨l.toArray⟩ : ByteArray).size = l.length := by show l.toArray.size = l.length; simp
  refine Lib.wpList_append_own_string w hgd sl x 33 9 ho base 5 i0 Tryd.underlying33 Tryd.underlying9 hi hz hs1 hb1 v acc.length (bvs acc) hs hown ⟨l.toArray⟩ hx ?_ ?_ hbase ?_
  · rw [e]; unfold maxLen; omega
  · rw [e]; omega
  · intro v' w' ho' hg _
    rw [e, str_cells, ← bvs_append, ← List.length_append] at ho'
    exact h v' w' ho' (fun W0 h0 hb => h0.grown hg (fun k hk => Nat.le_trans hb (hown.lt k hk).1))
/-- Bytes behind bytes. -/
theorem wpList_append_bytes {w : World} {ops : Array Oper} {rest : List Oper} {o : Oper} {a : Act} {Q : Exit → Act → World → Prop} (hgd : o.guard = none) (sl x : Operand)
    (ho : o.op = .call { callee := .builtin .append, args := #[sl, x], argTypes := #[33, 33] })
    (base : Nat) (v : Value) (acc l : List UInt8) (ao : Option Addr) (c : Nat) (hs : a.eval sl = v) (hown : Own base v acc w) (hx : a.eval x = .slice ao l.length c) (hr : Rd w 1 ao l.length c (bvs l))
    (hlen : acc.length + l.length ≤ 100000000) (hbase : base ≤ w.heap.size)
    (h : ∀ v' w', Own base v' (acc ++ l) w' → Kp base w w' → wpList Tryd.prog ops Q rest (a.put o.dst v') w') : wpList Tryd.prog ops Q (o :: rest) a w := by
  refine wpList_append_rd hgd sl x 33 ho base 5 (.int .u8 0) 1 1 Tryd.underlying33 info_u8 rfl (by decide) v acc.length (bvs acc) hs hown ao l.length c (bvs l) hx hr (bvs_one l) (by omega) (by decide) hbase ?_
  intro v' w' ho' hg
  rw [← bvs_append, ← List.length_append] at ho'
  exact h v' w' ho' (fun W0 h0 hb => h0.grown hg (fun k hk => Nat.le_trans hb (hown.lt k hk).1))
/-- A text behind bytes that fill their row: a new row. -/
theorem wpList_append_text_new {w : World} {ops : Array Oper} {rest : List Oper} {o : Oper} {a : Act} {Q : Exit → Act → World → Prop} (hgd : o.guard = none) (sl x : Operand)
    (ho : o.op = .call { callee := .builtin .append, args := #[sl, x], argTypes := #[33, 9] })
    (base g n : Nat) (acc l : List UInt8) (hs : a.eval sl = .slice (some ⟨g, 0, none⟩) n n) (hn : acc.length = n) (hc : ∀ j u, (bvs acc)[j]? = some u → w.cell? ((⟨g, 0, none⟩ : Addr).add j) = some u) (hx : a.eval x = .string ⟨l.toArray⟩)
    (hlen : acc.length + l.length ≤ 100000000) (hpos : 0 < l.length) (hbase : base ≤ w.heap.size)
    (h : ∀ v' w', Own base v' (acc ++ l) w' → Ext w w' → wpList Tryd.prog ops Q rest (a.put o.dst v') w') : wpList Tryd.prog ops Q (o :: rest) a w := by
  refine wpList_plain hgd fun K hK => ?_
  obtain ⟨i0, hi, hz, hs1, hb1⟩ := info_parts info_u8
  have e : (⟨l.toArray⟩ : ByteArray).size = l.length := by show l.toArray.size = l.length; simp
  have hr := Lib.run_append_grow_string (P := Tryd.prog) w 33 9 o.type 5 i0 (.int .u8 0) Tryd.underlying33 Tryd.underlying9 hi hz ⟨g, 0, none⟩ n n (bvs acc) (by rw [hs1]; simp [hn]) hc ⟨l.toArray⟩ (by rw [e]; omega) (by rw [e]; omega) (by rw [hb1, e]; exact growslice_fits (by omega) (by omega))
  rw [e] at hr
  have hge := grownCap_ge w (n + l.length) n 5
  have hcm : grownCap w (n + l.length) n 5 ≤ maxLen := grownCap_le_maxLen w (n + l.length) n 5 (by unfold maxLen; omega)
  unfold Oper.wp execOp
  simp only [ho, resolve, invoke, builtin, Sem.run_bind, Sem.run_pure, Result.andThen_ok, List.map_toArray, List.map_cons, List.map_nil, hs, hx, hr]
  refine hK _ _ (h _ _ ⟨?_, .inr ⟨w.heap.size, _, _, ?_, hbase, heap_alloc_new w.drew _, ?_, hcm, ?_, ?_⟩⟩ ((Ext.refl w).drew.alloc _))
  · simp [bvs]
  · rw [List.length_append, hn]
  · rw [List.length_append, hn]; exact hge
  · have hz1 : (Value.int IntKind.u8 0).cells.size = 1 := rfl
    simp only [Array.size_append, List.size_toArray, size_zeroCells, hz1, Lib.strCells_length, e, List.length_map, hn]
    omega
  · simp only [Array.toList_append, List.append_assoc]
    rw [str_cells, ← List.append_assoc, ← bvs_append]
    exact List.take_left' (by simp [bvs])
theorem Own.lit (w : World) (base : Nat) (l : List UInt8) (hb : base ≤ w.heap.size) (hl : l.length ≤ 1000) : Own base (.slice (some ⟨w.heap.size, 0, none⟩) l.length l.length) l (w.alloc (.cells (bvs l).toArray 5)) :=
  World.ownsRow_lit w (bvs l).toArray l.length hb (by unfold maxLen; omega) (by simp)
/-- A pixel's bytes. -/
def px (n : Int) : List UInt8 := [UInt8.ofNat (n.toNat / 16777216 % 256), UInt8.ofNat (n.toNat / 65536 % 256), UInt8.ofNat (n.toNat / 256 % 256)]
/-- Rows, from above. -/
def rows (C : List Int) (W : Nat) : Nat → List UInt8
  | 0 => []
  | y + 1 => ((C.drop (y * W)).take W).flatMap px ++ rows C W y
/-- The file of an image. -/
def enc (m : Im) : List UInt8 := [80, 54, 10] ++ Lib.itoa m.W ++ [32] ++ Lib.itoa m.H ++ [10, 50, 53, 53, 10] ++ rows m.C m.W.toNat m.H.toNat
theorem px_len (n : Int) : (px n).length = 3 := rfl
theorem flat_px (l : List Int) : (l.flatMap px).length = 3 * l.length := by
  induction l with
  | nil => rfl
  | cons x l ih => rw [List.flatMap_cons, List.length_append, ih, px_len, List.length_cons]; omega
theorem rows_len {C : List Int} {W : Nat} : ∀ {y : Nat}, y * W ≤ C.length → (rows C W y).length = 3 * (y * W)
  | 0, _ => by simp [rows]
  | y + 1, h => by
    have e := Nat.succ_mul y W
    have e2 : (y + 1) * W = y * W + W := e
    rw [rows, List.length_append, flat_px, rows_len (by omega), List.length_take, List.length_drop]
    omega
theorem itoa_len (n : Int) (h0 : 0 ≤ n) (h1 : n ≤ 1024) : (Lib.itoa n).length ≤ 21 := Lib.itoa_length_le n (by omega) (by omega)
end Go.Proofs.YtpjkhnkbijpmnaaDoor
