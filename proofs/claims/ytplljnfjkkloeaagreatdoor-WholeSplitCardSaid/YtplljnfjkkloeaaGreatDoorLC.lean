/- General laws: blocks of two to fifteen cells, known whole: read, free, written whole. No condition beyond what each theorem states. By an AI agent. -/
import Derived.Test.YtplljnfjkkloeaaGreatDoorSH
import Derived.Deep.LoopGhost
import Derived.IntWalk
import Derived.Test.YtplljnfjkkloeaaGreatDoorChecked
set_option linter.unusedVariables false
set_option linter.unusedSimpArgs false
namespace Go.Proofs.YtplljnfjkkloeaaGreatDoor
open Go.RowKit
section
variable {w : World} {g : Nat} {t : TypeId}
theorem Blk.c1 {x0 : Value} (h : Blk w g t #[x0]) : w.cell? ⟨g, 0, none⟩ = some x0 :=
  h.cell 0
theorem Blk.f1 {cs : Array Value} (h : Blk w g t cs) : w.frozen? ⟨g, 0, none⟩ = false :=
  h.frozen 0
theorem Blk.s1 {x0 : Value} (h : Blk w g t #[x0]) (y0 : Value) : Blk (w.setCell ⟨g, 0, none⟩ y0) g t #[y0] := by
  simpa using (h.set_ 0 y0)
theorem Blk.c2 {x0 x1 : Value} (h : Blk w g t #[x0, x1]) : w.cell? ⟨g, 0, none⟩ = some x0 ∧ w.cell? ⟨g, 1, none⟩ = some x1 :=
  ⟨h.cell 0, h.cell 1⟩
theorem Blk.f2 {cs : Array Value} (h : Blk w g t cs) : w.frozen? ⟨g, 0, none⟩ = false ∧ w.frozen? ⟨g, 1, none⟩ = false :=
  ⟨h.frozen 0, h.frozen 1⟩
theorem Blk.s2 {x0 x1 : Value} (h : Blk w g t #[x0, x1]) (y0 y1 : Value) : Blk ((w.setCell ⟨g, 0, none⟩ y0).setCell ⟨g, 1, none⟩ y1) g t #[y0, y1] := by
  simpa using ((h.set_ 0 y0).set_ 1 y1)
theorem Blk.c3 {x0 x1 x2 : Value} (h : Blk w g t #[x0, x1, x2]) : w.cell? ⟨g, 0, none⟩ = some x0 ∧ w.cell? ⟨g, 1, none⟩ = some x1 ∧ w.cell? ⟨g, 2, none⟩ = some x2 :=
  ⟨h.cell 0, h.cell 1, h.cell 2⟩
theorem Blk.f3 {cs : Array Value} (h : Blk w g t cs) : w.frozen? ⟨g, 0, none⟩ = false ∧ w.frozen? ⟨g, 1, none⟩ = false ∧ w.frozen? ⟨g, 2, none⟩ = false :=
  ⟨h.frozen 0, h.frozen 1, h.frozen 2⟩
theorem Blk.s3 {x0 x1 x2 : Value} (h : Blk w g t #[x0, x1, x2]) (y0 y1 y2 : Value) : Blk (((w.setCell ⟨g, 0, none⟩ y0).setCell ⟨g, 1, none⟩ y1).setCell ⟨g, 2, none⟩ y2) g t #[y0, y1, y2] := by
  simpa using (((h.set_ 0 y0).set_ 1 y1).set_ 2 y2)
theorem Blk.c4 {x0 x1 x2 x3 : Value} (h : Blk w g t #[x0, x1, x2, x3]) : w.cell? ⟨g, 0, none⟩ = some x0 ∧ w.cell? ⟨g, 1, none⟩ = some x1 ∧ w.cell? ⟨g, 2, none⟩ = some x2 ∧ w.cell? ⟨g, 3, none⟩ = some x3 :=
  ⟨h.cell 0, h.cell 1, h.cell 2, h.cell 3⟩
theorem Blk.f4 {cs : Array Value} (h : Blk w g t cs) : w.frozen? ⟨g, 0, none⟩ = false ∧ w.frozen? ⟨g, 1, none⟩ = false ∧ w.frozen? ⟨g, 2, none⟩ = false ∧ w.frozen? ⟨g, 3, none⟩ = false :=
  ⟨h.frozen 0, h.frozen 1, h.frozen 2, h.frozen 3⟩
theorem Blk.s4 {x0 x1 x2 x3 : Value} (h : Blk w g t #[x0, x1, x2, x3]) (y0 y1 y2 y3 : Value) : Blk ((((w.setCell ⟨g, 0, none⟩ y0).setCell ⟨g, 1, none⟩ y1).setCell ⟨g, 2, none⟩ y2).setCell ⟨g, 3, none⟩ y3) g t #[y0, y1, y2, y3] := by
  simpa using ((((h.set_ 0 y0).set_ 1 y1).set_ 2 y2).set_ 3 y3)
theorem Blk.c5 {x0 x1 x2 x3 x4 : Value} (h : Blk w g t #[x0, x1, x2, x3, x4]) : w.cell? ⟨g, 0, none⟩ = some x0 ∧ w.cell? ⟨g, 1, none⟩ = some x1 ∧ w.cell? ⟨g, 2, none⟩ = some x2 ∧ w.cell? ⟨g, 3, none⟩ = some x3 ∧ w.cell? ⟨g, 4, none⟩ = some x4 :=
  ⟨h.cell 0, h.cell 1, h.cell 2, h.cell 3, h.cell 4⟩
theorem Blk.f5 {cs : Array Value} (h : Blk w g t cs) : w.frozen? ⟨g, 0, none⟩ = false ∧ w.frozen? ⟨g, 1, none⟩ = false ∧ w.frozen? ⟨g, 2, none⟩ = false ∧ w.frozen? ⟨g, 3, none⟩ = false ∧ w.frozen? ⟨g, 4, none⟩ = false :=
  ⟨h.frozen 0, h.frozen 1, h.frozen 2, h.frozen 3, h.frozen 4⟩
theorem Blk.s5 {x0 x1 x2 x3 x4 : Value} (h : Blk w g t #[x0, x1, x2, x3, x4]) (y0 y1 y2 y3 y4 : Value) : Blk (((((w.setCell ⟨g, 0, none⟩ y0).setCell ⟨g, 1, none⟩ y1).setCell ⟨g, 2, none⟩ y2).setCell ⟨g, 3, none⟩ y3).setCell ⟨g, 4, none⟩ y4) g t #[y0, y1, y2, y3, y4] := by
  simpa using (((((h.set_ 0 y0).set_ 1 y1).set_ 2 y2).set_ 3 y3).set_ 4 y4)
theorem Blk.c6 {x0 x1 x2 x3 x4 x5 : Value} (h : Blk w g t #[x0, x1, x2, x3, x4, x5]) : w.cell? ⟨g, 0, none⟩ = some x0 ∧ w.cell? ⟨g, 1, none⟩ = some x1 ∧ w.cell? ⟨g, 2, none⟩ = some x2 ∧ w.cell? ⟨g, 3, none⟩ = some x3 ∧ w.cell? ⟨g, 4, none⟩ = some x4 ∧ w.cell? ⟨g, 5, none⟩ = some x5 :=
  ⟨h.cell 0, h.cell 1, h.cell 2, h.cell 3, h.cell 4, h.cell 5⟩
theorem Blk.f6 {cs : Array Value} (h : Blk w g t cs) : w.frozen? ⟨g, 0, none⟩ = false ∧ w.frozen? ⟨g, 1, none⟩ = false ∧ w.frozen? ⟨g, 2, none⟩ = false ∧ w.frozen? ⟨g, 3, none⟩ = false ∧ w.frozen? ⟨g, 4, none⟩ = false ∧ w.frozen? ⟨g, 5, none⟩ = false :=
  ⟨h.frozen 0, h.frozen 1, h.frozen 2, h.frozen 3, h.frozen 4, h.frozen 5⟩
theorem Blk.s6 {x0 x1 x2 x3 x4 x5 : Value} (h : Blk w g t #[x0, x1, x2, x3, x4, x5]) (y0 y1 y2 y3 y4 y5 : Value) : Blk ((((((w.setCell ⟨g, 0, none⟩ y0).setCell ⟨g, 1, none⟩ y1).setCell ⟨g, 2, none⟩ y2).setCell ⟨g, 3, none⟩ y3).setCell ⟨g, 4, none⟩ y4).setCell ⟨g, 5, none⟩ y5) g t #[y0, y1, y2, y3, y4, y5] := by
  simpa using ((((((h.set_ 0 y0).set_ 1 y1).set_ 2 y2).set_ 3 y3).set_ 4 y4).set_ 5 y5)
theorem Blk.c7 {x0 x1 x2 x3 x4 x5 x6 : Value} (h : Blk w g t #[x0, x1, x2, x3, x4, x5, x6]) : w.cell? ⟨g, 0, none⟩ = some x0 ∧ w.cell? ⟨g, 1, none⟩ = some x1 ∧ w.cell? ⟨g, 2, none⟩ = some x2 ∧ w.cell? ⟨g, 3, none⟩ = some x3 ∧ w.cell? ⟨g, 4, none⟩ = some x4 ∧ w.cell? ⟨g, 5, none⟩ = some x5 ∧ w.cell? ⟨g, 6, none⟩ = some x6 :=
  ⟨h.cell 0, h.cell 1, h.cell 2, h.cell 3, h.cell 4, h.cell 5, h.cell 6⟩
theorem Blk.f7 {cs : Array Value} (h : Blk w g t cs) : w.frozen? ⟨g, 0, none⟩ = false ∧ w.frozen? ⟨g, 1, none⟩ = false ∧ w.frozen? ⟨g, 2, none⟩ = false ∧ w.frozen? ⟨g, 3, none⟩ = false ∧ w.frozen? ⟨g, 4, none⟩ = false ∧ w.frozen? ⟨g, 5, none⟩ = false ∧ w.frozen? ⟨g, 6, none⟩ = false :=
  ⟨h.frozen 0, h.frozen 1, h.frozen 2, h.frozen 3, h.frozen 4, h.frozen 5, h.frozen 6⟩
theorem Blk.s7 {x0 x1 x2 x3 x4 x5 x6 : Value} (h : Blk w g t #[x0, x1, x2, x3, x4, x5, x6]) (y0 y1 y2 y3 y4 y5 y6 : Value) : Blk (((((((w.setCell ⟨g, 0, none⟩ y0).setCell ⟨g, 1, none⟩ y1).setCell ⟨g, 2, none⟩ y2).setCell ⟨g, 3, none⟩ y3).setCell ⟨g, 4, none⟩ y4).setCell ⟨g, 5, none⟩ y5).setCell ⟨g, 6, none⟩ y6) g t #[y0, y1, y2, y3, y4, y5, y6] := by
  simpa using (((((((h.set_ 0 y0).set_ 1 y1).set_ 2 y2).set_ 3 y3).set_ 4 y4).set_ 5 y5).set_ 6 y6)
theorem Blk.c8 {x0 x1 x2 x3 x4 x5 x6 x7 : Value} (h : Blk w g t #[x0, x1, x2, x3, x4, x5, x6, x7]) : w.cell? ⟨g, 0, none⟩ = some x0 ∧ w.cell? ⟨g, 1, none⟩ = some x1 ∧ w.cell? ⟨g, 2, none⟩ = some x2 ∧ w.cell? ⟨g, 3, none⟩ = some x3 ∧ w.cell? ⟨g, 4, none⟩ = some x4 ∧ w.cell? ⟨g, 5, none⟩ = some x5 ∧ w.cell? ⟨g, 6, none⟩ = some x6 ∧ w.cell? ⟨g, 7, none⟩ = some x7 :=
  ⟨h.cell 0, h.cell 1, h.cell 2, h.cell 3, h.cell 4, h.cell 5, h.cell 6, h.cell 7⟩
theorem Blk.f8 {cs : Array Value} (h : Blk w g t cs) : w.frozen? ⟨g, 0, none⟩ = false ∧ w.frozen? ⟨g, 1, none⟩ = false ∧ w.frozen? ⟨g, 2, none⟩ = false ∧ w.frozen? ⟨g, 3, none⟩ = false ∧ w.frozen? ⟨g, 4, none⟩ = false ∧ w.frozen? ⟨g, 5, none⟩ = false ∧ w.frozen? ⟨g, 6, none⟩ = false ∧ w.frozen? ⟨g, 7, none⟩ = false :=
  ⟨h.frozen 0, h.frozen 1, h.frozen 2, h.frozen 3, h.frozen 4, h.frozen 5, h.frozen 6, h.frozen 7⟩
theorem Blk.s8 {x0 x1 x2 x3 x4 x5 x6 x7 : Value} (h : Blk w g t #[x0, x1, x2, x3, x4, x5, x6, x7]) (y0 y1 y2 y3 y4 y5 y6 y7 : Value) : Blk ((((((((w.setCell ⟨g, 0, none⟩ y0).setCell ⟨g, 1, none⟩ y1).setCell ⟨g, 2, none⟩ y2).setCell ⟨g, 3, none⟩ y3).setCell ⟨g, 4, none⟩ y4).setCell ⟨g, 5, none⟩ y5).setCell ⟨g, 6, none⟩ y6).setCell ⟨g, 7, none⟩ y7) g t #[y0, y1, y2, y3, y4, y5, y6, y7] := by
  simpa using ((((((((h.set_ 0 y0).set_ 1 y1).set_ 2 y2).set_ 3 y3).set_ 4 y4).set_ 5 y5).set_ 6 y6).set_ 7 y7)
theorem Blk.c12 {x0 x1 x2 x3 x4 x5 x6 x7 x8 x9 x10 x11 : Value} (h : Blk w g t #[x0, x1, x2, x3, x4, x5, x6, x7, x8, x9, x10, x11]) : w.cell? ⟨g, 0, none⟩ = some x0 ∧ w.cell? ⟨g, 1, none⟩ = some x1 ∧ w.cell? ⟨g, 2, none⟩ = some x2 ∧ w.cell? ⟨g, 3, none⟩ = some x3 ∧ w.cell? ⟨g, 4, none⟩ = some x4 ∧ w.cell? ⟨g, 5, none⟩ = some x5 ∧ w.cell? ⟨g, 6, none⟩ = some x6 ∧ w.cell? ⟨g, 7, none⟩ = some x7 ∧ w.cell? ⟨g, 8, none⟩ = some x8 ∧ w.cell? ⟨g, 9, none⟩ = some x9 ∧ w.cell? ⟨g, 10, none⟩ = some x10 ∧ w.cell? ⟨g, 11, none⟩ = some x11 :=
  ⟨h.cell 0, h.cell 1, h.cell 2, h.cell 3, h.cell 4, h.cell 5, h.cell 6, h.cell 7, h.cell 8, h.cell 9, h.cell 10, h.cell 11⟩
theorem Blk.f12 {cs : Array Value} (h : Blk w g t cs) : w.frozen? ⟨g, 0, none⟩ = false ∧ w.frozen? ⟨g, 1, none⟩ = false ∧ w.frozen? ⟨g, 2, none⟩ = false ∧ w.frozen? ⟨g, 3, none⟩ = false ∧ w.frozen? ⟨g, 4, none⟩ = false ∧ w.frozen? ⟨g, 5, none⟩ = false ∧ w.frozen? ⟨g, 6, none⟩ = false ∧ w.frozen? ⟨g, 7, none⟩ = false ∧ w.frozen? ⟨g, 8, none⟩ = false ∧ w.frozen? ⟨g, 9, none⟩ = false ∧ w.frozen? ⟨g, 10, none⟩ = false ∧ w.frozen? ⟨g, 11, none⟩ = false :=
  ⟨h.frozen 0, h.frozen 1, h.frozen 2, h.frozen 3, h.frozen 4, h.frozen 5, h.frozen 6, h.frozen 7, h.frozen 8, h.frozen 9, h.frozen 10, h.frozen 11⟩
theorem Blk.c15 {x0 x1 x2 x3 x4 x5 x6 x7 x8 x9 x10 x11 x12 x13 x14 : Value} (h : Blk w g t #[x0, x1, x2, x3, x4, x5, x6, x7, x8, x9, x10, x11, x12, x13, x14]) : w.cell? ⟨g, 0, none⟩ = some x0 ∧ w.cell? ⟨g, 1, none⟩ = some x1 ∧ w.cell? ⟨g, 2, none⟩ = some x2 ∧ w.cell? ⟨g, 3, none⟩ = some x3 ∧ w.cell? ⟨g, 4, none⟩ = some x4 ∧ w.cell? ⟨g, 5, none⟩ = some x5 ∧ w.cell? ⟨g, 6, none⟩ = some x6 ∧ w.cell? ⟨g, 7, none⟩ = some x7 ∧ w.cell? ⟨g, 8, none⟩ = some x8 ∧ w.cell? ⟨g, 9, none⟩ = some x9 ∧ w.cell? ⟨g, 10, none⟩ = some x10 ∧ w.cell? ⟨g, 11, none⟩ = some x11 ∧ w.cell? ⟨g, 12, none⟩ = some x12 ∧ w.cell? ⟨g, 13, none⟩ = some x13 ∧ w.cell? ⟨g, 14, none⟩ = some x14 :=
  ⟨h.cell 0, h.cell 1, h.cell 2, h.cell 3, h.cell 4, h.cell 5, h.cell 6, h.cell 7, h.cell 8, h.cell 9, h.cell 10, h.cell 11, h.cell 12, h.cell 13, h.cell 14⟩
end
end Go.Proofs.YtplljnfjkkloeaaGreatDoor
set_option linter.unusedVariables false
set_option linter.unusedSimpArgs false
namespace Go.Proofs.YtplljnfjkkloeaaGreatDoor
open Go.RowKit
structure Kp (F : Nat → Prop) (w w' : World) : Prop where
  os : w'.os = w.os
  tape : w'.tape = w.tape
  output : w'.output = w.output
  size : w.heap.size ≤ w'.heap.size
  block : ∀ k, k < w.heap.size → F k → w'.heap[k]? = w.heap[k]?
namespace Kp
variable {F G : Nat → Prop} {a b c w w' w0 : World}
theorem refl (F : Nat → Prop) (w : World) : Kp F w w := ⟨rfl, rfl, rfl, Nat.le_refl _, fun _ _ _ => rfl⟩
theorem trans (h : Kp F a b) (k : Kp F b c) : Kp F a c :=
  ⟨k.os.trans h.os, k.tape.trans h.tape, k.output.trans h.output, Nat.le_trans h.size k.size, fun j hj hf => (k.block j (Nat.lt_of_lt_of_le hj h.size) hf).trans (h.block j hj hf)⟩
theorem mono (h : Kp F a b) (hg : ∀ k, G k → F k) : Kp G a b := ⟨h.os, h.tape, h.output, h.size, fun k hk hf => h.block k hk (hg k hf)⟩
theorem of_ext (h : Ext w w') : Kp F w w' := ⟨h.os, h.tape, h.output, h.size, fun k hk _ => h.block hk⟩
theorem ext (h : Kp F w w') (e : Ext w0 w) (hf : ∀ k, k < w0.heap.size → F k) : Ext w0 w' :=
  ⟨h.os.trans e.os, h.tape.trans e.tape, h.output.trans e.output, Nat.le_trans e.size h.size, fun k hk => (h.block k (Nat.lt_of_lt_of_le hk e.size) (hf k hk)).trans (e.block hk)⟩
theorem setCell (h : Kp F a b) {p : Addr} (u : Value) (hp : ¬ F p.block) : Kp F a (b.setCell p u) :=
  h.trans ⟨rfl, rfl, rfl, by simp, fun k hk hf => Below.heap_setCell b p u k (fun e => hp (e ▸ hf))⟩
theorem alloc (h : Kp F a b) (o : Obj) : Kp F a (b.alloc o) := h.trans (of_ext ((Ext.refl b).alloc o))
theorem drew (h : Kp F a b) : Kp F a b.drew := h.trans (of_ext (Ext.refl b).drew)
theorem drewN (h : Kp F a b) (n : Nat) : Kp F a (b.drewN n) := h.trans (of_ext ((Ext.refl b).drewN n))
theorem later (h : Kp F a b) (x : Later b) : Kp F a x.w := h.trans (of_ext x.ext)
theorem andExt (h : Kp F a b) (e : Ext b c) : Kp F a c := h.trans (of_ext e)
theorem grown (h : Kp F a b) {row : Option Nat} (hg : b.grownBy c row) (hr : ∀ k, row = some k → ¬ F k) : Kp F a c :=
  h.trans ⟨hg.os, hg.tape, hg.output, hg.size, fun k hk hf => hg.block k hk (fun e => hr k e.symm hf)⟩
end Kp
theorem Blk.kp {w w' : World} {g : Nat} {t : TypeId} {cs : Array Value} {F : Nat → Prop} (h : Blk w g t cs) (k : Kp F w w') (hf : F g) : Blk w' g t cs := (k.block g h.lt hf).trans h
theorem own_kp {w w' : World} {base : Nat} {e : TypeId} {size : Nat} {v : Value} {n : Nat} {xs : List Value} {F : Nat → Prop} (h : w.ownsRow base e size v n xs) (k : Kp F w w') (hf : ∀ g, v.ownBlock = some g → F g) : w'.ownsRow base e size v n xs := by
  refine ⟨h.1, ?_⟩
  rcases h.2 with h0 | ⟨g, cap, cur, rfl, hb, hg, r⟩
  · exact .inl h0
  · refine .inr ⟨g, cap, cur, rfl, hb, ?_, r⟩
    rw [k.block g (Array.getElem?_eq_some_iff.1 hg).1 (hf g rfl)]
    exact hg
theorem Rd.kp {w w' : World} {size : Nat} {a : Option Addr} {n cap : Nat} {xs : List Value} {F : Nat → Prop} (h : Rd w size a n cap xs) (k : Kp F w w') (hf : ∀ ad, a = some ad → F ad.block) : Rd w' size a n cap xs :=
  ⟨h.len, h.le, h.mx, fun h0 => by
    obtain ⟨b, off, ha, hb, hc⟩ := h.at_ h0
    exact ⟨b, off, ha, Nat.lt_of_lt_of_le hb k.size, fun j hj => (World.cell?_of_block (w := w) (a := ⟨b, off + j, none⟩) (k.block b hb (hf _ ha))).trans (hc j hj)⟩⟩
def spl (cs : Array Value) (off : Nat) (vs : Array Value) : Array Value := (cs.toList.take off ++ vs.toList ++ cs.toList.drop (off + vs.size)).toArray
section
variable {P : Program} {w : World} {g : Nat} {e : TypeId} {cs : Array Value}
theorem run_load_blk (h : Blk w g e cs) (t : TypeId) (off n : Nat) (hagg : ∀ W : World, (isAgg t).run P W = .ok true W) (hs : (P.info? t).map (·.size) = some n) (hfit : off + n ≤ cs.size) :
    (loadVar t ⟨g, off, none⟩).run P w = .ok (.agg (cs.extract off (off + n))) w := by
  cases hi : P.info? t with
  | none => simp [hi] at hs
  | some i =>
    have hsi : i.size = n := by simpa [hi] using hs
    have hl := run_loadCells_list (P := P) w ⟨g, off, none⟩ (cs.extract off (off + n)).toList (fun j v hv => by
      have hadd : (⟨g, off, none⟩ : Addr).add j = ⟨g, off + j, none⟩ := by unfold Addr.add; split <;> simp_all
      rw [hadd, h.cell]
      simp only [Array.toList_extract, List.extract_eq_take_drop, List.getElem?_take, List.getElem?_drop] at hv
      split at hv
      · simpa using hv
      · cases hv)
    have hlen : (cs.extract off (off + n)).toList.length = n := by simp; omega
    rw [hlen, Array.toArray_toList] at hl
    simp [loadVar, hagg, sizeOf, typeInfo, hi, hsi, Sem.run_bind, hl]
theorem run_store_blk (h : Blk w g e cs) (t : TypeId) (off : Nat) (v : Value) (hs : (P.info? t).map (·.size) = some v.cells.size) (h1 : ∀ u ∈ v.cells.toList, u.oneCell' = true) (hfit : off + v.cells.size ≤ cs.size) :
    (storeVar t ⟨g, off, none⟩ v).run P w = .ok () (w.setRow g (spl cs off v.cells)) := by
  have hst := run_storeCells_at P g off e v.cells.toList 0 cs w h (by simpa using hfit) h1
  cases hq : P.info? t with
  | none => simp [hq] at hs
  | some i =>
    have hsi : i.size = v.cells.size := by simpa [hq] using hs
    simp only [Nat.add_zero, Array.length_toList] at hst
    simp [storeVar, sizeOf, typeInfo, hq, hsi, hst, spl]
theorem Blk.row {cs' : Array Value} (h : Blk w g e cs) : Blk (w.setRow g cs') g e cs' := setRow_heap w g cs _ e _ h
theorem Kp.setRow {F : Nat → Prop} (cs' : Array Value) (hf : ¬ F g) : Kp F w (w.setRow g cs') :=
  ⟨rfl, rfl, rfl, by simp, fun k _ hk => setRow_other w g k _ (fun e => hf (e ▸ hk))⟩
theorem wpList_store_blk {ops : Array Oper} {rest : List Oper} {o : Oper} {a : Act} {Q : Exit → Act → World → Prop} (hgd : o.guard = none) (x y : Operand) (t : TypeId) (ho : o.op = .store t x y) (off : Nat) (hx : a.eval x = .pointer (some ⟨g, off, none⟩)) (v : Value) (hy : a.eval y = v)
    (h : Blk w g e cs) (hs : (P.info? t).map (·.size) = some v.cells.size) (h1 : ∀ u ∈ v.cells.toList, u.oneCell' = true) (hfit : off + v.cells.size ≤ cs.size)
    (hK : ∀ w', Blk w' g e (spl cs off v.cells) → Kp (· ≠ g) w w' → wpList P ops Q rest (a.put o.dst undef) w') : wpList P ops Q (o :: rest) a w := by
  refine wpList_plain hgd fun K hK' => ?_
  have hso := run_store_blk (P := P) h t off v hs h1 hfit
  unfold Oper.wp execOp
  simp only [ho, hx, hy, Instr.storeAt, Instr.sureAddr, Sem.run_bind, Sem.run_pure, Result.andThen_ok, hso]
  exact hK' _ _ (hK _ h.row (Kp.setRow _ (fun hf => hf rfl)))
theorem wpList_load_blk {ops : Array Oper} {rest : List Oper} {o : Oper} {a : Act} {Q : Exit → Act → World → Prop} (hgd : o.guard = none) (x : Operand) (t : TypeId) (ho : o.op = .load t x) (off : Nat) (hx : a.eval x = .pointer (some ⟨g, off, none⟩))
    (h : Blk w g e cs) (n : Nat) (hagg : ∀ W : World, (isAgg t).run P W = .ok true W) (hs : (P.info? t).map (·.size) = some n) (hfit : off + n ≤ cs.size) (r : Array Value) (hr : cs.extract off (off + n) = r)
    (hK : wpList P ops Q rest (a.put o.dst (.agg r)) w) : wpList P ops Q (o :: rest) a w := by
  refine wpList_plain hgd fun K hK' => ?_
  have hso := run_load_blk (P := P) h t off n hagg hs hfit
  subst hr
  unfold Oper.wp execOp
  simp only [ho, hx, Instr.loadAt, Instr.sureAddr, Sem.run_bind, Sem.run_pure, Result.andThen_ok, hso]
  exact hK' _ _ hK
end
end Go.Proofs.YtplljnfjkkloeaaGreatDoor
set_option linter.unusedVariables false
set_option linter.unusedSimpArgs false
namespace Go.Proofs.YtplljnfjkkloeaaGreatDoor
open Go.RowKit
@[go_sem ↓ high] theorem run_max_i64 {P : Program} {w : World} (ts : Array TypeId) (t : TypeId) (x y : Int) : (Builtin.max_ ts t #[.int .i64 x, .int .i64 y]).run P w = .ok (.int .i64 (max x y)) w := by
  have : (if y > x then y else x) = max x y := by omega
  rw [← this]
  simp [Builtin.max_, Builtin.max2, go_sem]
@[go_sem ↓ high] theorem run_min_i64 {P : Program} {w : World} (ts : Array TypeId) (t : TypeId) (x y : Int) : (Builtin.min_ ts t #[.int .i64 x, .int .i64 y]).run P w = .ok (.int .i64 (min x y)) w := by
  have : (if y < x then y else x) = min x y := by omega
  rw [← this]
  simp [Builtin.min_, Builtin.min2, go_sem]
theorem and_mask (k : Nat) (hk : k ≤ 62) (x m : Int) (hm : m = ((2 ^ k - 1 : Nat) : Int)) : bits .and .i64 x m = x % ((2 ^ k : Nat) : Int) := by
  subst hm
  have hp : 2 ^ k ≤ 2 ^ 62 := Nat.pow_le_pow_right (by omega) hk
  have hp0 : 0 < 2 ^ k := Nat.two_pow_pos k
  have h1 : ((BitVec.ofInt 64 x).toNat : Int) = x % 18446744073709551616 := by
    rw [BitVec.toNat_ofInt]
    have : 0 ≤ x % (((2 ^ 64 : Nat)) : Int) := Int.emod_nonneg _ (by decide)
    omega
  have h2 : (BitVec.ofInt 64 ((2 ^ k - 1 : Nat) : Int)).toNat = 2 ^ k - 1 := by
    rw [BitVec.ofInt_natCast, BitVec.toNat_ofNat]; exact Nat.mod_eq_of_lt (by omega)
  show IntKind.i64.wrap ((BitVec.ofInt 64 x &&& BitVec.ofInt 64 ((2 ^ k - 1 : Nat) : Int)).toNat : Int) = _
  rw [BitVec.toNat_and, h2, Nat.and_two_pow_sub_one_eq_mod, IntKind.wrap_i64]
  have h3 : (((BitVec.ofInt 64 x).toNat % 2 ^ k : Nat) : Int) = x % ((2 ^ k : Nat) : Int) := by
    rw [Int.natCast_emod, h1]
    refine Int.emod_emod_of_dvd _ ?_
    rw [show (18446744073709551616 : Int) = ((2 ^ 64 : Nat) : Int) by decide]
    exact Int.natCast_dvd_natCast.2 (Nat.pow_dvd_pow 2 (by omega))
  rw [h3]
  have h4 : x % ((2 ^ k : Nat) : Int) < ((2 ^ k : Nat) : Int) := Int.emod_lt_of_pos _ (by omega)
  have h5 : 0 ≤ x % ((2 ^ k : Nat) : Int) := Int.emod_nonneg _ (by omega)
  omega
@[go_sem] theorem and255 (x : Int) : bits .and .i64 x 255 = x % 256 := and_mask 8 (by omega) x 255 (by decide)
@[go_sem] theorem and15 (x : Int) : bits .and .i64 x 15 = x % 16 := and_mask 4 (by omega) x 15 (by decide)
@[go_sem] theorem and1 (x : Int) : bits .and .i64 x 1 = x % 2 := and_mask 1 (by omega) x 1 (by decide)
structure Rc where
  x0 : Int
  y0 : Int
  x1 : Int
  y1 : Int
@[reducible] def Rc.row (r : Rc) : Array Value := #[.int .i64 r.x0, .int .i64 r.y0, .int .i64 r.x1, .int .i64 r.y1]
@[reducible] def Rc.v (r : Rc) : Value := .agg r.row
def Rc.Ok (r : Rc) : Prop := -4194304 ≤ r.x0 ∧ r.x0 < r.x1 ∧ r.x1 ≤ 4194304 ∧ -4194304 ≤ r.y0 ∧ r.y0 < r.y1 ∧ r.y1 ≤ 4194304
def Rc.Has (r : Rc) (x y : Int) : Prop := r.x0 ≤ x ∧ x < r.x1 ∧ r.y0 ≤ y ∧ y < r.y1
instance (r : Rc) (x y : Int) : Decidable (r.Has x y) := inferInstanceAs (Decidable (_ ∧ _))
set_option maxHeartbeats 1000000 in
theorem rect_right (r : Rc) (w : World) (h : r.Ok) : Calls Tryz.prog 56 #[r.v] w fun e w' => e = .returned (.bool true) ∧ Ext w w' := by
  obtain ⟨h1, h2, h3, h4, h5, h6⟩ := h
  have d1 : decide (r.x0 < r.x1) = true := by simpa using h2
  have d2 : decide (r.y0 < r.y1) = true := by simpa using h5
  go_enter Tryz.func56, Tryz.ntmps56
  go_wp2_with fail
  go_loop [4, 14] (fun _ i => ∃ k : Nat, k ≤ 4 ∧ i = .int .i64 k) (fun _ i => 4 - (intOf i).toNat)
  case atStart => exact ⟨0, by omega, rfl⟩
  case round =>
    obtain ⟨k, hk, rfl⟩ := hrel
    by_cases hlt : k < 4
    · have hk4 : k = 0 ∨ k = 1 ∨ k = 2 ∨ k = 3 := by omega
      have e1 : decide (r.x0 < -4194304) = false := by simp; omega
      have e2 : decide (r.x0 > 4194304) = false := by simp; omega
      have e3 : decide (r.x1 < -4194304) = false := by simp; omega
      have e4 : decide (r.x1 > 4194304) = false := by simp; omega
      have e5 : decide (r.y0 < -4194304) = false := by simp; omega
      have e6 : decide (r.y0 > 4194304) = false := by simp; omega
      have e7 : decide (r.y1 < -4194304) = false := by simp; omega
      have e8 : decide (r.y1 > 4194304) = false := by simp; omega
      rcases hk4 with rfl | rfl | rfl | rfl
      all_goals
        clear hk hlt
        go_wp2_with fail
        go_round
        case rel => first | exact ⟨1, by decide, rfl⟩ | exact ⟨2, by decide, rfl⟩ | exact ⟨3, by decide, rfl⟩ | exact ⟨4, by decide, rfl⟩
        case measure => simp [intOf]
    · obtain rfl : k = 4 := by omega
      go_wp2_with fail
      go_ret
      exact ⟨rfl, by (repeat (first | with_reducible exact Ext.refl _ | with_reducible assumption | with_reducible refine Ext.alloc ?_ _ | with_reducible refine Ext.drew ?_ | with_reducible refine Ext.drewN ?_ _ | with_reducible refine Ext.later ?_ _ | (with_reducible refine Ext.setCell ?_ _ ?hp; case hp => first | (simp; done) | (simp; omega) | omega)))⟩
theorem has_any (r : Rc) (x y : Int) (w : World) (h : r.Ok) : Calls Tryz.prog 186 #[r.v, .int .i64 x, .int .i64 y] w fun e w' => e = .returned (.bool (decide (r.Has x y))) ∧ Ext w w' := by
  have H := Lib.hid h; clear h
  have hc : (decide (x ≥ r.x0) = false ∧ Hid (decide (r.Has x y) = false)) ∨ (decide (x ≥ r.x0) = true ∧ decide (x < r.x1) = false ∧ Hid (decide (r.Has x y) = false)) ∨
      (decide (x ≥ r.x0) = true ∧ decide (x < r.x1) = true ∧ decide (y ≥ r.y0) = false ∧ Hid (decide (r.Has x y) = false)) ∨
      (decide (x ≥ r.x0) = true ∧ decide (x < r.x1) = true ∧ decide (y ≥ r.y0) = true ∧ decide (y < r.y1) = false ∧ Hid (decide (r.Has x y) = false)) ∨
      (decide (x ≥ r.x0) = true ∧ decide (x < r.x1) = true ∧ decide (y ≥ r.y0) = true ∧ decide (y < r.y1) = true ∧ Hid (decide (r.Has x y) = true)) := by
    by_cases p1 : r.x0 ≤ x
    · by_cases p2 : x < r.x1
      · by_cases p3 : r.y0 ≤ y
        · by_cases p4 : y < r.y1
          · exact .inr (.inr (.inr (.inr ⟨decide_eq_true p1, decide_eq_true p2, decide_eq_true p3, decide_eq_true p4, Lib.hid (decide_eq_true ⟨p1, p2, p3, p4⟩)⟩)))
          · exact .inr (.inr (.inr (.inl ⟨decide_eq_true p1, decide_eq_true p2, decide_eq_true p3, decide_eq_false p4, Lib.hid (decide_eq_false fun h => p4 h.2.2.2)⟩)))
        · exact .inr (.inr (.inl ⟨decide_eq_true p1, decide_eq_true p2, decide_eq_false p3, Lib.hid (decide_eq_false fun h => p3 h.2.2.1)⟩))
      · exact .inr (.inl ⟨decide_eq_true p1, decide_eq_false p2, Lib.hid (decide_eq_false fun h => p2 h.2.1)⟩)
    · exact .inl ⟨decide_eq_false p1, Lib.hid (decide_eq_false fun h => p1 h.1)⟩
  rcases hc with ⟨d1, HD⟩ | ⟨d1, d2, HD⟩ | ⟨d1, d2, d3, HD⟩ | ⟨d1, d2, d3, d4, HD⟩ | ⟨d1, d2, d3, d4, HD⟩
  all_goals
    go_enter Tryz.func186, Tryz.ntmps186
    go_wp2_with fail
    refine (rect_right r _ H.out).mono ?_
    rintro e w1 ⟨rfl, hE⟩
    obtain ⟨x1, rfl⟩ := Later.mk' hE
    clear hE
    go_wp2_with fail
    go_ret
    rw [HD.out]
    exact ⟨rfl, by (repeat (first | with_reducible exact Ext.refl _ | with_reducible assumption | with_reducible refine Ext.alloc ?_ _ | with_reducible refine Ext.drew ?_ | with_reducible refine Ext.drewN ?_ _ | with_reducible refine Ext.later ?_ _ | (with_reducible refine Ext.setCell ?_ _ ?hp; case hp => first | (simp; done) | (simp; omega) | omega)))⟩
def Rc.and (a b : Rc) : Rc := ⟨max a.x0 b.x0, max a.y0 b.y0, min a.x1 b.x1, min a.y1 b.y1⟩
set_option maxHeartbeats 1000000 in
theorem and_yes (a b : Rc) (w : World) (ha : a.Ok) (hb : b.Ok) (hr : (a.and b).Ok) : Calls Tryz.prog 35 #[a.v, b.v] w fun e w' => e = .returned (a.and b).v ∧ Ext w w' := by
  have HA := Lib.hid ha; clear ha
  have HB := Lib.hid hb; clear hb
  have HR := Lib.hid hr; clear hr
  go_enter Tryz.func35, Tryz.ntmps35
  go_wp2_with fail
  refine (rect_right a _ HA.out).mono ?_
  rintro e w1 ⟨rfl, hE⟩
  obtain ⟨x1, rfl⟩ := Later.mk' hE
  clear hE
  have B1 : Hid (Blk x1.w (w.heap.size + 1) 48 b.row) := Lib.hid (by (repeat (first | with_reducible exact Hid.out (by assumption) | (with_reducible refine Blk.new' _ _ _ ?_; (simp; done)) | with_reducible refine Blk.alloc ?_ _ | with_reducible refine Blk.drew ?_ | with_reducible refine Blk.drewN ?_ _ | with_reducible refine Blk.later ?_ _ | (with_reducible refine Blk.far ?_ ?hp _; case hp => first | (simp; done) | (simp; omega) | omega))))
  have B0 : Hid (Blk x1.w w.heap.size 48 a.row) := Lib.hid (by (repeat (first | with_reducible exact Hid.out (by assumption) | (with_reducible refine Blk.new' _ _ _ ?_; (simp; done)) | with_reducible refine Blk.alloc ?_ _ | with_reducible refine Blk.drew ?_ | with_reducible refine Blk.drewN ?_ _ | with_reducible refine Blk.later ?_ _ | (with_reducible refine Blk.far ?_ ?hp _; case hp => first | (simp; done) | (simp; omega) | omega))))
  have B2 : Hid (Blk x1.w (w.heap.size + 1 + 1) 48 (Rc.row ⟨0, 0, 0, 0⟩)) := Lib.hid (by (repeat (first | with_reducible exact Hid.out (by assumption) | (with_reducible refine Blk.new' _ _ _ ?_; (simp; done)) | with_reducible refine Blk.alloc ?_ _ | with_reducible refine Blk.drew ?_ | with_reducible refine Blk.drewN ?_ _ | with_reducible refine Blk.later ?_ _ | (with_reducible refine Blk.far ?_ ?hp _; case hp => first | (simp; done) | (simp; omega) | omega))))
  obtain ⟨b0, b1, b2, b3⟩ := B1.out.four
  go_wp2_with fail
  clear b0 b1 b2 b3
  refine (rect_right b _ HB.out).mono ?_
  rintro e w1 ⟨rfl, hE⟩
  obtain ⟨x2, rfl⟩ := Later.mk' hE
  clear hE
  have C0 : Hid (Blk x2.w w.heap.size 48 a.row) := Lib.hid (by (repeat (first | with_reducible exact Hid.out (by assumption) | (with_reducible refine Blk.new' _ _ _ ?_; (simp; done)) | with_reducible refine Blk.alloc ?_ _ | with_reducible refine Blk.drew ?_ | with_reducible refine Blk.drewN ?_ _ | with_reducible refine Blk.later ?_ _ | (with_reducible refine Blk.far ?_ ?hp _; case hp => first | (simp; done) | (simp; omega) | omega))))
  have C1 : Hid (Blk x2.w (w.heap.size + 1) 48 b.row) := Lib.hid (by (repeat (first | with_reducible exact Hid.out (by assumption) | (with_reducible refine Blk.new' _ _ _ ?_; (simp; done)) | with_reducible refine Blk.alloc ?_ _ | with_reducible refine Blk.drew ?_ | with_reducible refine Blk.drewN ?_ _ | with_reducible refine Blk.later ?_ _ | (with_reducible refine Blk.far ?_ ?hp _; case hp => first | (simp; done) | (simp; omega) | omega))))
  have C2 : Hid (Blk x2.w (w.heap.size + 1 + 1) 48 (Rc.row ⟨0, 0, 0, 0⟩)) := Lib.hid (by (repeat (first | with_reducible exact Hid.out (by assumption) | (with_reducible refine Blk.new' _ _ _ ?_; (simp; done)) | with_reducible refine Blk.alloc ?_ _ | with_reducible refine Blk.drew ?_ | with_reducible refine Blk.drewN ?_ _ | with_reducible refine Blk.later ?_ _ | (with_reducible refine Blk.far ?_ ?hp _; case hp => first | (simp; done) | (simp; omega) | omega))))
  obtain ⟨a0, a1, a2, a3⟩ := C0.out.four
  obtain ⟨b0, b1, b2, b3⟩ := C1.out.four
  go_wp2_with fail
  clear a0 a1 a2 a3 b0 b1 b2 b3
  refine (rect_right (a.and b) _ HR.out).mono ?_
  rintro e w1 ⟨rfl, hE⟩
  obtain ⟨x3, rfl⟩ := Later.mk' hE
  clear hE
  have D2 : Hid (Blk x3.w (w.heap.size + 1 + 1) 48 (Rc.row ⟨0, 0, 0, 0⟩)) := Lib.hid (by (repeat (first | with_reducible exact Hid.out (by assumption) | (with_reducible refine Blk.new' _ _ _ ?_; (simp; done)) | with_reducible refine Blk.alloc ?_ _ | with_reducible refine Blk.drew ?_ | with_reducible refine Blk.drewN ?_ _ | with_reducible refine Blk.later ?_ _ | (with_reducible refine Blk.far ?_ ?hp _; case hp => first | (simp; done) | (simp; omega) | omega))))
  have D3 : Hid (Blk x3.w x2.w.heap.size 48 (Rc.row ⟨max a.x0 b.x0, max a.y0 b.y0, min a.x1 b.x1, min a.y1 b.y1⟩)) := Lib.hid (by (repeat (first | with_reducible exact Hid.out (by assumption) | (with_reducible refine Blk.new' _ _ _ ?_; (simp; done)) | with_reducible refine Blk.alloc ?_ _ | with_reducible refine Blk.drew ?_ | with_reducible refine Blk.drewN ?_ _ | with_reducible refine Blk.later ?_ _ | (with_reducible refine Blk.far ?_ ?hp _; case hp => first | (simp; done) | (simp; omega) | omega))))
  obtain ⟨a0, a1, a2, a3⟩ := D3.out.c4
  obtain ⟨b0, b1, b2, b3⟩ := D2.out.c4
  obtain ⟨f0, f1, f2, f3⟩ := D2.out.f4
  go_wp2_with fail
  obtain ⟨s0, s1, s2, s3⟩ := (D2.out.s4 (.int .i64 (max a.x0 b.x0)) (.int .i64 (max a.y0 b.y0)) (.int .i64 (min a.x1 b.x1)) (.int .i64 (min a.y1 b.y1))).c4
  refine bodyPost_ret (v := (a.and b).v) (by simp [results, Tryz.results35, go_sem, s0, s1, s2, s3, Rc.and]) rfl ⟨rfl, by (repeat (first | with_reducible exact Ext.refl _ | with_reducible assumption | with_reducible refine Ext.alloc ?_ _ | with_reducible refine Ext.drew ?_ | with_reducible refine Ext.drewN ?_ _ | with_reducible refine Ext.later ?_ _ | (with_reducible refine Ext.setCell ?_ _ ?hp; case hp => first | (simp; done) | (simp; omega) | omega)))⟩
theorem box_any (W H : Int) (C Z : Value) (w : World) : Calls Tryz.prog 34 #[.agg #[.int .i64 W, .int .i64 H, C, Z]] w fun e w' => e = .returned (Rc.v ⟨0, 0, W, H⟩) ∧ Ext w w' := by
  go_enter Tryz.func34, Tryz.ntmps34
  go_wp2_with fail
  refine bodyPost_ret (v := Rc.v ⟨0, 0, W, H⟩) (by simp [results, Tryz.results34, go_sem]) rfl ⟨rfl, by (repeat (first | with_reducible exact Ext.refl _ | with_reducible assumption | with_reducible refine Ext.alloc ?_ _ | with_reducible refine Ext.drew ?_ | with_reducible refine Ext.drewN ?_ _ | with_reducible refine Ext.later ?_ _ | (with_reducible refine Ext.setCell ?_ _ ?hp; case hp => first | (simp; done) | (simp; omega) | omega)))⟩
end Go.Proofs.YtplljnfjkkloeaaGreatDoor
