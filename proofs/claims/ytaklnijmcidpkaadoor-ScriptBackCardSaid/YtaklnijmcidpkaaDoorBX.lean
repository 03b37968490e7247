/- Proof text: boxes and rows beside one another; the inside of a line's loop. By an AI agent. No condition beyond what each theorem states. -/
import Derived.Test.YtaklnijmcidpkaaDoorO2
import Derived.Test.YtaklnijmcidpkaaDoorWD
set_option linter.unusedVariables false
set_option linter.unusedSimpArgs false
namespace Go.Proofs.YtaklnijmcidpkaaDoor
open Go.RowKit
theorem grown_set (w : World) (b i : Nat) (v : Value) : w.grownBy (w.setCell ⟨b, i, none⟩ v) (some b) :=
  ⟨rfl, rfl, rfl, by simp, fun k hk hne => Below.heap_setCell w ⟨b, i, none⟩ v k (fun e => hne (by rw [e]))⟩
theorem grown_trans {a b c : World} {r : Option Nat} (h : a.grownBy b r) (k : b.grownBy c r) : a.grownBy c r :=
  ⟨k.os.trans h.os, k.tape.trans h.tape, k.output.trans h.output, Nat.le_trans h.size k.size, fun j hj hne => (k.block j (Nat.lt_of_lt_of_le hj h.size) hne).trans (h.block j hj hne)⟩
theorem own_keep2 {w w' : World} {base : Nat} {e : TypeId} {size : Nat} {v : Value} {n : Nat} {xs : List Value} {row : Option Nat} (h : w.ownsRow base e size v n xs) (hg : w.grownBy w' row) (hne : ∀ g, v.ownBlock = some g → row ≠ some g) : w'.ownsRow base e size v n xs :=
  h.kept (row := row) hg (by
    cases hv : v.ownBlock with
    | none => exact .inl rfl
    | some g => exact .inr fun h => hne g hv h.symm)
theorem own_grown {w w' : World} {base : Nat} {e : TypeId} {size : Nat} {v : Value} {n : Nat} {xs : List Value} {b : Nat} (h : w.ownsRow base e size v n xs) (hg : w.grownBy w' (some b)) (hb : b < base) : w'.ownsRow base e size v n xs :=
  own_keep2 h hg (fun g h1 h2 => by have := (h.lt g h1).1; injection h2 with h2; omega)
/-- In a line's loop: the result's box, the command's box at P, its numbers. -/
structure LnI (w wr : World) (P : Nat) (op : Int) (v : Value) (acc : List Int) : Prop where
  res : Blk wr w.heap.size 41 #[.int .i64 0, .slice none 0 0]
  box : Blk wr P 41 #[.int .i64 op, v]
  own : wr.ownsRow (P + 1) 3 1 v acc.length (ivs acc)
  pb : w.heap.size < P
  ext : Ext w wr
section
variable {w wr w' : World} {P : Nat} {op n : Int} {v v' : Value} {acc : List Int}
theorem LnI.ext' (h : LnI w wr P op v acc) (e : Ext wr w') : LnI w w' P op v acc := ⟨h.res.ext e, h.box.ext e, ownsRow_ext h.own e, h.pb, h.ext.trans e⟩
/-- Behind an append, ahead of the store. -/
theorem LnI.grow (h : LnI w wr P op v acc) (o : Obj) (ho : w'.ownsRow (P + 1) 3 1 v' (acc.length + 1) (ivs acc ++ [.int .i64 n])) (hg : (wr.alloc o).grownBy w' v.ownBlock) :
    Blk w' P 41 #[.int .i64 op, v] ∧ LnI w (w'.setCell ⟨P, 1, none⟩ v') P op v' (acc ++ [n]) := by
  have hb := (h.box.alloc o).grown' hg (fun e => by have := (h.own.lt _ e).1; omega)
  have hr := (h.res.alloc o).grown' hg (fun e => by have := (h.own.lt _ e).1; have := h.pb; omega)
  have he : Ext w w' := (h.ext.alloc o).grown hg (fun k hk => by have := (h.own.lt _ hk).1; have := h.pb; omega)
  have hs := grown_set w' P 1 v'
  refine ⟨hb, ⟨hr.grown' hs (fun e => by injection e with e; have := h.pb; omega), ?_, ?_, h.pb, he.setCell v' (Nat.le_of_lt h.pb)⟩⟩
  · have := hb.set_ 1 v'
    simpa using this
  · have e1 : (acc ++ [n]).length = acc.length + 1 := by simp
    have e2 : ivs (acc ++ [n]) = ivs acc ++ [.int .i64 n] := by simp [ivs]
    rw [e1, e2]
    exact own_grown ho hs (by omega)
/-- The end: the result's box is written. -/
theorem LnI.done (h : LnI w wr P op v acc) {W' : World} (hg : wr.grownBy W' (some w.heap.size)) : W'.ownsRow w.heap.size 3 1 v acc.length (ivs acc) ∧ Ext w W' :=
  ⟨ownsRow_base (own_grown h.own hg (by have := h.pb; omega)) (by have := h.pb; omega), h.ext.grown hg (fun k hk => Option.some.inj hk ▸ (Nat.le_refl _))⟩
end
/-- What 'line' hands back. -/
def LineP (w : World) (g : Except Int R) (e : Ending) (w' : World) : Prop :=
  match g with
  | .ok (op, A) => ∃ v, e = .returned (.tuple #[.agg #[.int .i64 op, v], .int .i64 0]) ∧ w'.ownsRow w.heap.size 3 1 v A.length (ivs A) ∧ Ext w w'
  | .error c => e = .returned (.tuple #[.agg #[.int .i64 0, .slice none 0 0], .int .i64 c]) ∧ Ext w w'
end Go.Proofs.YtaklnijmcidpkaaDoor
