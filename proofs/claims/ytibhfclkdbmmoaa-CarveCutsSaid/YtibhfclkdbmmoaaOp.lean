/- Proof text: how a side, a vertex, a slice of sides that come in read. No condition. By an AI agent. -/
import Derived.Test.YtibhfclkdbmmoaaRows
import Derived.Test.YtibhfclkdbmmoaaSL
import Derived.ProofKit
import Derived.OpenShut
import Derived.Carry
import Derived.ChangeSame
import Derived.ChangeVars
import Derived.JoinedOf
import Derived.RowKit
import Derived.RowKitTokens
import Derived.Lib.SmallJoins
import Derived.Below
import Derived.Deep.Slices
set_option linter.unusedVariables false
set_option linter.unusedSimpArgs false
set_option maxRecDepth 100000
namespace Go.Proofs.Ytibhfclkdbmmoaa
open Go.ChangeShapes Go.WideShapes Go.ChangeAt Go.RowKit Go.Joins Go.Deep
theorem own : ownKnob Try.prog.godebug = none := by kernel_rfl
theorem laidOut : laidOutB Try.prog = true := by kernel_rfl
theorem ci : Try.prog.cellsOf 3 = 1 := by kernel_rfl
theorem c4 : Try.prog.cellsOf 22 = 4 := by kernel_rfl
theorem cc : Try.prog.cellsOf 23 = 4 := by kernel_rfl
theorem cs5 : Try.prog.cellsOf 45 = 5 := by kernel_rfl
theorem cv8 : Try.prog.cellsOf 25 = 8 := by kernel_rfl
theorem list2 {α : Type} {l : List α} (h : l.length = 2) : ∃ a b, l = [a, b] := by
  match l, h with
  | [a, b], _ => exact ⟨a, b, rfl⟩
theorem list4 {α : Type} {l : List α} (h : l.length = 4) : ∃ a b c d, l = [a, b, c, d] := by
  match l, h with
  | [a, b, c, d], _ => exact ⟨a, b, c, d, rfl⟩
theorem list5 {α : Type} {l : List α} (h : l.length = 5) : ∃ a b c d e, l = [a, b, c, d, e] := by
  match l, h with
  | [a, b, c, d, e], _ => exact ⟨a, b, c, d, e, rfl⟩
theorem list8 {α : Type} {l : List α} (h : l.length = 8) : ∃ a b c d e f g i, l = [a, b, c, d, e, f, g, i] := by
  match l, h with
  | [a, b, c, d, e, f, g, i], _ => exact ⟨a, b, c, d, e, f, g, i, rfl⟩
section
variable {H : Type} {enc : TypeId × Value → H} {w : World} {base : Nat} {spare : Nat → Bool} {held : Bool}
theorem int_of {P : Program} {e : TypeId} (he : P.underlying e = some (.int .i64)) {m : Nat} {c : Value} {o : Option (DataW H × List MemPlace)} (h : DataW.trod enc P w base spare held m e [c] = o) (ho : o.isSome = true) : ∃ z : Int, c = .int .i64 z ∧ (Lit.int .i64 z).wf = true := by
  obtain ⟨y, hy⟩ := Option.isSome_iff_exists.1 ho
  obtain ⟨z, hz, _, hw⟩ := DataW.trod_int he (h.trans hy)
  exact ⟨z, by simpa using hz, hw⟩
theorem arr4_of {P : Program} {t e : TypeId} (ht : P.underlying t = some (.array 4 e)) (he : P.underlying e = some (.int .i64)) (h1 : P.cellsOf e = 1) (h4 : P.cellsOf t = 4) {m : Nat} {cs : List Value} {x : DataW H × List MemPlace}
    (h : DataW.trod enc P w base spare held m t cs = some x) : ∃ z0 z1 z2 z3 : Int, cs = [.int .i64 z0, .int .i64 z1, .int .i64 z2, .int .i64 z3] := by
  obtain ⟨xs, m', _, _, hl, hxl, hi⟩ := DataW.trod_array ht h
  obtain ⟨c0, c1, c2, c3, rfl⟩ := list4 (hl.trans h4)
  have i0 := hi 0 (by omega); have i1 := hi 1 (by omega); have i2 := hi 2 (by omega); have i3 := hi 3 (by omega)
  rw [h1] at i0 i1 i2 i3
  obtain ⟨z0, rfl, _⟩ := int_of he i0 (by simp [hxl])
  obtain ⟨z1, rfl, _⟩ := int_of he i1 (by simp [hxl])
  obtain ⟨z2, rfl, _⟩ := int_of he i2 (by simp [hxl])
  obtain ⟨z3, rfl, _⟩ := int_of he i3 (by simp [hxl])
  exact ⟨z0, z1, z2, z3, rfl⟩
theorem sd_of {m : Nat} {cs : List Value} {x : DataW H × List MemPlace} (h : DataW.trod enc Try.prog w base spare held m 45 cs = some x) : ∃ s : Sd, cs = s.row := by
  obtain ⟨xs, m', _, _, hl, hxl, hf⟩ := DataW.trod_struct Try.underlying45 h
  obtain ⟨c0, c1, c2, c3, c4', rfl⟩ := list5 (hl.trans cs5)
  have f0 : DataW.trod enc Try.prog w base spare held m' 3 (([c0, c1, c2, c3, c4'].drop 0).take (Try.prog.cellsOf 3)) = xs[0]? := hf 0 _ rfl
  have f1 : DataW.trod enc Try.prog w base spare held m' 22 (([c0, c1, c2, c3, c4'].drop 1).take (Try.prog.cellsOf 22)) = xs[1]? := hf 1 _ rfl
  rw [ci] at f0
  rw [c4] at f1
  have hx : xs.length = 2 := hxl
  obtain ⟨z0, rfl, _⟩ := int_of Try.underlying3 f0 (by simp [hx])
  obtain ⟨y, hy⟩ := Option.isSome_iff_exists.1 (show (xs[1]?).isSome = true by simp [hx])
  obtain ⟨a, b, c, d, he⟩ := arr4_of Try.underlying22 Try.underlying3 ci c4 (f1.trans hy)
  simp at he
  obtain ⟨rfl, rfl, rfl, rfl⟩ := he
  exact ⟨⟨z0, a, b, c, d⟩, rfl⟩
theorem vx_of {m : Nat} {cs : List Value} {x : DataW H × List MemPlace} (h : DataW.trod enc Try.prog w base spare held m 25 cs = some x) : ∃ v : Vx, cs = v.row.toList := by
  obtain ⟨xs, m', _, _, hl, hxl, hf⟩ := DataW.trod_struct Try.underlying25 h
  obtain ⟨c0, c1, c2, c3, c4', c5, c6, c7, rfl⟩ := list8 (hl.trans cv8)
  have f0 : DataW.trod enc Try.prog w base spare held m' 3 (([c0, c1, c2, c3, c4', c5, c6, c7].drop 0).take (Try.prog.cellsOf 3)) = xs[0]? := hf 0 _ rfl
  have f1 : DataW.trod enc Try.prog w base spare held m' 3 (([c0, c1, c2, c3, c4', c5, c6, c7].drop 1).take (Try.prog.cellsOf 3)) = xs[1]? := hf 1 _ rfl
  have f2 : DataW.trod enc Try.prog w base spare held m' 3 (([c0, c1, c2, c3, c4', c5, c6, c7].drop 2).take (Try.prog.cellsOf 3)) = xs[2]? := hf 2 _ rfl
  have f3 : DataW.trod enc Try.prog w base spare held m' 3 (([c0, c1, c2, c3, c4', c5, c6, c7].drop 3).take (Try.prog.cellsOf 3)) = xs[3]? := hf 3 _ rfl
  have f4 : DataW.trod enc Try.prog w base spare held m' 23 (([c0, c1, c2, c3, c4', c5, c6, c7].drop 4).take (Try.prog.cellsOf 23)) = xs[4]? := hf 4 _ rfl
  rw [ci] at f0 f1 f2 f3
  rw [cc] at f4
  have hx : xs.length = 5 := hxl
  obtain ⟨z0, rfl, _⟩ := int_of Try.underlying3 f0 (by simp [hx])
  obtain ⟨z1, rfl, _⟩ := int_of Try.underlying3 f1 (by simp [hx])
  obtain ⟨z2, rfl, _⟩ := int_of Try.underlying3 f2 (by simp [hx])
  obtain ⟨z3, rfl, _⟩ := int_of Try.underlying3 f3 (by simp [hx])
  obtain ⟨y, hy⟩ := Option.isSome_iff_exists.1 (show (xs[4]?).isSome = true by simp [hx])
  obtain ⟨a, b, c, d, he⟩ := arr4_of Try.underlying23 Try.underlying3 ci cc (f4.trans hy)
  simp at he
  obtain ⟨rfl, rfl, rfl, rfl⟩ := he
  exact ⟨⟨z0, z1, z2, z3, a, b, c, d⟩, rfl⟩
theorem open_sd {r : Reach} {b0 : Nat} {v : Value} {d : DataW H} {p : List MemPlace} (hv : Value.okWide Try.prog w r b0 45 v) (h : DataW.Trod enc Try.prog w base spare held 45 v d p) : ∃ s : Sd, v = s.v := by
  obtain ⟨cs, rfl, hsz⟩ := okWide_struct Try.underlying45 hv
  obtain ⟨m, hm⟩ := h
  obtain ⟨s, hs⟩ := sd_of hm
  refine ⟨s, ?_⟩
  have : cs.toList = s.row := hs
  cases cs; simp_all
theorem open_vx {r : Reach} {b0 : Nat} {v : Value} {d : DataW H} {p : List MemPlace} (hv : Value.okWide Try.prog w r b0 25 v) (h : DataW.Trod enc Try.prog w base spare held 25 v d p) : ∃ s : Vx, v = s.v := by
  obtain ⟨cs, rfl, hsz⟩ := okWide_struct Try.underlying25 hv
  obtain ⟨m, hm⟩ := h
  obtain ⟨s, hs⟩ := vx_of hm
  refine ⟨s, ?_⟩
  have : cs.toList = s.row.toList := hs
  cases cs; simp_all
end
end Go.Proofs.Ytibhfclkdbmmoaa
