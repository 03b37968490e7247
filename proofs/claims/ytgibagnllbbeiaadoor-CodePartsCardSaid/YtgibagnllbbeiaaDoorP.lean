/- From the row's premises to what the walks ask: the two listed variables; a world that meets them; an argument's slices. -/
import Derived.Test.YtgibagnllbbeiaaDoorRows
import Derived.Test.YtgibagnllbbeiaaDoorK
import Derived.ProofKit
import Derived.OpenShut
import Derived.Carry
import Derived.ChangeSame
import Derived.ChangeVars
import Derived.JoinedOf
import Derived.RowKit
import Derived.RowKitTokens
import Derived.LaidLaws
import Derived.LaidHandle
import Derived.Lib.LaidTab
import Derived.Lib.SmallJoins
import Derived.Stop.Joined
import Derived.Below
set_option linter.unusedVariables false
namespace Go.Proofs.YtgibagnllbbeiaaDoor
open Go.ChangeShapes Go.WideShapes Go.ChangeAt Go.RowKit Go.Joins
theorem own : ownKnob Tryd.prog.godebug = none := by kernel_rfl
theorem laidOut : laidOutB Tryd.prog = true := by kernel_rfl
theorem g_by : Tryd.prog.globalNamed "rastrum/code.byteful" = some 0 := by kernel_rfl
theorem g_on : Tryd.prog.globalNamed "rastrum/code.on" = some 1 := by kernel_rfl
theorem t_by : (Tryd.prog.globals[0]?).map (·.type) = some 47 := by kernel_rfl
theorem t_on : (Tryd.prog.globals[1]?).map (·.type) = some 47 := by kernel_rfl
theorem c47 : Tryd.prog.cellsOf 47 = 2 := by kernel_rfl
theorem c3 : Tryd.prog.cellsOf 3 = 1 := by kernel_rfl
/-- The rows' list. -/
abbrev laidL : List (String × DataW Unit) := [("rastrum/code.on", Rows.laid_rastrum_code_on), ("rastrum/code.byteful", Rows.laid_rastrum_code_byteful)]

theorem glob_of_laid {W : World} (h : laidMetH Tryd.prog laidL W) : Glob W := by
  have h' : laidMet Tryd.prog laidL W := h
  obtain ⟨ps, hv, _⟩ := h'
  obtain ⟨g1, t1, cs1, fuel1, p1, q1, hg1, ht1, hvar1, hd1, hv2, _⟩ := hv
  obtain ⟨g2, t2, cs2, fuel2, p2, q2, hg2, ht2, hvar2, hd2, _⟩ := hv2
  obtain rfl := Option.some.inj (g_on.symm.trans hg1)
  obtain rfl := Option.some.inj (g_by.symm.trans hg2)
  obtain rfl := Option.some.inj (t_on.symm.trans ht1)
  obtain rfl := Option.some.inj (t_by.symm.trans ht2)
  have e1 : cs1.toList = [0, 1].map (Value.int .i64) := Lib.cells_of_tab (zs := [0, 1]) Tryd.underlying47 Tryd.underlying3 c3 c47 hd1
  have e2 : cs2.toList = [0, 255].map (Value.int .i64) := Lib.cells_of_tab (zs := [0, 255]) Tryd.underlying47 Tryd.underlying3 c3 c47 hd2
  have a1 : cs1 = #[.int .i64 0, .int .i64 1] := by cases cs1; simp_all
  have a2 : cs2 = #[.int .i64 0, .int .i64 255] := by cases cs2; simp_all
  subst a1; subst a2
  exact ⟨World.var?_cell hg2 hvar2 0, World.var?_cell hg2 hvar2 1, World.var?_cell hg1 hvar1 0, World.var?_cell hg1 hvar1 1⟩

/-- A world that meets the condition. -/
def refill (cs : Array Value) : Obj → Obj
  | .cells _ t frozen => .cells cs t frozen
  | o => o
noncomputable def laidWorld (os : Os) : World :=
  { World.holding Tryd.prog os ⟨#[], #[], []⟩ with heap := ((World.holding Tryd.prog os ⟨#[], #[], []⟩).heap.modify 0 (refill #[.int .i64 0, .int .i64 255])).modify 1 (refill #[.int .i64 0, .int .i64 1]) }
theorem laidWorld_row0 (os : Os) (args : Array Value) : ((laidWorld os).forCall (fun _ _ => 0) ⟨#[], args, []⟩).memory.heap[0]? = some (.cells #[.int .i64 0, .int .i64 255] 47 (0, 0)) := by kernel_rfl
theorem laidWorld_row1 (os : Os) (args : Array Value) : ((laidWorld os).forCall (fun _ _ => 0) ⟨#[], args, []⟩).memory.heap[1]? = some (.cells #[.int .i64 0, .int .i64 1] 47 (0, 0)) := by kernel_rfl
theorem laidWorld_met (os : Os) (args : Array Value) : laidMetH Tryd.prog laidL ((laidWorld os).forCall (fun _ _ => 0) ⟨#[], args, []⟩).memory := by
  show laidMet _ _ _
  refine ⟨[.cell 1 0, .cell 1 1, .cell 0 0, .cell 0 1], ⟨1, 47, #[.int .i64 0, .int .i64 1], 8, [], [.cell 0 0, .cell 0 1], by kernel_rfl, by kernel_rfl, by kernel_rfl, by kernel_rfl, ⟨0, 47, #[.int .i64 0, .int .i64 255], 8, [], [], by kernel_rfl, by kernel_rfl, by kernel_rfl, by kernel_rfl, rfl, rfl⟩, rfl⟩, by decide, fun b off h => ?_⟩
  simp at h
  rcases h with ⟨rfl, rfl⟩ | ⟨rfl, rfl⟩ | ⟨rfl, rfl⟩ | ⟨rfl, rfl⟩ <;> refine ⟨⟨_, _, by first | exact laidWorld_row0 os args | exact laidWorld_row1 os args⟩, fun u v hc => ?_⟩ <;> simp [World.cell?, laidWorld_row0 os args, laidWorld_row1 os args] at hc

/-- A slice of ints that came in. -/
theorem ints_rd {H : Type} {enc : TypeId × Value → H} {W : World} {held : Bool} {fuel : Nat} {v : Value} {y : DataW H × List MemPlace} (h : DataW.trod enc Tryd.prog W 0 (fun _ => true) held fuel 22 [v] = some y) :
    ∃ a n cap A, v = .slice a n cap ∧ Rd W 1 a n cap (ivs A) := by
  rcases open_ints Tryd.underlying22 Tryd.underlying3 c3 h with ⟨hcs, _⟩ | ⟨x, l, c, zs, hcs, _, hl, hm, hz, _, hcell, hwz⟩
  · exact ⟨none, 0, 0, [], by simpa using hcs, Rd.empty W 1 none 0 (by unfold maxLen; omega)⟩
  · refine ⟨some x, l, c, zs.take l, by simpa using hcs, ?_⟩
    have hzc : zs.length = c := by simpa using hz
    refine ⟨by simp; omega, hl, hm, fun h0 => ?_⟩
    obtain ⟨b, off, spot⟩ := x
    have hc0 := hcell 0 (by omega)
    have hspot : spot = none := by simpa [Addr.add] using World.cell?_spot hc0
    subst hspot
    refine ⟨b, off, rfl, World.block_lt_of_cell? W _ hc0, fun j hj => ?_⟩
    have hj' := hcell j (by omega)
    have hadd : (⟨b, off, none⟩ : Addr).add j = ⟨b, off + j, none⟩ := by unfold Addr.add; split <;> simp_all
    rw [hadd] at hj'
    rw [hj']
    have : j < l := by omega
    have hjz : j < zs.length := by omega
    simp [this, hjz]
end Go.Proofs.YtgibagnllbbeiaaDoor
