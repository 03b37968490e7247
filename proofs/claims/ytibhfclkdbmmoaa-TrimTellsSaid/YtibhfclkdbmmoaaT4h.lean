/- Proof text: the law SideMeets. By an AI agent. No condition beyond what each theorem states. -/
import Derived.Test.YtibhfclkdbmmoaaWay
import Derived.RegionTactic
import Derived.Deep.CutRange
set_option linter.unusedVariables false
set_option linter.unusedSimpArgs false
namespace Go.Proofs.Ytibhfclkdbmmoaa
open Go.RowKit
/-- The three arguments' boxes, in a later world. -/
theorem boxes3 {w W : World} {s : Sd} {a b : Vx} (h : Ext (((w.alloc (.cells s.row.toArray 45)).alloc (.cells a.row 25)).alloc (.cells b.row 25)) W) :
    Blk W w.heap.size 45 s.row.toArray ∧ Blk W (w.heap.size + 1) 25 a.row ∧ Blk W (w.heap.size + 1 + 1) 25 b.row :=
  ⟨Blk.ext (Blk.alloc (Blk.alloc (Blk.new _ _ _) _) _) h, Blk.ext (Blk.alloc (Blk.new' _ _ _ (by simp)) _) h, Blk.ext (Blk.new' _ _ _ (by simp)) h⟩
theorem later_ext2 {W : World} (x : Later W) (y : Later x.w) : Ext W y.w := x.ext.trans y.ext
end Go.Proofs.Ytibhfclkdbmmoaa
