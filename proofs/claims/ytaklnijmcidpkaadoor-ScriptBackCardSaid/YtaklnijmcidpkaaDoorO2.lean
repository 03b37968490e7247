/- Proof text: rows of commands, read. By an AI agent. No condition beyond what each theorem states. -/
import Derived.Test.YtaklnijmcidpkaaDoorN
set_option linter.unusedVariables false
set_option linter.unusedSimpArgs false
namespace Go.Proofs.YtaklnijmcidpkaaDoor
open Go.RowKit
theorem recs_of {w : World} {base : Nat} {v : Value} {l : List R} {vs : List Value} (ho : w.ownsRow base 41 2 v l.length vs) (hr : RecCells (RdT w 3 1) vs l) : ∃ a cap, v = .slice a l.length cap ∧ RdRecs w a l.length cap l := by
  obtain ⟨a, cap, rfl, h⟩ := ownsRow_rd ho
  exact ⟨a, cap, rfl, vs, h, hr.mono fun _ _ _ _ hx => hx.1⟩
theorem recs_nil (w : World) : RdRecs w none 0 0 [] := ⟨[], Rd.empty w 2 none 0 (by unfold maxLen; omega), trivial⟩
end Go.Proofs.YtaklnijmcidpkaaDoor
