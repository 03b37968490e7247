/- Proof text: what the rows of layer 1 want. No condition. By an AI agent. -/
import Derived.Test.YtofninkbinnbhaaRows
import Derived.Test.YtofninkbinnbhaaFJ
import Derived.ProofKit
import Derived.OpenShut
import Derived.Carry
import Derived.ChangeSame
import Derived.ChangeVars
import Derived.JoinedOf
import Derived.RowKit
import Derived.RowKitTokens
import Derived.Lib.SmallJoins
import Derived.Below
import Derived.Deep.Slices
set_option linter.unusedVariables false
set_option linter.unusedSimpArgs false
namespace Go.Proofs.Ytofninkbinnbhaa
open Go.ChangeShapes Go.WideShapes Go.ChangeAt Go.RowKit Go.Joins Go.Deep
theorem own : ownKnob Try.prog.godebug = none := by kernel_rfl
theorem laidOut : laidOutB Try.prog = true := by kernel_rfl
/-- A contract that leaves the world as it was. -/
theorem as_ext {f : FuncId} {args : Array Value} {v : Value} {W : World} (h : Calls Try.prog f args W fun x w' => x = .returned v ∧ w' = W) : Calls Try.prog f args W fun x w' => x = .returned v ∧ Ext W w' :=
  h.mono fun _ _ h => ⟨h.1, by rw [h.2]; exact Ext.refl W⟩
end Go.Proofs.Ytofninkbinnbhaa
