/-
  No cell of these rows narrows 'for every input' (looked for: loops, veiled, ifaces, maps, wideKeys, modest, calm, conditions, laid).
  DERIVED. THE GIVEN ROWS OF THIS SEAT. 11 by the template 'for every input the law returns true; each argument reads behind the call as it read before'; 0 by the template 'total and deterministic' (their statements: YtmpkimcegckloaaTotals.lean).
  GIVEN WITH THE SEED: the statements are not yours to turn. If you find one false, say at which input.
  Laid BY PROGRAM, IN A SANDBOX (cutbox-rows.mjs): the forced cells as the released guide's own fill.sh prints them over the translation 1003ea735355d8b0… (all of the seat's roots in one cut). By AI agents, Wed Nov 11 2026. No macro, syntax, notation, axiom, sorry.
-/
import Derived.Test.YtmpkimcegckloaaChecked
import GoSem.Claim
import GoSem.ClaimJoined
import GoSem.ClaimMapViews
import Derived.JoinedTies
import Derived.KernelRfl
namespace Go.Proofs.Ytmpkimcegckloaa
/- THE CELL 'sum', in the pinned program and in every row, IS THE sha256 OF THE DUMP (.gsa) THAT YtmpkimcegckloaaProg.lean LOADS. Nothing in Lean hashes anything: it is a label: what it is worth is what the hold of that sum in a sandbox is worth. -/
noncomputable def Try.pinned : Pinned := { name := "ytmpkimcegckloaa", sum := "1003ea735355d8b008b7bc1fb4cf1c75431289c1732decb59d4d90f6ff593314", checked := Try.checked }
namespace Rows
def none {H : Type} : Left H := { results := [], args := [] }

/-- 'rastrumlaw08.SideTells': WHATEVER THE INPUT: true; the input reads as it did. -/
def sideTellsSpec : ChangeSpec := { name := "sideTells", fn := fun _ => fun
  | [d1, d2] => { results := [.lit (.bool true)], args := [d1, d2] }
  | _ => none }
def sideTellsRow : OpenClaim := { program := "ytmpkimcegckloaa", sum := "1003ea735355d8b008b7bc1fb4cf1c75431289c1732decb59d4d90f6ff593314", func := "rastrum/rastrumlaw08.SideTells", spec := "sideTells", inPlace := ["math/bits.Sub64"], named := ["math/bits.divideError", "math/bits.overflowError"], apart := false }
def SideTellsSaid : Prop := sideTellsRow.holds Try.pinned (OpenSpec.ofChange sideTellsSpec)

/-- ITS FALSE NEIGHBOUR: 'it returns false'. Refute it at one input. -/
def sideTellsWrong : ChangeSpec := { name := "sideTells", fn := fun _ => fun
  | [d1, d2] => { results := [.lit (.bool false)], args := [d1, d2] }
  | _ => none }
def SideTellsWrongFalsely : Prop := sideTellsRow.holds Try.pinned (OpenSpec.ofChange sideTellsWrong)

/-- 'rastrumlaw08.SideLists': WHATEVER THE INPUT: true; the input reads as it did. -/
def sideListsSpec : ChangeSpec := { name := "sideLists", fn := fun _ => fun
  | [d] => { results := [.lit (.bool true)], args := [d] }
  | _ => none }
def sideListsRow : OpenClaim := { program := "ytmpkimcegckloaa", sum := "1003ea735355d8b008b7bc1fb4cf1c75431289c1732decb59d4d90f6ff593314", func := "rastrum/rastrumlaw08.SideLists", spec := "sideLists", inPlace := ["math/bits.Sub64"], named := ["math/bits.divideError", "math/bits.overflowError"], apart := false }
def SideListsSaid : Prop := sideListsRow.holds Try.pinned (OpenSpec.ofChange sideListsSpec)

/-- ITS FALSE NEIGHBOUR: 'it returns false'. Refute it at one input. -/
def sideListsWrong : ChangeSpec := { name := "sideLists", fn := fun _ => fun
  | [d] => { results := [.lit (.bool false)], args := [d] }
  | _ => none }
def SideListsWrongFalsely : Prop := sideListsRow.holds Try.pinned (OpenSpec.ofChange sideListsWrong)

/-- 'rastrumlaw08.SideBetween': WHATEVER THE INPUT: true; the input reads as it did. -/
def sideBetweenSpec : ChangeSpec := { name := "sideBetween", fn := fun _ => fun
  | [d1, d2, d3] => { results := [.lit (.bool true)], args := [d1, d2, d3] }
  | _ => none }
def sideBetweenRow : OpenClaim := { program := "ytmpkimcegckloaa", sum := "1003ea735355d8b008b7bc1fb4cf1c75431289c1732decb59d4d90f6ff593314", func := "rastrum/rastrumlaw08.SideBetween", spec := "sideBetween", inPlace := ["math/bits.Sub64"], named := ["math/bits.divideError", "math/bits.overflowError"], apart := false }
def SideBetweenSaid : Prop := sideBetweenRow.holds Try.pinned (OpenSpec.ofChange sideBetweenSpec)

/-- ITS FALSE NEIGHBOUR: 'it returns false'. Refute it at one input. -/
def sideBetweenWrong : ChangeSpec := { name := "sideBetween", fn := fun _ => fun
  | [d1, d2, d3] => { results := [.lit (.bool false)], args := [d1, d2, d3] }
  | _ => none }
def SideBetweenWrongFalsely : Prop := sideBetweenRow.holds Try.pinned (OpenSpec.ofChange sideBetweenWrong)

/-- 'rastrumlaw08.SideMeets': WHATEVER THE INPUT: true; the input reads as it did. -/
def sideMeetsSpec : ChangeSpec := { name := "sideMeets", fn := fun _ => fun
  | [d1, d2, d3] => { results := [.lit (.bool true)], args := [d1, d2, d3] }
  | _ => none }
def sideMeetsRow : OpenClaim := { program := "ytmpkimcegckloaa", sum := "1003ea735355d8b008b7bc1fb4cf1c75431289c1732decb59d4d90f6ff593314", func := "rastrum/rastrumlaw08.SideMeets", spec := "sideMeets", inPlace := ["math/bits.Sub64"], named := ["math/bits.divideError", "math/bits.overflowError"], apart := false }
def SideMeetsSaid : Prop := sideMeetsRow.holds Try.pinned (OpenSpec.ofChange sideMeetsSpec)

/-- ITS FALSE NEIGHBOUR: 'it returns false'. Refute it at one input. -/
def sideMeetsWrong : ChangeSpec := { name := "sideMeets", fn := fun _ => fun
  | [d1, d2, d3] => { results := [.lit (.bool false)], args := [d1, d2, d3] }
  | _ => none }
def SideMeetsWrongFalsely : Prop := sideMeetsRow.holds Try.pinned (OpenSpec.ofChange sideMeetsWrong)

/-- 'rastrumlaw09.TrimParts': WHATEVER THE INPUT: true; the input reads as it did. -/
def trimPartsSpec : ChangeSpec := { name := "trimParts", fn := fun _ => fun
  | [d1, d2, d3] => { results := [.lit (.bool true)], args := [d1, d2, d3] }
  | _ => none }
def trimPartsRow : OpenClaim := { program := "ytmpkimcegckloaa", sum := "1003ea735355d8b008b7bc1fb4cf1c75431289c1732decb59d4d90f6ff593314", func := "rastrum/rastrumlaw09.TrimParts", spec := "trimParts", inPlace := ["math/bits.Sub64"], named := ["math/bits.divideError", "math/bits.overflowError"], apart := false }
def TrimPartsSaid : Prop := trimPartsRow.holds Try.pinned (OpenSpec.ofChange trimPartsSpec)

/-- ITS FALSE NEIGHBOUR: 'it returns false'. Refute it at one input. -/
def trimPartsWrong : ChangeSpec := { name := "trimParts", fn := fun _ => fun
  | [d1, d2, d3] => { results := [.lit (.bool false)], args := [d1, d2, d3] }
  | _ => none }
def TrimPartsWrongFalsely : Prop := trimPartsRow.holds Try.pinned (OpenSpec.ofChange trimPartsWrong)

/-- 'rastrumlaw09.TrimTurned': WHATEVER THE INPUT: true; the input reads as it did. -/
def trimTurnedSpec : ChangeSpec := { name := "trimTurned", fn := fun _ => fun
  | [d1, d2, d3] => { results := [.lit (.bool true)], args := [d1, d2, d3] }
  | _ => none }
def trimTurnedRow : OpenClaim := { program := "ytmpkimcegckloaa", sum := "1003ea735355d8b008b7bc1fb4cf1c75431289c1732decb59d4d90f6ff593314", func := "rastrum/rastrumlaw09.TrimTurned", spec := "trimTurned", inPlace := ["math/bits.Sub64"], named := ["math/bits.divideError", "math/bits.overflowError"], apart := false }
def TrimTurnedSaid : Prop := trimTurnedRow.holds Try.pinned (OpenSpec.ofChange trimTurnedSpec)

/-- ITS FALSE NEIGHBOUR: 'it returns false'. Refute it at one input. -/
def trimTurnedWrong : ChangeSpec := { name := "trimTurned", fn := fun _ => fun
  | [d1, d2, d3] => { results := [.lit (.bool false)], args := [d1, d2, d3] }
  | _ => none }
def TrimTurnedWrongFalsely : Prop := trimTurnedRow.holds Try.pinned (OpenSpec.ofChange trimTurnedWrong)

/-- 'rastrumlaw09.TrimOrder': WHATEVER THE INPUT: true; the input reads as it did. -/
def trimOrderSpec : ChangeSpec := { name := "trimOrder", fn := fun _ => fun
  | [d1, d2, d3] => { results := [.lit (.bool true)], args := [d1, d2, d3] }
  | _ => none }
def trimOrderRow : OpenClaim := { program := "ytmpkimcegckloaa", sum := "1003ea735355d8b008b7bc1fb4cf1c75431289c1732decb59d4d90f6ff593314", func := "rastrum/rastrumlaw09.TrimOrder", spec := "trimOrder", inPlace := ["math/bits.Sub64"], named := ["math/bits.divideError", "math/bits.overflowError"], apart := false }
def TrimOrderSaid : Prop := trimOrderRow.holds Try.pinned (OpenSpec.ofChange trimOrderSpec)

/-- ITS FALSE NEIGHBOUR: 'it returns false'. Refute it at one input. -/
def trimOrderWrong : ChangeSpec := { name := "trimOrder", fn := fun _ => fun
  | [d1, d2, d3] => { results := [.lit (.bool false)], args := [d1, d2, d3] }
  | _ => none }
def TrimOrderWrongFalsely : Prop := trimOrderRow.holds Try.pinned (OpenSpec.ofChange trimOrderWrong)

/-- 'rastrumlaw09.TrimKeeps': WHATEVER THE INPUT: true; the input reads as it did. -/
def trimKeepsSpec : ChangeSpec := { name := "trimKeeps", fn := fun _ => fun
  | [d1, d2, d3] => { results := [.lit (.bool true)], args := [d1, d2, d3] }
  | _ => none }
def trimKeepsRow : OpenClaim := { program := "ytmpkimcegckloaa", sum := "1003ea735355d8b008b7bc1fb4cf1c75431289c1732decb59d4d90f6ff593314", func := "rastrum/rastrumlaw09.TrimKeeps", spec := "trimKeeps", inPlace := ["math/bits.Sub64"], named := ["math/bits.divideError", "math/bits.overflowError"], apart := false }
def TrimKeepsSaid : Prop := trimKeepsRow.holds Try.pinned (OpenSpec.ofChange trimKeepsSpec)

/-- ITS FALSE NEIGHBOUR: 'it returns false'. Refute it at one input. -/
def trimKeepsWrong : ChangeSpec := { name := "trimKeeps", fn := fun _ => fun
  | [d1, d2, d3] => { results := [.lit (.bool false)], args := [d1, d2, d3] }
  | _ => none }
def TrimKeepsWrongFalsely : Prop := trimKeepsRow.holds Try.pinned (OpenSpec.ofChange trimKeepsWrong)

/-- 'rastrumlaw10.CarveKeeps': WHATEVER THE INPUT: true; the input reads as it did. -/
def carveKeepsSpec : ChangeSpec := { name := "carveKeeps", fn := fun _ => fun
  | [d1, d2, d3] => { results := [.lit (.bool true)], args := [d1, d2, d3] }
  | _ => none }
def carveKeepsRow : OpenClaim := { program := "ytmpkimcegckloaa", sum := "1003ea735355d8b008b7bc1fb4cf1c75431289c1732decb59d4d90f6ff593314", func := "rastrum/rastrumlaw10.CarveKeeps", spec := "carveKeeps", inPlace := ["math/bits.Sub64"], named := ["math/bits.divideError", "math/bits.overflowError"], apart := false }
def CarveKeepsSaid : Prop := carveKeepsRow.holds Try.pinned (OpenSpec.ofChange carveKeepsSpec)

/-- ITS FALSE NEIGHBOUR: 'it returns false'. Refute it at one input. -/
def carveKeepsWrong : ChangeSpec := { name := "carveKeeps", fn := fun _ => fun
  | [d1, d2, d3] => { results := [.lit (.bool false)], args := [d1, d2, d3] }
  | _ => none }
def CarveKeepsWrongFalsely : Prop := carveKeepsRow.holds Try.pinned (OpenSpec.ofChange carveKeepsWrong)

/-- 'rastrumlaw10.CarveFlags': WHATEVER THE INPUT: true; the input reads as it did. -/
def carveFlagsSpec : ChangeSpec := { name := "carveFlags", fn := fun _ => fun
  | [d1, d2] => { results := [.lit (.bool true)], args := [d1, d2] }
  | _ => none }
def carveFlagsRow : OpenClaim := { program := "ytmpkimcegckloaa", sum := "1003ea735355d8b008b7bc1fb4cf1c75431289c1732decb59d4d90f6ff593314", func := "rastrum/rastrumlaw10.CarveFlags", spec := "carveFlags", inPlace := ["math/bits.Sub64"], named := ["math/bits.divideError", "math/bits.overflowError"], apart := false }
def CarveFlagsSaid : Prop := carveFlagsRow.holds Try.pinned (OpenSpec.ofChange carveFlagsSpec)

/-- ITS FALSE NEIGHBOUR: 'it returns false'. Refute it at one input. -/
def carveFlagsWrong : ChangeSpec := { name := "carveFlags", fn := fun _ => fun
  | [d1, d2] => { results := [.lit (.bool false)], args := [d1, d2] }
  | _ => none }
def CarveFlagsWrongFalsely : Prop := carveFlagsRow.holds Try.pinned (OpenSpec.ofChange carveFlagsWrong)

/-- 'rastrumlaw10.CarveRolls': WHATEVER THE INPUT: true; the input reads as it did. -/
def carveRollsSpec : ChangeSpec := { name := "carveRolls", fn := fun _ => fun
  | [d1, d2, d3] => { results := [.lit (.bool true)], args := [d1, d2, d3] }
  | _ => none }
def carveRollsRow : OpenClaim := { program := "ytmpkimcegckloaa", sum := "1003ea735355d8b008b7bc1fb4cf1c75431289c1732decb59d4d90f6ff593314", func := "rastrum/rastrumlaw10.CarveRolls", spec := "carveRolls", inPlace := ["math/bits.Sub64"], named := ["math/bits.divideError", "math/bits.overflowError"], apart := false }
def CarveRollsSaid : Prop := carveRollsRow.holds Try.pinned (OpenSpec.ofChange carveRollsSpec)

/-- ITS FALSE NEIGHBOUR: 'it returns false'. Refute it at one input. -/
def carveRollsWrong : ChangeSpec := { name := "carveRolls", fn := fun _ => fun
  | [d1, d2, d3] => { results := [.lit (.bool false)], args := [d1, d2, d3] }
  | _ => none }
def CarveRollsWrongFalsely : Prop := carveRollsRow.holds Try.pinned (OpenSpec.ofChange carveRollsWrong)

/- THE SECOND FORM. 'bulk': how many values and letters a reading holds, each counted each time it is reached (what is shared counts as often as it is met; a slice's spare places count too). A statement '..UptoSaid' is the law's where the arguments, and the package variables that the reading takes, are together of bulk at most 1048576: NARROWER than '..Said'. Prove '..Said' where nothing that the law and all that it calls make is longer than what came in: it says more and counts as full. Else prove '..UptoSaid'. A law counts once. -/
mutual
def uptoBulk {H : Type} : DataW H → Nat
  | .lit (.string bytes) => bytes.length + 1
  | .lit _ => 1
  | .nil => 1
  | .ptr d => uptoBulk d + 1
  | .slice elems spare => uptoBulkAll elems + uptoBulkAll spare + 1
  | .agg parts => uptoBulkAll parts + 1
  | .iface _ d => uptoBulk d + 1
  | .map entries => uptoBulkEntries entries + 1
  | .held _ => 1
def uptoBulkAll {H : Type} : List (DataW H) → Nat
  | [] => 0
  | d :: r => uptoBulk d + uptoBulkAll r
def uptoBulkEntries {H : Type} : List (Lit × DataW H) → Nat
  | [] => 0
  | x :: r => uptoBulkEntry x + uptoBulkEntries r
def uptoBulkEntry {H : Type} : Lit × DataW H → Nat
  | (.string bytes, d) => bytes.length + uptoBulk d + 1
  | (_, d) => uptoBulk d + 1
 end
def uptoSmall : (H : Type) → List (DataW H) → Bool := fun _ ds => decide (uptoBulkAll ds ≤ 1048576)
def OpenSpec.upto (s : _root_.Go.ChangeSpec) : _root_.Go.OpenSpec := { _root_.Go.OpenSpec.ofChange s with cond := some uptoSmall }

/-- 'rastrumlaw08.SideTells', WHERE WHAT IT READS IS OF BULK AT MOST 1048576: true; the input reads as it did. -/
def sideTellsUptoRow : OpenClaim := { program := "ytmpkimcegckloaa", sum := "1003ea735355d8b008b7bc1fb4cf1c75431289c1732decb59d4d90f6ff593314", func := "rastrum/rastrumlaw08.SideTells", spec := "sideTells", inPlace := ["math/bits.Sub64"], named := ["math/bits.divideError", "math/bits.overflowError"], apart := false, narrowed := true }
def SideTellsUptoSaid : Prop := sideTellsUptoRow.holds Try.pinned (OpenSpec.upto sideTellsSpec)

/-- 'rastrumlaw08.SideLists', WHERE WHAT IT READS IS OF BULK AT MOST 1048576: true; the input reads as it did. -/
def sideListsUptoRow : OpenClaim := { program := "ytmpkimcegckloaa", sum := "1003ea735355d8b008b7bc1fb4cf1c75431289c1732decb59d4d90f6ff593314", func := "rastrum/rastrumlaw08.SideLists", spec := "sideLists", inPlace := ["math/bits.Sub64"], named := ["math/bits.divideError", "math/bits.overflowError"], apart := false, narrowed := true }
def SideListsUptoSaid : Prop := sideListsUptoRow.holds Try.pinned (OpenSpec.upto sideListsSpec)

/-- 'rastrumlaw08.SideBetween', WHERE WHAT IT READS IS OF BULK AT MOST 1048576: true; the input reads as it did. -/
def sideBetweenUptoRow : OpenClaim := { program := "ytmpkimcegckloaa", sum := "1003ea735355d8b008b7bc1fb4cf1c75431289c1732decb59d4d90f6ff593314", func := "rastrum/rastrumlaw08.SideBetween", spec := "sideBetween", inPlace := ["math/bits.Sub64"], named := ["math/bits.divideError", "math/bits.overflowError"], apart := false, narrowed := true }
def SideBetweenUptoSaid : Prop := sideBetweenUptoRow.holds Try.pinned (OpenSpec.upto sideBetweenSpec)

/-- 'rastrumlaw08.SideMeets', WHERE WHAT IT READS IS OF BULK AT MOST 1048576: true; the input reads as it did. -/
def sideMeetsUptoRow : OpenClaim := { program := "ytmpkimcegckloaa", sum := "1003ea735355d8b008b7bc1fb4cf1c75431289c1732decb59d4d90f6ff593314", func := "rastrum/rastrumlaw08.SideMeets", spec := "sideMeets", inPlace := ["math/bits.Sub64"], named := ["math/bits.divideError", "math/bits.overflowError"], apart := false, narrowed := true }
def SideMeetsUptoSaid : Prop := sideMeetsUptoRow.holds Try.pinned (OpenSpec.upto sideMeetsSpec)

/-- 'rastrumlaw09.TrimParts', WHERE WHAT IT READS IS OF BULK AT MOST 1048576: true; the input reads as it did. -/
def trimPartsUptoRow : OpenClaim := { program := "ytmpkimcegckloaa", sum := "1003ea735355d8b008b7bc1fb4cf1c75431289c1732decb59d4d90f6ff593314", func := "rastrum/rastrumlaw09.TrimParts", spec := "trimParts", inPlace := ["math/bits.Sub64"], named := ["math/bits.divideError", "math/bits.overflowError"], apart := false, narrowed := true }
def TrimPartsUptoSaid : Prop := trimPartsUptoRow.holds Try.pinned (OpenSpec.upto trimPartsSpec)

/-- 'rastrumlaw09.TrimTurned', WHERE WHAT IT READS IS OF BULK AT MOST 1048576: true; the input reads as it did. -/
def trimTurnedUptoRow : OpenClaim := { program := "ytmpkimcegckloaa", sum := "1003ea735355d8b008b7bc1fb4cf1c75431289c1732decb59d4d90f6ff593314", func := "rastrum/rastrumlaw09.TrimTurned", spec := "trimTurned", inPlace := ["math/bits.Sub64"], named := ["math/bits.divideError", "math/bits.overflowError"], apart := false, narrowed := true }
def TrimTurnedUptoSaid : Prop := trimTurnedUptoRow.holds Try.pinned (OpenSpec.upto trimTurnedSpec)

/-- 'rastrumlaw09.TrimOrder', WHERE WHAT IT READS IS OF BULK AT MOST 1048576: true; the input reads as it did. -/
def trimOrderUptoRow : OpenClaim := { program := "ytmpkimcegckloaa", sum := "1003ea735355d8b008b7bc1fb4cf1c75431289c1732decb59d4d90f6ff593314", func := "rastrum/rastrumlaw09.TrimOrder", spec := "trimOrder", inPlace := ["math/bits.Sub64"], named := ["math/bits.divideError", "math/bits.overflowError"], apart := false, narrowed := true }
def TrimOrderUptoSaid : Prop := trimOrderUptoRow.holds Try.pinned (OpenSpec.upto trimOrderSpec)

/-- 'rastrumlaw09.TrimKeeps', WHERE WHAT IT READS IS OF BULK AT MOST 1048576: true; the input reads as it did. -/
def trimKeepsUptoRow : OpenClaim := { program := "ytmpkimcegckloaa", sum := "1003ea735355d8b008b7bc1fb4cf1c75431289c1732decb59d4d90f6ff593314", func := "rastrum/rastrumlaw09.TrimKeeps", spec := "trimKeeps", inPlace := ["math/bits.Sub64"], named := ["math/bits.divideError", "math/bits.overflowError"], apart := false, narrowed := true }
def TrimKeepsUptoSaid : Prop := trimKeepsUptoRow.holds Try.pinned (OpenSpec.upto trimKeepsSpec)

/-- 'rastrumlaw10.CarveKeeps', WHERE WHAT IT READS IS OF BULK AT MOST 1048576: true; the input reads as it did. -/
def carveKeepsUptoRow : OpenClaim := { program := "ytmpkimcegckloaa", sum := "1003ea735355d8b008b7bc1fb4cf1c75431289c1732decb59d4d90f6ff593314", func := "rastrum/rastrumlaw10.CarveKeeps", spec := "carveKeeps", inPlace := ["math/bits.Sub64"], named := ["math/bits.divideError", "math/bits.overflowError"], apart := false, narrowed := true }
def CarveKeepsUptoSaid : Prop := carveKeepsUptoRow.holds Try.pinned (OpenSpec.upto carveKeepsSpec)

/-- 'rastrumlaw10.CarveFlags', WHERE WHAT IT READS IS OF BULK AT MOST 1048576: true; the input reads as it did. -/
def carveFlagsUptoRow : OpenClaim := { program := "ytmpkimcegckloaa", sum := "1003ea735355d8b008b7bc1fb4cf1c75431289c1732decb59d4d90f6ff593314", func := "rastrum/rastrumlaw10.CarveFlags", spec := "carveFlags", inPlace := ["math/bits.Sub64"], named := ["math/bits.divideError", "math/bits.overflowError"], apart := false, narrowed := true }
def CarveFlagsUptoSaid : Prop := carveFlagsUptoRow.holds Try.pinned (OpenSpec.upto carveFlagsSpec)

/-- 'rastrumlaw10.CarveRolls', WHERE WHAT IT READS IS OF BULK AT MOST 1048576: true; the input reads as it did. -/
def carveRollsUptoRow : OpenClaim := { program := "ytmpkimcegckloaa", sum := "1003ea735355d8b008b7bc1fb4cf1c75431289c1732decb59d4d90f6ff593314", func := "rastrum/rastrumlaw10.CarveRolls", spec := "carveRolls", inPlace := ["math/bits.Sub64"], named := ["math/bits.divideError", "math/bits.overflowError"], apart := false, narrowed := true }
def CarveRollsUptoSaid : Prop := carveRollsUptoRow.holds Try.pinned (OpenSpec.upto carveRollsSpec)

end Rows
end Go.Proofs.Ytmpkimcegckloaa
