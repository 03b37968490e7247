/-
  No cell of these rows narrows 'for every input' (looked for: loops, veiled, ifaces, maps, wideKeys, modest, calm, conditions, laid).
  DERIVED. THE GIVEN ROWS OF THIS SEAT. 4 by the template 'for every input the law returns true; each argument reads behind the call as it read before'; 0 by the template 'total and deterministic' (their statements: YtibhfclkdbmmoaaTotals.lean).
  GIVEN WITH THE SEED: the statements are not yours to turn. If you find one false, say at which input.
  Laid BY PROGRAM, IN A SANDBOX (cutbox-rows.mjs): the forced cells as the released guide's own fill.sh prints them over the translation 6ca6ea0d2c357ded… (all of the seat's roots in one cut). By AI agents, Wed Nov 11 2026. No macro, syntax, notation, axiom, sorry.
-/
import Derived.Test.YtibhfclkdbmmoaaChecked
import GoSem.Claim
import GoSem.ClaimJoined
import GoSem.ClaimMapViews
import Derived.JoinedTies
import Derived.KernelRfl
namespace Go.Proofs.Ytibhfclkdbmmoaa
/- THE CELL 'sum', in the pinned program and in every row, IS THE sha256 OF THE DUMP (.gsa) THAT YtibhfclkdbmmoaaProg.lean LOADS. Nothing in Lean hashes anything: it is a label: what it is worth is what the hold of that sum in a sandbox is worth. -/
noncomputable def Try.pinned : Pinned := { name := "ytibhfclkdbmmoaa", sum := "6ca6ea0d2c357ded1fd4b8c1a472b65daa5ad20b92dccafc99c1506b9cef8bbb", checked := Try.checked }
namespace Rows
def none {H : Type} : Left H := { results := [], args := [] }

/-- 'rastrumlaw08.SideAts': WHATEVER THE INPUT: true; the input reads as it did. -/
def sideAtsSpec : ChangeSpec := { name := "sideAts", fn := fun _ => fun
  | [d1, d2, d3] => { results := [.lit (.bool true)], args := [d1, d2, d3] }
  | _ => none }
def sideAtsRow : OpenClaim := { program := "ytibhfclkdbmmoaa", sum := "6ca6ea0d2c357ded1fd4b8c1a472b65daa5ad20b92dccafc99c1506b9cef8bbb", func := "rastrum/rastrumlaw08.SideAts", spec := "sideAts", inPlace := ["math/bits.Sub64"], named := ["math/bits.divideError", "math/bits.overflowError"], apart := false }
def SideAtsSaid : Prop := sideAtsRow.holds Try.pinned (OpenSpec.ofChange sideAtsSpec)

/-- ITS FALSE NEIGHBOUR: 'it returns false'. Refute it at one input. -/
def sideAtsWrong : ChangeSpec := { name := "sideAts", fn := fun _ => fun
  | [d1, d2, d3] => { results := [.lit (.bool false)], args := [d1, d2, d3] }
  | _ => none }
def SideAtsWrongFalsely : Prop := sideAtsRow.holds Try.pinned (OpenSpec.ofChange sideAtsWrong)

/-- 'rastrumlaw09.TrimTells': WHATEVER THE INPUT: true; the input reads as it did. -/
def trimTellsSpec : ChangeSpec := { name := "trimTells", fn := fun _ => fun
  | [d1, d2, d3] => { results := [.lit (.bool true)], args := [d1, d2, d3] }
  | _ => none }
def trimTellsRow : OpenClaim := { program := "ytibhfclkdbmmoaa", sum := "6ca6ea0d2c357ded1fd4b8c1a472b65daa5ad20b92dccafc99c1506b9cef8bbb", func := "rastrum/rastrumlaw09.TrimTells", spec := "trimTells", inPlace := ["math/bits.Sub64"], named := ["math/bits.divideError", "math/bits.overflowError"], apart := false }
def TrimTellsSaid : Prop := trimTellsRow.holds Try.pinned (OpenSpec.ofChange trimTellsSpec)

/-- ITS FALSE NEIGHBOUR: 'it returns false'. Refute it at one input. -/
def trimTellsWrong : ChangeSpec := { name := "trimTells", fn := fun _ => fun
  | [d1, d2, d3] => { results := [.lit (.bool false)], args := [d1, d2, d3] }
  | _ => none }
def TrimTellsWrongFalsely : Prop := trimTellsRow.holds Try.pinned (OpenSpec.ofChange trimTellsWrong)

/-- 'rastrumlaw10.CarveTells': WHATEVER THE INPUT: true; the input reads as it did. -/
def carveTellsSpec : ChangeSpec := { name := "carveTells", fn := fun _ => fun
  | [d1, d2, d3] => { results := [.lit (.bool true)], args := [d1, d2, d3] }
  | _ => none }
def carveTellsRow : OpenClaim := { program := "ytibhfclkdbmmoaa", sum := "6ca6ea0d2c357ded1fd4b8c1a472b65daa5ad20b92dccafc99c1506b9cef8bbb", func := "rastrum/rastrumlaw10.CarveTells", spec := "carveTells", inPlace := ["math/bits.Sub64"], named := ["math/bits.divideError", "math/bits.overflowError"], apart := false }
def CarveTellsSaid : Prop := carveTellsRow.holds Try.pinned (OpenSpec.ofChange carveTellsSpec)

/-- ITS FALSE NEIGHBOUR: 'it returns false'. Refute it at one input. -/
def carveTellsWrong : ChangeSpec := { name := "carveTells", fn := fun _ => fun
  | [d1, d2, d3] => { results := [.lit (.bool false)], args := [d1, d2, d3] }
  | _ => none }
def CarveTellsWrongFalsely : Prop := carveTellsRow.holds Try.pinned (OpenSpec.ofChange carveTellsWrong)

/-- 'rastrumlaw10.CarveCuts': WHATEVER THE INPUT: true; the input reads as it did. -/
def carveCutsSpec : ChangeSpec := { name := "carveCuts", fn := fun _ => fun
  | [d1, d2, d3] => { results := [.lit (.bool true)], args := [d1, d2, d3] }
  | _ => none }
def carveCutsRow : OpenClaim := { program := "ytibhfclkdbmmoaa", sum := "6ca6ea0d2c357ded1fd4b8c1a472b65daa5ad20b92dccafc99c1506b9cef8bbb", func := "rastrum/rastrumlaw10.CarveCuts", spec := "carveCuts", inPlace := ["math/bits.Sub64"], named := ["math/bits.divideError", "math/bits.overflowError"], apart := false }
def CarveCutsSaid : Prop := carveCutsRow.holds Try.pinned (OpenSpec.ofChange carveCutsSpec)

/-- ITS FALSE NEIGHBOUR: 'it returns false'. Refute it at one input. -/
def carveCutsWrong : ChangeSpec := { name := "carveCuts", fn := fun _ => fun
  | [d1, d2, d3] => { results := [.lit (.bool false)], args := [d1, d2, d3] }
  | _ => none }
def CarveCutsWrongFalsely : Prop := carveCutsRow.holds Try.pinned (OpenSpec.ofChange carveCutsWrong)

/- THE SECOND FORM. 'bulk': how many values and letters a reading holds, each counted each time it is reached (what is shared counts as often as it is met; a slice's spare places count too). A statement '..UptoSaid' is the law's where the arguments, and the package variables that the reading takes, are together of bulk at most 1048576: NARROWER than '..Said'. Prove '..Said' where nothing that the law and all that it calls make is longer than what came in: it says more and counts as full. Else prove '..UptoSaid'. A law counts once. -/
mutual
def uptoBulk {H : Type} : DataW H → Nat
  | .lit (.string bytes) => bytes.length + 1
  | .lit _ => 1
  | .nil => 1
  | .ptr d => uptoBulk d + 1
  | .slice elems spare => uptoBulkAll elems + uptoBulkAll spare + 1
  | .agg parts => uptoBulkAll parts + 1
  | .iface _ d => uptoBulk d + 1
  | .map entries => uptoBulkEntries entries + 1
  | .held _ => 1
def uptoBulkAll {H : Type} : List (DataW H) → Nat
  | [] => 0
  | d :: r => uptoBulk d + uptoBulkAll r
def uptoBulkEntries {H : Type} : List (Lit × DataW H) → Nat
  | [] => 0
  | x :: r => uptoBulkEntry x + uptoBulkEntries r
def uptoBulkEntry {H : Type} : Lit × DataW H → Nat
  | (.string bytes, d) => bytes.length + uptoBulk d + 1
  | (_, d) => uptoBulk d + 1
 end
def uptoSmall : (H : Type) → List (DataW H) → Bool := fun _ ds => decide (uptoBulkAll ds ≤ 1048576)
def OpenSpec.upto (s : _root_.Go.ChangeSpec) : _root_.Go.OpenSpec := { _root_.Go.OpenSpec.ofChange s with cond := some uptoSmall }

/-- 'rastrumlaw08.SideAts', WHERE WHAT IT READS IS OF BULK AT MOST 1048576: true; the input reads as it did. -/
def sideAtsUptoRow : OpenClaim := { program := "ytibhfclkdbmmoaa", sum := "6ca6ea0d2c357ded1fd4b8c1a472b65daa5ad20b92dccafc99c1506b9cef8bbb", func := "rastrum/rastrumlaw08.SideAts", spec := "sideAts", inPlace := ["math/bits.Sub64"], named := ["math/bits.divideError", "math/bits.overflowError"], apart := false, narrowed := true }
def SideAtsUptoSaid : Prop := sideAtsUptoRow.holds Try.pinned (OpenSpec.upto sideAtsSpec)

/-- 'rastrumlaw09.TrimTells', WHERE WHAT IT READS IS OF BULK AT MOST 1048576: true; the input reads as it did. -/
def trimTellsUptoRow : OpenClaim := { program := "ytibhfclkdbmmoaa", sum := "6ca6ea0d2c357ded1fd4b8c1a472b65daa5ad20b92dccafc99c1506b9cef8bbb", func := "rastrum/rastrumlaw09.TrimTells", spec := "trimTells", inPlace := ["math/bits.Sub64"], named := ["math/bits.divideError", "math/bits.overflowError"], apart := false, narrowed := true }
def TrimTellsUptoSaid : Prop := trimTellsUptoRow.holds Try.pinned (OpenSpec.upto trimTellsSpec)

/-- 'rastrumlaw10.CarveTells', WHERE WHAT IT READS IS OF BULK AT MOST 1048576: true; the input reads as it did. -/
def carveTellsUptoRow : OpenClaim := { program := "ytibhfclkdbmmoaa", sum := "6ca6ea0d2c357ded1fd4b8c1a472b65daa5ad20b92dccafc99c1506b9cef8bbb", func := "rastrum/rastrumlaw10.CarveTells", spec := "carveTells", inPlace := ["math/bits.Sub64"], named := ["math/bits.divideError", "math/bits.overflowError"], apart := false, narrowed := true }
def CarveTellsUptoSaid : Prop := carveTellsUptoRow.holds Try.pinned (OpenSpec.upto carveTellsSpec)

/-- 'rastrumlaw10.CarveCuts', WHERE WHAT IT READS IS OF BULK AT MOST 1048576: true; the input reads as it did. -/
def carveCutsUptoRow : OpenClaim := { program := "ytibhfclkdbmmoaa", sum := "6ca6ea0d2c357ded1fd4b8c1a472b65daa5ad20b92dccafc99c1506b9cef8bbb", func := "rastrum/rastrumlaw10.CarveCuts", spec := "carveCuts", inPlace := ["math/bits.Sub64"], named := ["math/bits.divideError", "math/bits.overflowError"], apart := false, narrowed := true }
def CarveCutsUptoSaid : Prop := carveCutsUptoRow.holds Try.pinned (OpenSpec.upto carveCutsSpec)

end Rows
end Go.Proofs.Ytibhfclkdbmmoaa
