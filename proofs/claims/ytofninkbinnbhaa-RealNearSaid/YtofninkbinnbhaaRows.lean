/-
  No cell of these rows narrows 'for every input' (looked for: loops, veiled, ifaces, maps, wideKeys, modest, calm, conditions, laid).
  DERIVED. THE GIVEN ROWS OF THIS SEAT. 7 by the template 'for every input the law returns true; each argument reads behind the call as it read before'; 0 by the template 'total and deterministic' (their statements: YtofninkbinnbhaaTotals.lean).
  GIVEN WITH THE SEED: the statements are not yours to turn. If you find one false, say at which input.
  Laid BY PROGRAM, IN A SANDBOX (cutbox-rows.mjs): the forced cells as the released guide's own fill.sh prints them over the translation 2dc3d115b1effb5f… (all of the seat's roots in one cut). By AI agents, Wed Nov 11 2026. No macro, syntax, notation, axiom, sorry.
-/
import Derived.Test.YtofninkbinnbhaaChecked
import GoSem.Claim
import GoSem.ClaimJoined
import GoSem.ClaimMapViews
import Derived.JoinedTies
import Derived.KernelRfl
namespace Go.Proofs.Ytofninkbinnbhaa
/- THE CELL 'sum', in the pinned program and in every row, IS THE sha256 OF THE DUMP (.gsa) THAT YtofninkbinnbhaaProg.lean LOADS. Nothing in Lean hashes anything: it is a label: what it is worth is what the hold of that sum in a sandbox is worth. -/
noncomputable def Try.pinned : Pinned := { name := "ytofninkbinnbhaa", sum := "2dc3d115b1effb5f83f70d3427a35013bfdfd6a093cfc64bf282ecf586e5ac61", checked := Try.checked }
namespace Rows
def none {H : Type} : Left H := { results := [], args := [] }

/-- 'rastrumlaw01.RealCompares': WHATEVER THE INPUT: true; the input reads as it did. -/
def realComparesSpec : ChangeSpec := { name := "realCompares", fn := fun _ => fun
  | [d1, d2] => { results := [.lit (.bool true)], args := [d1, d2] }
  | _ => none }
def realComparesRow : OpenClaim := { program := "ytofninkbinnbhaa", sum := "2dc3d115b1effb5f83f70d3427a35013bfdfd6a093cfc64bf282ecf586e5ac61", func := "rastrum/rastrumlaw01.RealCompares", spec := "realCompares", inPlace := ["math.Float64frombits", "math.Float64bits", "math.RoundToEven"], apart := false }
def RealComparesSaid : Prop := realComparesRow.holds Try.pinned (OpenSpec.ofChange realComparesSpec)

/-- ITS FALSE NEIGHBOUR: 'it returns false'. Refute it at one input. -/
def realComparesWrong : ChangeSpec := { name := "realCompares", fn := fun _ => fun
  | [d1, d2] => { results := [.lit (.bool false)], args := [d1, d2] }
  | _ => none }
def RealComparesWrongFalsely : Prop := realComparesRow.holds Try.pinned (OpenSpec.ofChange realComparesWrong)

/-- 'rastrumlaw01.RealFixed': WHATEVER THE INPUT: true; the input reads as it did. -/
def realFixedSpec : ChangeSpec := { name := "realFixed", fn := fun _ => fun
  | [d1, d2, d3] => { results := [.lit (.bool true)], args := [d1, d2, d3] }
  | _ => none }
def realFixedRow : OpenClaim := { program := "ytofninkbinnbhaa", sum := "2dc3d115b1effb5f83f70d3427a35013bfdfd6a093cfc64bf282ecf586e5ac61", func := "rastrum/rastrumlaw01.RealFixed", spec := "realFixed", inPlace := ["math.Float64frombits", "math.Float64bits", "math.RoundToEven"], apart := false }
def RealFixedSaid : Prop := realFixedRow.holds Try.pinned (OpenSpec.ofChange realFixedSpec)

/-- ITS FALSE NEIGHBOUR: 'it returns false'. Refute it at one input. -/
def realFixedWrong : ChangeSpec := { name := "realFixed", fn := fun _ => fun
  | [d1, d2, d3] => { results := [.lit (.bool false)], args := [d1, d2, d3] }
  | _ => none }
def RealFixedWrongFalsely : Prop := realFixedRow.holds Try.pinned (OpenSpec.ofChange realFixedWrong)

/-- 'rastrumlaw01.RealUnit': WHATEVER THE INPUT: true; the input reads as it did. -/
def realUnitSpec : ChangeSpec := { name := "realUnit", fn := fun _ => fun
  | [d1, d2] => { results := [.lit (.bool true)], args := [d1, d2] }
  | _ => none }
def realUnitRow : OpenClaim := { program := "ytofninkbinnbhaa", sum := "2dc3d115b1effb5f83f70d3427a35013bfdfd6a093cfc64bf282ecf586e5ac61", func := "rastrum/rastrumlaw01.RealUnit", spec := "realUnit", inPlace := ["math.Float64frombits", "math.Float64bits", "math.RoundToEven"], apart := false }
def RealUnitSaid : Prop := realUnitRow.holds Try.pinned (OpenSpec.ofChange realUnitSpec)

/-- ITS FALSE NEIGHBOUR: 'it returns false'. Refute it at one input. -/
def realUnitWrong : ChangeSpec := { name := "realUnit", fn := fun _ => fun
  | [d1, d2] => { results := [.lit (.bool false)], args := [d1, d2] }
  | _ => none }
def RealUnitWrongFalsely : Prop := realUnitRow.holds Try.pinned (OpenSpec.ofChange realUnitWrong)

/-- 'rastrumlaw01.RealNear': WHATEVER THE INPUT: true; the input reads as it did. -/
def realNearSpec : ChangeSpec := { name := "realNear", fn := fun _ => fun
  | [d1, d2] => { results := [.lit (.bool true)], args := [d1, d2] }
  | _ => none }
def realNearRow : OpenClaim := { program := "ytofninkbinnbhaa", sum := "2dc3d115b1effb5f83f70d3427a35013bfdfd6a093cfc64bf282ecf586e5ac61", func := "rastrum/rastrumlaw01.RealNear", spec := "realNear", inPlace := ["math.Float64frombits", "math.Float64bits", "math.RoundToEven"], apart := false }
def RealNearSaid : Prop := realNearRow.holds Try.pinned (OpenSpec.ofChange realNearSpec)

/-- ITS FALSE NEIGHBOUR: 'it returns false'. Refute it at one input. -/
def realNearWrong : ChangeSpec := { name := "realNear", fn := fun _ => fun
  | [d1, d2] => { results := [.lit (.bool false)], args := [d1, d2] }
  | _ => none }
def RealNearWrongFalsely : Prop := realNearRow.holds Try.pinned (OpenSpec.ofChange realNearWrong)

/-- 'rastrumlaw01.RealBack': WHATEVER THE INPUT: true; the input reads as it did. -/
def realBackSpec : ChangeSpec := { name := "realBack", fn := fun _ => fun
  | [d1, d2] => { results := [.lit (.bool true)], args := [d1, d2] }
  | _ => none }
def realBackRow : OpenClaim := { program := "ytofninkbinnbhaa", sum := "2dc3d115b1effb5f83f70d3427a35013bfdfd6a093cfc64bf282ecf586e5ac61", func := "rastrum/rastrumlaw01.RealBack", spec := "realBack", inPlace := ["math.Float64bits", "math.Float64frombits", "math.RoundToEven"], apart := false }
def RealBackSaid : Prop := realBackRow.holds Try.pinned (OpenSpec.ofChange realBackSpec)

/-- ITS FALSE NEIGHBOUR: 'it returns false'. Refute it at one input. -/
def realBackWrong : ChangeSpec := { name := "realBack", fn := fun _ => fun
  | [d1, d2] => { results := [.lit (.bool false)], args := [d1, d2] }
  | _ => none }
def RealBackWrongFalsely : Prop := realBackRow.holds Try.pinned (OpenSpec.ofChange realBackWrong)

/-- 'rastrumlaw01.RealKinds': WHATEVER THE INPUT: true; the input reads as it did. -/
def realKindsSpec : ChangeSpec := { name := "realKinds", fn := fun _ => fun
  | [d] => { results := [.lit (.bool true)], args := [d] }
  | _ => none }
def realKindsRow : OpenClaim := { program := "ytofninkbinnbhaa", sum := "2dc3d115b1effb5f83f70d3427a35013bfdfd6a093cfc64bf282ecf586e5ac61", func := "rastrum/rastrumlaw01.RealKinds", spec := "realKinds", inPlace := ["math.Float64frombits", "math.Float64bits", "math.RoundToEven"], apart := false }
def RealKindsSaid : Prop := realKindsRow.holds Try.pinned (OpenSpec.ofChange realKindsSpec)

/-- ITS FALSE NEIGHBOUR: 'it returns false'. Refute it at one input. -/
def realKindsWrong : ChangeSpec := { name := "realKinds", fn := fun _ => fun
  | [d] => { results := [.lit (.bool false)], args := [d] }
  | _ => none }
def RealKindsWrongFalsely : Prop := realKindsRow.holds Try.pinned (OpenSpec.ofChange realKindsWrong)

/-- 'rastrumlaw01.RealOrders': WHATEVER THE INPUT: true; the input reads as it did. -/
def realOrdersSpec : ChangeSpec := { name := "realOrders", fn := fun _ => fun
  | [d1, d2, d3] => { results := [.lit (.bool true)], args := [d1, d2, d3] }
  | _ => none }
def realOrdersRow : OpenClaim := { program := "ytofninkbinnbhaa", sum := "2dc3d115b1effb5f83f70d3427a35013bfdfd6a093cfc64bf282ecf586e5ac61", func := "rastrum/rastrumlaw01.RealOrders", spec := "realOrders", inPlace := ["math.Float64frombits", "math.Float64bits", "math.RoundToEven"], apart := false }
def RealOrdersSaid : Prop := realOrdersRow.holds Try.pinned (OpenSpec.ofChange realOrdersSpec)

/-- ITS FALSE NEIGHBOUR: 'it returns false'. Refute it at one input. -/
def realOrdersWrong : ChangeSpec := { name := "realOrders", fn := fun _ => fun
  | [d1, d2, d3] => { results := [.lit (.bool false)], args := [d1, d2, d3] }
  | _ => none }
def RealOrdersWrongFalsely : Prop := realOrdersRow.holds Try.pinned (OpenSpec.ofChange realOrdersWrong)

/- THE SECOND FORM. 'bulk': how many values and letters a reading holds, each counted each time it is reached (what is shared counts as often as it is met; a slice's spare places count too). A statement '..UptoSaid' is the law's where the arguments, and the package variables that the reading takes, are together of bulk at most 1048576: NARROWER than '..Said'. Prove '..Said' where nothing that the law and all that it calls make is longer than what came in: it says more and counts as full. Else prove '..UptoSaid'. A law counts once. -/
mutual
def uptoBulk {H : Type} : DataW H → Nat
  | .lit (.string bytes) => bytes.length + 1
  | .lit _ => 1
  | .nil => 1
  | .ptr d => uptoBulk d + 1
  | .slice elems spare => uptoBulkAll elems + uptoBulkAll spare + 1
  | .agg parts => uptoBulkAll parts + 1
  | .iface _ d => uptoBulk d + 1
  | .map entries => uptoBulkEntries entries + 1
  | .held _ => 1
def uptoBulkAll {H : Type} : List (DataW H) → Nat
  | [] => 0
  | d :: r => uptoBulk d + uptoBulkAll r
def uptoBulkEntries {H : Type} : List (Lit × DataW H) → Nat
  | [] => 0
  | x :: r => uptoBulkEntry x + uptoBulkEntries r
def uptoBulkEntry {H : Type} : Lit × DataW H → Nat
  | (.string bytes, d) => bytes.length + uptoBulk d + 1
  | (_, d) => uptoBulk d + 1
 end
def uptoSmall : (H : Type) → List (DataW H) → Bool := fun _ ds => decide (uptoBulkAll ds ≤ 1048576)
def OpenSpec.upto (s : _root_.Go.ChangeSpec) : _root_.Go.OpenSpec := { _root_.Go.OpenSpec.ofChange s with cond := some uptoSmall }

/-- 'rastrumlaw01.RealCompares', WHERE WHAT IT READS IS OF BULK AT MOST 1048576: true; the input reads as it did. -/
def realComparesUptoRow : OpenClaim := { program := "ytofninkbinnbhaa", sum := "2dc3d115b1effb5f83f70d3427a35013bfdfd6a093cfc64bf282ecf586e5ac61", func := "rastrum/rastrumlaw01.RealCompares", spec := "realCompares", inPlace := ["math.Float64frombits", "math.Float64bits", "math.RoundToEven"], apart := false, narrowed := true }
def RealComparesUptoSaid : Prop := realComparesUptoRow.holds Try.pinned (OpenSpec.upto realComparesSpec)

/-- 'rastrumlaw01.RealFixed', WHERE WHAT IT READS IS OF BULK AT MOST 1048576: true; the input reads as it did. -/
def realFixedUptoRow : OpenClaim := { program := "ytofninkbinnbhaa", sum := "2dc3d115b1effb5f83f70d3427a35013bfdfd6a093cfc64bf282ecf586e5ac61", func := "rastrum/rastrumlaw01.RealFixed", spec := "realFixed", inPlace := ["math.Float64frombits", "math.Float64bits", "math.RoundToEven"], apart := false, narrowed := true }
def RealFixedUptoSaid : Prop := realFixedUptoRow.holds Try.pinned (OpenSpec.upto realFixedSpec)

/-- 'rastrumlaw01.RealUnit', WHERE WHAT IT READS IS OF BULK AT MOST 1048576: true; the input reads as it did. -/
def realUnitUptoRow : OpenClaim := { program := "ytofninkbinnbhaa", sum := "2dc3d115b1effb5f83f70d3427a35013bfdfd6a093cfc64bf282ecf586e5ac61", func := "rastrum/rastrumlaw01.RealUnit", spec := "realUnit", inPlace := ["math.Float64frombits", "math.Float64bits", "math.RoundToEven"], apart := false, narrowed := true }
def RealUnitUptoSaid : Prop := realUnitUptoRow.holds Try.pinned (OpenSpec.upto realUnitSpec)

/-- 'rastrumlaw01.RealNear', WHERE WHAT IT READS IS OF BULK AT MOST 1048576: true; the input reads as it did. -/
def realNearUptoRow : OpenClaim := { program := "ytofninkbinnbhaa", sum := "2dc3d115b1effb5f83f70d3427a35013bfdfd6a093cfc64bf282ecf586e5ac61", func := "rastrum/rastrumlaw01.RealNear", spec := "realNear", inPlace := ["math.Float64frombits", "math.Float64bits", "math.RoundToEven"], apart := false, narrowed := true }
def RealNearUptoSaid : Prop := realNearUptoRow.holds Try.pinned (OpenSpec.upto realNearSpec)

/-- 'rastrumlaw01.RealBack', WHERE WHAT IT READS IS OF BULK AT MOST 1048576: true; the input reads as it did. -/
def realBackUptoRow : OpenClaim := { program := "ytofninkbinnbhaa", sum := "2dc3d115b1effb5f83f70d3427a35013bfdfd6a093cfc64bf282ecf586e5ac61", func := "rastrum/rastrumlaw01.RealBack", spec := "realBack", inPlace := ["math.Float64bits", "math.Float64frombits", "math.RoundToEven"], apart := false, narrowed := true }
def RealBackUptoSaid : Prop := realBackUptoRow.holds Try.pinned (OpenSpec.upto realBackSpec)

/-- 'rastrumlaw01.RealKinds', WHERE WHAT IT READS IS OF BULK AT MOST 1048576: true; the input reads as it did. -/
def realKindsUptoRow : OpenClaim := { program := "ytofninkbinnbhaa", sum := "2dc3d115b1effb5f83f70d3427a35013bfdfd6a093cfc64bf282ecf586e5ac61", func := "rastrum/rastrumlaw01.RealKinds", spec := "realKinds", inPlace := ["math.Float64frombits", "math.Float64bits", "math.RoundToEven"], apart := false, narrowed := true }
def RealKindsUptoSaid : Prop := realKindsUptoRow.holds Try.pinned (OpenSpec.upto realKindsSpec)

/-- 'rastrumlaw01.RealOrders', WHERE WHAT IT READS IS OF BULK AT MOST 1048576: true; the input reads as it did. -/
def realOrdersUptoRow : OpenClaim := { program := "ytofninkbinnbhaa", sum := "2dc3d115b1effb5f83f70d3427a35013bfdfd6a093cfc64bf282ecf586e5ac61", func := "rastrum/rastrumlaw01.RealOrders", spec := "realOrders", inPlace := ["math.Float64frombits", "math.Float64bits", "math.RoundToEven"], apart := false, narrowed := true }
def RealOrdersUptoSaid : Prop := realOrdersUptoRow.holds Try.pinned (OpenSpec.upto realOrdersSpec)

end Rows
end Go.Proofs.Ytofninkbinnbhaa
