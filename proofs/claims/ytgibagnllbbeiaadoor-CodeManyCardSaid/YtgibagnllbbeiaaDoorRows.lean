/-
  NARROWER THAN 'FOR EVERY INPUT', by the rows' own cells (each row's printed sentence says how): CodeRight: laid · CodeGets: laid · CodeParts: laid · CodeMany: laid · CodeTells: laid · CodePuts: laid · CodeBack: laid.
  DERIVED. THE GIVEN ROWS OF THIS SEAT. 7 by the template 'for every input the law returns true; each argument reads behind the call as it read before'; 0 by the template 'total and deterministic' (their statements: YtgibagnllbbeiaaDoorTotals.lean).
  GIVEN WITH THE SEED: the statements are not yours to turn. If you find one false, say at which input.
  Laid BY PROGRAM, IN A SANDBOX (cutbox-rows.mjs): the forced cells as the released guide's own fill.sh prints them over the translation 316c2c7f1bd19f68… (all of the seat's roots in one cut). By AI agents, Wed Nov 11 2026. No macro, syntax, notation, axiom, sorry.
-/
import Derived.Test.YtgibagnllbbeiaaDoorChecked
import GoSem.Claim
import GoSem.ClaimJoined
import GoSem.ClaimMapViews
import Derived.JoinedTies
import Derived.KernelRfl
namespace Go.Proofs.YtgibagnllbbeiaaDoor
/- THE CELL 'sum', in the pinned program and in every row, IS THE sha256 OF THE DUMP (.gsa) THAT YtgibagnllbbeiaaDoorProg.lean LOADS. Nothing in Lean hashes anything: it is a label: what it is worth is what the hold of that sum in a sandbox is worth. -/
noncomputable def Tryd.pinned : Pinned := { name := "ytgibagnllbbeiaadoor", sum := "316c2c7f1bd19f68755a007150222e29d2dcce3633c2e37926999da2e785cddf", checked := Tryd.checked }
namespace Rows
def none {H : Type} : Left H := { results := [], args := [] }

/- WHAT THE LISTED PACKAGE-LEVEL VARIABLES READ AS WHEN THE CALL BEGINS. Each datum BY PROGRAM (the guide's laid-datum.mjs) off the statement by which the dump's own 'gosem.cut.vars' lays the variable. In a bare row this is a premise. The card (YtgibagnllbbeiaaDoorCards.lean) ties it to the program's text. -/
def laid_rastrum_code_on {H : Type} : DataW H := .agg [.lit (.int .i64 0), .lit (.int .i64 1)]
def laid_rastrum_code_byteful {H : Type} : DataW H := .agg [.lit (.int .i64 0), .lit (.int .i64 255)]

/-- 'rastrumlaw04.CodeRight': WHATEVER THE INPUT: true; the input reads as it did. -/
def codeRightSpec : ChangeSpec := { name := "codeRight", fn := fun _ => fun
  | [d] => { results := [.lit (.bool true)], args := [d] }
  | _ => none }
def codeRightRow : OpenClaim := { program := "ytgibagnllbbeiaadoor", sum := "316c2c7f1bd19f68755a007150222e29d2dcce3633c2e37926999da2e785cddf", func := "rastrum/rastrumlaw04.CodeRight", spec := "codeRight", named := ["rastrum/code.byteful", "rastrum/code.on"], apart := false, laid := [("rastrum/code.on", laid_rastrum_code_on), ("rastrum/code.byteful", laid_rastrum_code_byteful)] }
def CodeRightSaid : Prop := codeRightRow.holds Tryd.pinned (OpenSpec.ofChange codeRightSpec)

/-- ITS FALSE NEIGHBOUR: 'it returns false'. Refute it at one input. -/
def codeRightWrong : ChangeSpec := { name := "codeRight", fn := fun _ => fun
  | [d] => { results := [.lit (.bool false)], args := [d] }
  | _ => none }
def CodeRightWrongFalsely : Prop := codeRightRow.holds Tryd.pinned (OpenSpec.ofChange codeRightWrong)

/-- 'rastrumlaw04.CodeGets': WHATEVER THE INPUT: true; the input reads as it did. -/
def codeGetsSpec : ChangeSpec := { name := "codeGets", fn := fun _ => fun
  | [d] => { results := [.lit (.bool true)], args := [d] }
  | _ => none }
def codeGetsRow : OpenClaim := { program := "ytgibagnllbbeiaadoor", sum := "316c2c7f1bd19f68755a007150222e29d2dcce3633c2e37926999da2e785cddf", func := "rastrum/rastrumlaw04.CodeGets", spec := "codeGets", named := ["rastrum/code.byteful", "rastrum/code.on"], apart := false, laid := [("rastrum/code.on", laid_rastrum_code_on), ("rastrum/code.byteful", laid_rastrum_code_byteful)] }
def CodeGetsSaid : Prop := codeGetsRow.holds Tryd.pinned (OpenSpec.ofChange codeGetsSpec)

/-- ITS FALSE NEIGHBOUR: 'it returns false'. Refute it at one input. -/
def codeGetsWrong : ChangeSpec := { name := "codeGets", fn := fun _ => fun
  | [d] => { results := [.lit (.bool false)], args := [d] }
  | _ => none }
def CodeGetsWrongFalsely : Prop := codeGetsRow.holds Tryd.pinned (OpenSpec.ofChange codeGetsWrong)

/-- 'rastrumlaw04.CodeParts': WHATEVER THE INPUT: true; the input reads as it did. -/
def codePartsSpec : ChangeSpec := { name := "codeParts", fn := fun _ => fun
  | [d1, d2] => { results := [.lit (.bool true)], args := [d1, d2] }
  | _ => none }
def codePartsRow : OpenClaim := { program := "ytgibagnllbbeiaadoor", sum := "316c2c7f1bd19f68755a007150222e29d2dcce3633c2e37926999da2e785cddf", func := "rastrum/rastrumlaw04.CodeParts", spec := "codeParts", named := ["rastrum/code.byteful", "rastrum/code.on"], apart := false, laid := [("rastrum/code.on", laid_rastrum_code_on), ("rastrum/code.byteful", laid_rastrum_code_byteful)] }
def CodePartsSaid : Prop := codePartsRow.holds Tryd.pinned (OpenSpec.ofChange codePartsSpec)

/-- ITS FALSE NEIGHBOUR: 'it returns false'. Refute it at one input. -/
def codePartsWrong : ChangeSpec := { name := "codeParts", fn := fun _ => fun
  | [d1, d2] => { results := [.lit (.bool false)], args := [d1, d2] }
  | _ => none }
def CodePartsWrongFalsely : Prop := codePartsRow.holds Tryd.pinned (OpenSpec.ofChange codePartsWrong)

/-- 'rastrumlaw04.CodeMany': WHATEVER THE INPUT: true; the input reads as it did. -/
def codeManySpec : ChangeSpec := { name := "codeMany", fn := fun _ => fun
  | [d1, d2] => { results := [.lit (.bool true)], args := [d1, d2] }
  | _ => none }
def codeManyRow : OpenClaim := { program := "ytgibagnllbbeiaadoor", sum := "316c2c7f1bd19f68755a007150222e29d2dcce3633c2e37926999da2e785cddf", func := "rastrum/rastrumlaw04.CodeMany", spec := "codeMany", named := ["rastrum/code.byteful", "rastrum/code.on"], apart := false, laid := [("rastrum/code.on", laid_rastrum_code_on), ("rastrum/code.byteful", laid_rastrum_code_byteful)] }
def CodeManySaid : Prop := codeManyRow.holds Tryd.pinned (OpenSpec.ofChange codeManySpec)

/-- ITS FALSE NEIGHBOUR: 'it returns false'. Refute it at one input. -/
def codeManyWrong : ChangeSpec := { name := "codeMany", fn := fun _ => fun
  | [d1, d2] => { results := [.lit (.bool false)], args := [d1, d2] }
  | _ => none }
def CodeManyWrongFalsely : Prop := codeManyRow.holds Tryd.pinned (OpenSpec.ofChange codeManyWrong)

/-- 'rastrumlaw04.CodeTells': WHATEVER THE INPUT: true; the input reads as it did. -/
def codeTellsSpec : ChangeSpec := { name := "codeTells", fn := fun _ => fun
  | [d1, d2] => { results := [.lit (.bool true)], args := [d1, d2] }
  | _ => none }
def codeTellsRow : OpenClaim := { program := "ytgibagnllbbeiaadoor", sum := "316c2c7f1bd19f68755a007150222e29d2dcce3633c2e37926999da2e785cddf", func := "rastrum/rastrumlaw04.CodeTells", spec := "codeTells", named := ["rastrum/code.byteful", "rastrum/code.on"], apart := false, laid := [("rastrum/code.on", laid_rastrum_code_on), ("rastrum/code.byteful", laid_rastrum_code_byteful)] }
def CodeTellsSaid : Prop := codeTellsRow.holds Tryd.pinned (OpenSpec.ofChange codeTellsSpec)

/-- ITS FALSE NEIGHBOUR: 'it returns false'. Refute it at one input. -/
def codeTellsWrong : ChangeSpec := { name := "codeTells", fn := fun _ => fun
  | [d1, d2] => { results := [.lit (.bool false)], args := [d1, d2] }
  | _ => none }
def CodeTellsWrongFalsely : Prop := codeTellsRow.holds Tryd.pinned (OpenSpec.ofChange codeTellsWrong)

/-- 'rastrumlaw04.CodePuts': WHATEVER THE INPUT: true; the input reads as it did. -/
def codePutsSpec : ChangeSpec := { name := "codePuts", fn := fun _ => fun
  | [d] => { results := [.lit (.bool true)], args := [d] }
  | _ => none }
def codePutsRow : OpenClaim := { program := "ytgibagnllbbeiaadoor", sum := "316c2c7f1bd19f68755a007150222e29d2dcce3633c2e37926999da2e785cddf", func := "rastrum/rastrumlaw04.CodePuts", spec := "codePuts", named := ["rastrum/code.byteful", "rastrum/code.on"], apart := false, laid := [("rastrum/code.on", laid_rastrum_code_on), ("rastrum/code.byteful", laid_rastrum_code_byteful)] }
def CodePutsSaid : Prop := codePutsRow.holds Tryd.pinned (OpenSpec.ofChange codePutsSpec)

/-- ITS FALSE NEIGHBOUR: 'it returns false'. Refute it at one input. -/
def codePutsWrong : ChangeSpec := { name := "codePuts", fn := fun _ => fun
  | [d] => { results := [.lit (.bool false)], args := [d] }
  | _ => none }
def CodePutsWrongFalsely : Prop := codePutsRow.holds Tryd.pinned (OpenSpec.ofChange codePutsWrong)

/-- 'rastrumlaw04.CodeBack': WHATEVER THE INPUT: true; the input reads as it did. -/
def codeBackSpec : ChangeSpec := { name := "codeBack", fn := fun _ => fun
  | [d] => { results := [.lit (.bool true)], args := [d] }
  | _ => none }
def codeBackRow : OpenClaim := { program := "ytgibagnllbbeiaadoor", sum := "316c2c7f1bd19f68755a007150222e29d2dcce3633c2e37926999da2e785cddf", func := "rastrum/rastrumlaw04.CodeBack", spec := "codeBack", named := ["rastrum/code.byteful", "rastrum/code.on"], apart := false, laid := [("rastrum/code.on", laid_rastrum_code_on), ("rastrum/code.byteful", laid_rastrum_code_byteful)] }
def CodeBackSaid : Prop := codeBackRow.holds Tryd.pinned (OpenSpec.ofChange codeBackSpec)

/-- ITS FALSE NEIGHBOUR: 'it returns false'. Refute it at one input. -/
def codeBackWrong : ChangeSpec := { name := "codeBack", fn := fun _ => fun
  | [d] => { results := [.lit (.bool false)], args := [d] }
  | _ => none }
def CodeBackWrongFalsely : Prop := codeBackRow.holds Tryd.pinned (OpenSpec.ofChange codeBackWrong)

/- THE SECOND FORM. 'bulk': how many values and letters a reading holds, each counted each time it is reached (what is shared counts as often as it is met; a slice's spare places count too). A statement '..UptoSaid' is the law's where the arguments, and the package variables that the reading takes, are together of bulk at most 1048576: NARROWER than '..Said'. Prove '..Said' where nothing that the law and all that it calls make is longer than what came in: it says more and counts as full. Else prove '..UptoSaid'. A law counts once. -/
mutual
def uptoBulk {H : Type} : DataW H → Nat
  | .lit (.string bytes) => bytes.length + 1
  | .lit _ => 1
  | .nil => 1
  | .ptr d => uptoBulk d + 1
  | .slice elems spare => uptoBulkAll elems + uptoBulkAll spare + 1
  | .agg parts => uptoBulkAll parts + 1
  | .iface _ d => uptoBulk d + 1
  | .map entries => uptoBulkEntries entries + 1
  | .held _ => 1
def uptoBulkAll {H : Type} : List (DataW H) → Nat
  | [] => 0
  | d :: r => uptoBulk d + uptoBulkAll r
def uptoBulkEntries {H : Type} : List (Lit × DataW H) → Nat
  | [] => 0
  | x :: r => uptoBulkEntry x + uptoBulkEntries r
def uptoBulkEntry {H : Type} : Lit × DataW H → Nat
  | (.string bytes, d) => bytes.length + uptoBulk d + 1
  | (_, d) => uptoBulk d + 1
 end
def uptoSmall : (H : Type) → List (DataW H) → Bool := fun _ ds => decide (uptoBulkAll ds ≤ 1048576)
def OpenSpec.upto (s : _root_.Go.ChangeSpec) : _root_.Go.OpenSpec := { _root_.Go.OpenSpec.ofChange s with cond := some uptoSmall }

/-- 'rastrumlaw04.CodeRight', WHERE WHAT IT READS IS OF BULK AT MOST 1048576: true; the input reads as it did. -/
def codeRightUptoRow : OpenClaim := { program := "ytgibagnllbbeiaadoor", sum := "316c2c7f1bd19f68755a007150222e29d2dcce3633c2e37926999da2e785cddf", func := "rastrum/rastrumlaw04.CodeRight", spec := "codeRight", named := ["rastrum/code.byteful", "rastrum/code.on"], apart := false, laid := [("rastrum/code.on", laid_rastrum_code_on), ("rastrum/code.byteful", laid_rastrum_code_byteful)], narrowed := true }
def CodeRightUptoSaid : Prop := codeRightUptoRow.holds Tryd.pinned (OpenSpec.upto codeRightSpec)

/-- 'rastrumlaw04.CodeGets', WHERE WHAT IT READS IS OF BULK AT MOST 1048576: true; the input reads as it did. -/
def codeGetsUptoRow : OpenClaim := { program := "ytgibagnllbbeiaadoor", sum := "316c2c7f1bd19f68755a007150222e29d2dcce3633c2e37926999da2e785cddf", func := "rastrum/rastrumlaw04.CodeGets", spec := "codeGets", named := ["rastrum/code.byteful", "rastrum/code.on"], apart := false, laid := [("rastrum/code.on", laid_rastrum_code_on), ("rastrum/code.byteful", laid_rastrum_code_byteful)], narrowed := true }
def CodeGetsUptoSaid : Prop := codeGetsUptoRow.holds Tryd.pinned (OpenSpec.upto codeGetsSpec)

/-- 'rastrumlaw04.CodeParts', WHERE WHAT IT READS IS OF BULK AT MOST 1048576: true; the input reads as it did. -/
def codePartsUptoRow : OpenClaim := { program := "ytgibagnllbbeiaadoor", sum := "316c2c7f1bd19f68755a007150222e29d2dcce3633c2e37926999da2e785cddf", func := "rastrum/rastrumlaw04.CodeParts", spec := "codeParts", named := ["rastrum/code.byteful", "rastrum/code.on"], apart := false, laid := [("rastrum/code.on", laid_rastrum_code_on), ("rastrum/code.byteful", laid_rastrum_code_byteful)], narrowed := true }
def CodePartsUptoSaid : Prop := codePartsUptoRow.holds Tryd.pinned (OpenSpec.upto codePartsSpec)

/-- 'rastrumlaw04.CodeMany', WHERE WHAT IT READS IS OF BULK AT MOST 1048576: true; the input reads as it did. -/
def codeManyUptoRow : OpenClaim := { program := "ytgibagnllbbeiaadoor", sum := "316c2c7f1bd19f68755a007150222e29d2dcce3633c2e37926999da2e785cddf", func := "rastrum/rastrumlaw04.CodeMany", spec := "codeMany", named := ["rastrum/code.byteful", "rastrum/code.on"], apart := false, laid := [("rastrum/code.on", laid_rastrum_code_on), ("rastrum/code.byteful", laid_rastrum_code_byteful)], narrowed := true }
def CodeManyUptoSaid : Prop := codeManyUptoRow.holds Tryd.pinned (OpenSpec.upto codeManySpec)

/-- 'rastrumlaw04.CodeTells', WHERE WHAT IT READS IS OF BULK AT MOST 1048576: true; the input reads as it did. -/
def codeTellsUptoRow : OpenClaim := { program := "ytgibagnllbbeiaadoor", sum := "316c2c7f1bd19f68755a007150222e29d2dcce3633c2e37926999da2e785cddf", func := "rastrum/rastrumlaw04.CodeTells", spec := "codeTells", named := ["rastrum/code.byteful", "rastrum/code.on"], apart := false, laid := [("rastrum/code.on", laid_rastrum_code_on), ("rastrum/code.byteful", laid_rastrum_code_byteful)], narrowed := true }
def CodeTellsUptoSaid : Prop := codeTellsUptoRow.holds Tryd.pinned (OpenSpec.upto codeTellsSpec)

/-- 'rastrumlaw04.CodePuts', WHERE WHAT IT READS IS OF BULK AT MOST 1048576: true; the input reads as it did. -/
def codePutsUptoRow : OpenClaim := { program := "ytgibagnllbbeiaadoor", sum := "316c2c7f1bd19f68755a007150222e29d2dcce3633c2e37926999da2e785cddf", func := "rastrum/rastrumlaw04.CodePuts", spec := "codePuts", named := ["rastrum/code.byteful", "rastrum/code.on"], apart := false, laid := [("rastrum/code.on", laid_rastrum_code_on), ("rastrum/code.byteful", laid_rastrum_code_byteful)], narrowed := true }
def CodePutsUptoSaid : Prop := codePutsUptoRow.holds Tryd.pinned (OpenSpec.upto codePutsSpec)

/-- 'rastrumlaw04.CodeBack', WHERE WHAT IT READS IS OF BULK AT MOST 1048576: true; the input reads as it did. -/
def codeBackUptoRow : OpenClaim := { program := "ytgibagnllbbeiaadoor", sum := "316c2c7f1bd19f68755a007150222e29d2dcce3633c2e37926999da2e785cddf", func := "rastrum/rastrumlaw04.CodeBack", spec := "codeBack", named := ["rastrum/code.byteful", "rastrum/code.on"], apart := false, laid := [("rastrum/code.on", laid_rastrum_code_on), ("rastrum/code.byteful", laid_rastrum_code_byteful)], narrowed := true }
def CodeBackUptoSaid : Prop := codeBackUptoRow.holds Tryd.pinned (OpenSpec.upto codeBackSpec)

end Rows
end Go.Proofs.YtgibagnllbbeiaaDoor
