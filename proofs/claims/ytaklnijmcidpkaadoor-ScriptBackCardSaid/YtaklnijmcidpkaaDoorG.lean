/- The plain side of 'Get' and 'Put'. No program in sight. -/
import Derived.Test.YtaklnijmcidpkaaDoorS
set_option linter.unusedVariables false
set_option linter.unusedSimpArgs false
namespace Go.Proofs.YtaklnijmcidpkaaDoor
/-- A command: its Op, its numbers. -/
abbrev R := Int × List Int
abbrev G := Except (Nat × Int) (List R)
/-- What 'Get' gives of the rest of a stream, at place k, behind c commands; f: as many rounds at most. -/
def getF : Nat → List Int → Nat → Nat → G
  | _, [], _, _ => .ok []
  | 0, _ :: _, _, _ => .ok []
  | f + 1, op :: r, k, c =>
    if c = 4096 then .error (k, 12)
    else match askT op with
      | none => .error (k, 5)
      | some l =>
        if r.length < l.length then .error (k, 1)
        else match getF f (r.drop l.length) (k + 1 + l.length) (c + 1) with
          | .ok m => .ok ((op, r.take l.length) :: m)
          | .error e => .error e
def getT (a : List Int) : G := getF a.length a 0 0
/-- Behind the commands 'pre'. -/
def cont (pre : List R) : G → G
  | .ok l => .ok (pre ++ l)
  | .error e => .error e
theorem cont_nil (g : G) : cont [] g = g := by cases g <;> rfl
theorem cont_snoc (pre : List R) (r : R) (g : G) : cont pre (match g with | .ok m => .ok (r :: m) | .error e => .error e) = cont (pre ++ [r]) g := by
  cases g <;> simp [cont]
theorem getF_nil (f k c : Nat) : getF f [] k c = .ok [] := by cases f <;> rfl
theorem getF_full {f : Nat} {op : Int} {r : List Int} {k c : Nat} (hc : c = 4096) : getF (f + 1) (op :: r) k c = .error (k, 12) := by simp [getF, hc]
theorem getF_none {f : Nat} {op : Int} {r : List Int} {k c : Nat} (hc : ¬ c = 4096) (h : askT op = none) : getF (f + 1) (op :: r) k c = .error (k, 5) := by simp [getF, hc, h]
theorem getF_short {f : Nat} {op : Int} {r : List Int} {k c : Nat} {l : List (Int × Int)} (hc : ¬ c = 4096) (h : askT op = some l) (hl : r.length < l.length) : getF (f + 1) (op :: r) k c = .error (k, 1) := by simp [getF, hc, h, hl]
theorem getF_step {f : Nat} {op : Int} {r : List Int} {k c : Nat} {l : List (Int × Int)} (hc : ¬ c = 4096) (h : askT op = some l) (hl : ¬ r.length < l.length) :
    getF (f + 1) (op :: r) k c = match getF f (r.drop l.length) (k + 1 + l.length) (c + 1) with | .ok m => .ok ((op, r.take l.length) :: m) | .error e => .error e := by simp [getF, hc, h, hl]

/-- What 'Put' gives. -/
def putF : List R → List Int → Except Int (List Int)
  | [], acc => .ok acc
  | (op, A) :: r, acc =>
    match askT op with
    | none => .error 5
    | some l => if l.length = A.length then putF r (acc ++ (op :: A)) else .error 1
def putT (l : List R) : Except Int (List Int) := if 4096 < l.length then .error 12 else putF l []
end Go.Proofs.YtaklnijmcidpkaaDoor
