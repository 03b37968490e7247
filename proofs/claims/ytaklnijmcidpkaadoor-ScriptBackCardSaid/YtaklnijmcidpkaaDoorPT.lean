/- Plain text: the text of commands; a builder's cells. By an AI agent. No condition beyond what each theorem states. -/
import Derived.Test.YtaklnijmcidpkaaDoorBY
import Derived.Test.YtaklnijmcidpkaaDoorSH2
import Derived.Test.YtaklnijmcidpkaaDoorV
import Derived.Test.YtaklnijmcidpkaaDoorAW
import Derived.Lib.ItoaLen
set_option linter.unusedVariables false
set_option linter.unusedSimpArgs false
namespace Go.Proofs.YtaklnijmcidpkaaDoor
open Go.RowKit
def numsP (A : List Int) : List UInt8 := A.flatMap fun n => 32 :: Lib.itoa n
def recP (r : R) : List UInt8 := (nameT r.1).1.data.toList ++ (numsP r.2 ++ [10])
/-- The text of commands. -/
def textP (l : List R) : List UInt8 := l.flatMap recP
def I64 (x : Int) : Prop := -9223372036854775808 ≤ x ∧ x ≤ 9223372036854775807
/-- Their numbers are ints. -/
def Nums (l : List R) : Prop := ∀ r ∈ l, ∀ x ∈ r.2, I64 x
theorem name_len (op : Int) : (nameT op).1.data.toList.length ≤ 7 := by
  by_cases h : 1 ≤ op ∧ op ≤ 32
  · obtain ⟨k, rfl⟩ : ∃ k : Nat, op = k := ⟨op.toNat, by omega⟩
    rw [nameT_yes (by omega) (by omega)]
    have hall : ∀ k, k < 33 → (nameB.getD k ⟨#[]⟩).data.toList.length ≤ 7 := by decide
    exact hall k (by omega)
  · rw [nameT_no h]; decide
theorem itoa_le {x : Int} (h : I64 x) : (Lib.itoa x).length ≤ 21 := Lib.itoa_length_le x h.1 h.2
theorem nums_len : ∀ (A : List Int), (∀ x ∈ A, I64 x) → (numsP A).length ≤ 22 * A.length := by
  intro A
  induction A with
  | nil => intro _; simp [numsP]
  | cons x A ih =>
    intro h
    have h1 := itoa_le (h x (by simp))
    have h2 := ih (fun y hy => h y (by simp [hy]))
    unfold numsP at h2 ⊢
    simp only [List.flatMap_cons, List.length_append, List.length_cons] at h2 ⊢
    omega
theorem putF_ok : ∀ (l : List R) (acc a : List Int), putF l acc = .ok a → ∀ r ∈ l, r.2.length ≤ 16 ∧ ∃ q, askT r.1 = some q ∧ q.length = r.2.length := by
  intro l
  induction l with
  | nil => intro acc a _ r hr; cases hr
  | cons x l ih =>
    intro acc a h r hr
    obtain ⟨op, A⟩ := x
    cases hq : askT op with
    | none => rw [putF_cons_none hq] at h; cases h
    | some q =>
      by_cases hl : q.length = A.length
      · rw [putF_cons_ok hq hl] at h
        rcases List.mem_cons.1 hr with rfl | hr
        · have := ask_len op
          rw [hq] at this
          exact ⟨by simp only [Option.getD_some] at this; simp only []; omega, q, hq, hl⟩
        · exact ih _ _ h r hr
      · rw [putF_cons_bad hq hl] at h; cases h
theorem putT_ok {l : List R} {a : List Int} (h : putT l = .ok a) : l.length ≤ 4096 ∧ ∀ r ∈ l, r.2.length ≤ 16 ∧ ∃ q, askT r.1 = some q ∧ q.length = r.2.length := by
  unfold putT at h
  split at h
  · cases h
  · exact ⟨by omega, putF_ok l [] a h⟩
theorem rec_len {r : R} (h : r.2.length ≤ 16) (hn : ∀ x ∈ r.2, I64 x) : (recP r).length ≤ 360 := by
  have h1 := name_len r.1
  have h2 := nums_len r.2 hn
  unfold recP
  simp only [List.length_append, List.length_cons, List.length_nil]
  omega
theorem text_len : ∀ (l : List R), (∀ r ∈ l, r.2.length ≤ 16) → Nums l → (textP l).length ≤ 360 * l.length := by
  intro l
  induction l with
  | nil => intro _ _; simp [textP]
  | cons r l ih =>
    intro h hn
    have h1 := rec_len (h r (by simp)) (hn r (by simp))
    have h2 := ih (fun y hy => h y (by simp [hy])) (fun y hy => hn y (by simp [hy]))
    unfold textP at h2 ⊢
    simp only [List.flatMap_cons, List.length_append, List.length_cons] at h2 ⊢
    omega
/-- A builder that holds bytes. -/
def Bld (b : Nat) (acc : List UInt8) (w : World) : Prop := Lib.IsBuilderF 55 5 b b (bvs acc) w
theorem str_cells (l : List UInt8) : Lib.strCells ⟨l.toArray⟩ = bvs l := by simp [Lib.strCells]
theorem bvs_app (l m : List UInt8) : bvs (l ++ m) = bvs l ++ bvs m := by simp [bvs]
theorem write_bld (b : Nat) (acc l : List UInt8) (w : World) (h : Bld b acc w) (hlen : acc.length + l.length ≤ 100000000) (hb : b ≤ w.heap.size) :
    Calls Tryd.prog 24 #[.pointer (some ⟨b, 0, none⟩), .string ⟨l.toArray⟩] w fun e w' => (∃ v, e = .returned v) ∧ Bld b (acc ++ l) w' ∧ Below b w w' ∧ Lib.OthersKept 5 (some b) w w' := by
  have hs : (⟨l.toArray⟩ : ByteArray).size = l.length := by show l.toArray.size = _; simp
  refine (write_any b b (bvs acc) ⟨l.toArray⟩ w h (by rw [hs]; simp only [bvs, List.length_map]; omega) hb).mono ?_
  rintro e w' ⟨rfl, h1, h2, h3⟩
  rw [str_cells, ← bvs_app] at h1
  exact ⟨⟨_, rfl⟩, .inr h1, h2, h3⟩
theorem string_bld (b : Nat) (acc : List UInt8) (w : World) (h : Bld b acc w) (hb : b ≤ w.heap.size) :
    Calls Tryd.prog 26 #[.pointer (some ⟨b, 0, none⟩)] w fun e w' => e = .returned (.string ⟨acc.toArray⟩) ∧ Below b w w' := by
  refine (Tryd.Builder_String_any_k b b acc w h hb).mono ?_
  rintro e w' ⟨rfl, -, h2, -⟩
  exact ⟨rfl, h2⟩
end Go.Proofs.YtaklnijmcidpkaaDoor
