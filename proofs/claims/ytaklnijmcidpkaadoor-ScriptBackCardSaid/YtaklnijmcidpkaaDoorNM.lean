/- Proof text: the commands' names (script.names, Name, Op; rastrumref29's). By an AI agent. No condition beyond what each theorem states. -/
import Derived.Test.YtaklnijmcidpkaaDoorLM
import Derived.Deep.WholeRow
import Derived.Laws.Tables
import Derived.Test.YtaklnijmcidpkaaDoorChecked
set_option linter.unusedVariables false
set_option linter.unusedSimpArgs false
namespace Go.Proofs.YtaklnijmcidpkaaDoor
open Go.RowKit
/-- The names, by their Ops. -/
def nameB : List ByteArray := [⟨#[]⟩, ⟨#[115, 105, 122, 101]⟩, ⟨#[102, 105, 108, 108]⟩, ⟨#[102, 97, 114]⟩, ⟨#[99, 108, 101, 97, 114]⟩, ⟨#[112, 111, 114, 116]⟩, ⟨#[99, 117, 116]⟩, ⟨#[109, 111, 100, 101]⟩, ⟨#[108, 111, 97, 100]⟩, ⟨#[109, 117, 108, 116]⟩, ⟨#[112, 117, 115, 104]⟩, ⟨#[112, 111, 112]⟩, ⟨#[117, 110, 105, 116]⟩, ⟨#[115, 105, 100, 101]⟩, ⟨#[99, 111, 108, 111, 114]⟩, ⟨#[102, 108, 97, 103]⟩, ⟨#[98, 101, 103, 105, 110]⟩, ⟨#[118, 101, 114, 116, 101, 120]⟩, ⟨#[101, 110, 100]⟩, ⟨#[119, 105, 100, 116, 104]⟩, ⟨#[100, 97, 115, 104]⟩, ⟨#[112, 111, 105, 110, 116]⟩, ⟨#[115, 111, 102, 116]⟩, ⟨#[112, 111, 108, 121]⟩, ⟨#[99, 117, 108, 108]⟩, ⟨#[111, 102, 102, 115, 101, 116]⟩, ⟨#[100, 101, 112, 116, 104]⟩, ⟨#[98, 108, 101, 110, 100]⟩, ⟨#[109, 97, 115, 107]⟩, ⟨#[115, 104, 97, 100, 101]⟩, ⟨#[118, 101, 114, 116, 101, 120, 102]⟩, ⟨#[108, 111, 97, 100, 102]⟩, ⟨#[102, 97, 114, 102]⟩]
/-- As values. -/
def nmL : List Value := [.string ⟨#[]⟩, .string ⟨#[115, 105, 122, 101]⟩, .string ⟨#[102, 105, 108, 108]⟩, .string ⟨#[102, 97, 114]⟩, .string ⟨#[99, 108, 101, 97, 114]⟩, .string ⟨#[112, 111, 114, 116]⟩, .string ⟨#[99, 117, 116]⟩, .string ⟨#[109, 111, 100, 101]⟩, .string ⟨#[108, 111, 97, 100]⟩, .string ⟨#[109, 117, 108, 116]⟩, .string ⟨#[112, 117, 115, 104]⟩, .string ⟨#[112, 111, 112]⟩, .string ⟨#[117, 110, 105, 116]⟩, .string ⟨#[115, 105, 100, 101]⟩, .string ⟨#[99, 111, 108, 111, 114]⟩, .string ⟨#[102, 108, 97, 103]⟩, .string ⟨#[98, 101, 103, 105, 110]⟩, .string ⟨#[118, 101, 114, 116, 101, 120]⟩, .string ⟨#[101, 110, 100]⟩, .string ⟨#[119, 105, 100, 116, 104]⟩, .string ⟨#[100, 97, 115, 104]⟩, .string ⟨#[112, 111, 105, 110, 116]⟩, .string ⟨#[115, 111, 102, 116]⟩, .string ⟨#[112, 111, 108, 121]⟩, .string ⟨#[99, 117, 108, 108]⟩, .string ⟨#[111, 102, 102, 115, 101, 116]⟩, .string ⟨#[100, 101, 112, 116, 104]⟩, .string ⟨#[98, 108, 101, 110, 100]⟩, .string ⟨#[109, 97, 115, 107]⟩, .string ⟨#[115, 104, 97, 100, 101]⟩, .string ⟨#[118, 101, 114, 116, 101, 120, 102]⟩, .string ⟨#[108, 111, 97, 100, 102]⟩, .string ⟨#[102, 97, 114, 102]⟩]
theorem nmL_is : nmL = nameB.map Value.string := rfl
theorem nmL_len : nmL.length = 33 := rfl
theorem nmL_get {k : Nat} (h : k < 33) : nmL[k]? = some (.string (nameB.getD k ⟨#[]⟩)) := by
  rw [nmL_is, List.getElem?_map, List.getD_eq_getElem?_getD, List.getElem?_eq_getElem (show k < nameB.length from h)]
  rfl
theorem nmL_one : ∀ u ∈ nmL, u.oneCell' = true := by
  intro u hu
  rw [nmL_is] at hu
  obtain ⟨x, _, rfl⟩ := List.mem_map.1 hu
  rfl
/-- A command's name. -/
def nameT (op : Int) : ByteArray × Bool := if 1 ≤ op ∧ op ≤ 32 then (nameB.getD op.toNat ⟨#[]⟩, true) else (⟨#[]⟩, false)
theorem wpList_build {P : Program} {w : World} {ops : Array Oper} {rest : List Oper} {o : Oper} {a : Act} {Q : Exit → Act → World → Prop} (hgd : o.guard = none) (t : TypeId) (parts : Array (Nat × Operand)) (ho : o.op = .build t parts)
    (cells : Array Value) (hb : P.built t (parts.map fun (i, x) => (i, a.eval x)).toList = some cells) (h : wpList P ops Q rest (a.put o.dst (.agg cells)) w) : wpList P ops Q (o :: rest) a w := by
  refine wpList_plain hgd fun K hK => ?_
  refine wp_build t parts ho (by rw [hb]; rfl) ?_
  rw [hb]
  exact hK _ _ h
theorem wpList_store_new {P : Program} {w : World} {ops : Array Oper} {rest : List Oper} {o : Oper} {a : Act} {Q : Exit → Act → World → Prop} (hgd : o.guard = none) (t : TypeId) (x y : Operand) (ho : o.op = .store t x y)
    (c c' : Array Value) (hx : a.eval x = .pointer (some ⟨w.heap.size, 0, none⟩)) (hy : a.eval y = .agg c') (hi : (P.info? t).map (·.size) = some c'.size) (hc : c.size = c'.size) (h1 : c'.all (·.oneCell') = true)
    (h : wpList P ops Q rest (a.put o.dst undef) (w.alloc (.cells c' t))) : wpList P ops Q (o :: rest) a (w.alloc (.cells c t)) := by
  refine wpList_plain hgd fun K hK => ?_
  have hr := run_storeAt_new (P := P) w t c c' hi hc h1
  unfold Oper.wp execOp
  simp only [ho, hx, hy, Sem.run_bind, Sem.run_pure, hr, Result.andThen]
  exact hK _ _ h
/-- The names' array. -/
def nmA : Array Value := nmL.toArray
set_option maxRecDepth 10000 in
theorem names_any (w : World) : Calls Tryd.prog 21 #[] w fun e w' => e = .returned (.agg nmA) ∧ Ext w w' := by
  go_enter Tryd.func21, Tryd.ntmps21
  go_wp2_with (first | (refine wpList_build rfl _ _ rfl nmA rfl ?_) | (refine wpList_store_new rfl 46 _ _ rfl _ nmA rfl rfl (by kernel_rfl) rfl (by kernel_rfl) ?_))
  have hl := run_loadVar_new (P := Tryd.prog) w 46 nmA 33 9 Tryd.underlying46 (by kernel_rfl)
  refine bodyPost_ret (v := .agg nmA) ?_ rfl ⟨rfl, (Ext.refl w).alloc _⟩
  simp [results, Tryd.results21, asAddr, hl, Act.put]
set_option maxRecDepth 10000 in
theorem rnames_any (w : World) : Calls Tryd.prog 22 #[] w fun e w' => ∃ a c, e = .returned (.slice a 33 c) ∧ Rd w' 1 a 33 c nmL ∧ Ext w w' := by
  go_enter Tryd.func22, Tryd.ntmps22
  go_wp2_with fail
  go_ret
  exact ⟨_, _, rfl, Rd_new w nmL 9 1 33 rfl (by unfold maxLen; omega), (Ext.refl w).alloc _⟩
theorem nmA_get {k : Nat} (h : k < 33) : nmA[k]? = some (.string (nameB.getD k ⟨#[]⟩)) := by
  have := nmL_get h
  unfold nmA
  simpa using this
theorem nameT_no {op : Int} (h : ¬ (1 ≤ op ∧ op ≤ 32)) : nameT op = (⟨#[]⟩, false) := by unfold nameT; rw [if_neg h]
theorem nameT_yes {k : Nat} (h1 : 1 ≤ k) (h2 : k < 33) : nameT k = (nameB.getD k ⟨#[]⟩, true) := by unfold nameT; rw [if_pos (by omega)]; rfl
set_option maxRecDepth 10000 in
set_option maxHeartbeats 1000000 in
theorem name_any (op : Int) (w : World) : Calls Tryd.prog 12 #[.int .i64 op] w fun e w' => e = .returned (.tuple #[.string (nameT op).1, .bool (nameT op).2]) ∧ Ext w w' := by
  by_cases h1 : op < 1
  · have d1 : decide (op < 1) = true := by simp; omega
    rw [nameT_no (by omega)]
    clear h1
    go_enter Tryd.func12, Tryd.ntmps12
    go_wp2_with fail
    refine (names_any _).mono ?_
    rintro e w1 ⟨rfl, hE⟩
    have HE := Lib.hid hE
    clear hE
    go_wp2_with (refine wpList_store_new rfl 46 _ _ rfl _ nmA rfl rfl (by kernel_rfl) rfl (by kernel_rfl) ?_)
    go_ret2
    exact ⟨rfl, HE.out.alloc _⟩
  · have d1 : decide (op < 1) = false := by simp; omega
    by_cases h2 : 33 ≤ op
    · have d2 : decide (op ≥ 33) = true := by simp; omega
      rw [nameT_no (by omega)]
      clear h1 h2
      go_enter Tryd.func12, Tryd.ntmps12
      go_wp2_with fail
      refine (names_any _).mono ?_
      rintro e w1 ⟨rfl, hE⟩
      have HE := Lib.hid hE
      clear hE
      go_wp2_with (refine wpList_store_new rfl 46 _ _ rfl _ nmA rfl rfl (by kernel_rfl) rfl (by kernel_rfl) ?_)
      go_ret2
      exact ⟨rfl, HE.out.alloc _⟩
    · have d2 : decide (op ≥ 33) = false := by simp; omega
      obtain ⟨k, rfl⟩ : ∃ k : Nat, op = k := ⟨op.toNat, by omega⟩
      have hk : k < 33 := by omega
      rw [nameT_yes (by omega) hk]
      have hg := nmA_get hk
      obtain ⟨x, hx⟩ : ∃ x, x = nameB.getD k ⟨#[]⟩ := ⟨_, rfl⟩
      rw [← hx] at hg ⊢
      clear hx h1 h2
      go_enter Tryd.func12, Tryd.ntmps12
      go_wp2_with fail
      refine (names_any _).mono ?_
      rintro e w1 ⟨rfl, hE⟩
      have HE := Lib.hid hE
      have cc : (w1.alloc (.cells nmA 46)).cell? ⟨w1.heap.size, k, none⟩ = some (.string x) := by rw [cell_of_row _ _ k nmA _ _ (heap_alloc_last w1 _)]; exact hg
      clear hE hg
      go_wp2_with (refine wpList_store_new rfl 46 _ _ rfl _ nmA rfl rfl (by kernel_rfl) rfl (by kernel_rfl) ?_)
      go_ret2
      exact ⟨rfl, HE.out.alloc _⟩
set_option maxRecDepth 10000 in
set_option maxHeartbeats 1000000 in
theorem rname_any (op : Int) (w : World) : Calls Tryd.prog 13 #[.int .i64 op] w fun e w' => e = .returned (.tuple #[.string (nameT op).1, .bool (nameT op).2]) ∧ Ext w w' := by
  by_cases h1 : op < 1
  · have d1 : decide (op < 1) = true := by simp; omega
    rw [nameT_no (by omega)]
    clear h1
    go_enter Tryd.func13, Tryd.ntmps13
    go_wp2_with fail
    go_ret2
    exact ⟨rfl, Ext.refl _⟩
  · have d1 : decide (op < 1) = false := by simp; omega
    by_cases h2 : 32 < op
    · have d2 : decide (op > 32) = true := by simp; omega
      rw [nameT_no (by omega)]
      clear h1 h2
      go_enter Tryd.func13, Tryd.ntmps13
      go_wp2_with fail
      go_ret2
      exact ⟨rfl, Ext.refl _⟩
    · have d2 : decide (op > 32) = false := by simp; omega
      obtain ⟨k, rfl⟩ : ∃ k : Nat, op = k := ⟨op.toNat, by omega⟩
      have hk : k < 33 := by omega
      rw [nameT_yes (by omega) hk]
      have hg := nmL_get hk
      obtain ⟨x, hx⟩ : ∃ x, x = nameB.getD k ⟨#[]⟩ := ⟨_, rfl⟩
      rw [← hx] at hg ⊢
      have hk2 : (k : Int) < 33 := by omega
      clear hx h1 h2
      go_enter Tryd.func13, Tryd.ntmps13
      go_wp2_with fail
      refine (rnames_any _).mono ?_
      rintro e w1 ⟨a, c, rfl, hr, hE⟩
      obtain ⟨b, o, rfl, -, hc⟩ := hr.at_ (by omega)
      have cc := (hc k (by omega)).trans hg
      have HE := Lib.hid hE
      clear hE hg hr hc
      go_wp2_with fail
      go_ret2
      exact ⟨rfl, HE.out⟩
end Go.Proofs.YtaklnijmcidpkaaDoor
