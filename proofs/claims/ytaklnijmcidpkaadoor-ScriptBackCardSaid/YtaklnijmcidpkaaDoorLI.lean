/- General laws: a region that draws its order, shown by what holds between any two of its operations. No condition beyond what each theorem states. By an AI agent. -/
import Derived.Test.YtaklnijmcidpkaaDoorL
set_option linter.unusedVariables false
set_option linter.unusedSimpArgs false
namespace Go.Proofs.YtaklnijmcidpkaaDoor
open Go.RowKit
/-- Operation i has come up too. -/
def ups (st : Nat → Bool) (i : Nat) : Nat → Bool := fun j => if j = i then true else st j
/-- Slot d holds v. -/
def upu (u : Nat → Value) (d : Nat) (v : Value) : Nat → Value := fun t => if t = d then v else u t
/-- A frame whose slots in D hold what u says. -/
def fillL (D : List Nat) (u : Nat → Value) : List Value → Nat → List Value
  | [], _ => []
  | x :: xs, t => (if D.contains t then u t else x) :: fillL D u xs (t + 1)
def fillA (A : List Value) (D : List Nat) (u : Nat → Value) : Array Value := (fillL D u A 0).toArray
theorem fillL_len (D : List Nat) (u : Nat → Value) : ∀ (A : List Value) (t : Nat), (fillL D u A t).length = A.length
  | [], _ => rfl
  | x :: xs, t => by simp [fillL, fillL_len D u xs]
theorem fillL_get (D : List Nat) (u : Nat → Value) : ∀ (A : List Value) (t j : Nat), (fillL D u A t)[j]? = A[j]?.map fun x => if D.contains (t + j) then u (t + j) else x
  | [], _, _ => by simp [fillL]
  | x :: xs, t, 0 => by simp [fillL]
  | x :: xs, t, j + 1 => by
    simp only [fillL, List.getElem?_cons_succ, fillL_get D u xs (t + 1) j]
    rw [show t + 1 + j = t + (j + 1) by omega]
theorem fillA_eval {A : List Value} {D : List Nat} {u : Nat → Value} {ds : List Deferred} {t : Nat} (ht : t < A.length) : (⟨fillA A D u, ds⟩ : Act).eval (.tmp t) = if D.contains t then u t else A.getD t undef := by
  simp only [Act.eval, fillA, Array.getD_eq_getD_getElem?, List.getElem?_toArray, fillL_get, Nat.zero_add, List.getD_eq_getElem?_getD, List.getElem?_eq_getElem ht, Option.map_some, Option.getD_some]
theorem fillA_put {A : List Value} {D : List Nat} {u : Nat → Value} {ds : List Deferred} {d : Nat} {v : Value} (hd : D.contains d = true) : (⟨fillA A D u, ds⟩ : Act).put (some d) v = ⟨fillA A D (upu u d v), ds⟩ := by
  simp only [Act.put, fillA]
  congr 1
  apply Array.ext'
  simp only [Array.toList_setIfInBounds, List.toList_toArray]
  apply List.ext_getElem?
  intro j
  rw [List.getElem?_set, fillL_get, fillL_get, fillL_len]
  simp only [Nat.zero_add, upu]
  by_cases hj : d = j
  · subst hj
    by_cases hl : d < A.length
    · simp [hl, hd]
      rw [List.contains_iff_mem] at hd
      simp [hd]
    · simp [hl, List.getElem?_eq_none (by omega : A.length ≤ d)]
  · rw [if_neg hj]
    simp only [Ne.symm hj, if_false]
theorem fillA_self {A : List Value} {D : List Nat} : fillA A D (fun t => A.getD t undef) = A.toArray := by
  unfold fillA
  congr 1
  apply List.ext_getElem?
  intro j
  rw [fillL_get]
  simp only [Nat.zero_add]
  rcases Nat.lt_or_ge j A.length with h | h
  · simp [List.getElem?_eq_getElem h]
  · simp [List.getElem?_eq_none h]
section
variable {P : Program} {md : Region.Mode} {ops : Array Oper} {Q : Exit → Act → World → Prop}
theorem getD_ups {listed : Array Bool} {i : Nat} (hi : i < listed.size) : (fun j => (listed.setIfInBounds i true).getD j false) = ups (fun j => listed.getD j false) i := by
  funext j
  simp only [ups, Array.getD_eq_getD_getElem?, Array.getElem?_setIfInBounds]
  by_cases h : i = j
  · subst h; simp [hi]
  · rw [if_neg h, if_neg (Ne.symm h)]
theorem wpAny_inv {J : (Nat → Bool) → Act → World → Prop} (hord : ∀ i o, ops[i]? = some o → ∀ e ∈ o.after, Region.binds md e = true → e.on < i)
    (hstep : ∀ st a w i o, ops[i]? = some o → st i = false → (∀ e ∈ o.after, Region.binds md e = true → st e.on = true) → J st a w → wpOp P ops Q i (J (ups st i)) a w)
    (hend : ∀ st a w, (∀ i, i < ops.size → st i = true) → J st a w → Q .normal a w) :
    ∀ (fuel : Nat) (listed : Array Bool) (a : Act) (w : World), listed.size = ops.size → (listed.toList.countP (fun b => !b)) ≤ fuel →
      J (fun j => listed.getD j false) a w → wpAny P md ops Q fuel listed a w := by
  -- the first one that has not come up may come up
  have hfirst : ∀ (listed : Array Bool), listed.size = ops.size → Region.ready md ops listed = [] → ∀ i, i < ops.size → listed.getD i false = true := by
    intro listed hsz hr i
    induction i using Nat.strongRecOn with
    | ind i ih =>
      intro hi
      cases hl : listed.getD i false with
      | true => rfl
      | false =>
        exfalso
        have hmem : i ∈ Region.ready md ops listed := by
          refine mem_ready.2 ⟨?_, ops[i], Array.getElem?_eq_getElem hi, fun e he hb => ?_⟩
          · have : i < listed.size := by omega
            simp only [Array.getD_eq_getD_getElem?, Array.getElem?_eq_getElem this] at hl ⊢
            exact hl
          · have := hord i _ (Array.getElem?_eq_getElem hi) e he hb
            exact ih e.on this (by omega)
        rw [hr] at hmem
        cases hmem
  intro fuel
  induction fuel with
  | zero =>
    intro listed a w hsz hc hJ
    have hall : ∀ b ∈ listed.toList, ¬ (!b) = true := List.countP_eq_zero.1 (Nat.le_zero.1 hc)
    have hst : ∀ i, i < ops.size → listed.getD i false = true := by
      intro i hi
      have hi' : i < listed.size := by omega
      have := hall (listed[i]) (by simp)
      simp only [Array.getD_eq_getD_getElem?, Array.getElem?_eq_getElem hi']
      simpa using this
    refine ⟨?_, hend _ a w hst hJ⟩
    unfold Region.ready
    rw [List.filter_eq_nil_iff]
    intro i hi
    have hi := List.mem_range.1 hi
    have hi' : i < listed.size := by omega
    have := hst i hi
    simp only [Array.getD_eq_getD_getElem?, Array.getElem?_eq_getElem hi', Option.getD_some] at this ⊢
    simp [this]
  | succ fuel ih =>
    intro listed a w hsz hc hJ
    refine ⟨fun hr => hend _ a w (hfirst listed hsz hr) hJ, fun i hi => ?_⟩
    obtain ⟨hun, o, ho, hall⟩ := mem_ready.1 hi
    have hio : i < ops.size := (Array.getElem?_eq_some_iff.1 ho).1
    have hil : i < listed.size := by omega
    have hf : listed.getD i false = false := by
      simp only [Array.getD_eq_getD_getElem?, Array.getElem?_eq_getElem hil] at hun ⊢
      exact hun
    refine wpOp_mono (fun a' w' h => ?_) (hstep _ a w i o ho hf hall hJ)
    refine ih _ a' w' (by simp [hsz]) ?_ ?_
    · have hl : listed.toList[i]'(by simpa using hil) = false := by
        simp only [Array.getD_eq_getD_getElem?, Array.getElem?_eq_getElem hil] at hf
        simpa using hf
      have hp : 0 < listed.toList.countP (fun b => !b) := List.countP_pos_iff.2 ⟨false, by rw [← hl]; exact List.getElem_mem _, rfl⟩
      rw [Array.toList_setIfInBounds, List.countP_set (by simpa using hil), hl]
      simp only [Bool.not_false, Bool.not_true, if_true, Bool.false_eq_true, if_false]
      omega
    · rw [getD_ups hil]; exact h
theorem wp_region_inv {id : Nat} {J : (Nat → Bool) → Act → World → Prop} {a : Act} {w : World} (hm : P.follows .mixedOrders = true) (hord : ∀ i o, ops[i]? = some o → ∀ e ∈ o.after, Region.binds .any e = true → e.on < i)
    (h0 : ∀ x : World, x = w.drew → J (fun _ => false) a x)
    (hstep : ∀ st a w i o, ops[i]? = some o → st i = false → (∀ e ∈ o.after, Region.binds .any e = true → st e.on = true) → J st a w → wpOp P ops Q i (J (ups st i)) a w)
    (hend : ∀ st a w, (∀ i, i < ops.size → st i = true) → J st a w → Q .normal a w) : (Code.region id ops true).wp P Q a w := by
  refine wp_region_any hm (wpAny_inv hord hstep hend _ _ _ _ (by simp) ?_ ?_)
  · refine Nat.le_trans List.countP_le_length (by simp)
  · have e : (fun j => (Array.replicate ops.size false).getD j false) = fun _ => false := by
      funext j
      simp only [Array.getD_eq_getD_getElem?, Array.getElem?_replicate]
      split <;> rfl
    rw [e]
    exact h0 _ rfl
/-- Each operation waits only for such as stand ahead of it. -/
def ordB (md : Region.Mode) (ops : Array Oper) : Bool := (List.range ops.size).all fun i => ((ops[i]?).map fun o => o.after.all fun e => !Region.binds md e || decide (e.on < i)).getD true
theorem ordB_spec (h : ordB md ops = true) : ∀ i o, ops[i]? = some o → ∀ e ∈ o.after, Region.binds md e = true → e.on < i := by
  intro i o ho e he hb
  have hi := (Array.getElem?_eq_some_iff.1 ho).1
  have := List.all_eq_true.1 h i (List.mem_range.2 hi)
  rw [ho] at this
  simp only [Option.map_some, Option.getD_some] at this
  have := Array.all_eq_true'.1 this e he
  simpa [hb] using this
theorem wpOp_plain {i : Nat} {o : Oper} {K : Act → World → Prop} {a : Act} {w : World} (hi : ops[i]? = some o) (hg : o.guard = none) (h : o.wp P a w K Q) : wpOp P ops Q i K a w := by
  unfold wpOp
  simp only [hi]
  rw [if_pos (by simp [Region.wanted, hg])]
  exact .inl h
theorem wp_of_run {o : Oper} {K : Act → World → Prop} {a : Act} {w w' : World} {v : Value} (h : (execOp a.eval o).run P w = .ok (.value v) w') (hk : K (a.put o.dst v) w') : o.wp P a w K Q := by
  unfold Oper.wp
  rw [h]
  exact hk
theorem wp_call {o : Oper} {f : FuncId} {args : Array Operand} {tys : Array TypeId} {R : Ending → World → Prop} {K : Act → World → Prop} {a : Act} {w : World} {fn : Func} {c : Code} (ho : o.op = .call { callee := .value (.func f), args := args, argTypes := tys }) (hf : P.funcs[f]? = some fn) (hname : (fn.name == "runtime.NumGoroutine") = false) (hb : fn.body = some c)
    (h : Calls P f (args.map a.eval) w R) (hR : ∀ e w', R e w' → ∃ v, e = .returned v ∧ K (a.put o.dst v) w') : o.wp P a w K Q := by
  unfold Oper.wp execOp
  simp [ho, resolve, invoke, Act.eval, go_sem]
  have hc : (callFunc f (Array.map a.eval args)).run P w = .ok (.enter f (Array.map a.eval args)) w := by
    unfold callFunc
    simp [hf, hb, go_sem]
    simpa using hname
  rw [hc]
  exact h.mono fun e w' he => by
    obtain ⟨v, rfl, hk⟩ := hR e w' he
    exact hk
theorem fillA_in {A : List Value} {D : List Nat} {u : Nat → Value} {ds : List Deferred} {t : Nat} (ht : t < A.length) (hd : D.contains t = true) : (⟨fillA A D u, ds⟩ : Act).eval (.tmp t) = u t := by
  rw [fillA_eval ht, if_pos hd]
theorem fillA_out {A : List Value} {D : List Nat} {u : Nat → Value} {ds : List Deferred} {t : Nat} (ht : t < A.length) (hd : D.contains t = false) : (⟨fillA A D u, ds⟩ : Act).eval (.tmp t) = A.getD t undef := by
  rw [fillA_eval ht, hd]; rfl
/-- A region that draws its order, its slots in D told by a function. -/
theorem wp_region_fill {id : Nat} {A : List Value} {ds : List Deferred} {w : World} (D : List Nat) (R : (Nat → Bool) → (Nat → Value) → World → Prop) (hm : P.follows .mixedOrders = true) (hord : ordB .any ops = true)
    (h0 : ∀ x : World, x = w.drew → R (fun _ => false) (fun t => A.getD t undef) x)
    (hstep : ∀ A' : List Value, A' = A → ∀ st u x i o, ops[i]? = some o → st i = false → (∀ e ∈ o.after, Region.binds .any e = true → st e.on = true) → (∀ j o', ops[j]? = some o' → st j = true → ∀ e ∈ o'.after, Region.binds .any e = true → st e.on = true) → R st u x →
      wpOp P ops Q i (fun a' w' => ∃ u', a' = ⟨fillA A' D u', ds⟩ ∧ R (ups st i) u' w') ⟨fillA A' D u, ds⟩ x)
    (hend : ∀ st u x, (∀ i, i < ops.size → st i = true) → R st u x → Q .normal ⟨fillA A D u, ds⟩ x) : (Code.region id ops true).wp P Q ⟨A.toArray, ds⟩ w := by
  refine wp_region_inv (J := fun st a x => (∀ j o', ops[j]? = some o' → st j = true → ∀ e ∈ o'.after, Region.binds .any e = true → st e.on = true) ∧ ∃ u, a = ⟨fillA A D u, ds⟩ ∧ R st u x) hm (ordB_spec hord) (fun x hx => ⟨fun _ _ _ h => (by cases h), _, by rw [fillA_self], h0 x hx⟩) ?_ ?_
  · rintro st a x i o ho hst hd ⟨hcl, u, rfl, hR⟩
    refine wpOp_mono (fun a' w' h => ⟨fun j o' hj hs e he hb => ?_, h⟩) (hstep A rfl st u x i o ho hst hd hcl hR)
    unfold ups at hs ⊢
    by_cases he1 : e.on = i
    · rw [if_pos he1]
    · rw [if_neg he1]
      by_cases hji : j = i
      · subst hji
        rw [ho] at hj
        injection hj with hj
        subst hj
        exact hd e he hb
      · rw [if_neg hji] at hs
        exact hcl j o' hj hs e he hb
  · rintro st a x hst ⟨_, u, rfl, hR⟩
    exact hend st u x hst hR
end
end Go.Proofs.YtaklnijmcidpkaaDoor
