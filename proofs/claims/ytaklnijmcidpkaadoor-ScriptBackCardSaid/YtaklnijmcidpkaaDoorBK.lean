/- Plain text: a text comes back from its commands, commands from their text; no program's steps. By an AI agent. No condition beyond what each theorem states. -/
import Derived.Test.YtaklnijmcidpkaaDoorDB
import Derived.Test.YtaklnijmcidpkaaDoorWS
import Derived.Test.YtaklnijmcidpkaaDoorRL
import Derived.Test.YtaklnijmcidpkaaDoorPR
set_option linter.unusedVariables false
set_option linter.unusedSimpArgs false
namespace Go.Proofs.YtaklnijmcidpkaaDoor
open Go.RowKit
theorem lk_in {op : Int} {q : List (Int × Int)} : ∀ (t : List (Int × List (Int × Int))), (∀ p ∈ t, 1 ≤ p.1 ∧ p.1 ≤ 32) → lk op t = some q → 1 ≤ op ∧ op ≤ 32 := by
  intro t
  induction t with
  | nil => intro _ h; simp [lk] at h
  | cons p t ih =>
    intro hp h
    unfold lk at h
    split at h
    · rename_i he
      have := hp p (by simp)
      first | (rw [he] at this; exact this) | (rw [← he]; exact this) | (simp at he; rw [he] at this; exact this) | (simp at he; rw [← he]; exact this)
    · exact ih (fun x hx => hp x (by simp [hx])) h
theorem ask_op {op : Int} {q : List (Int × Int)} (h : askT op = some q) : 1 ≤ op ∧ op ≤ 32 := by
  unfold askT at h
  cases h1 : lk op stateTab with
  | some q' => exact lk_in stateTab (by decide) h1
  | none =>
    rw [h1] at h
    exact lk_in drawTab (by decide) h
theorem name_op {op : Int} (h : 1 ≤ op ∧ op ≤ 32) : opT (nameT op).1 = (op, true) ∧ (32 : UInt8) ∉ (nameT op).1.data.toList ∧ (10 : UInt8) ∉ (nameT op).1.data.toList := by
  obtain ⟨k, rfl⟩ : ∃ k : Nat, op = k := ⟨op.toNat, by omega⟩
  rw [nameT_yes (by omega) (by omega)]
  have h1 := opT_nm (k := k) (by omega) (by omega)
  unfold nmAt at h1
  refine ⟨h1, ?_⟩
  have hall : ∀ k, k < 33 → (32 : UInt8) ∉ (nameB.getD k ⟨#[]⟩).data.toList ∧ (10 : UInt8) ∉ (nameB.getD k ⟨#[]⟩).data.toList := by decide
  exact hall k (by omega)
/-- Words joined by blanks. -/
def joinW (w0 : List UInt8) (ws : List (List UInt8)) : List UInt8 := w0 ++ ws.flatMap fun w => 32 :: w
theorem split_join : ∀ (ws : List (List UInt8)) (w0 : List UInt8), (32 : UInt8) ∉ w0 → (∀ w ∈ ws, (32 : UInt8) ∉ w) → splitW (joinW w0 ws) = w0 :: ws := by
  intro ws
  induction ws with
  | nil =>
    intro w0 h0 _
    unfold joinW
    rw [List.flatMap_nil, List.append_nil, splitW_is, cut1_none _ _ h0]
    rfl
  | cons w ws ih =>
    intro w0 h0 h
    have e : joinW w0 (w :: ws) = w0 ++ 32 :: joinW w ws := by unfold joinW; simp
    rw [e, splitW_is, cut1_mk _ _ _ h0]
    show w0 :: splitW (joinW w ws) = _
    rw [ih w (h w (by simp)) (fun x hx => h x (by simp [hx]))]
theorem join_split : ∀ (n : Nat) (x : List UInt8), x.length ≤ n → ∀ w0 ws, splitW x = w0 :: ws → x = joinW w0 ws := by
  intro n
  induction n with
  | zero =>
    intro x hx w0 ws h
    obtain rfl := List.eq_nil_of_length_eq_zero (Nat.le_zero.1 hx)
    simp [splitW] at h
    obtain ⟨rfl, rfl⟩ := h
    rfl
  | succ n ih =>
    intro x hx w0 ws h
    rw [splitW_is] at h
    injection h with h1 h2
    cases hc : (cut1 32 x).2.2 with
    | false =>
      obtain ⟨a, b, c⟩ := cut1_no 32 x hc
      unfold restW at h2
      rw [hc] at h2
      simp at h2
      subst h2
      rw [← h1, a]
      simp [joinW]
    | true =>
      obtain ⟨a, b⟩ := cut1_yes 32 x hc
      have hl := (cut1_len 32 x).2.2.1 hc
      unfold restW at h2
      rw [hc, if_pos rfl] at h2
      cases hs : splitW (cut1 32 x).2.1 with
      | nil => exact absurd hs (splitW_ne _)
      | cons v vs =>
        have := ih _ (by omega) v vs hs
        rw [hs] at h2
        rw [← h2, ← h1]
        conv => lhs; rw [a, this]
        unfold joinW
        simp
theorem nums_map {A : List Int} (h : ∀ x ∈ A, I64 x) : numsT (A.map Lib.itoa) = .ok A := by
  induction A with
  | nil => rfl
  | cons x A ih =>
    have hx := num_itoa (h x (by simp))
    rw [List.map_cons]
    unfold numsT
    rw [hx]
    simp only
    rw [if_pos trivial, ih (fun y hy => h y (by simp [hy]))]
theorem nums_back : ∀ (ws : List (List UInt8)) (A : List Int), numsT ws = .ok A → ws = A.map Lib.itoa ∧ ∀ x ∈ A, I64 x := by
  intro ws
  induction ws with
  | nil => intro A h; simp [numsT] at h; subst h; exact ⟨rfl, fun x hx => by cases hx⟩
  | cons w ws ih =>
    intro A h
    unfold numsT at h
    by_cases h0 : (numT w).2 = 0
    · rw [if_pos h0] at h
      cases hr : numsT ws with
      | error e => rw [hr] at h; cases h
      | ok B =>
        rw [hr] at h
        injection h with h
        subst h
        obtain ⟨h1, h2⟩ := itoa_num h0
        obtain ⟨h3, h4⟩ := ih B hr
        refine ⟨by rw [List.map_cons, h1, ← h3], fun x hx => ?_⟩
        rcases List.mem_cons.1 hx with rfl | hx
        · exact h2
        · exact h4 x hx
    · rw [if_neg h0] at h; cases h
theorem numsP_join (w0 : List UInt8) (A : List Int) : joinW w0 (A.map Lib.itoa) = w0 ++ numsP A := by
  unfold joinW numsP
  rw [List.flatMap_map]
/-- A command's line says that command. -/
theorem line_back {op : Int} {A : List Int} {q : List (Int × Int)} (hq : askT op = some q) (hl : q.length = A.length) (h : ∀ x ∈ A, I64 x) : lineT ((nameT op).1.data.toList ++ numsP A) = .ok (op, A) := by
  obtain ⟨h1, h2, _⟩ := name_op (ask_op hq)
  have hs := split_join (A.map Lib.itoa) (nameT op).1.data.toList h2 (fun w hw => by
    obtain ⟨x, _, rfl⟩ := List.mem_map.1 hw
    exact (itoa_no x).1)
  rw [numsP_join] at hs
  rw [lineT_words hs]
  have e : (⟨(nameT op).1.data.toList.toArray⟩ : ByteArray) = (nameT op).1 := by apply data_eq; simp
  rw [e, h1]
  simp only
  rw [if_pos trivial, nums_map h]
  unfold lineE arT
  rw [hq]
  simp [hl]
theorem opT_back {s : ByteArray} (h : (opT s).2 = true) : ∃ k : Nat, 1 ≤ k ∧ k < 33 ∧ (opT s).1 = (k : Int) ∧ nmAt k = s := by
  unfold opT at h ⊢
  cases hf : (List.range 32).find? (fun i => (nmAt (i + 1)).data.toList == s.data.toList) with
  | none => rw [hf] at h; cases h
  | some i =>
    have h1 := List.find?_some hf
    have h2 := List.mem_of_find?_eq_some hf
    rw [List.mem_range] at h2
    exact ⟨i + 1, by omega, by omega, rfl, data_eq (by simpa using h1)⟩
theorem ask_some {k : Nat} (h1 : 1 ≤ k) (h2 : k < 33) : ∃ q, askT (k : Int) = some q := by
  have hall : ∀ k : Nat, k < 33 → 1 ≤ k → (askT (k : Int)).isSome = true := by decide
  exact Option.isSome_iff_exists.1 (hall k h2 h1)
/-- A line that says a command is that command's line. -/
theorem back_line {x : List UInt8} {op : Int} {A : List Int} (h : lineT x = .ok (op, A)) : x = (nameT op).1.data.toList ++ numsP A ∧ (∀ y ∈ A, I64 y) ∧ ∃ q, askT op = some q ∧ q.length = A.length := by
  cases hs : splitW x with
  | nil => exact absurd hs (splitW_ne x)
  | cons w0 ws =>
    have hj := join_split x.length x (Nat.le_refl _) w0 ws hs
    rw [lineT_words hs] at h
    by_cases ho : (opT ⟨w0.toArray⟩).2 = true
    · rw [if_pos ho] at h
      obtain ⟨k, k1, k2, k3, k4⟩ := opT_back ho
      rw [k3] at h
      cases hn : numsT ws with
      | error e => rw [hn] at h; cases h
      | ok B =>
        rw [hn] at h
        unfold lineE at h
        simp only at h
        by_cases ha : arT (k : Int) = B.length
        · rw [if_pos ha] at h
          injection h with h
          injection h with h1 h2
          subst h1; subst h2
          obtain ⟨n1, n2⟩ := nums_back ws B hn
          obtain ⟨q, hq⟩ := ask_some k1 k2
          refine ⟨?_, n2, q, hq, ?_⟩
          · rw [hj, n1, numsP_join, nameT_yes k1 k2]
            simp only
            rw [show nameB.getD k ⟨#[]⟩ = nmAt k from rfl, k4]
          · unfold arT at ha
            rw [hq] at ha
            simpa using ha
        · rw [if_neg ha] at h; cases h
    · rw [if_neg ho] at h; cases h
/-- Commands come back from their text. -/
theorem parse_text : ∀ (l : List R) (f c : Nat), (∀ r ∈ l, ∃ q, askT r.1 = some q ∧ q.length = r.2.length) → Nums l → c + l.length ≤ 4096 → (textP l).length ≤ f → parseF f (textP l) c = .ok l := by
  intro l
  induction l with
  | nil => intro f c _ _ _ _; rw [show textP [] = [] from rfl, parseF_nil]
  | cons r l ih =>
    intro f c ha hn hc hf
    obtain ⟨op, A⟩ := r
    obtain ⟨q, hq, hl⟩ := ha (op, A) (by simp)
    have hA := hn (op, A) (by simp)
    simp only at hq hl hA
    have e : textP ((op, A) :: l) = ((nameT op).1.data.toList ++ numsP A) ++ 10 :: textP l := by
      unfold textP recP; simp
    have h10 : (10 : UInt8) ∉ (nameT op).1.data.toList ++ numsP A := by
      intro hm
      rcases List.mem_append.1 hm with hm | hm
      · exact (name_op (ask_op hq)).2.2 hm
      · unfold numsP at hm
        obtain ⟨x, _, hx⟩ := List.mem_flatMap.1 hm
        rcases List.mem_cons.1 hx with hx | hx
        · exact absurd hx (by decide)
        · exact (itoa_no x).2 hx
    have hcut := cut1_mk 10 ((nameT op).1.data.toList ++ numsP A) (textP l) h10
    rw [← e] at hcut
    have hne : textP ((op, A) :: l) ≠ [] := by rw [e]; simp
    have hlen : (textP l).length < (textP ((op, A) :: l)).length := by rw [e]; simp; omega
    obtain ⟨f, rfl⟩ : ∃ g, f = g + 1 := ⟨f - 1, by omega⟩
    have hlb := line_back hq hl hA
    rw [List.length_cons] at hc
    rw [parseF_step hne (by omega) (by rw [hcut]) (by rw [hcut]; exact hlb), hcut]
    simp only
    rw [ih f (c + 1) (fun r hr => ha r (by simp [hr])) (fun r hr => hn r (by simp [hr])) (by omega) (by omega)]
/-- A text comes back from its commands. -/
theorem text_parse : ∀ (f : Nat) (S : List UInt8) (c : Nat) (m : List R), S.length ≤ f → parseF f S c = .ok m → textP m = S ∧ Nums m ∧ (∀ r ∈ m, ∃ q, askT r.1 = some q ∧ q.length = r.2.length) ∧ m.length ≤ S.length := by
  intro f
  induction f with
  | zero =>
    intro S c m h1 h
    obtain rfl := List.eq_nil_of_length_eq_zero (Nat.le_zero.1 h1)
    rw [parseF_nil] at h
    injection h with h
    subst h
    exact ⟨rfl, fun r hr => (by cases hr), fun r hr => (by cases hr), Nat.le_refl _⟩
  | succ f ih =>
    intro S c m h1 h
    by_cases hl : S = []
    · subst hl
      rw [parseF_nil] at h
      injection h with h
      subst h
      exact ⟨rfl, fun r hr => (by cases hr), fun r hr => (by cases hr), Nat.le_refl _⟩
    · by_cases hc : c = 4096
      · rw [parseF_full hl hc] at h; cases h
      · cases h2 : (cut1 10 S).2.2 with
        | false => rw [parseF_open hl hc h2] at h; cases h
        | true =>
          have hlt := (cut1_len 10 S).2.2.1 h2
          obtain ⟨e1, e2⟩ := cut1_yes 10 S h2
          cases he : lineT (cut1 10 S).1 with
          | error e => rw [parseF_bad hl hc h2 he] at h; cases h
          | ok r =>
            rw [parseF_step hl hc h2 he] at h
            cases hr : parseF f (cut1 10 S).2.1 (c + 1) with
            | error p => rw [hr] at h; cases h
            | ok m' =>
              rw [hr] at h
              injection h with h
              subst h
              obtain ⟨op, A⟩ := r
              obtain ⟨b1, b2, b3⟩ := back_line he
              obtain ⟨t1, t2, t3, t4⟩ := ih _ _ _ (by omega) hr
              refine ⟨?_, ?_, ?_, by rw [List.length_cons]; omega⟩
              · conv => rhs; rw [e1, b1, ← t1]
                unfold textP recP
                simp
              · intro r hr
                rcases List.mem_cons.1 hr with rfl | hr
                · exact b2
                · exact t2 r hr
              · intro r hr
                rcases List.mem_cons.1 hr with rfl | hr
                · exact b3
                · exact t3 r hr
theorem putF_of : ∀ (l : List R) (acc : List Int), (∀ r ∈ l, ∃ q, askT r.1 = some q ∧ q.length = r.2.length) → ∃ a, putF l acc = .ok a := by
  intro l
  induction l with
  | nil => intro acc _; exact ⟨acc, rfl⟩
  | cons r l ih =>
    intro acc h
    obtain ⟨op, A⟩ := r
    obtain ⟨q, hq, hl⟩ := h (op, A) (by simp)
    rw [putF_cons_ok hq hl]
    exact ih _ (fun r hr => h r (by simp [hr]))
theorem putT_of {l : List R} (hl : l.length ≤ 4096) (h : ∀ r ∈ l, ∃ q, askT r.1 = some q ∧ q.length = r.2.length) : ∃ a, putT l = .ok a := by
  unfold putT
  rw [if_neg (by omega)]
  exact putF_of l [] h
end Go.Proofs.YtaklnijmcidpkaaDoor
