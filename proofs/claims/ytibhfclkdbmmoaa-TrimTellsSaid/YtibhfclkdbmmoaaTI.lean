/- Plain and general laws for the document's trimming: rows of parts, the greatest of them, two rows that grow side by side. No condition beyond what each theorem states. By an AI agent. -/
import Derived.Test.YtibhfclkdbmmoaaTB
import Derived.Test.YtibhfclkdbmmoaaNM
set_option linter.unusedVariables false
set_option linter.unusedSimpArgs false
namespace Go.Proofs.Ytibhfclkdbmmoaa
open Go.RowKit
/-- A row of parts. -/
def cvs (l : List (Int × Int)) : List Value := l.flatMap fun x => [.int .i64 x.1, .int .i64 x.2]
theorem cvs_append (l m : List (Int × Int)) : cvs (l ++ m) = cvs l ++ cvs m := by simp [cvs]
theorem cvs_len (l : List (Int × Int)) : (cvs l).length = l.length * 2 := by
  induction l with
  | nil => rfl
  | cons x l ih => simp only [cvs, List.flatMap_cons, List.length_append] at ih ⊢; simp only [ih, List.length_cons, List.length_nil]; omega
theorem cvs_one (l : List (Int × Int)) : ∀ u ∈ cvs l, u.oneCell' = true := by
  intro u hu
  obtain ⟨s, _, hs⟩ := List.mem_flatMap.1 hu
  simp only [List.mem_cons, List.not_mem_nil, or_false] at hs
  rcases hs with rfl | rfl <;> rfl
theorem cvs_get {l : List (Int × Int)} {j : Nat} {x : Int × Int} (h : l[j]? = some x) : (cvs l)[j * 2]? = some (.int .i64 x.1) ∧ (cvs l)[j * 2 + 1]? = some (.int .i64 x.2) := by
  induction l generalizing j with
  | nil => simp at h
  | cons t l ih =>
    cases j with
    | zero => simp at h; subst h; exact ⟨rfl, rfl⟩
    | succ j =>
      have := ih (j := j) (by simpa using h)
      have e1 : (j + 1) * 2 = j * 2 + 2 := by omega
      rw [e1]
      simpa [cvs] using this
theorem cut_at {w : World} {b off n cap j : Nat} {l : List (Int × Int)} {x : Int × Int} (h : Rd w 2 (some ⟨b, off, none⟩) n cap (cvs l)) (hs : l[j]? = some x) :
    w.cell? ⟨b, off + j * 2, none⟩ = some (.int .i64 x.1) ∧ w.cell? ⟨b, off + j * 2 + 1, none⟩ = some (.int .i64 x.2) :=
  ⟨h.get rfl (cvs_get hs).1, h.get rfl (cvs_get hs).2⟩
theorem cvs_rd {w : World} {a : Option Addr} {n cap : Nat} {l : List (Int × Int)} (h : Rd w 2 a n cap (cvs l)) : l.length = n := by
  have := h.len
  rw [cvs_len] at this
  omega
/-- A row that grows stands in its own block, or in a new one. -/
theorem append_block {P : Program} {w w' : World} {v v' : Value} (base : Nat) (t ty e : TypeId) (z : Value) (size bytes : Nat) (ht : P.underlying t = some (.slice e))
    (hi : (P.info? e).map (fun i => (i.zero, i.size, i.bytes)) = some (some z, size, bytes)) (hzs : z.cells.size = size) (hsz : 0 < size)
    (n : Nat) (xs : List Value) (hown : w.ownsRow base e size v n xs) (a : Addr) (m c : Nat) (news : List Value) (hl : news.length = m * size) (hnews : ∀ j u, news[j]? = some u → w.cell? (a.add j) = some u)
    (h1 : ∀ u ∈ news, u.oneCell' = true) (hm0 : 0 < m) (hbytes : (n + m) * bytes ≤ 140737488355328) (hpos : 0 < bytes)
    (hrun : (Builtin.append_ #[t, t] ty #[v, .slice (some a) m c]).run P w = .ok v' w') : ∀ g, v'.ownBlock = some g → v.ownBlock = some g ∨ w.heap.size ≤ g := by
  obtain ⟨i, hi0, hz, hs1, hb1⟩ := info_parts hi
  subst hs1
  have hnm : n + m ≤ (n + m) * bytes := Nat.le_mul_of_pos_right _ hpos
  rcases hown.2 with ⟨rfl, rfl⟩ | ⟨g, cap, cur, rfl, hbg, hg, hnc, hcm, hcs, htake⟩
  · have hr := run_append_nil (P := P) w t ty e i z ht hi0 hz a m c news hl hnews (by omega) (by omega) (by rw [hb1]; have hb := hbytes; simp only [Nat.zero_add] at hb; omega)
    rw [hr] at hrun
    simp only [Result.ok.injEq] at hrun
    obtain ⟨rfl, -⟩ := hrun
    intro g hg
    simp [Value.ownBlock] at hg
    exact .inr (by omega)
  · by_cases hroom : n + m ≤ cap
    · have hfit : n * i.size + news.length ≤ cur.size := by rw [hl, hcs, ← Nat.add_mul]; exact Nat.mul_le_mul_right _ hroom
      have hr := run_append_room (P := P) w t ty e i ht hi0 g n cap cur hg a m c news hl hnews h1 hroom hfit
      rw [hr] at hrun
      simp only [Result.ok.injEq] at hrun
      obtain ⟨rfl, -⟩ := hrun
      exact fun g' hg' => .inl hg'
    · have holds : ∀ j u, xs[j]? = some u → w.cell? ((⟨g, 0, none⟩ : Addr).add j) = some u := hown.cells (g := g) rfl
      have hr := run_append_grow (P := P) w t ty e i z ht hi0 hz ⟨g, 0, none⟩ n cap xs hown.1 holds a m c news hl hnews (by omega) (by omega) (by rw [hb1]; exact growslice_fits (by omega) hbytes)
      rw [hr] at hrun
      simp only [Result.ok.injEq] at hrun
      obtain ⟨rfl, -⟩ := hrun
      intro g' hg'
      simp [Value.ownBlock] at hg'
      exact .inr (by omega)
theorem wpList_append_blk {P : Program} {w : World} {ops : Array Oper} {rest : List Oper} {o : Oper} {a : Act} {Q : Exit → Act → World → Prop} (hgd : o.guard = none) (s x : Operand) (t : TypeId)
    (ho : o.op = .call { callee := .builtin .append, args := #[s, x], argTypes := #[t, t] }) (base : Nat) (e : TypeId) (z : Value) (size bytes : Nat) (ht : P.underlying t = some (.slice e))
    (hi : (P.info? e).map (fun i => (i.zero, i.size, i.bytes)) = some (some z, size, bytes)) (hzs : z.cells.size = size) (hsz : 0 < size)
    (v : Value) (n : Nat) (xs : List Value) (hs : a.eval s = v) (hown : w.ownsRow base e size v n xs) (ad : Addr) (m c : Nat) (news : List Value) (hx : a.eval x = .slice (some ad) m c)
    (hl : news.length = m * size) (hnews : ∀ j u, news[j]? = some u → w.cell? (ad.add j) = some u) (h1 : ∀ u ∈ news, u.oneCell' = true) (hm0 : 0 < m) (hbytes : (n + m) * bytes ≤ 140737488355328) (hpos : 0 < bytes) (hbase : base ≤ w.heap.size)
    (h : ∀ v' w', w'.ownsRow base e size v' (n + m) (xs ++ news) → w.grownBy w' v.ownBlock → (∀ g, v'.ownBlock = some g → v.ownBlock = some g ∨ w.heap.size ≤ g) → wpList P ops Q rest (a.put o.dst v') w') : wpList P ops Q (o :: rest) a w :=
  wpList_plain hgd fun _ hK => by
    obtain ⟨i0, hi0, hz, hs1, hb1⟩ := info_parts hi
    have hnm : n + m ≤ (n + m) * bytes := Nat.le_mul_of_pos_right _ hpos
    obtain ⟨v', w', hr, h2, h3, h4⟩ := run_append_own (P := P) w base t o.type e i0 z size bytes ht hi0 hz hs1 hb1 hzs hsz v n xs hown ad m c news hl hnews h1 (by unfold maxLen; omega) hbytes hbase
    unfold Oper.wp execOp
    simp only [ho, resolve, invoke, builtin, Sem.run_bind, Sem.run_pure, Result.andThen_ok, List.map_toArray, List.map_cons, List.map_nil, hs, hx, hr]
    exact hK _ _ (h v' w' h2 h3 (append_block base t o.type e z size bytes ht hi hzs hsz n xs hown ad m c news hl hnews h1 hm0 hbytes hpos hr))
/-- The parts at which a line comes in, goes out. -/
def insL (m : List (Int × Int)) : List (Int × Int) := (m.filter fun c => decide (ins c)).map inCut
def outsL (m : List (Int × Int)) : List (Int × Int) := (m.filter fun c => decide (outs c)).map outCut
theorem mem_insL {m : List (Int × Int)} {x : Int × Int} : x ∈ insL m ↔ ∃ c ∈ m, ins c ∧ x = inCut c := by
  simp only [insL, List.mem_map, List.mem_filter, decide_eq_true_eq]
  exact ⟨fun ⟨c, ⟨h1, h2⟩, h3⟩ => ⟨c, h1, h2, h3.symm⟩, fun ⟨c, h1, h2, h3⟩ => ⟨c, ⟨h1, h2⟩, h3.symm⟩⟩
theorem mem_outsL {m : List (Int × Int)} {x : Int × Int} : x ∈ outsL m ↔ ∃ c ∈ m, outs c ∧ x = outCut c := by
  simp only [outsL, List.mem_map, List.mem_filter, decide_eq_true_eq]
  exact ⟨fun ⟨c, ⟨h1, h2⟩, h3⟩ => ⟨c, h1, h2, h3.symm⟩, fun ⟨c, h1, h2, h3⟩ => ⟨c, ⟨h1, h2⟩, h3.symm⟩⟩
theorem insL_snoc (m : List (Int × Int)) (c : Int × Int) : insL (m ++ [c]) = insL m ++ if ins c then [inCut c] else [] := by
  by_cases h : ins c <;> simp [insL, List.filter_append, h]
theorem outsL_snoc (m : List (Int × Int)) (c : Int × Int) : outsL (m ++ [c]) = outsL m ++ if outs c then [outCut c] else [] := by
  by_cases h : outs c <;> simp [outsL, List.filter_append, h]
theorem first_ex (m : List (Int × Int)) : ∃ f, First m f := by
  have h : ∀ n, ∀ l : List (Int × Int), l.length = n → ∃ f, First l f := by
    intro n
    induction n with
    | zero => intro l hl; rw [List.length_eq_zero_iff.1 hl]; exact ⟨_, first_nil⟩
    | succ n ih =>
      intro l hl
      have hne : l ≠ [] := by intro h; rw [h] at hl; simp at hl
      obtain ⟨f, hf⟩ := ih l.dropLast (by simp [hl])
      have e := List.dropLast_concat_getLast hne
      rw [← e]
      by_cases hi : ins (l.getLast hne)
      · by_cases h0 : f.2 = 0
        · exact ⟨_, hf.move hi (.inl h0)⟩
        · by_cases hl2 : less f (inCut (l.getLast hne))
          · exact ⟨_, hf.move hi (.inr hl2)⟩
          · exact ⟨_, hf.stay h0 hl2⟩
      · exact ⟨_, hf.same hi⟩
  exact h _ m rfl
theorem last_ex (m : List (Int × Int)) : ∃ f, Last m f := by
  have h : ∀ n, ∀ l : List (Int × Int), l.length = n → ∃ f, Last l f := by
    intro n
    induction n with
    | zero => intro l hl; rw [List.length_eq_zero_iff.1 hl]; exact ⟨_, last_nil⟩
    | succ n ih =>
      intro l hl
      have hne : l ≠ [] := by intro h; rw [h] at hl; simp at hl
      obtain ⟨f, hf⟩ := ih l.dropLast (by simp [hl])
      have e := List.dropLast_concat_getLast hne
      rw [← e]
      by_cases hi : outs (l.getLast hne)
      · by_cases h0 : f.2 = 0
        · exact ⟨_, hf.move hi (.inl h0)⟩
        · by_cases hl2 : less (outCut (l.getLast hne)) f
          · exact ⟨_, hf.move hi (.inr hl2)⟩
          · exact ⟨_, hf.stay h0 hl2⟩
      · exact ⟨_, hf.same hi⟩
  exact h _ m rfl
/-- One that no other one beats. -/
def Best (R : Int × Int → Int × Int → Prop) (I : List (Int × Int)) (x : Int × Int) : Prop := ∀ y ∈ I, ¬ R x y
/-- Which vertex has been picked, i parts being looked at. -/
def Pick (R : Int × Int → Int × Int → Prop) (a b e0 : Vx) (I : List (Int × Int)) (i : Nat) (p : Vx) : Prop :=
  (p = e0 ∧ ∀ k x, k < i → I[k]? = some x → ¬ Best R I x) ∨ ∃ k x, k < i ∧ I[k]? = some x ∧ Best R I x ∧ p = at_ a b x.1 x.2
theorem pick_zero (R : Int × Int → Int × Int → Prop) (a b e0 : Vx) (I : List (Int × Int)) : Pick R a b e0 I 0 e0 := .inl ⟨rfl, fun k x h => by omega⟩
theorem pick_yes {R : Int × Int → Int × Int → Prop} {a b e0 : Vx} {I : List (Int × Int)} {i : Nat} {x : Int × Int} (hx : I[i]? = some x) (hb : Best R I x) : Pick R a b e0 I (i + 1) (at_ a b x.1 x.2) := .inr ⟨i, x, by omega, hx, hb, rfl⟩
theorem pick_no {R : Int × Int → Int × Int → Prop} {a b e0 : Vx} {I : List (Int × Int)} {i : Nat} {x : Int × Int} {p : Vx} (h : Pick R a b e0 I i p) (hx : I[i]? = some x) (hb : ¬ Best R I x) : Pick R a b e0 I (i + 1) p := by
  rcases h with ⟨rfl, h⟩ | ⟨k, y, hk, hy, hby, rfl⟩
  · refine .inl ⟨rfl, fun k y hk hy => ?_⟩
    rcases Nat.lt_or_ge k i with h1 | h1
    · exact h k y h1 hy
    · obtain rfl : k = i := by omega
      rw [hx] at hy
      injection hy with hy
      rw [← hy]; exact hb
  · exact .inr ⟨k, y, by omega, hy, hby, rfl⟩
theorem pick_first {m : List (Int × Int)} {a b p : Vx} (h : Pick less a b a (insL m) (insL m).length p) : ∃ f, First m f ∧ p = endP a b f := by
  obtain ⟨f, hf⟩ := first_ex m
  rcases h with ⟨rfl, h⟩ | ⟨k, x, hk, hx, hb, rfl⟩
  · rcases hf with ⟨rfl, h0⟩ | ⟨c, hc, hi, rfl, h0⟩
    · exact ⟨(0, 0), .inl ⟨rfl, h0⟩, rfl⟩
    · exfalso
      have hm : inCut c ∈ insL m := mem_insL.2 ⟨c, hc, hi, rfl⟩
      obtain ⟨k, hk, hx⟩ := List.getElem_of_mem hm
      refine h k (inCut c) hk (by rw [List.getElem?_eq_getElem hk, hx]) fun y hy => ?_
      obtain ⟨c', hc', hi', rfl⟩ := mem_insL.1 hy
      exact h0 c' hc' hi'
  · obtain ⟨c, hc, hi, rfl⟩ := mem_insL.1 (List.mem_of_getElem? hx)
    refine ⟨inCut c, .inr ⟨c, hc, hi, rfl, fun c' hc' hi' => hb _ (mem_insL.2 ⟨c', hc', hi', rfl⟩)⟩, ?_⟩
    unfold endP
    rw [if_pos (inCut_pos hi)]
theorem pick_last {m : List (Int × Int)} {a b p : Vx} (h : Pick (fun x y => less y x) a b b (outsL m) (outsL m).length p) : ∃ f, Last m f ∧ p = endQ a b f := by
  obtain ⟨f, hf⟩ := last_ex m
  rcases h with ⟨rfl, h⟩ | ⟨k, x, hk, hx, hb, rfl⟩
  · rcases hf with ⟨rfl, h0⟩ | ⟨c, hc, hi, rfl, h0⟩
    · exact ⟨(0, 0), .inl ⟨rfl, h0⟩, rfl⟩
    · exfalso
      have hm : outCut c ∈ outsL m := mem_outsL.2 ⟨c, hc, hi, rfl⟩
      obtain ⟨k, hk, hx⟩ := List.getElem_of_mem hm
      refine h k (outCut c) hk (by rw [List.getElem?_eq_getElem hk, hx]) fun y hy => ?_
      obtain ⟨c', hc', hi', rfl⟩ := mem_outsL.1 hy
      exact h0 c' hc' hi'
  · obtain ⟨c, hc, hi, rfl⟩ := mem_outsL.1 (List.mem_of_getElem? hx)
    refine ⟨outCut c, .inr ⟨c, hc, hi, rfl, fun c' hc' hi' => hb _ (mem_outsL.2 ⟨c', hc', hi', rfl⟩)⟩, ?_⟩
    unfold endQ
    rw [if_pos (outCut_pos hi)]
theorem left_all {m : List (Int × Int)} {f g : Int × Int} (hg : ∀ c ∈ m, ¬ gone c) (hf : First m f) (hl : Last m g) (hc : ∀ x ∈ insL m, ∀ y ∈ outsL m, ¬ less y x) : Left m f g := by
  refine ⟨hg, hf, hl, fun h1 h2 => ?_⟩
  rcases hf with ⟨rfl, _⟩ | ⟨c, hc1, hi, rfl, _⟩
  · simp at h1
  rcases hl with ⟨rfl, _⟩ | ⟨c', hc', ho, rfl, _⟩
  · simp at h2
  exact hc _ (mem_insL.2 ⟨c, hc1, hi, rfl⟩) _ (mem_outsL.2 ⟨c', hc', ho, rfl⟩)
theorem bad_pair {m : List (Int × Int)} {x y : Int × Int} (hx : x ∈ insL m) (hy : y ∈ outsL m) (h : less y x) : Bad m := by
  obtain ⟨c, hc, hi, rfl⟩ := mem_insL.1 hx
  obtain ⟨c', hc', ho, rfl⟩ := mem_outsL.1 hy
  exact .inr ⟨c, hc, c', hc', hi, ho, h⟩
theorem insL_may {m : List (Int × Int)} {a b : Vx} (ha : a.Fit) (hb : b.Fit) {x : Int × Int} (h : x ∈ insL m) : May a b x.1 x.2 := by
  obtain ⟨c, hc, hi, rfl⟩ := mem_insL.1 h
  obtain ⟨h1, h2⟩ := hi
  refine ⟨ha, hb, ?_, ?_, ?_⟩ <;> simp only [inCut] <;> omega
theorem outsL_may {m : List (Int × Int)} {a b : Vx} (ha : a.Fit) (hb : b.Fit) {x : Int × Int} (h : x ∈ outsL m) : May a b x.1 x.2 := by
  obtain ⟨c, hc, hi, rfl⟩ := mem_outsL.1 h
  obtain ⟨h1, h2⟩ := hi
  refine ⟨ha, hb, ?_, ?_, ?_⟩ <;> simp only [outCut] <;> omega
theorem insL_bound {m : List (Int × Int)} (hb : ∀ c ∈ m, inMost c.1 9007199254740992 ∧ inMost c.2 9007199254740992) {x : Int × Int} (h : x ∈ insL m) : I64 x.1 ∧ I64 x.2 := by
  obtain ⟨c, hc, hi, rfl⟩ := mem_insL.1 h
  obtain ⟨⟨h1, h2⟩, h3, h4⟩ := hb c hc
  unfold inCut I64
  simp only
  omega
theorem outsL_bound {m : List (Int × Int)} (hb : ∀ c ∈ m, inMost c.1 9007199254740992 ∧ inMost c.2 9007199254740992) {x : Int × Int} (h : x ∈ outsL m) : I64 x.1 ∧ I64 x.2 := by
  obtain ⟨c, hc, hi, rfl⟩ := mem_outsL.1 h
  obtain ⟨⟨h1, h2⟩, h3, h4⟩ := hb c hc
  unfold outCut I64
  simp only
  omega
theorem osgn_pos (x y : Int) : decide (osgn (x - y) > 0) = decide (y < x) := by
  unfold osgn
  by_cases h : x - y < 0
  · simp [h]; omega
  · by_cases h2 : 0 < x - y
    · simp [h, h2]; omega
    · simp [h, h2]; omega
set_option maxHeartbeats 2000000 in
theorem above_cells (x1 x2 y1 y2 A B s : Int) (w : World) (r : Bool)
    (c1 : ∀ W, Calls Try.prog 44 #[.int .i64 x1, .int .i64 y2] W fun e w' => e = .returned (I A) ∧ Ext W w')
    (c2 : ∀ W, Calls Try.prog 44 #[.int .i64 y1, .int .i64 x2] W fun e w' => e = .returned (I B) ∧ Ext W w')
    (c3 : ∀ W, Calls Try.prog 52 #[I A, I B] W fun e w' => e = .returned (.int .i64 s) ∧ Ext W w') (hs : decide (s > 0) = r) :
    Calls Try.prog 32 #[.agg #[.int .i64 x1, .int .i64 x2], .agg #[.int .i64 y1, .int .i64 y2]] w fun e w' => e = .returned (.bool r) ∧ Ext w w' := by
  have C1 := Lib.hid c1; have C2 := Lib.hid c2; have C3 := Lib.hid c3
  clear c1 c2 c3
  go_enter Try.func32, Try.ntmps32
  go_upto_region 1 with fail
  refine wp_region_later (by kernel_rfl) (by kernel_rfl) ?_
  repeat (go_big_quiet_step ((first | (go_at_call 44; with_reducible exact Calls.later _ (C1.out _)) | (go_at_call 44; with_reducible exact Calls.later _ (C2.out _)) | (go_at_call 52; with_reducible exact Calls.later _ (C3.out _)))))
  refine wpQuiet_nil ?_
  intro x
  go_wp2_with fail
  go_ret
  exact ⟨rfl, by (repeat (first | with_reducible exact Ext.refl _ | with_reducible assumption | with_reducible refine Ext.alloc ?_ _ | with_reducible refine Ext.drew ?_ | with_reducible refine Ext.drewN ?_ _ | with_reducible refine Ext.later ?_ _ | (with_reducible refine Ext.setCell ?_ _ ?hp; case hp => first | (simp; done) | (simp; omega) | omega)))⟩
theorem prod_i64 {p q : Int} (hp : I64 p) (hq : I64 q) : -170141183460469231731687303715884105728 ≤ p * q ∧ p * q < 170141183460469231731687303715884105728 := by
  obtain ⟨h1, h2⟩ := hp
  obtain ⟨h3, h4⟩ := hq
  have hb : p.natAbs * q.natAbs ≤ 9223372036854775808 * 9223372036854775808 := Nat.mul_le_mul (by omega) (by omega)
  rw [← Int.natAbs_mul] at hb
  omega
/-- Which part is greater. -/
theorem rabove_any (x y : Int × Int) (w : World) (hx1 : I64 x.1) (hx2 : I64 x.2) (hy1 : I64 y.1) (hy2 : I64 y.2) :
    Calls Try.prog 32 #[cutV x, cutV y] w fun e w' => e = .returned (.bool (decide (less y x))) ∧ Ext w w' := by
  have p1 := prod_i64 hx1 hy2
  have p2 := prod_i64 hy1 hx2
  exact above_cells x.1 x.2 y.1 y.2 (x.1 * y.2) (y.1 * x.2) _ w _ (fun W => rmul_any x.1 y.2 W hx1.1 hx1.2 hy2.1 hy2.2 p1.1 p1.2) (fun W => rmul_any y.1 x.2 W hy1.1 hy1.2 hx2.1 hx2.2 p2.1 p2.2) (fun W => rcmp_any (x.1 * y.2) (y.1 * x.2) W p1.1 p1.2 p2.1 p2.2) (osgn_pos _ _)
end Go.Proofs.Ytibhfclkdbmmoaa
