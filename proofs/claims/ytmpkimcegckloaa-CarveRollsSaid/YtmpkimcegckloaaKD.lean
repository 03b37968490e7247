/- Proof text: the law CarveRolls. By an AI agent. No condition beyond what each theorem states. -/
import Derived.Test.YtmpkimcegckloaaKC
set_option linter.unusedVariables false
set_option linter.unusedSimpArgs false
namespace Go.Proofs.Ytmpkimcegckloaa
open Go.RowKit
/-- The slots of the region that rolls a polygon and carves it. -/
def DR : List Nat := [43, 44, 45, 46, 47, 48, 49, 50, 51, 52, 53, 54, 55, 56, 57, 58, 59, 60, 61, 62, 42, 63, 64, 65, 10, 11, 12]
theorem run_part1 {P : Program} {t e : TypeId} {size : Nat} (hu : P.underlying t = some (.slice e)) (hs : (P.info? e).map (·.size) = some size) (a : Option Addr) (n cap : Nat) (L : Int) (lo : Nat) (hL : L = lo) (h1 : lo ≤ n) (h2 : n ≤ cap) (w : World) :
    (Instr.slice t (.slice a n cap) (some (.int .i64 L)) none none).run P w = .ok (.slice (if cap = lo then a else a.map (·.add (lo * size))) (n - lo) (cap - lo)) w := by
  subst hL
  obtain ⟨i, hi1, hi2⟩ := Option.map_eq_some_iff.1 hs
  simp [Instr.slice, run_underlying hu, Instr.sliceBounds, run_sliceBound, h1, h2, sizeOf, typeInfo, hi1, hi2]
theorem part1_ex {P : Program} {t e : TypeId} {size : Nat} (hu : P.underlying t = some (.slice e)) (hs : (P.info? e).map (·.size) = some size) {W : World} {a : Option Addr} {n cap : Nat} {xs : List Value}
    (h : Rd W size a n cap xs) (L : Int) (lo m c : Nat) (hL : L = lo) (h1 : lo ≤ n) (hm : m = n - lo) (hc : c = cap - lo) :
    ∃ a', (∀ w, (Instr.slice t (.slice a n cap) (some (.int .i64 L)) none none).run P w = .ok (.slice a' m c) w) ∧ Rd W size a' m c (xs.drop (lo * size)) := by
  subst hm; subst hc
  have h2 := part_rd h lo n cap h1 (Nat.le_refl _) h.le (Nat.le_refl _)
  rw [List.take_of_length_le (by rw [List.length_drop, h.len, Nat.sub_mul]; exact Nat.le_refl _)] at h2
  exact ⟨_, fun w => run_part1 hu hs a n cap L lo hL h1 h.le w, h2⟩
theorem rolled_may {lt : List Vx} {v0 : Vx} {et : List Bool} {x0 : Bool} {s : List Sd} : MayC (v0 :: lt) (x0 :: et) s ↔ MayC (lt ++ [v0]) (et ++ [x0]) s := by
  unfold MayC
  simp only [List.length_cons, List.length_append, List.length_nil, Nat.zero_add, List.mem_cons, List.mem_append, List.not_mem_nil, or_false]
  constructor
  · rintro ⟨h1, h2, h3, h4, h5, h6⟩
    exact ⟨h1, h2, h3, h4, fun v hv => h5 v hv.symm, h6⟩
  · rintro ⟨h1, h2, h3, h4, h5, h6⟩
    exact ⟨h1, h2, h3, h4, fun v hv => h5 v hv.symm, h6⟩
/-- What comes of a carving. -/
def CarveP (L : List (Vx × Bool)) (N : Nat) (g : Int) (W : World) (x : Ending) (w' : World) : Prop :=
  ∃ a c b d, x = .returned (.tuple #[.slice a N c, .slice b N d, .int .i64 g]) ∧ Rd w' 8 a N c (vrows (L.map (·.1))) ∧ Rd w' 1 b N d (brows (L.map (·.2))) ∧ Ext W w'
def PostY (L : List (Vx × Bool)) (N : Nat) (g : Int) (v : Value) (x : World) : Prop :=
  ∃ a c b d, v = .tuple #[.slice a N c, .slice b N d, .int .i64 g] ∧ Rd x 8 a N c (vrows (L.map (·.1))) ∧ Rd x 1 b N d (brows (L.map (·.2)))
theorem run_part0 {P : Program} {t e : TypeId} {size : Nat} (hu : P.underlying t = some (.slice e)) (hs : (P.info? e).map (·.size) = some size) (a : Option Addr) (n cap : Nat) (H : Int) (hi : Nat) (hH : H = hi) (h1 : hi ≤ cap) (w : World) :
    (Instr.slice t (.slice a n cap) none (some (.int .i64 H)) none).run P w = .ok (.slice (if cap = 0 then a else a.map (·.add (0 * size))) (hi - 0) (cap - 0)) w := by
  subst hH
  obtain ⟨i, hi1, hi2⟩ := Option.map_eq_some_iff.1 hs
  simp [Instr.slice, run_underlying hu, Instr.sliceBounds, run_sliceBound, h1, sizeOf, typeInfo, hi1, hi2]
theorem part0_ex {P : Program} {t e : TypeId} {size : Nat} (hu : P.underlying t = some (.slice e)) (hs : (P.info? e).map (·.size) = some size) {W : World} {a : Option Addr} {n cap : Nat} {xs : List Value}
    (h : Rd W size a n cap xs) (H : Int) (hi : Nat) (hH : H = hi) (h1 : hi ≤ n) :
    ∃ a' c, (∀ w, (Instr.slice t (.slice a n cap) none (some (.int .i64 H)) none).run P w = .ok (.slice a' hi c) w) ∧ Rd W size a' hi c (xs.take (hi * size)) := by
  have h2 := part_rd h 0 hi cap (Nat.zero_le _) h1 (Nat.le_trans h1 h.le) (Nat.le_refl _)
  rw [Nat.zero_mul, List.drop_zero, Nat.sub_zero] at h2
  refine ⟨_, _, fun w => ?_, h2⟩
  have := run_part0 hu hs a n cap H hi hH (Nat.le_trans h1 h.le) w
  rw [Nat.zero_mul, Nat.sub_zero] at this
  exact this
theorem vrows_parts (L : List (Vx × Bool)) (q : Nat) : (vrows (L.map (·.1))).drop (q * 8) ++ (vrows (L.map (·.1))).take (q * 8) = vrows ((L.drop q ++ L.take q).map (·.1)) := by
  rw [List.map_append, vrows_append, List.map_drop, List.map_take]
  generalize L.map (·.1) = m
  have hs : ∀ (m : List Vx) (q : Nat), (vrows m).drop (q * 8) = vrows (m.drop q) ∧ (vrows m).take (q * 8) = vrows (m.take q) := by
    intro m
    induction m with
    | nil => intro q; simp [vrows]
    | cons v m ih =>
      intro q
      cases q with
      | zero => simp [vrows]
      | succ q =>
        have h8 : (vrows (v :: m)) = v.rl ++ vrows m := rfl
        have hl : v.rl.length = 8 := rfl
        rw [h8, show (q + 1) * 8 = v.rl.length + q * 8 by rw [hl]; omega, List.drop_length_add_append, List.take_length_add_append, (ih q).1, (ih q).2]
        exact ⟨rfl, rfl⟩
  rw [(hs m q).1, (hs m q).2]
theorem brows_parts (L : List (Vx × Bool)) (q : Nat) : (brows (L.map (·.2))).drop (q * 1) ++ (brows (L.map (·.2))).take (q * 1) = brows ((L.drop q ++ L.take q).map (·.2)) := by
  rw [Nat.mul_one, List.map_append, brows_append, List.map_drop, List.map_take]
  generalize L.map (·.2) = m
  have h : ∀ m : List Bool, brows m = m.map .bool := fun m => by
    induction m with
    | nil => rfl
    | cons b m ih => show Value.bool b :: brows m = _; rw [ih]; rfl
  rw [h, h, h, List.map_drop, List.map_take]
theorem pair_eq {α β : Type} : ∀ {l m : List (α × β)}, l.map (·.1) = m.map (·.1) → l.map (·.2) = m.map (·.2) → l = m
  | [], [], _, _ => rfl
  | [], _ :: _, h, _ => by simp at h
  | _ :: _, [], h, _ => by simp at h
  | (a, b) :: l, (c, d) :: m, h1, h2 => by
    simp only [List.map_cons, List.cons.injEq] at h1 h2
    rw [pair_eq h1.2 h2.2, h1.1, h2.1]
set_option maxRecDepth 100000 in
set_option maxHeartbeats 4000000 in
theorem rolls_core (lt : List Vx) (v0 : Vx) (et : List Bool) (x0 : Bool) (A B C : Option Addr) (n k ca cb cc : Nat) (w : World) (hA : Rd w 8 A n ca (vrows (v0 :: lt))) (hl : lt.length + 1 = n) (hB : Rd w 1 B n cb (brows (x0 :: et))) (he : et.length + 1 = n)
    (hsm : n ≤ 40 ∧ k ≤ 12) (L M : List (Vx × Bool)) (N : Nat) (gg : Int) (hroll : Rolled L M) (hN : L.length = N) (hN2 : N ≤ 131072)
    (ca1 : ∀ W, Ext w W → Calls Try.prog 31 #[.slice A n ca, .slice B n cb, .slice C k cc] W (CarveP L N gg W))
    (ca2 : ∀ W, Ext w W → ∀ a3 c3 a4 c4, Rd W 8 a3 (lt.length + 1) c3 (vrows lt ++ vrows [v0]) → Rd W 1 a4 (et.length + 1) c4 (brows et ++ brows [x0]) →
        Calls Try.prog 31 #[.slice a3 (lt.length + 1) c3, .slice a4 (et.length + 1) c4, .slice C k cc] W (CarveP M N gg W)) :
    Calls Try.prog 13 #[.slice A n ca, .slice B n cb, .slice C k cc] w fun x w' => x = .returned (.bool true) ∧ Ext w w' := by
  have CS := Lib.hid (small_yes A B C n n k ca cb cc w hsm.1 hsm.1 hsm.2)
  have HA := Lib.hid hA; have HB := Lib.hid hB
  have HL := Lib.hid hl; have HLE := Lib.hid he
  have CA1 := Lib.hid ca1; have CA2 := Lib.hid ca2; have HRO := Lib.hid hroll; have HN := Lib.hid hN
  have hNi : (N : Int) ≤ 131072 := by omega
  have hni : (n : Int) ≤ 40 := by omega
  have hpos : 0 < n := by omega
  obtain ⟨bA, oA, rfl, -, -⟩ := hA.at_ hpos
  obtain ⟨bB, oB, rfl, -, -⟩ := hB.at_ hpos
  clear hA hl hB he hsm ca1 ca2 hroll hN hN2
  go_enter Try.func13, Try.ntmps13
  go_wp2_with fail
  refine CS.out.mono ?_
  rintro x w1 ⟨rfl, hE⟩
  obtain ⟨x1, rfl⟩ := Later.mk' hE
  clear hE CS
  go_wp2_with fail
  refine (CA1.out _ x1.ext).mono ?_
  rintro x W1 ⟨a, c, b, d, rfl, h1, h2, hE⟩
  have HR1 := Lib.hid h1; have HR2 := Lib.hid h2
  have HE1 := Lib.hid (x1.ext.trans hE)
  have HAr := Lib.hid (HA.out.ext HE1.out); have HBr := Lib.hid (HB.out.ext HE1.out)
  clear h1 h2 hE HA HB CA1
  go_upto_region 4 with fail
  go_cut [10, 11, 12] from 42 to 65 (fun p q r wx => ∃ a2 c2 b2 d2, p = .slice a2 N c2 ∧ q = .slice b2 N d2 ∧ r = .int .i64 gg ∧ Hid (Rd wx 8 a2 N c2 (vrows (M.map (·.1))) ∧ Rd wx 1 b2 N d2 (brows (M.map (·.2)))) ∧ Ext W1 wx)
  case first =>
    obtain ⟨a1, r1, hr1⟩ := part1_ex Try.underlying48 size_vert HAr.out 1 1 lt.length (ca - 1) rfl (by omega) (by have := HL.out; omega) rfl
    obtain ⟨a2, r2, hr2⟩ := part1_ex Try.underlying49 size_bool HBr.out 1 1 et.length (cb - 1) rfl (by omega) (by have := HLE.out; omega) rfl
    have hr1x : Rd W1 8 a1 lt.length (ca - 1) (vrows lt) := by
      have h : (vrows (v0 :: lt)).drop (1 * 8) = vrows lt := by simp [vrows]
      rw [h] at hr1
      exact hr1
    have hr2x : Rd W1 1 a2 et.length (cb - 1) (brows et) := by
      have h : (brows (x0 :: et)).drop (1 * 1) = brows et := by simp [brows]
      rw [h] at hr2
      exact hr2
    have CALL : Hid (∀ x, Ext W1 x → ∀ a3 c3 a4 c4, Rd x 8 a3 (lt.length + 1) c3 (vrows lt ++ vrows [v0]) → Rd x 1 a4 (et.length + 1) c4 (brows et ++ brows [x0]) →
        Calls Try.prog 31 #[.slice a3 (lt.length + 1) c3, .slice a4 (et.length + 1) c4, .slice C k cc] x (CarveP M N gg x)) := Lib.hid (fun x hx => CA2.out x (HE1.out.trans hx))
    have HPost : Hid (∀ v x, PostY M N gg v x → ∃ p q r, v = .tuple #[p, q, r]) := Lib.hid (fun v x h => by obtain ⟨a, c, b, d, h, _⟩ := h; exact ⟨_, _, _, h⟩)
    refine wp_region_fill DR (fun st u x => RJ W1 lt et (.slice (some ⟨bA, oA, none⟩) n ca) (.slice a1 lt.length (ca - 1)) (.pointer (some ⟨bA, oA, none⟩)) (.slice (some ⟨bB, oB, none⟩) n cb) (.slice a2 et.length (cb - 1)) (.pointer (some ⟨bB, oB, none⟩)) (.slice C k cc) v0 x0 (PostY M N gg) st u x) (by kernel_rfl) (by kernel_rfl) ?_ ?_ ?_
    · rintro x rfl
      exact RJ.begin ((Ext.refl W1).drew)
    · intro A' hA' st u x i o ho hst hdep hcl hR
      have hlen : A'.length = 124 := by rw [hA']; rfl
      have h0 : A'.getD 0 undef = .slice (some ⟨bA, oA, none⟩) n ca := by rw [hA']; rfl
      have h1 : A'.getD 1 undef = .slice (some ⟨bB, oB, none⟩) n cb := by rw [hA']; rfl
      have h2 : A'.getD 2 undef = .slice C k cc := by rw [hA']; rfl
      clear hA'
      have hi : i < 27 := (Array.getElem?_eq_some_iff.1 ho).1
      rcases (by omega : i = 0 ∨ i = 1 ∨ i = 2 ∨ i = 3 ∨ i = 4 ∨ i = 5 ∨ i = 6 ∨ i = 7 ∨ i = 8 ∨ i = 9 ∨ i = 10 ∨ i = 11 ∨ i = 12 ∨ i = 13 ∨ i = 14 ∨ i = 15 ∨ i = 16 ∨ i = 17 ∨ i = 18 ∨ i = 19 ∨ i = 20 ∨ i = 21 ∨ i = 22 ∨ i = 23 ∨ i = 24 ∨ i = 25 ∨ i = 26) with rfl | rfl | rfl | rfl | rfl | rfl | rfl | rfl | rfl | rfl | rfl | rfl | rfl | rfl | rfl | rfl | rfl | rfl | rfl | rfl | rfl | rfl | rfl | rfl | rfl | rfl | rfl
      · obtain rfl : (⟨_, _, _, _, _, _⟩ : Oper) = o := Option.some.inj ho
        refine wpOp_plain rfl rfl ?_
        have n19 : st 19 = false := by
          cases h19 : st 19 with
          | false => rfl
          | true => exact not_both (hcl 3 _ rfl (hcl 8 _ rfl (hcl 12 _ rfl (hcl 17 _ rfl (hcl 19 _ rfl h19 ⟨17, .data⟩ (by simp) rfl) ⟨12, .data⟩ (by simp) rfl) ⟨8, .chain⟩ (by simp) rfl) ⟨3, .data⟩ (by simp) rfl) ⟨0, .data⟩ (by simp) rfl) hst
        refine wp_of_run (v := .slice (some ⟨x.heap.size, 0, none⟩) 0 0) (w' := x.alloc (.cells #[] 27)) ?run ⟨_, fillA_put rfl, hR.s0 hst n19 _ _ ?own ?fresh⟩
        case run => simp [execOp, go_sem]
        case own => exact World.ownsRow_lit x #[] 0 hR.ext.size (by unfold maxLen; omega) rfl
        case fresh => intro g hg; simp [Value.ownBlock] at hg; omega
      · obtain rfl : (⟨_, _, _, _, _, _⟩ : Oper) = o := Option.some.inj ho
        refine wpOp_plain rfl rfl ?_
        have v0_ : (⟨fillA A' DR u, []⟩ : Act).eval (.tmp 0) = _ := (fillA_out (by omega) rfl).trans h0
        refine wp_of_run (v := _) (w' := x) ?run ⟨_, fillA_put rfl, hR.s1⟩
        case run => have q := v0_; simp only [Act.eval, Array.getD_eq_getD_getElem?] at q; simp [execOp, q, Act.eval]
      · obtain rfl : (⟨_, _, _, _, _, _⟩ : Oper) = o := Option.some.inj ho
        refine wpOp_plain rfl rfl ?_
        have v44 : (⟨fillA A' DR u, []⟩ : Act).eval (.tmp 44) = .slice (some ⟨bA, oA, none⟩) n ca := (fillA_in (by omega) rfl).trans (hR.e44 (hdep ⟨1, .data⟩ (by simp) rfl))
        refine wp_of_run (v := _) (w' := x) ?run ⟨_, fillA_put rfl, hR.s2⟩
        case run => have q := v44; simp only [Act.eval, Array.getD_eq_getD_getElem?] at q; simp [execOp, q, Act.eval, r1, Instr.sliceAt]
      · obtain rfl : (⟨_, _, _, _, _, _⟩ : Oper) = o := Option.some.inj ho
        refine wpOp_plain rfl rfl ?_
        have h0_ : st 0 = true := hdep ⟨0, .data⟩ (by simp) rfl
        have vs : (⟨fillA A' DR u, []⟩ : Act).eval (.tmp 43) = u 43 := fillA_in (by omega) rfl
        have vx : (⟨fillA A' DR u, []⟩ : Act).eval (.tmp 45) = _ := (fillA_in (by omega) rfl).trans (hR.e45 (hdep ⟨2, .data⟩ (by simp) rfl))
        have hr := hr1x.ext hR.ext
        refine wp_append_rd (.tmp 43) (.tmp 45) 48 rfl W1.heap.size 27 _ 8 64 Try.underlying48 info_vert rfl (by decide) (u 43) 0 [] vs (hR.o43 h0_ hst) _ lt.length _ (vrows lt) vx hr (vrows_one lt) ?c3 (by decide) hR.ext.size ?_
        case c3 => have := HL.out; have := HLE.out; omega
        intro v' w' ho' hg'
        exact ⟨_, fillA_put rfl, hR.s3 h0_ hst v' (by simpa using ho') hg'⟩
      · obtain rfl : (⟨_, _, _, _, _, _⟩ : Oper) = o := Option.some.inj ho
        refine wpOp_plain rfl rfl ?_
        have v0_ : (⟨fillA A' DR u, []⟩ : Act).eval (.tmp 0) = _ := (fillA_out (by omega) rfl).trans h0
        refine wp_of_run (v := _) (w' := x) ?run ⟨_, fillA_put rfl, hR.s4⟩
        case run => have q := v0_; simp only [Act.eval, Array.getD_eq_getD_getElem?] at q; simp [execOp, q, Act.eval]
      · obtain rfl : (⟨_, _, _, _, _, _⟩ : Oper) = o := Option.some.inj ho
        refine wpOp_plain rfl rfl ?_
        have v47 : (⟨fillA A' DR u, []⟩ : Act).eval (.tmp 47) = .slice (some ⟨bA, oA, none⟩) n ca := (fillA_in (by omega) rfl).trans (hR.e47 (hdep ⟨4, .data⟩ (by simp) rfl))
        refine wp_of_run (v := _) (w' := x) ?run ⟨_, fillA_put rfl, hR.s5⟩
        case run => have q := v47; simp only [Act.eval, Array.getD_eq_getD_getElem?] at q; simp [execOp, q, Act.eval, go_sem, hpos]
      · obtain rfl : (⟨_, _, _, _, _, _⟩ : Oper) = o := Option.some.inj ho
        refine wpOp_plain rfl rfl ?_
        have v48 : (⟨fillA A' DR u, []⟩ : Act).eval (.tmp 48) = .pointer (some ⟨bA, oA, none⟩) := (fillA_in (by omega) rfl).trans (hR.e48 (hdep ⟨5, .data⟩ (by simp) rfl))
        obtain ⟨f0, f1, f2, f3, f4, f5, f6, f7⟩ := vert_at (j := 0) (HAr.out.ext hR.ext) rfl
        simp only [Nat.zero_mul, Nat.add_zero] at f0 f1 f2 f3 f4 f5 f6 f7
        refine wp_of_run (v := _) (w' := x) ?run ⟨_, fillA_put rfl, hR.s6⟩
        case run => have q := v48; simp only [Act.eval, Array.getD_eq_getD_getElem?] at q; simp [execOp, q, Act.eval, go_sem, f0, f1, f2, f3, f4, f5, f6, f7]
      · obtain rfl : (⟨_, _, _, _, _, _⟩ : Oper) = o := Option.some.inj ho
        refine wpOp_plain rfl rfl ?_
        have n19 : st 19 = false := by
          cases h19 : st 19 with
          | false => rfl
          | true => exact not_both (hcl 8 _ rfl (hcl 12 _ rfl (hcl 17 _ rfl (hcl 19 _ rfl h19 ⟨17, .data⟩ (by simp) rfl) ⟨12, .data⟩ (by simp) rfl) ⟨8, .chain⟩ (by simp) rfl) ⟨7, .data⟩ (by simp) rfl) hst
        have v49 : (⟨fillA A' DR u, []⟩ : Act).eval (.tmp 49) = v0.v := (fillA_in (by omega) rfl).trans (hR.e49 (hdep ⟨6, .data⟩ (by simp) rfl))
        refine wp_of_run (v := .slice (some ⟨x.heap.size, 0, none⟩) 1 1) (w' := x.alloc (.cells v0.row 27)) ?run ⟨_, fillA_put rfl, hR.s7 hst n19 _ _ ?own ?fresh⟩
        case run => have q := v49; simp only [Act.eval, Array.getD_eq_getD_getElem?] at q; simp [execOp, q, Act.eval, go_sem]
        case own => exact World.ownsRow_lit x v0.row 1 hR.ext.size (by unfold maxLen; omega) rfl
        case fresh => intro g hg; simp [Value.ownBlock] at hg; omega
      · obtain rfl : (⟨_, _, _, _, _, _⟩ : Oper) = o := Option.some.inj ho
        refine wpOp_plain rfl rfl ?_
        have h3_ : st 3 = true := hdep ⟨3, .data⟩ (by simp) rfl
        have h7_ : st 7 = true := hdep ⟨7, .data⟩ (by simp) rfl
        have vs : (⟨fillA A' DR u, []⟩ : Act).eval (.tmp 46) = u 46 := fillA_in (by omega) rfl
        obtain ⟨ax, cx, ex, hr⟩ := ownsRow_rd (hR.o50 h7_ hst)
        have vx : (⟨fillA A' DR u, []⟩ : Act).eval (.tmp 50) = _ := (fillA_in (by omega) rfl).trans ex
        refine wp_append_rd (.tmp 46) (.tmp 50) 48 rfl W1.heap.size 27 _ 8 64 Try.underlying48 info_vert rfl (by decide) (u 46) lt.length (vrows lt) vs (hR.o46 h3_ hst) _ 1 _ (vrows [v0]) vx hr (vrows_one [v0]) ?c3 (by decide) hR.ext.size ?_
        case c3 => have := HL.out; have := HLE.out; omega
        intro v' w' ho' hg'
        exact ⟨_, fillA_put rfl, hR.s8 h3_ h7_ hst v' ho' hg'⟩
      · obtain rfl : (⟨_, _, _, _, _, _⟩ : Oper) = o := Option.some.inj ho
        refine wpOp_plain rfl rfl ?_
        have n19 : st 19 = false := by
          cases h19 : st 19 with
          | false => rfl
          | true => exact not_both (hcl 12 _ rfl (hcl 17 _ rfl (hcl 19 _ rfl h19 ⟨17, .data⟩ (by simp) rfl) ⟨12, .data⟩ (by simp) rfl) ⟨9, .data⟩ (by simp) rfl) hst
        refine wp_of_run (v := .slice (some ⟨x.heap.size, 0, none⟩) 0 0) (w' := x.alloc (.cells #[] 4)) ?run ⟨_, fillA_put rfl, hR.s9 hst n19 _ _ ?own ?fresh⟩
        case run => simp [execOp, go_sem]
        case own => exact World.ownsRow_lit x #[] 0 hR.ext.size (by unfold maxLen; omega) rfl
        case fresh => intro g hg; simp [Value.ownBlock] at hg; omega
      · obtain rfl : (⟨_, _, _, _, _, _⟩ : Oper) = o := Option.some.inj ho
        refine wpOp_plain rfl rfl ?_
        have v1 : (⟨fillA A' DR u, []⟩ : Act).eval (.tmp 1) = _ := (fillA_out (by omega) rfl).trans h1
        refine wp_of_run (v := _) (w' := x) ?run ⟨_, fillA_put rfl, hR.s10⟩
        case run => have q := v1; simp only [Act.eval, Array.getD_eq_getD_getElem?] at q; simp [execOp, q, Act.eval]
      · obtain rfl : (⟨_, _, _, _, _, _⟩ : Oper) = o := Option.some.inj ho
        refine wpOp_plain rfl rfl ?_
        have v53 : (⟨fillA A' DR u, []⟩ : Act).eval (.tmp 53) = .slice (some ⟨bB, oB, none⟩) n cb := (fillA_in (by omega) rfl).trans (hR.e53 (hdep ⟨10, .data⟩ (by simp) rfl))
        refine wp_of_run (v := _) (w' := x) ?run ⟨_, fillA_put rfl, hR.s11⟩
        case run => have q := v53; simp only [Act.eval, Array.getD_eq_getD_getElem?] at q; simp [execOp, q, Act.eval, r2, Instr.sliceAt]
      · obtain rfl : (⟨_, _, _, _, _, _⟩ : Oper) = o := Option.some.inj ho
        refine wpOp_plain rfl rfl ?_
        have h9_ : st 9 = true := hdep ⟨9, .data⟩ (by simp) rfl
        have h8_ : st 8 = true := hdep ⟨8, .chain⟩ (by simp) rfl
        have vs : (⟨fillA A' DR u, []⟩ : Act).eval (.tmp 52) = u 52 := fillA_in (by omega) rfl
        have vx : (⟨fillA A' DR u, []⟩ : Act).eval (.tmp 54) = _ := (fillA_in (by omega) rfl).trans (hR.e54 (hdep ⟨11, .data⟩ (by simp) rfl))
        have hr := hr2x.ext hR.ext
        refine wp_append_rd (.tmp 52) (.tmp 54) 49 rfl W1.heap.size 4 _ 1 1 Try.underlying49 info_bool rfl (by decide) (u 52) 0 [] vs (hR.o52 h9_ hst) _ et.length _ (brows et) vx hr (brows_one et) ?c3 (by decide) hR.ext.size ?_
        case c3 => have := HL.out; have := HLE.out; omega
        intro v' w' ho' hg'
        exact ⟨_, fillA_put rfl, hR.s12 h8_ h9_ hst v' (by simpa using ho') hg'⟩
      · obtain rfl : (⟨_, _, _, _, _, _⟩ : Oper) = o := Option.some.inj ho
        refine wpOp_plain rfl rfl ?_
        have v1 : (⟨fillA A' DR u, []⟩ : Act).eval (.tmp 1) = _ := (fillA_out (by omega) rfl).trans h1
        refine wp_of_run (v := _) (w' := x) ?run ⟨_, fillA_put rfl, hR.s13⟩
        case run => have q := v1; simp only [Act.eval, Array.getD_eq_getD_getElem?] at q; simp [execOp, q, Act.eval]
      · obtain rfl : (⟨_, _, _, _, _, _⟩ : Oper) = o := Option.some.inj ho
        refine wpOp_plain rfl rfl ?_
        have v56 : (⟨fillA A' DR u, []⟩ : Act).eval (.tmp 56) = .slice (some ⟨bB, oB, none⟩) n cb := (fillA_in (by omega) rfl).trans (hR.e56 (hdep ⟨13, .data⟩ (by simp) rfl))
        refine wp_of_run (v := _) (w' := x) ?run ⟨_, fillA_put rfl, hR.s14⟩
        case run => have q := v56; simp only [Act.eval, Array.getD_eq_getD_getElem?] at q; simp [execOp, q, Act.eval, go_sem, hpos]
      · obtain rfl : (⟨_, _, _, _, _, _⟩ : Oper) = o := Option.some.inj ho
        refine wpOp_plain rfl rfl ?_
        have v57 : (⟨fillA A' DR u, []⟩ : Act).eval (.tmp 57) = .pointer (some ⟨bB, oB, none⟩) := (fillA_in (by omega) rfl).trans (hR.e57 (hdep ⟨14, .data⟩ (by simp) rfl))
        have f0 := flag_at (j := 0) (HBr.out.ext hR.ext) rfl
        simp only [Nat.add_zero] at f0
        refine wp_of_run (v := _) (w' := x) ?run ⟨_, fillA_put rfl, hR.s15⟩
        case run => have q := v57; simp only [Act.eval, Array.getD_eq_getD_getElem?] at q; simp [execOp, q, Act.eval, go_sem, f0]
      · obtain rfl : (⟨_, _, _, _, _, _⟩ : Oper) = o := Option.some.inj ho
        refine wpOp_plain rfl rfl ?_
        have n19 : st 19 = false := by
          cases h19 : st 19 with
          | false => rfl
          | true => exact not_both (hcl 17 _ rfl (hcl 19 _ rfl h19 ⟨17, .data⟩ (by simp) rfl) ⟨16, .data⟩ (by simp) rfl) hst
        have v58 : (⟨fillA A' DR u, []⟩ : Act).eval (.tmp 58) = .bool x0 := (fillA_in (by omega) rfl).trans (hR.e58 (hdep ⟨15, .data⟩ (by simp) rfl))
        refine wp_of_run (v := .slice (some ⟨x.heap.size, 0, none⟩) 1 1) (w' := x.alloc (.cells #[.bool x0] 4)) ?run ⟨_, fillA_put rfl, hR.s16 hst n19 _ _ ?own ?fresh⟩
        case run => have q := v58; simp only [Act.eval, Array.getD_eq_getD_getElem?] at q; simp [execOp, q, Act.eval, go_sem]
        case own => exact World.ownsRow_lit x #[.bool x0] 1 hR.ext.size (by unfold maxLen; omega) rfl
        case fresh => intro g hg; simp [Value.ownBlock] at hg; omega
      · obtain rfl : (⟨_, _, _, _, _, _⟩ : Oper) = o := Option.some.inj ho
        refine wpOp_plain rfl rfl ?_
        have h12_ : st 12 = true := hdep ⟨12, .data⟩ (by simp) rfl
        have h16_ : st 16 = true := hdep ⟨16, .data⟩ (by simp) rfl
        have vs : (⟨fillA A' DR u, []⟩ : Act).eval (.tmp 55) = u 55 := fillA_in (by omega) rfl
        obtain ⟨ax, cx, ex, hr⟩ := ownsRow_rd (hR.o59 h16_ hst)
        have vx : (⟨fillA A' DR u, []⟩ : Act).eval (.tmp 59) = _ := (fillA_in (by omega) rfl).trans ex
        refine wp_append_rd (.tmp 55) (.tmp 59) 49 rfl W1.heap.size 4 _ 1 1 Try.underlying49 info_bool rfl (by decide) (u 55) et.length (brows et) vs (hR.o55 h12_ hst) _ 1 _ (brows [x0]) vx hr (brows_one [x0]) ?c3 (by decide) hR.ext.size ?_
        case c3 => have := HL.out; have := HLE.out; omega
        intro v' w' ho' hg'
        exact ⟨_, fillA_put rfl, hR.s17 h12_ h16_ hst v' ho' hg'⟩
      · obtain rfl : (⟨_, _, _, _, _, _⟩ : Oper) = o := Option.some.inj ho
        refine wpOp_plain rfl rfl ?_
        have v2 : (⟨fillA A' DR u, []⟩ : Act).eval (.tmp 2) = _ := (fillA_out (by omega) rfl).trans h2
        refine wp_of_run (v := _) (w' := x) ?run ⟨_, fillA_put rfl, hR.s18⟩
        case run => have q := v2; simp only [Act.eval, Array.getD_eq_getD_getElem?] at q; simp [execOp, q, Act.eval]
      · obtain rfl : (⟨_, _, _, _, _, _⟩ : Oper) = o := Option.some.inj ho
        refine wpOp_plain rfl rfl ?_
        have h8_ : st 8 = true := hdep ⟨8, .data⟩ (by simp) rfl
        have h17_ : st 17 = true := hdep ⟨17, .data⟩ (by simp) rfl
        have h18_ : st 18 = true := hdep ⟨18, .data⟩ (by simp) rfl
        have n20 : st 20 = false := by
          cases h : st 20 with
          | false => rfl
          | true => exact not_both (hcl 20 _ rfl h ⟨19, .data⟩ (by simp) rfl) hst
        have n21 : st 21 = false := by
          cases h : st 21 with
          | false => rfl
          | true => exact not_both (hcl 20 _ rfl (hcl 21 _ rfl h ⟨20, .data⟩ (by simp) rfl) ⟨19, .data⟩ (by simp) rfl) hst
        have n22 : st 22 = false := by
          cases h : st 22 with
          | false => rfl
          | true => exact not_both (hcl 20 _ rfl (hcl 22 _ rfl h ⟨20, .data⟩ (by simp) rfl) ⟨19, .data⟩ (by simp) rfl) hst
        have n23 : st 23 = false := by
          cases h : st 23 with
          | false => rfl
          | true => exact not_both (hcl 20 _ rfl (hcl 23 _ rfl h ⟨20, .data⟩ (by simp) rfl) ⟨19, .data⟩ (by simp) rfl) hst
        have n24 : st 24 = false := by
          cases h : st 24 with
          | false => rfl
          | true => exact not_both (hcl 20 _ rfl (hcl 21 _ rfl (hcl 24 _ rfl h ⟨21, .data⟩ (by simp) rfl) ⟨20, .data⟩ (by simp) rfl) ⟨19, .data⟩ (by simp) rfl) hst
        have n25 : st 25 = false := by
          cases h : st 25 with
          | false => rfl
          | true => exact not_both (hcl 20 _ rfl (hcl 22 _ rfl (hcl 25 _ rfl h ⟨22, .data⟩ (by simp) rfl) ⟨20, .data⟩ (by simp) rfl) ⟨19, .data⟩ (by simp) rfl) hst
        have n26 : st 26 = false := by
          cases h : st 26 with
          | false => rfl
          | true => exact not_both (hcl 20 _ rfl (hcl 23 _ rfl (hcl 26 _ rfl h ⟨23, .data⟩ (by simp) rfl) ⟨20, .data⟩ (by simp) rfl) ⟨19, .data⟩ (by simp) rfl) hst
        have v51 : (⟨fillA A' DR u, []⟩ : Act).eval (.tmp 51) = u 51 := fillA_in (by omega) rfl
        have v60 : (⟨fillA A' DR u, []⟩ : Act).eval (.tmp 60) = u 60 := fillA_in (by omega) rfl
        have v61 : (⟨fillA A' DR u, []⟩ : Act).eval (.tmp 61) = _ := (fillA_in (by omega) rfl).trans (hR.e61 h18_)
        obtain ⟨a3, c3, e3, r3⟩ := ownsRow_rd (hR.o51 h8_ hst)
        obtain ⟨a4, c4, e4, r4⟩ := ownsRow_rd (hR.o60 h17_ hst)
        have hc := CALL.out x hR.ext a3 c3 a4 c4 r3 r4
        rw [← e3, ← e4] at hc
        refine wp_call rfl Try.func31 (by kernel_rfl) rfl (R := CarveP M N gg x) (by simp only [List.map_toArray, List.map_cons, List.map_nil, v51, v60, v61]; exact hc) ?_
        rintro e w' ⟨a, c, b, d, rfl, q1, q2, q3⟩
        exact ⟨_, rfl, _, fillA_put rfl, hR.s19 h17_ hst n20 n21 n22 n23 n24 n25 n26 _ q3 ⟨a, c, b, d, rfl, q1, q2⟩⟩
      · obtain rfl : (⟨_, _, _, _, _, _⟩ : Oper) = o := Option.some.inj ho
        refine wpOp_plain rfl rfl ?_
        have h19_ : st 19 = true := hdep ⟨19, .data⟩ (by simp) rfl
        have v62 : (⟨fillA A' DR u, []⟩ : Act).eval (.tmp 62) = u 62 := fillA_in (by omega) rfl
        refine wp_of_run (v := u 62) (w' := x) ?run ⟨_, fillA_put rfl, hR.s20 h19_⟩
        case run => have q := v62; simp only [Act.eval, Array.getD_eq_getD_getElem?] at q; simp [execOp, q, Act.eval]
      · obtain rfl : (⟨_, _, _, _, _, _⟩ : Oper) = o := Option.some.inj ho
        refine wpOp_plain rfl rfl ?_
        have h20_ : st 20 = true := hdep ⟨20, .data⟩ (by simp) rfl
        have h19_ : st 19 = true := hcl 20 _ rfl h20_ ⟨19, .data⟩ (by simp) rfl
        obtain ⟨p, q, r, hu⟩ := HPost.out _ _ (hR.post h19_)
        have v42 : (⟨fillA A' DR u, []⟩ : Act).eval (.tmp 42) = .tuple #[p, q, r] := ((fillA_in (by omega) rfl).trans (hR.t42 h20_)).trans hu
        refine wp_of_run (v := comp (u 62) 0) (w' := x) ?run ⟨_, fillA_put rfl, hR.s21⟩
        case run => have q := v42; simp only [Act.eval, Array.getD_eq_getD_getElem?] at q; simp [execOp, q, Act.eval, go_sem, comp, hu]
      · obtain rfl : (⟨_, _, _, _, _, _⟩ : Oper) = o := Option.some.inj ho
        refine wpOp_plain rfl rfl ?_
        have h20_ : st 20 = true := hdep ⟨20, .data⟩ (by simp) rfl
        have h19_ : st 19 = true := hcl 20 _ rfl h20_ ⟨19, .data⟩ (by simp) rfl
        obtain ⟨p, q, r, hu⟩ := HPost.out _ _ (hR.post h19_)
        have v42 : (⟨fillA A' DR u, []⟩ : Act).eval (.tmp 42) = .tuple #[p, q, r] := ((fillA_in (by omega) rfl).trans (hR.t42 h20_)).trans hu
        refine wp_of_run (v := comp (u 62) 1) (w' := x) ?run ⟨_, fillA_put rfl, hR.s22⟩
        case run => have q := v42; simp only [Act.eval, Array.getD_eq_getD_getElem?] at q; simp [execOp, q, Act.eval, go_sem, comp, hu]
      · obtain rfl : (⟨_, _, _, _, _, _⟩ : Oper) = o := Option.some.inj ho
        refine wpOp_plain rfl rfl ?_
        have h20_ : st 20 = true := hdep ⟨20, .data⟩ (by simp) rfl
        have h19_ : st 19 = true := hcl 20 _ rfl h20_ ⟨19, .data⟩ (by simp) rfl
        obtain ⟨p, q, r, hu⟩ := HPost.out _ _ (hR.post h19_)
        have v42 : (⟨fillA A' DR u, []⟩ : Act).eval (.tmp 42) = .tuple #[p, q, r] := ((fillA_in (by omega) rfl).trans (hR.t42 h20_)).trans hu
        refine wp_of_run (v := comp (u 62) 2) (w' := x) ?run ⟨_, fillA_put rfl, hR.s23⟩
        case run => have q := v42; simp only [Act.eval, Array.getD_eq_getD_getElem?] at q; simp [execOp, q, Act.eval, go_sem, comp, hu]
      · obtain rfl : (⟨_, _, _, _, _, _⟩ : Oper) = o := Option.some.inj ho
        refine wpOp_plain rfl rfl ?_
        have vv : (⟨fillA A' DR u, []⟩ : Act).eval (.tmp 63) = comp (u 62) 0 := (fillA_in (by omega) rfl).trans (hR.t63 (hdep ⟨21, .data⟩ (by simp) rfl))
        refine wp_of_run (v := comp (u 62) 0) (w' := x) ?run ⟨_, fillA_put rfl, hR.s24⟩
        case run => have q := vv; simp only [Act.eval, Array.getD_eq_getD_getElem?] at q; simp [execOp, q, Act.eval]
      · obtain rfl : (⟨_, _, _, _, _, _⟩ : Oper) = o := Option.some.inj ho
        refine wpOp_plain rfl rfl ?_
        have vv : (⟨fillA A' DR u, []⟩ : Act).eval (.tmp 64) = comp (u 62) 1 := (fillA_in (by omega) rfl).trans (hR.t64 (hdep ⟨22, .data⟩ (by simp) rfl))
        refine wp_of_run (v := comp (u 62) 1) (w' := x) ?run ⟨_, fillA_put rfl, hR.s25⟩
        case run => have q := vv; simp only [Act.eval, Array.getD_eq_getD_getElem?] at q; simp [execOp, q, Act.eval]
      · obtain rfl : (⟨_, _, _, _, _, _⟩ : Oper) = o := Option.some.inj ho
        refine wpOp_plain rfl rfl ?_
        have vv : (⟨fillA A' DR u, []⟩ : Act).eval (.tmp 65) = comp (u 62) 2 := (fillA_in (by omega) rfl).trans (hR.t65 (hdep ⟨23, .data⟩ (by simp) rfl))
        refine wp_of_run (v := comp (u 62) 2) (w' := x) ?run ⟨_, fillA_put rfl, hR.s26⟩
        case run => have q := vv; simp only [Act.eval, Array.getD_eq_getD_getElem?] at q; simp [execOp, q, Act.eval]
    · intro st u x hall hR
      obtain ⟨a, c, b, d, hu, q1, q2⟩ := hR.post (hall 19 (by decide))
      have t0 := hR.t10 (hall 24 (by decide))
      have t1 := hR.t11 (hall 25 (by decide))
      have t2 := hR.t12 (hall 26 (by decide))
      rw [hu] at t0 t1 t2
      have t0 : u 10 = .slice a N c := t0
      have t1 : u 11 = .slice b N d := t1
      have t2 : u 12 = .int .i64 gg := t2
      have hxE := hR.ext
      clear hR hall
      simp [fillA, fillL, DR]
      go_wp2_with fail
      go_meet
      exact ⟨_, _, _, _, t0, t1, t2, Lib.hid ⟨q1, q2⟩, hxE⟩
  case rest =>
    obtain ⟨a2, c2, b2, d2, rfl, rfl, rfl, HR, hE⟩ := hcut
    have HEw := Lib.hid (HE1.out.trans hE)
    have HAL := Lib.hid (HR1.out.ext hE); have HBL := Lib.hid (HR2.out.ext hE)
    clear hE HR1 HR2 HE1 HAr HBr CA2
    obtain ⟨W2, rfl⟩ : ∃ W2 : World, W2 = wc := ⟨_, rfl⟩
    have t0 : (gg != gg) = false := by simp
    by_cases hz : N = 0
    · subst hz
      go_wp2_with fail
      refine (awake10 _).mono ?_
      rintro x w1 ⟨rfl, hE⟩
      have HE := Lib.hid (HEw.out.trans hE)
      clear hE
      go_wp2_with fail
      go_ret
      exact ⟨rfl, HE.out⟩
    · have hN0 : 0 < N := by omega
      have t92 : ((N : Int) == 0) = false := by simp; omega
      go_wp2_with fail
      go_loopw [13, 14, 15] (fun i _ _ wr => ∃ q : Nat, q ≤ N ∧ i = .int .i64 q ∧ Hid (∀ k, k < q → L.drop k ++ L.take k ≠ M) ∧ Ext W2 wr) (fun i _ _ _ => N - (intOf i).toNat)
      case atStart => exact ⟨0, Nat.zero_le _, rfl, Lib.hid (fun k hk => by omega), Ext.refl _⟩
      case round =>
        obtain ⟨q, hq, rfl, HJ, hE⟩ := hrel
        by_cases hlt : q < N
        · have HEr := Lib.hid hE; clear hE
          have hq0 : (q : Int) < N := by omega
          obtain ⟨p1, r1, q1⟩ := part1_ex Try.underlying48 size_vert (HAL.out.ext HEr.out) (q : Int) q (N - q) (c - q) rfl (by omega) rfl rfl
          obtain ⟨p0, k0, r0, q0⟩ := part0_ex Try.underlying48 size_vert (HAL.out.ext HEr.out) (q : Int) q rfl (by omega)
          have Q1 := Lib.hid q1; have Q0 := Lib.hid q0
          clear q1 q0
          have OW : Hid (((wr.drew).alloc (.cells #[] 27)).ownsRow wr.heap.size 27 8 (.slice (some ⟨wr.heap.size, 0, none⟩) 0 0) 0 []) := Lib.hid (World.ownsRow_lit (wr.drew) #[] 0 (Nat.le_refl _) (by unfold maxLen; omega) rfl)
          go_upto_region 12 with fail
          go_region_held3 (fun _ => True) ((trivial)) (first | (refine step_append_rd rfl (.tmp 100) (.tmp 103) 48 rfl wr.heap.size 27 _ 8 64 Try.underlying48 info_vert rfl (by decide) _ 0 [] rfl OW.out _ _ _ _ rfl (Q1.out.ext (Ext.alloc (Ext.drew (Ext.refl _)) _)) (fun u hu => vrows_one _ u (List.mem_of_mem_drop hu)) (by omega) (by decide) (by simp) ?_; intro v1 w1 ho1 hg1) | (refine step_append_rd rfl (.tmp 104) (.tmp 107) 48 rfl wr.heap.size 27 _ 8 64 Try.underlying48 info_vert rfl (by decide) _ _ _ rfl ho1 _ _ _ _ rfl (Q0.out.ext (Ext.grown (Ext.alloc (Ext.drew (Ext.refl _)) _) hg1 (fun k hk => (OW.out.lt k hk).1))) (fun u hu => vrows_one _ u (List.mem_of_mem_take hu)) (by omega) (by decide) (Ext.size (Ext.grown (Ext.alloc (Ext.drew (Ext.refl _)) _) hg1 (fun k hk => (OW.out.lt k hk).1))) ?_; intro v2 w2 ho2 hg2))
          have hE2 : Ext wr w2 := Ext.grown (Ext.grown (Ext.alloc (Ext.drew (Ext.refl _)) _) hg1 (fun k hk => (OW.out.lt k hk).1)) hg2 (fun k hk => (ho1.lt k hk).1)
          rw [List.nil_append, vrows_parts, show 0 + (N - q) + q = N by omega] at ho2
          obtain ⟨ax, cx, rfl, hx⟩ := ownsRow_rd ho2
          have HX := Lib.hid hx
          have HE2 := Lib.hid (HEr.out.trans hE2)
          clear ho1 hg1 ho2 hg2 hx hE2 r1 r0 Q1 Q0 OW
          obtain ⟨p2, s1, q1⟩ := part1_ex Try.underlying49 size_bool (HBL.out.ext HE2.out) (q : Int) q (N - q) (d - q) rfl (by omega) rfl rfl
          obtain ⟨p3, k3, s0, q0⟩ := part0_ex Try.underlying49 size_bool (HBL.out.ext HE2.out) (q : Int) q rfl (by omega)
          have Q1 := Lib.hid q1; have Q0 := Lib.hid q0
          clear q1 q0
          have OW : Hid (((w2.drew).alloc (.cells #[] 4)).ownsRow w2.heap.size 4 1 (.slice (some ⟨w2.heap.size, 0, none⟩) 0 0) 0 []) := Lib.hid (World.ownsRow_lit (w2.drew) #[] 0 (Nat.le_refl _) (by unfold maxLen; omega) rfl)
          go_upto_region 13 with fail
          go_region_held3 (fun _ => True) ((trivial)) (first | (refine step_append_rd rfl (.tmp 109) (.tmp 112) 49 rfl w2.heap.size 4 _ 1 1 Try.underlying49 info_bool rfl (by decide) _ 0 [] rfl OW.out _ _ _ _ rfl (Q1.out.ext (Ext.alloc (Ext.drew (Ext.refl _)) _)) (fun u hu => brows_one _ u (List.mem_of_mem_drop hu)) (by omega) (by decide) (by simp) ?_; intro v1 w1 ho1 hg1) | (refine step_append_rd rfl (.tmp 113) (.tmp 116) 49 rfl w2.heap.size 4 _ 1 1 Try.underlying49 info_bool rfl (by decide) _ _ _ rfl ho1 _ _ _ _ rfl (Q0.out.ext (Ext.grown (Ext.alloc (Ext.drew (Ext.refl _)) _) hg1 (fun k hk => (OW.out.lt k hk).1))) (fun u hu => brows_one _ u (List.mem_of_mem_take hu)) (by omega) (by decide) (Ext.size (Ext.grown (Ext.alloc (Ext.drew (Ext.refl _)) _) hg1 (fun k hk => (OW.out.lt k hk).1))) ?_; intro v3 w3 ho3 hg3))
          have hE3 : Ext w2 w3 := Ext.grown (Ext.grown (Ext.alloc (Ext.drew (Ext.refl _)) _) hg1 (fun k hk => (OW.out.lt k hk).1)) hg3 (fun k hk => (ho1.lt k hk).1)
          rw [List.nil_append, brows_parts, show 0 + (N - q) + q = N by omega] at ho3
          obtain ⟨ay, cy, rfl, hy⟩ := ownsRow_rd ho3
          have HY := Lib.hid hy
          have HE3 := Lib.hid (HE2.out.trans hE3)
          have HXr := Lib.hid (HX.out.ext hE3)
          clear ho1 hg1 ho3 hg3 hy hE3 s1 s0 Q1 Q0 HX HE2 OW
          have hlen : (L.drop q ++ L.take q).length = N := by rw [List.length_append, List.length_drop, List.length_take, HN.out]; omega
          have hlen2 : M.length = N := by rw [HRO.out.length, HN.out]
          have SM := Lib.hid (same_any ((L.drop q ++ L.take q).map (·.1)) (M.map (·.1)) ((L.drop q ++ L.take q).map (·.2)) (M.map (·.2)) ax a2 ay b2 N N N N cx c2 cy d2 w3 HXr.out (HR.out.1.ext HE3.out) HY.out (HR.out.2.ext HE3.out) (by rw [List.length_map, hlen]) (by rw [List.length_map, hlen2]) (by rw [List.length_map, hlen]) (by rw [List.length_map, hlen2]))
          clear hlen hlen2
          go_wp2_with fail
          refine SM.out.mono ?_
          rintro x w4 ⟨r, rfl, hr, hE⟩
          obtain ⟨x4, rfl⟩ := Later.mk' hE
          have HE4 := Lib.hid (HE3.out.trans hE)
          have HRR := Lib.hid hr
          clear hE hr SM HE3
          cases r
          · have HJ2 : Hid (∀ k, k < q + 1 → L.drop k ++ L.take k ≠ M) := Lib.hid (fun k hk he => by
              by_cases h1 : k < q
              · exact HJ.out k h1 he
              · obtain rfl : k = q := by omega
                have := HRR.out.2 ⟨by rw [he], by rw [he], by rw [List.length_map, List.length_map]⟩
                cases this)
            go_wp2_with fail
            go_roundw
            case rel => first | exact ⟨q + 1, by omega, by go_num, HJ2, HE4.out⟩ | ((repeat apply Exists.intro); refine ⟨?_, rfl⟩; exact ⟨q + 1, by omega, by go_num, HJ2, HE4.out⟩)
            case measure => simp [intOf]; omega
          · go_wp2_with fail
            refine (awake10 _).mono ?_
            rintro x w1 ⟨rfl, hE⟩
            have HE := Lib.hid ((HEw.out.trans HE4.out).trans hE)
            clear hE
            go_wp2_with fail
            go_ret
            exact ⟨rfl, HE.out⟩
        · obtain rfl : q = N := by omega
          exfalso
          have hne : L ≠ [] := fun h => by rw [h] at HN; have := HN.out; simp at this; omega
          obtain ⟨k, hk, he⟩ := HRO.out.at hne
          exact HJ.out k (by rw [← HN.out]; exact hk) he.symm
end Go.Proofs.Ytmpkimcegckloaa
