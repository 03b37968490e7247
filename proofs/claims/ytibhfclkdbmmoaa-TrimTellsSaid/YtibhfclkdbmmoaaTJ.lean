/- Proof text: what is left of a line, the document's answer (rastrumref09.Trim). By an AI agent. No condition beyond what each theorem states. -/
import Derived.Test.YtibhfclkdbmmoaaTI
import Derived.Test.YtibhfclkdbmmoaaNT
import Derived.Deep.LoopGhost
set_option linter.unusedVariables false
set_option linter.unusedSimpArgs false
namespace Go.Proofs.Ytibhfclkdbmmoaa
open Go.RowKit
theorem info_cut9 : (Try.prog.info? 60).map (fun i => (i.zero, i.size, i.bytes)) = some (some (.agg #[.int .i64 0, .int .i64 0]), 2, 16) := by kernel_rfl
theorem own_stay {w w' : World} {base : Nat} {e : TypeId} {size : Nat} {v : Value} {n : Nat} {xs : List Value} {row : Option Nat} (h : w.ownsRow base e size v n xs) (hg : w.grownBy w' row) (hne : ∀ g, v.ownBlock = some g → row ≠ some g) : w'.ownsRow base e size v n xs :=
  h.kept (row := row) hg (by
    cases hv : v.ownBlock with
    | none => exact .inl rfl
    | some g => exact .inr fun h => hne g hv h.symm)
theorem Blk.grown8 {w w' : World} {g : Nat} {t : TypeId} {cs : Array Value} {row : Option Nat} (h : Blk w g t cs) (hg : w.grownBy w' row) (hne : row ≠ some g) : Blk w' g t cs :=
  (hg.block g h.lt (fun e => hne e.symm)).trans h
/-- The call's own boxes. -/
structure AB (a b : Vx) (w wr : World) : Prop where
  b1 : Blk wr w.heap.size 25 a.row
  b2 : Blk wr (w.heap.size + 1) 25 b.row
  b3 : Blk wr (w.heap.size + 1 + 1) 25 V0.row
  b4 : Blk wr (w.heap.size + 1 + 1 + 1) 25 V0.row
  ex : Ext w wr
theorem AB.ext {a b : Vx} {w wr w' : World} (h : AB a b w wr) (e : Ext wr w') : AB a b w w' := ⟨h.b1.ext e, h.b2.ext e, h.b3.ext e, h.b4.ext e, h.ex.trans e⟩
/-- Two rows of parts that grow side by side. -/
structure AR (a b : Vx) (w wr : World) (I O : List (Int × Int)) (vi vo : Value) : Prop where
  ab : AB a b w wr
  oi : wr.ownsRow (w.heap.size + 4) 60 2 vi I.length (cvs I)
  oo : wr.ownsRow (w.heap.size + 4) 60 2 vo O.length (cvs O)
  di : ∀ g, vi.ownBlock = some g → vo.ownBlock ≠ some g
section
variable {a b : Vx} {w wr w' : World} {I O : List (Int × Int)} {vi vo v' : Value} {x : Int × Int}
theorem AR.ext (h : AR a b w wr I O vi vo) (e : Ext wr w') : AR a b w w' I O vi vo := ⟨h.ab.ext e, ownsRow_ext h.oi e, ownsRow_ext h.oo e, h.di⟩
theorem AB.grown (h : AB a b w wr) {row : Option Nat} (hg : wr.grownBy w' row) (hr : ∀ k, row = some k → w.heap.size + 4 ≤ k) : AB a b w w' := by
  refine ⟨h.b1.grown8 hg ?_, h.b2.grown8 hg ?_, h.b3.grown8 hg ?_, h.b4.grown8 hg ?_, h.ex.grown hg fun k hk => by have := hr k hk; omega⟩
  all_goals (intro e; have := hr _ e; omega)
theorem AR.growI (h : AR a b w wr I O vi vo) (ho : w'.ownsRow (w.heap.size + 4) 60 2 v' (I.length + 1) (cvs I ++ cvs [x])) (hg : wr.grownBy w' vi.ownBlock) (hb : ∀ g, v'.ownBlock = some g → vi.ownBlock = some g ∨ wr.heap.size ≤ g) : AR a b w w' (I ++ [x]) O v' vo := by
  refine ⟨h.ab.grown hg fun k hk => (h.oi.lt k hk).1, ?_, own_stay h.oo hg fun g hg2 e => h.di g e hg2, fun g hg2 e => ?_⟩
  · rw [cvs_append, List.length_append]; exact ho
  · rcases hb g hg2 with h1 | h1
    · exact h.di g h1 e
    · have := (h.oo.lt g e).2; omega
theorem AR.growO (h : AR a b w wr I O vi vo) (ho : w'.ownsRow (w.heap.size + 4) 60 2 v' (O.length + 1) (cvs O ++ cvs [x])) (hg : wr.grownBy w' vo.ownBlock) (hb : ∀ g, v'.ownBlock = some g → vo.ownBlock = some g ∨ wr.heap.size ≤ g) : AR a b w w' I (O ++ [x]) vi v' := by
  refine ⟨h.ab.grown hg fun k hk => (h.oo.lt k hk).1, own_stay h.oi hg fun g hg2 e => h.di g hg2 e, ?_, fun g hg2 e => ?_⟩
  · rw [cvs_append, List.length_append]; exact ho
  · rcases hb g e with h1 | h1
    · exact h.di g hg2 h1
    · have := (h.oi.lt g hg2).2; omega
end
/-- Two boxes that stand in the end. -/
structure DE (u v : Vx) (W1 wr : World) (P Q : Nat) : Prop where
  ex : Ext W1 wr
  p : Blk wr P 25 u.row
  q : Blk wr Q 25 v.row
  hp : W1.heap.size ≤ P
  hq : W1.heap.size ≤ Q
  ne : P ≠ Q
theorem DE.ext {u v : Vx} {W1 wr w' : World} {P Q : Nat} (h : DE u v W1 wr P Q) (e : Ext wr w') : DE u v W1 w' P Q := ⟨h.ex.trans e, h.p.ext e, h.q.ext e, h.hp, h.hq, h.ne⟩
theorem DE.setP {u v : Vx} {W1 wr : World} {P Q : Nat} (h : DE u v W1 wr P Q) (x : Vx) : DE x v W1 (put8 wr P x) P Q := ⟨put8_ext h.ex h.hp x, h.p.set8 x, h.q.far8 h.ne.symm x, h.hp, h.hq, h.ne⟩
theorem DE.setQ {u v : Vx} {W1 wr : World} {P Q : Nat} (h : DE u v W1 wr P Q) (x : Vx) : DE u x W1 (put8 wr Q x) P Q := ⟨put8_ext h.ex h.hq x, h.p.far8 h.ne x, h.q.set8 x, h.hp, h.hq, h.ne⟩
theorem cell_far1 {w : World} {g i : Nat} {p : Addr} {u v : Value} (h : w.cell? ⟨g, i, none⟩ = some v) (hne : g ≠ p.block) : (w.setCell p u).cell? ⟨g, i, none⟩ = some v :=
  (World.cell?_setCell_far _ _ _ _ (fun h => hne h.symm)).trans h
theorem above_yes (x y : Int × Int) (w : World) (hx : I64 x.1 ∧ I64 x.2) (hy : I64 y.1 ∧ I64 y.2) (h : less y x) : Calls Try.prog 32 #[cutV x, cutV y] w fun e w' => e = .returned (.bool true) ∧ Ext w w' := by
  have := rabove_any x y w hx.1 hx.2 hy.1 hy.2
  rwa [decide_eq_true h] at this
theorem above_no (x y : Int × Int) (w : World) (hx : I64 x.1 ∧ I64 x.2) (hy : I64 y.1 ∧ I64 y.2) (h : ¬ less y x) : Calls Try.prog 32 #[cutV x, cutV y] w fun e w' => e = .returned (.bool false) ∧ Ext w w' := by
  have := rabove_any x y w hx.1 hx.2 hy.1 hy.2
  rwa [decide_eq_false h] at this
set_option maxRecDepth 100000 in
set_option maxHeartbeats 4000000 in
theorem rtrim_any (l : List Sd) (a b : Vx) (A : Option Addr) (n cap : Nat) (w : World) (hr : Rd w 5 A n cap (srow l)) (hl : l.length = n) (hn : n ≤ 9) (hok : ∀ s ∈ l, s.Ok) (ha : a.Fit) (hb : b.Fit) :
    Calls Try.prog 13 #[a.v, b.v, .slice A n cap] w (TrimPost l a b w) := by
  have hn9 : (n : Int) ≤ 9 := by omega
  have HN := Lib.hid hn; clear hn
  have HR := Lib.hid hr; clear hr
  have HL := Lib.hid hl; clear hl
  have HO := Lib.hid hok; clear hok
  have HA := Lib.hid ha; clear ha
  have HB := Lib.hid hb; clear hb
  have HBN := Lib.hid (fun j => cuts_bound (l := l) HO.out HA.out HB.out j)
  go_enter Try.func13, Try.ntmps13
  go_wp2_with fail
  go_loopg [9, 10, 11, 12, 13, 14] n (fun gh si so i _ _ _ wr => ∃ (j : Nat) (vi vo : Value), j ≤ n ∧ gh = n - j ∧ vi = si ∧ vo = so ∧ i = .int .i64 j ∧ Hid (AR a b w wr (insL ((cuts l a b).take j)) (outsL ((cuts l a b).take j)) vi vo) ∧ Hid (∀ c ∈ (cuts l a b).take j, ¬ gone c))
  case atStart =>
    refine ⟨0, _, _, Nat.zero_le _, rfl, rfl, rfl, rfl, Lib.hid ⟨⟨?_, ?_, ?_, ?_, by (repeat (first | with_reducible exact Ext.refl _ | with_reducible assumption | with_reducible refine Ext.alloc ?_ _ | with_reducible refine Ext.drew ?_ | with_reducible refine Ext.drewN ?_ _ | with_reducible refine Ext.later ?_ _ | (with_reducible refine Ext.setCell ?_ _ ?hp; case hp => first | (simp; done) | (simp; omega) | omega)))⟩, World.ownsRow_nil _ _ _ _, World.ownsRow_nil _ _ _ _, fun g hg => by cases hg⟩, Lib.hid (by simp)⟩
    all_goals (try unfold V0)
    all_goals (repeat (first | (with_reducible refine Blk.new' _ _ _ ?_; (simp; done)) | with_reducible refine Blk.alloc ?_ _))
  case round =>
    obtain ⟨j, vi, vo, hj, rfl, rfl, rfl, rfl, HT, HG⟩ := hrel
    by_cases hlt : j < n
    · obtain ⟨s, hs⟩ : ∃ s, l[j]? = some s := ⟨_, List.getElem?_eq_getElem (by rw [HL.out]; exact hlt)⟩
      have hRr := HR.out.ext HT.out.ab.ex
      obtain ⟨ab, ao, hA, hAb, hcell⟩ := hRr.at_ (by omega)
      subst hA
      obtain ⟨c0, c1, c2, c3, c4⟩ := side_at hRr hs
      clear hRr hcell hAb
      have HSs := Lib.hid hs; clear hs
      have HSO : Hid s.Ok := Lib.hid (HO.out s (List.mem_of_getElem? HSs.out))
      obtain ⟨a0, a1, a2, a3, a4, a5, a6, a7⟩ := cells8 HT.out.ab.b1
      obtain ⟨b0, b1, b2, b3, b4, b5, b6, b7⟩ := cells8 HT.out.ab.b2
      obtain ⟨k, m, d, hpt⟩ := pt_ex (dist s a) (dist s b)
      have HP := Lib.hid hpt; clear hpt
      have HCT := Lib.hid (cuts_take (a := a) (b := b) HSs.out)
      go_upto_region 5 with fail
      refine wp_region_later (by kernel_rfl) (by kernel_rfl) ?_
      repeat (go_big_quiet_step ((go_at_call 31; with_reducible exact Calls.later _ (rpart_of s a b _ HSO.out HA.out HB.out k m d HP.out))))
      refine wpQuiet_nil ?_
      intro y
      have HT2 := Lib.hid (HT.out.ext y.ext)
      clear c0 c1 c2 c3 c4 a0 a1 a2 a3 a4 a5 a6 a7 b0 b1 b2 b3 b4 b5 b6 b7 HT
      rcases HP.out with ⟨p1, p2, rfl, rfl, rfl⟩ | ⟨p1, p2, rfl, hm, hd⟩ | ⟨p1, p2, rfl, hm, hd⟩ | ⟨p1, p2, rfl, rfl, rfl⟩
      · have HBad : Hid (Bad (cuts l a b)) := Lib.hid (.inl ⟨(dist s a, dist s b), List.mem_of_mem_take (i := j + 1) (by rw [HCT.out]; simp), by unfold gone; simp only; omega⟩)
        have HAB := Lib.hid HT2.out.ab
        clear p1 p2 HT2
        obtain ⟨q0, q1, q2, q3, q4, q5, q6, q7⟩ := cells8 HAB.out.b3
        obtain ⟨r0, r1, r2, r3, r4, r5, r6, r7⟩ := frees8 HAB.out.b3
        obtain ⟨s0, s1, s2, s3, s4, s5, s6, s7⟩ := cells8 HAB.out.b4
        obtain ⟨t0, t1, t2, t3, t4, t5, t6, t7⟩ := frees8 HAB.out.b4
        go_wp2_with fail
        clear q0 q1 q2 q3 q4 q5 q6 q7 r0 r1 r2 r3 r4 r5 r6 r7 s0 s1 s2 s3 s4 s5 s6 s7 t0 t1 t2 t3 t4 t5 t6 t7
        obtain ⟨R1, R2⟩ := both8 HAB.out.b3 HAB.out.b4 (by omega) V0 V0
        obtain ⟨q0, q1, q2, q3, q4, q5, q6, q7⟩ := cells8 R1
        obtain ⟨s0, s1, s2, s3, s4, s5, s6, s7⟩ := cells8 R2
        simp only [V0] at q0 q1 q2 q3 q4 q5 q6 q7 s0 s1 s2 s3 s4 s5 s6 s7
        try simp only [Exit.inBlock, Exit.then]
        refine bodyPost_ret (v := .tuple #[V0.v, V0.v, .bool false]) (by simp [results, Try.results13, q0, q1, q2, q3, q4, q5, q6, q7, s0, s1, s2, s3, s4, s5, s6, s7, go_sem, V0]) rfl (.inr ⟨HBad.out, rfl, ?_⟩)
        exact put8_ext (put8_ext HAB.out.ex (by omega) V0) (by omega) V0
      · have HCU : Hid (inCut (dist s a, dist s b) = (m, d)) := Lib.hid (by unfold inCut; simp only [hm, hd])
        have HGo : Hid (¬ gone (dist s a, dist s b)) := Lib.hid (by unfold gone; simp only; omega)
        have HNO : Hid (¬ outs (dist s a, dist s b)) := Lib.hid (by unfold outs; simp only; omega)
        have HI : Hid (ins (dist s a, dist s b)) := Lib.hid (by unfold ins; simp only; omega)
        clear hm hd p1 p2
        have HT3 := Lib.hid (HT2.out.ext (Ext.alloc (Ext.refl _) (.cells #[.int .i64 m, .int .i64 d] 60)))
        have HLE : Hid ((insL ((cuts l a b).take j)).length ≤ 9) := Lib.hid (by
          unfold insL
          rw [List.length_map]
          refine Nat.le_trans (List.length_filter_le _ _) ?_
          rw [List.length_take]
          have := HN.out
          omega)
        have h0 : w.heap.size + 4 ≤ y.w.heap.size := HT2.out.ab.b4.lt
        go_wp2_with (refine wpList_append_blk rfl (.tmp 45) (.tmp 49) 58 rfl (w.heap.size + 4) 60 _ 2 16 Try.underlying58 info_cut9 rfl (by decide) vi (insL ((cuts l a b).take j)).length (cvs (insL ((cuts l a b).take j))) rfl HT3.out.oi ⟨_, 0, none⟩ 1 1 (cvs [(m, d)]) rfl rfl ?c1 (cvs_one _) (by decide) ?c3 (by decide) ?c5 ?_)
        case c1 => exact news_at y.w (cvs [(m, d)]) 60
        case c3 => have := HLE.out; omega
        case c5 => simp; omega
        intro v' w' ho' hg' hb'
        have HT4 := Lib.hid (HT3.out.growI ho' hg' (fun g h => by simpa using hb' g h))
        clear ho' hg' hb' h0
        go_wp2_with fail
        go_roundg (n - (j + 1))
        case measure => omega
        case rel =>
          refine ⟨j + 1, v', vo, by omega, rfl, rfl, rfl, by go_num, Lib.hid ?_, Lib.hid ?_⟩
          · rw [HCT.out, insL_snoc, outsL_snoc, if_pos HI.out, if_neg HNO.out, HCU.out, List.append_nil]
            exact HT4.out
          · rw [HCT.out]
            exact upto_gone HG.out HGo.out
      · have HCU : Hid (outCut (dist s a, dist s b) = (m, d)) := Lib.hid (by unfold outCut; simp only [hm, hd])
        have HGo : Hid (¬ gone (dist s a, dist s b)) := Lib.hid (by unfold gone; simp only; omega)
        have HNO : Hid (¬ ins (dist s a, dist s b)) := Lib.hid (by unfold ins; simp only; omega)
        have HI : Hid (outs (dist s a, dist s b)) := Lib.hid (by unfold outs; simp only; omega)
        clear hm hd p1 p2
        have HT3 := Lib.hid (HT2.out.ext (Ext.alloc (Ext.refl _) (.cells #[.int .i64 m, .int .i64 d] 60)))
        have HLE : Hid ((outsL ((cuts l a b).take j)).length ≤ 9) := Lib.hid (by
          unfold outsL
          rw [List.length_map]
          refine Nat.le_trans (List.length_filter_le _ _) ?_
          rw [List.length_take]
          have := HN.out
          omega)
        have h0 : w.heap.size + 4 ≤ y.w.heap.size := HT2.out.ab.b4.lt
        go_wp2_with (refine wpList_append_blk rfl (.tmp 53) (.tmp 57) 58 rfl (w.heap.size + 4) 60 _ 2 16 Try.underlying58 info_cut9 rfl (by decide) vo (outsL ((cuts l a b).take j)).length (cvs (outsL ((cuts l a b).take j))) rfl HT3.out.oo ⟨_, 0, none⟩ 1 1 (cvs [(m, d)]) rfl rfl ?c1 (cvs_one _) (by decide) ?c3 (by decide) ?c5 ?_)
        case c1 => exact news_at y.w (cvs [(m, d)]) 60
        case c3 => have := HLE.out; omega
        case c5 => simp; omega
        intro v' w' ho' hg' hb'
        have HT4 := Lib.hid (HT3.out.growO ho' hg' (fun g h => by simpa using hb' g h))
        clear ho' hg' hb' h0
        go_wp2_with fail
        go_roundg (n - (j + 1))
        case measure => omega
        case rel =>
          refine ⟨j + 1, vi, v', by omega, rfl, rfl, rfl, by go_num, Lib.hid ?_, Lib.hid ?_⟩
          · rw [HCT.out, insL_snoc, outsL_snoc, if_neg HNO.out, if_pos HI.out, HCU.out, List.append_nil]
            exact HT4.out
          · rw [HCT.out]
            exact upto_gone HG.out HGo.out
      · have HGo : Hid (¬ gone (dist s a, dist s b)) := Lib.hid (by unfold gone; simp only; omega)
        have HNI : Hid (¬ ins (dist s a, dist s b)) := Lib.hid (by unfold ins; simp only; omega)
        have HNO : Hid (¬ outs (dist s a, dist s b)) := Lib.hid (by unfold outs; simp only; omega)
        clear p1 p2
        go_wp2_with fail
        go_roundg (n - (j + 1))
        case measure => omega
        case rel =>
          refine ⟨j + 1, vi, vo, by omega, rfl, rfl, rfl, by go_num, Lib.hid ?_, Lib.hid ?_⟩
          · rw [HCT.out, insL_snoc, outsL_snoc, if_neg HNI.out, if_neg HNO.out, List.append_nil, List.append_nil]
            exact HT2.out
          · rw [HCT.out]
            exact upto_gone HG.out HGo.out
    · obtain rfl : j = n := by omega
      have htk : (cuts l a b).take l.length = cuts l a b := List.take_of_length_le (by simp [cuts])
      rw [← HL.out, htk] at HT HG
      clear htk
      obtain ⟨I, hI⟩ : ∃ I, I = insL (cuts l a b) := ⟨_, rfl⟩
      obtain ⟨O, hO⟩ : ∃ O, O = outsL (cuts l a b) := ⟨_, rfl⟩
      rw [← hI, ← hO] at HT
      have EI := Lib.hid hI
      have EO := Lib.hid hO
      clear hI hO
      have HBI : Hid (∀ x ∈ I, I64 x.1 ∧ I64 x.2) := Lib.hid (fun x hx => insL_bound (m := (cuts l a b).take l.length) (HBN.out l.length) (by rw [List.take_of_length_le (by simp [cuts]), ← EI.out]; exact hx))
      have HBO : Hid (∀ x ∈ O, I64 x.1 ∧ I64 x.2) := Lib.hid (fun x hx => outsL_bound (m := (cuts l a b).take l.length) (HBN.out l.length) (by rw [List.take_of_length_le (by simp [cuts]), ← EO.out]; exact hx))
      have HMI : Hid (∀ x ∈ I, May a b x.1 x.2) := Lib.hid (fun x hx => insL_may (m := cuts l a b) HA.out HB.out (by rw [← EI.out]; exact hx))
      have HMO : Hid (∀ x ∈ O, May a b x.1 x.2) := Lib.hid (fun x hx => outsL_may (m := cuts l a b) HA.out HB.out (by rw [← EO.out]; exact hx))
      obtain ⟨nI, hnI⟩ : ∃ k, k = I.length := ⟨_, rfl⟩
      obtain ⟨nO, hnO⟩ : ∃ k, k = O.length := ⟨_, rfl⟩
      have LI := Lib.hid hnI
      have LO := Lib.hid hnO
      obtain ⟨aI, cI, rfl, hRI⟩ := ownsRow_rd HT.out.oi
      obtain ⟨aO, cO, rfl, hRO⟩ := ownsRow_rd HT.out.oo
      rw [← hnI, ← hnO]
      rw [← hnI] at hRI
      rw [← hnO] at hRO
      have HRI := Lib.hid hRI
      have HRO := Lib.hid hRO
      have HAB := Lib.hid HT.out.ab
      clear hRI hRO HT hnI hnO HBN hlt hj HR HO
      obtain ⟨W1, rfl⟩ : ∃ W1 : World, W1 = wr := ⟨_, rfl⟩
      have kI : (nI : Int) ≤ 9223372036854775807 := HRI.out.nat_le
      have kO : (nO : Int) ≤ 9223372036854775807 := HRO.out.nat_le
      go_wp2_with fail
      go_loopg [15, 16] nI (fun gh i _ wx => ∃ q : Nat, q ≤ nI ∧ gh = nI - q ∧ i = .int .i64 q ∧ Hid (∀ q' x, q' < q → I[q']? = some x → ∀ y ∈ O, ¬ less y x) ∧ Hid (Ext W1 wx))
      case atStart => exact ⟨0, Nat.zero_le _, rfl, rfl, Lib.hid (fun q' x h => by omega), Lib.hid (Ext.refl _)⟩
      case round =>
        obtain ⟨q, hq, rfl, rfl, HQ, HE⟩ := hrel
        by_cases hlt : q < nI
        · obtain ⟨x, hx⟩ : ∃ x, I[q]? = some x := ⟨_, List.getElem?_eq_getElem (by rw [← LI.out]; exact hlt)⟩
          have HX := Lib.hid hx
          obtain ⟨bI, oI, rfl, -, -⟩ := HRI.out.at_ (by omega)
          clear hx
          have hq1 : (q : Int) < nI := by omega
          go_wp2_with fail
          go_loopg [16] nO (fun gh k wx => ∃ p : Nat, p ≤ nO ∧ gh = nO - p ∧ k = .int .i64 p ∧ Hid (∀ p' y, p' < p → O[p']? = some y → ¬ less y x) ∧ Hid (Ext W1 wx))
          case atStart => exact ⟨0, Nat.zero_le _, rfl, rfl, Lib.hid (fun q' x h => by omega), HE⟩
          case round =>
            obtain ⟨p, hp, rfl, rfl, HPp, HE2⟩ := hrel
            by_cases hlt2 : p < nO
            · obtain ⟨y, hy⟩ : ∃ y, O[p]? = some y := ⟨_, List.getElem?_eq_getElem (by rw [← LO.out]; exact hlt2)⟩
              obtain ⟨bO, oO, rfl, -, -⟩ := HRO.out.at_ (by omega)
              obtain ⟨c0, c1⟩ := cut_at (HRI.out.ext HE2.out) HX.out
              obtain ⟨d0, d1⟩ := cut_at (HRO.out.ext HE2.out) hy
              have HY := Lib.hid hy
              clear hy
              have hp1 : (p : Int) < nO := by omega
              by_cases hls : less y x
              · have CA := Lib.hid (fun W => above_yes x y W (HBI.out x (List.mem_of_getElem? HX.out)) (HBO.out y (List.mem_of_getElem? HY.out)) hls)
                have HBad : Hid (Bad (cuts l a b)) := Lib.hid (bad_pair (EI.out ▸ List.mem_of_getElem? HX.out) (EO.out ▸ List.mem_of_getElem? HY.out) hls)
                clear hls
                go_upto_region 19 with fail
                refine wp_region_later (by kernel_rfl) (by kernel_rfl) ?_
                repeat (go_big_quiet_step ((go_at_call 32; with_reducible exact Calls.later _ (CA.out _))))
                refine wpQuiet_nil ?_
                intro z
                have HAB2 := Lib.hid (HAB.out.ext (HE2.out.later z))
                clear c0 c1 d0 d1
                obtain ⟨q0, q1, q2, q3, q4, q5, q6, q7⟩ := cells8 HAB2.out.b3
                obtain ⟨r0, r1, r2, r3, r4, r5, r6, r7⟩ := frees8 HAB2.out.b3
                obtain ⟨s0, s1, s2, s3, s4, s5, s6, s7⟩ := cells8 HAB2.out.b4
                obtain ⟨t0, t1, t2, t3, t4, t5, t6, t7⟩ := frees8 HAB2.out.b4
                go_wp2_with fail
                clear q0 q1 q2 q3 q4 q5 q6 q7 r0 r1 r2 r3 r4 r5 r6 r7 s0 s1 s2 s3 s4 s5 s6 s7 t0 t1 t2 t3 t4 t5 t6 t7
                obtain ⟨R1, R2⟩ := both8 HAB2.out.b3 HAB2.out.b4 (by omega) V0 V0
                obtain ⟨q0, q1, q2, q3, q4, q5, q6, q7⟩ := cells8 R1
                obtain ⟨s0, s1, s2, s3, s4, s5, s6, s7⟩ := cells8 R2
                simp only [V0] at q0 q1 q2 q3 q4 q5 q6 q7 s0 s1 s2 s3 s4 s5 s6 s7
                try simp only [Exit.inBlock, Exit.then]
                refine bodyPost_ret (v := .tuple #[V0.v, V0.v, .bool false]) (by simp [results, Try.results13, q0, q1, q2, q3, q4, q5, q6, q7, s0, s1, s2, s3, s4, s5, s6, s7, go_sem, V0]) rfl (.inr ⟨HBad.out, rfl, ?_⟩)
                exact put8_ext (put8_ext HAB2.out.ex (by omega) V0) (by omega) V0
              · have CA := Lib.hid (fun W => above_no x y W (HBI.out x (List.mem_of_getElem? HX.out)) (HBO.out y (List.mem_of_getElem? HY.out)) hls)
                have HNL := Lib.hid hls
                clear hls
                go_upto_region 19 with fail
                refine wp_region_later (by kernel_rfl) (by kernel_rfl) ?_
                repeat (go_big_quiet_step ((go_at_call 32; with_reducible exact Calls.later _ (CA.out _))))
                refine wpQuiet_nil ?_
                intro z
                go_wp2_with fail
                go_roundg (nO - (p + 1))
                case measure => omega
                case rel =>
                  refine ⟨p + 1, by omega, rfl, by go_num, Lib.hid (fun p' y' h1 h2 => ?_), Lib.hid (HE2.out.later z)⟩
                  rcases Nat.lt_or_ge p' p with h3 | h3
                  · exact HPp.out p' y' h3 h2
                  · obtain rfl : p' = p := by omega
                    rw [HY.out] at h2
                    injection h2 with h2
                    rw [← h2]
                    exact HNL.out
            · obtain rfl : p = nO := by omega
              go_wp2_with fail
              go_roundg (nI - (q + 1))
              case measure => omega
              case rel =>
                refine ⟨q + 1, by omega, rfl, by go_num, Lib.hid (fun q' x' h1 h2 => ?_), HE2⟩
                rcases Nat.lt_or_ge q' q with h3 | h3
                · exact HQ.out q' x' h3 h2
                · obtain rfl : q' = q := by omega
                  rw [HX.out] at h2
                  injection h2 with h2
                  rw [← h2]
                  intro y hy
                  obtain ⟨p', hp', hy'⟩ := List.getElem_of_mem hy
                  exact HPp.out p' y (by rw [LO.out]; exact hp') (by rw [List.getElem?_eq_getElem hp', hy'])
        · obtain rfl : nI = q := by omega
          have HQ2 : Hid (∀ x ∈ I, ∀ y ∈ O, ¬ less y x) := Lib.hid (fun x hx => by
            obtain ⟨q', hq', hx'⟩ := List.getElem_of_mem hx
            exact HQ.out q' x (by rw [LI.out]; exact hq') (by rw [List.getElem?_eq_getElem hq', hx']))
          clear HQ hlt hq
          have HAB2 := Lib.hid (HAB.out.ext HE.out)
          have HRI2 := Lib.hid (HRI.out.ext HE.out)
          have HRO2 := Lib.hid (HRO.out.ext HE.out)
          clear HAB HRI HRO HE
          obtain ⟨W2, rfl⟩ : ∃ W2 : World, W2 = wr := ⟨_, rfl⟩
          obtain ⟨a0, a1, a2, a3, a4, a5, a6, a7⟩ := cells8 HAB2.out.b1
          obtain ⟨b0, b1, b2, b3, b4, b5, b6, b7⟩ := cells8 HAB2.out.b2
          have KA := HAB2.out.b1
          have KB := HAB2.out.b2
          have hz := HAB2.out.b4.lt
          go_upto_region 21 with fail
          go_cut [17, 18] from 86 to 87 (fun p q wx => ∃ P Q : Nat, p = .pointer (some ⟨P, 0, none⟩) ∧ q = .pointer (some ⟨Q, 0, none⟩) ∧ Hid (DE a b W2 wx P Q))
          case first =>
            go_region_held3 (fun w' => w'.cell? ⟨w.heap.size, 0, none⟩ = some (.int .i64 a.x) ∧ w'.cell? ⟨w.heap.size, 1, none⟩ = some (.int .i64 a.y) ∧ w'.cell? ⟨w.heap.size, 2, none⟩ = some (.int .i64 a.z) ∧ w'.cell? ⟨w.heap.size, 3, none⟩ = some (.int .i64 a.w) ∧ w'.cell? ⟨w.heap.size, 4, none⟩ = some (.int .i64 a.c0) ∧ w'.cell? ⟨w.heap.size, 5, none⟩ = some (.int .i64 a.c1) ∧ w'.cell? ⟨w.heap.size, 6, none⟩ = some (.int .i64 a.c2) ∧ w'.cell? ⟨w.heap.size, 7, none⟩ = some (.int .i64 a.c3) ∧ w'.cell? ⟨w.heap.size + 1, 0, none⟩ = some (.int .i64 b.x) ∧ w'.cell? ⟨w.heap.size + 1, 1, none⟩ = some (.int .i64 b.y) ∧ w'.cell? ⟨w.heap.size + 1, 2, none⟩ = some (.int .i64 b.z) ∧ w'.cell? ⟨w.heap.size + 1, 3, none⟩ = some (.int .i64 b.w) ∧ w'.cell? ⟨w.heap.size + 1, 4, none⟩ = some (.int .i64 b.c0) ∧ w'.cell? ⟨w.heap.size + 1, 5, none⟩ = some (.int .i64 b.c1) ∧ w'.cell? ⟨w.heap.size + 1, 6, none⟩ = some (.int .i64 b.c2) ∧ w'.cell? ⟨w.heap.size + 1, 7, none⟩ = some (.int .i64 b.c3)) (((refine vcells (t := 25) ?_ ?_ <;> (repeat (first | with_reducible assumption | with_reducible refine Blk.alloc ?_ _ | with_reducible refine Blk.drew ?_ | with_reducible refine Blk.far ?_ ?_ _ | (dsimp only; omega)))))) (fail)
            all_goals
              go_wp2_with fail
              go_meet
              refine ⟨_, _, rfl, rfl, Lib.hid ⟨by (repeat (first | with_reducible exact Ext.refl _ | with_reducible assumption | with_reducible refine Ext.alloc ?_ _ | with_reducible refine Ext.drew ?_ | with_reducible refine Ext.drewN ?_ _ | with_reducible refine Ext.later ?_ _ | (with_reducible refine Ext.setCell ?_ _ ?hp; case hp => first | (simp; done) | (simp; omega) | omega))), ?_, ?_, ?_, ?_, ?_⟩⟩
              · (repeat (first | with_reducible refine Blk.drew ?_ | (with_reducible refine Blk.new' _ _ _ ?_; (simp; done)) | with_reducible refine Blk.alloc ?_ _))
              · (repeat (first | with_reducible refine Blk.drew ?_ | (with_reducible refine Blk.new' _ _ _ ?_; (simp; done)) | with_reducible refine Blk.alloc ?_ _))
              · omega
              · omega
              · omega
          case rest =>
            clear KA KB hz a0 a1 a2 a3 a4 a5 a6 a7 b0 b1 b2 b3 b4 b5 b6 b7
            obtain ⟨P, Q, rfl, rfl, HD⟩ := hcut
            go_wp2_with fail
            go_loopg [19, 20, 21] nI (fun gh i _ _ wx => ∃ (q : Nat) (z0 : Vx), q ≤ nI ∧ gh = nI - q ∧ i = .int .i64 q ∧ Hid (Pick less a b a I q z0) ∧ Hid (DE z0 b W2 wx P Q))
            case atStart => exact ⟨0, a, Nat.zero_le _, rfl, rfl, Lib.hid (pick_zero _ _ _ _ _), HD⟩
            case round =>
              clear HD
              obtain ⟨q, z0, hq, rfl, rfl, HPk, HD⟩ := hrel
              by_cases hlt : q < nI
              · obtain ⟨x, hx⟩ : ∃ x, I[q]? = some x := ⟨_, List.getElem?_eq_getElem (by rw [← LI.out]; exact hlt)⟩
                have HX := Lib.hid hx
                obtain ⟨bI, oI, rfl, hbI, -⟩ := HRI2.out.at_ (by omega)
                have HbI := Lib.hid hbI
                clear hx hbI
                have hq1 : (q : Int) < nI := by omega
                go_wp2_with fail
                go_loopg [20, 21] nI (fun gh bst k wx => ∃ (p : Nat) (bb : Bool), p ≤ nI ∧ gh = nI - p ∧ bst = .bool bb ∧ k = .int .i64 p ∧ Hid (bb = true ↔ ∀ p' y, p' < p → I[p']? = some y → ¬ less x y) ∧ Hid (DE z0 b W2 wx P Q))
                case atStart => exact ⟨0, true, Nat.zero_le _, rfl, rfl, rfl, Lib.hid ⟨fun _ p' y h => by omega, fun _ => rfl⟩, HD⟩
                case round =>
                  clear HD
                  obtain ⟨p, bb, hp, rfl, rfl, rfl, HBB, HD⟩ := hrel
                  by_cases hlt2 : p < nI
                  · obtain ⟨y, hy⟩ : ∃ y, I[p]? = some y := ⟨_, List.getElem?_eq_getElem (by rw [← LI.out]; exact hlt2)⟩
                    have HY := Lib.hid hy
                    obtain ⟨c0, c1⟩ := cut_at (HRI2.out.ext HD.out.ex) HX.out
                    obtain ⟨d0, d1⟩ := cut_at (HRI2.out.ext HD.out.ex) HY.out
                    clear hy
                    have hp1 : (p : Int) < nI := by omega
                    cases bb
                    · go_upto_region 29 with fail
                      refine wp_region_later (by kernel_rfl) (by kernel_rfl) ?_
                      repeat (go_big_quiet_step (fail))
                      refine wpQuiet_nil ?_
                      intro z
                      go_wp2_with fail
                      go_roundg (nI - (p + 1))
                      case measure => omega
                      case rel =>
                        refine ⟨p + 1, false, by omega, rfl, rfl, by go_num, Lib.hid ⟨fun h => (by cases h), fun h => ?_⟩, Lib.hid (HD.out.ext z.ext)⟩
                        exact HBB.out.2 fun p' y' h1 h2 => h p' y' (by omega) h2
                    · by_cases hls : less x y
                      · have CA := Lib.hid (fun W => above_yes y x W (HBI.out y (List.mem_of_getElem? HY.out)) (HBI.out x (List.mem_of_getElem? HX.out)) hls)
                        have HLS := Lib.hid hls
                        clear hls
                        go_upto_region 29 with fail
                        refine wp_region_later (by kernel_rfl) (by kernel_rfl) ?_
                        repeat (go_big_quiet_step ((go_at_call 32; with_reducible exact Calls.later _ (CA.out _))))
                        refine wpQuiet_nil ?_
                        intro z
                        go_wp2_with fail
                        go_roundg (nI - (p + 1))
                        case measure => omega
                        case rel =>
                          refine ⟨p + 1, false, by omega, rfl, rfl, by go_num, Lib.hid ⟨fun h => (by cases h), fun h => ?_⟩, Lib.hid (HD.out.ext z.ext)⟩
                          exact absurd HLS.out (h p y (by omega) HY.out)
                      · have CA := Lib.hid (fun W => above_no y x W (HBI.out y (List.mem_of_getElem? HY.out)) (HBI.out x (List.mem_of_getElem? HX.out)) hls)
                        have HLS := Lib.hid hls
                        clear hls
                        go_upto_region 29 with fail
                        refine wp_region_later (by kernel_rfl) (by kernel_rfl) ?_
                        repeat (go_big_quiet_step ((go_at_call 32; with_reducible exact Calls.later _ (CA.out _))))
                        refine wpQuiet_nil ?_
                        intro z
                        go_wp2_with fail
                        go_roundg (nI - (p + 1))
                        case measure => omega
                        case rel =>
                          refine ⟨p + 1, true, by omega, rfl, rfl, by go_num, Lib.hid ⟨fun _ p' y' h1 h2 => ?_, fun _ => rfl⟩, Lib.hid (HD.out.ext z.ext)⟩
                          rcases Nat.lt_or_ge p' p with h3 | h3
                          · exact HBB.out.1 (by trivial) p' y' h3 h2
                          · obtain rfl : p' = p := by omega
                            rw [HY.out] at h2
                            injection h2 with h2
                            rw [← h2]
                            exact HLS.out
                  · obtain rfl : nI = p := by omega
                    have HBest : Hid (bb = true ↔ Best less I x) := Lib.hid (HBB.out.trans ⟨fun h y hy => by
                      obtain ⟨p', hp', hy'⟩ := List.getElem_of_mem hy
                      exact h p' y (by rw [LI.out]; exact hp') (by rw [List.getElem?_eq_getElem hp', hy']), fun h p' y _ h2 => h y (List.mem_of_getElem? h2)⟩)
                    clear HBB
                    cases bb
                    · have HNB : Hid (¬ Best less I x) := Lib.hid (fun h => by have := HBest.out.2 h; cases this)
                      go_wp2_with fail
                      go_roundg (nI - (q + 1))
                      case measure => omega
                      case rel => exact ⟨q + 1, z0, by omega, rfl, by go_num, Lib.hid (pick_no HPk.out HX.out HNB.out), HD⟩
                    · have HBe : Hid (Best less I x) := Lib.hid (HBest.out.1 rfl)
                      obtain ⟨c0, c1⟩ := cut_at (HRI2.out.ext HD.out.ex) HX.out
                      have HABx := Lib.hid (HAB2.out.ext HD.out.ex)
                      obtain ⟨a0, a1, a2, a3, a4, a5, a6, a7⟩ := cells8 HABx.out.b1
                      obtain ⟨b0, b1, b2, b3, b4, b5, b6, b7⟩ := cells8 HABx.out.b2
                      obtain ⟨q0, q1, q2, q3, q4, q5, q6, q7⟩ := cells8 HD.out.p
                      obtain ⟨f0, f1, f2, f3, f4, f5, f6, f7⟩ := frees8 HD.out.p
                      obtain ⟨t, ht⟩ : ∃ t, t = at_ a b x.1 x.2 := ⟨_, rfl⟩
                      have CT : Hid (∀ W, Calls Try.prog 8 #[a.v, b.v, .int .i64 x.1, .int .i64 x.2] W fun e w' => e = .returned (.tuple #[t.v, .int .i64 0]) ∧ Ext W w') := Lib.hid (fun W => by
                        rw [ht]
                        exact rat_may a b x.1 x.2 W (HMI.out x (List.mem_of_getElem? HX.out)) (HBI.out x (List.mem_of_getElem? HX.out)).2.2)
                      have HTt := Lib.hid ht
                      have hbP : bI ≠ P := by have h1 := HbI.out; have h2 := HD.out.hp; omega
                      have hsP : w.heap.size + 3 < P := by have h1 := HAB2.out.b4.lt; have h2 := HD.out.hp; omega
                      clear ht HBest
                      go_upto_region 31 with fail
                      have KA := HABx.out.b1
                      have KB := HABx.out.b2
                      go_region_held3 (fun w' => (w'.cell? ⟨bI, oI + q * 2, none⟩ = some (.int .i64 x.1) ∧ w'.cell? ⟨bI, oI + q * 2 + 1, none⟩ = some (.int .i64 x.2)) ∧ w'.cell? ⟨w.heap.size, 0, none⟩ = some (.int .i64 a.x) ∧ w'.cell? ⟨w.heap.size, 1, none⟩ = some (.int .i64 a.y) ∧ w'.cell? ⟨w.heap.size, 2, none⟩ = some (.int .i64 a.z) ∧ w'.cell? ⟨w.heap.size, 3, none⟩ = some (.int .i64 a.w) ∧ w'.cell? ⟨w.heap.size, 4, none⟩ = some (.int .i64 a.c0) ∧ w'.cell? ⟨w.heap.size, 5, none⟩ = some (.int .i64 a.c1) ∧ w'.cell? ⟨w.heap.size, 6, none⟩ = some (.int .i64 a.c2) ∧ w'.cell? ⟨w.heap.size, 7, none⟩ = some (.int .i64 a.c3) ∧ w'.cell? ⟨w.heap.size + 1, 0, none⟩ = some (.int .i64 b.x) ∧ w'.cell? ⟨w.heap.size + 1, 1, none⟩ = some (.int .i64 b.y) ∧ w'.cell? ⟨w.heap.size + 1, 2, none⟩ = some (.int .i64 b.z) ∧ w'.cell? ⟨w.heap.size + 1, 3, none⟩ = some (.int .i64 b.w) ∧ w'.cell? ⟨w.heap.size + 1, 4, none⟩ = some (.int .i64 b.c0) ∧ w'.cell? ⟨w.heap.size + 1, 5, none⟩ = some (.int .i64 b.c1) ∧ w'.cell? ⟨w.heap.size + 1, 6, none⟩ = some (.int .i64 b.c2) ∧ w'.cell? ⟨w.heap.size + 1, 7, none⟩ = some (.int .i64 b.c3)) ((refine ⟨⟨?_, ?_⟩, vcells (t := 25) ?_ ?_⟩ <;> (repeat (first | with_reducible assumption | with_reducible refine cell_far1 ?_ ?_ | with_reducible refine Blk.far ?_ ?_ _ | with_reducible refine Blk.drew ?_ | exact c0 | exact c1 | (dsimp only; omega)))))
                        ((go_at_call 8; (with_reducible refine (CT.out _).mono ?_); rintro e w5 ⟨rfl, hE⟩; have e0 : Ext wr w5 := Ext.trans (by (repeat (first | with_reducible exact Ext.refl _ | with_reducible assumption | with_reducible refine Ext.alloc ?_ _ | with_reducible refine Ext.drew ?_ | with_reducible refine Ext.drewN ?_ _ | with_reducible refine Ext.later ?_ _ | (with_reducible refine Ext.setCell ?_ _ ?hp; case hp => first | (simp; done) | (simp; omega) | omega)))) hE; have k0 := e0.cell_some c0; have k1 := e0.cell_some c1; have KA := HABx.out.b1.ext e0; have KB := HABx.out.b2.ext e0; have HDz := Lib.hid (HD.out.ext e0); clear hE c0 c1 q0 q1 q2 q3 q4 q5 q6 q7 f0 f1 f2 f3 f4 f5 f6 f7; obtain ⟨q0, q1, q2, q3, q4, q5, q6, q7⟩ := cells8 HDz.out.p; obtain ⟨f0, f1, f2, f3, f4, f5, f6, f7⟩ := frees8 HDz.out.p))
                      go_wp2_with fail
                      go_roundg (nI - (q + 1))
                      case measure => omega
                      case rel => exact ⟨q + 1, t, by omega, rfl, by go_num, Lib.hid (by rw [HTt.out]; exact pick_yes HX.out HBe.out), Lib.hid (HDz.out.setP t)⟩
              · obtain rfl : nI = q := by omega
                obtain ⟨u, rfl⟩ : ∃ u : Vx, u = z0 := ⟨_, rfl⟩
                have HPI := Lib.hid HPk.out
                clear HPk hlt hq
                go_wp2_with fail
                go_loopg [22, 23, 24] nO (fun gh i _ _ wx => ∃ (q : Nat) (z0 : Vx), q ≤ nO ∧ gh = nO - q ∧ i = .int .i64 q ∧ Hid (Pick (fun x y => less y x) a b b O q z0) ∧ Hid (DE u z0 W2 wx P Q))
                case atStart => exact ⟨0, b, Nat.zero_le _, rfl, rfl, Lib.hid (pick_zero _ _ _ _ _), HD⟩
                case round =>
                  clear HD
                  obtain ⟨q, z0, hq, rfl, rfl, HPk, HD⟩ := hrel
                  by_cases hlt : q < nO
                  · obtain ⟨x, hx⟩ : ∃ x, O[q]? = some x := ⟨_, List.getElem?_eq_getElem (by rw [← LO.out]; exact hlt)⟩
                    have HX := Lib.hid hx
                    obtain ⟨bI, oI, rfl, hbI, -⟩ := HRO2.out.at_ (by omega)
                    have HbI := Lib.hid hbI
                    clear hx hbI
                    have hq1 : (q : Int) < nO := by omega
                    go_wp2_with fail
                    go_loopg [23, 24] nO (fun gh bst k wx => ∃ (p : Nat) (bb : Bool), p ≤ nO ∧ gh = nO - p ∧ bst = .bool bb ∧ k = .int .i64 p ∧ Hid (bb = true ↔ ∀ p' y, p' < p → O[p']? = some y → ¬ less y x) ∧ Hid (DE u z0 W2 wx P Q))
                    case atStart => exact ⟨0, true, Nat.zero_le _, rfl, rfl, rfl, Lib.hid ⟨fun _ p' y h => by omega, fun _ => rfl⟩, HD⟩
                    case round =>
                      clear HD
                      obtain ⟨p, bb, hp, rfl, rfl, rfl, HBB, HD⟩ := hrel
                      by_cases hlt2 : p < nO
                      · obtain ⟨y, hy⟩ : ∃ y, O[p]? = some y := ⟨_, List.getElem?_eq_getElem (by rw [← LO.out]; exact hlt2)⟩
                        have HY := Lib.hid hy
                        obtain ⟨c0, c1⟩ := cut_at (HRO2.out.ext HD.out.ex) HX.out
                        obtain ⟨d0, d1⟩ := cut_at (HRO2.out.ext HD.out.ex) HY.out
                        clear hy
                        have hp1 : (p : Int) < nO := by omega
                        cases bb
                        · go_upto_region 39 with fail
                          refine wp_region_later (by kernel_rfl) (by kernel_rfl) ?_
                          repeat (go_big_quiet_step (fail))
                          refine wpQuiet_nil ?_
                          intro z
                          go_wp2_with fail
                          go_roundg (nO - (p + 1))
                          case measure => omega
                          case rel =>
                            refine ⟨p + 1, false, by omega, rfl, rfl, by go_num, Lib.hid ⟨fun h => (by cases h), fun h => ?_⟩, Lib.hid (HD.out.ext z.ext)⟩
                            exact HBB.out.2 fun p' y' h1 h2 => h p' y' (by omega) h2
                        · by_cases hls : less y x
                          · have CA := Lib.hid (fun W => above_yes x y W (HBO.out x (List.mem_of_getElem? HX.out)) (HBO.out y (List.mem_of_getElem? HY.out)) hls)
                            have HLS := Lib.hid hls
                            clear hls
                            go_upto_region 39 with fail
                            refine wp_region_later (by kernel_rfl) (by kernel_rfl) ?_
                            repeat (go_big_quiet_step ((go_at_call 32; with_reducible exact Calls.later _ (CA.out _))))
                            refine wpQuiet_nil ?_
                            intro z
                            go_wp2_with fail
                            go_roundg (nO - (p + 1))
                            case measure => omega
                            case rel =>
                              refine ⟨p + 1, false, by omega, rfl, rfl, by go_num, Lib.hid ⟨fun h => (by cases h), fun h => ?_⟩, Lib.hid (HD.out.ext z.ext)⟩
                              exact absurd HLS.out (h p y (by omega) HY.out)
                          · have CA := Lib.hid (fun W => above_no x y W (HBO.out x (List.mem_of_getElem? HX.out)) (HBO.out y (List.mem_of_getElem? HY.out)) hls)
                            have HLS := Lib.hid hls
                            clear hls
                            go_upto_region 39 with fail
                            refine wp_region_later (by kernel_rfl) (by kernel_rfl) ?_
                            repeat (go_big_quiet_step ((go_at_call 32; with_reducible exact Calls.later _ (CA.out _))))
                            refine wpQuiet_nil ?_
                            intro z
                            go_wp2_with fail
                            go_roundg (nO - (p + 1))
                            case measure => omega
                            case rel =>
                              refine ⟨p + 1, true, by omega, rfl, rfl, by go_num, Lib.hid ⟨fun _ p' y' h1 h2 => ?_, fun _ => rfl⟩, Lib.hid (HD.out.ext z.ext)⟩
                              rcases Nat.lt_or_ge p' p with h3 | h3
                              · exact HBB.out.1 (by trivial) p' y' h3 h2
                              · obtain rfl : p' = p := by omega
                                rw [HY.out] at h2
                                injection h2 with h2
                                rw [← h2]
                                exact HLS.out
                      · obtain rfl : nO = p := by omega
                        have HBest : Hid (bb = true ↔ Best (fun x y => less y x) O x) := Lib.hid (HBB.out.trans ⟨fun h y hy => by
                          obtain ⟨p', hp', hy'⟩ := List.getElem_of_mem hy
                          exact h p' y (by rw [LO.out]; exact hp') (by rw [List.getElem?_eq_getElem hp', hy']), fun h p' y _ h2 => h y (List.mem_of_getElem? h2)⟩)
                        clear HBB
                        cases bb
                        · have HNB : Hid (¬ Best (fun x y => less y x) O x) := Lib.hid (fun h => by have := HBest.out.2 h; cases this)
                          go_wp2_with fail
                          go_roundg (nO - (q + 1))
                          case measure => omega
                          case rel => exact ⟨q + 1, z0, by omega, rfl, by go_num, Lib.hid (pick_no HPk.out HX.out HNB.out), HD⟩
                        · have HBe : Hid (Best (fun x y => less y x) O x) := Lib.hid (HBest.out.1 rfl)
                          obtain ⟨c0, c1⟩ := cut_at (HRO2.out.ext HD.out.ex) HX.out
                          have HABx := Lib.hid (HAB2.out.ext HD.out.ex)
                          obtain ⟨a0, a1, a2, a3, a4, a5, a6, a7⟩ := cells8 HABx.out.b1
                          obtain ⟨b0, b1, b2, b3, b4, b5, b6, b7⟩ := cells8 HABx.out.b2
                          obtain ⟨q0, q1, q2, q3, q4, q5, q6, q7⟩ := cells8 HD.out.q
                          obtain ⟨f0, f1, f2, f3, f4, f5, f6, f7⟩ := frees8 HD.out.q
                          obtain ⟨t, ht⟩ : ∃ t, t = at_ a b x.1 x.2 := ⟨_, rfl⟩
                          have CT : Hid (∀ W, Calls Try.prog 8 #[a.v, b.v, .int .i64 x.1, .int .i64 x.2] W fun e w' => e = .returned (.tuple #[t.v, .int .i64 0]) ∧ Ext W w') := Lib.hid (fun W => by
                            rw [ht]
                            exact rat_may a b x.1 x.2 W (HMO.out x (List.mem_of_getElem? HX.out)) (HBO.out x (List.mem_of_getElem? HX.out)).2.2)
                          have HTt := Lib.hid ht
                          have hbP : bI ≠ Q := by have h1 := HbI.out; have h2 := HD.out.hq; omega
                          have hsP : w.heap.size + 3 < Q := by have h1 := HAB2.out.b4.lt; have h2 := HD.out.hq; omega
                          clear ht HBest
                          go_upto_region 41 with fail
                          have KA := HABx.out.b1
                          have KB := HABx.out.b2
                          go_region_held3 (fun w' => (w'.cell? ⟨bI, oI + q * 2, none⟩ = some (.int .i64 x.1) ∧ w'.cell? ⟨bI, oI + q * 2 + 1, none⟩ = some (.int .i64 x.2)) ∧ w'.cell? ⟨w.heap.size, 0, none⟩ = some (.int .i64 a.x) ∧ w'.cell? ⟨w.heap.size, 1, none⟩ = some (.int .i64 a.y) ∧ w'.cell? ⟨w.heap.size, 2, none⟩ = some (.int .i64 a.z) ∧ w'.cell? ⟨w.heap.size, 3, none⟩ = some (.int .i64 a.w) ∧ w'.cell? ⟨w.heap.size, 4, none⟩ = some (.int .i64 a.c0) ∧ w'.cell? ⟨w.heap.size, 5, none⟩ = some (.int .i64 a.c1) ∧ w'.cell? ⟨w.heap.size, 6, none⟩ = some (.int .i64 a.c2) ∧ w'.cell? ⟨w.heap.size, 7, none⟩ = some (.int .i64 a.c3) ∧ w'.cell? ⟨w.heap.size + 1, 0, none⟩ = some (.int .i64 b.x) ∧ w'.cell? ⟨w.heap.size + 1, 1, none⟩ = some (.int .i64 b.y) ∧ w'.cell? ⟨w.heap.size + 1, 2, none⟩ = some (.int .i64 b.z) ∧ w'.cell? ⟨w.heap.size + 1, 3, none⟩ = some (.int .i64 b.w) ∧ w'.cell? ⟨w.heap.size + 1, 4, none⟩ = some (.int .i64 b.c0) ∧ w'.cell? ⟨w.heap.size + 1, 5, none⟩ = some (.int .i64 b.c1) ∧ w'.cell? ⟨w.heap.size + 1, 6, none⟩ = some (.int .i64 b.c2) ∧ w'.cell? ⟨w.heap.size + 1, 7, none⟩ = some (.int .i64 b.c3)) ((refine ⟨⟨?_, ?_⟩, vcells (t := 25) ?_ ?_⟩ <;> (repeat (first | with_reducible assumption | with_reducible refine cell_far1 ?_ ?_ | with_reducible refine Blk.far ?_ ?_ _ | with_reducible refine Blk.drew ?_ | exact c0 | exact c1 | (dsimp only; omega)))))
                            ((go_at_call 8; (with_reducible refine (CT.out _).mono ?_); rintro e w5 ⟨rfl, hE⟩; have e0 : Ext wr w5 := Ext.trans (by (repeat (first | with_reducible exact Ext.refl _ | with_reducible assumption | with_reducible refine Ext.alloc ?_ _ | with_reducible refine Ext.drew ?_ | with_reducible refine Ext.drewN ?_ _ | with_reducible refine Ext.later ?_ _ | (with_reducible refine Ext.setCell ?_ _ ?hp; case hp => first | (simp; done) | (simp; omega) | omega)))) hE; have k0 := e0.cell_some c0; have k1 := e0.cell_some c1; have KA := HABx.out.b1.ext e0; have KB := HABx.out.b2.ext e0; have HDz := Lib.hid (HD.out.ext e0); clear hE c0 c1 q0 q1 q2 q3 q4 q5 q6 q7 f0 f1 f2 f3 f4 f5 f6 f7; obtain ⟨q0, q1, q2, q3, q4, q5, q6, q7⟩ := cells8 HDz.out.q; obtain ⟨f0, f1, f2, f3, f4, f5, f6, f7⟩ := frees8 HDz.out.q))
                          go_wp2_with fail
                          go_roundg (nO - (q + 1))
                          case measure => omega
                          case rel => exact ⟨q + 1, t, by omega, rfl, by go_num, Lib.hid (by rw [HTt.out]; exact pick_yes HX.out HBe.out), Lib.hid (HDz.out.setQ t)⟩
                  · obtain rfl : nO = q := by omega
                    obtain ⟨v, rfl⟩ : ∃ v : Vx, v = z0 := ⟨_, rfl⟩
                    have HLL : Hid (∃ f g, Left (cuts l a b) f g ∧ u = endP a b f ∧ v = endQ a b g) := Lib.hid (by
                      have h1 := HPI.out
                      have h2 := HPk.out
                      rw [LI.out, EI.out] at h1
                      rw [LO.out, EO.out] at h2
                      obtain ⟨f, hf, e1⟩ := pick_first h1
                      obtain ⟨g, hg, e2⟩ := pick_last h2
                      refine ⟨f, g, left_all HG.out hf hg ?_, e1, e2⟩
                      rw [← EI.out, ← EO.out]
                      exact HQ2.out)
                    have HABx := Lib.hid (HAB2.out.ext HD.out.ex)
                    have HAB2x := HAB2
                    clear HPI HPk hlt hq HAB2 HRI2 HRO2
                    have KP := HD.out.p
                    have KQ := HD.out.q
                    have hP := HD.out.hp
                    have hQ := HD.out.hq
                    have hne := HD.out.ne
                    obtain ⟨p0, p1, p2, p3, p4, p5, p6, p7⟩ := cells8 KP
                    obtain ⟨v0, v1, v2, v3, v4, v5, v6, v7⟩ := cells8 KQ
                    obtain ⟨s0, s1, s2, s3, s4, s5, s6, s7⟩ := cells8 HABx.out.b3
                    obtain ⟨t0, t1, t2, t3, t4, t5, t6, t7⟩ := frees8 HABx.out.b3
                    obtain ⟨x0, x1, x2, x3, x4, x5, x6, x7⟩ := cells8 HABx.out.b4
                    obtain ⟨y0, y1, y2, y3, y4, y5, y6, y7⟩ := frees8 HABx.out.b4
                    have hz := HAB2x.out.b4.lt
                    go_upto_region 42 with fail
                    go_region_held3 (fun w' => w'.cell? ⟨P, 0, none⟩ = some (.int .i64 u.x) ∧ w'.cell? ⟨P, 1, none⟩ = some (.int .i64 u.y) ∧ w'.cell? ⟨P, 2, none⟩ = some (.int .i64 u.z) ∧ w'.cell? ⟨P, 3, none⟩ = some (.int .i64 u.w) ∧ w'.cell? ⟨P, 4, none⟩ = some (.int .i64 u.c0) ∧ w'.cell? ⟨P, 5, none⟩ = some (.int .i64 u.c1) ∧ w'.cell? ⟨P, 6, none⟩ = some (.int .i64 u.c2) ∧ w'.cell? ⟨P, 7, none⟩ = some (.int .i64 u.c3) ∧ w'.cell? ⟨Q, 0, none⟩ = some (.int .i64 v.x) ∧ w'.cell? ⟨Q, 1, none⟩ = some (.int .i64 v.y) ∧ w'.cell? ⟨Q, 2, none⟩ = some (.int .i64 v.z) ∧ w'.cell? ⟨Q, 3, none⟩ = some (.int .i64 v.w) ∧ w'.cell? ⟨Q, 4, none⟩ = some (.int .i64 v.c0) ∧ w'.cell? ⟨Q, 5, none⟩ = some (.int .i64 v.c1) ∧ w'.cell? ⟨Q, 6, none⟩ = some (.int .i64 v.c2) ∧ w'.cell? ⟨Q, 7, none⟩ = some (.int .i64 v.c3)) (((refine vcells (t := 25) ?_ ?_ <;> (repeat (first | with_reducible assumption | with_reducible refine Blk.alloc ?_ _ | with_reducible refine Blk.drew ?_ | with_reducible refine Blk.far ?_ ?_ _ | (dsimp only; omega)))))) (fail)
                    clear p0 p1 p2 p3 p4 p5 p6 p7 v0 v1 v2 v3 v4 v5 v6 v7 s0 s1 s2 s3 s4 s5 s6 s7 t0 t1 t2 t3 t4 t5 t6 t7 x0 x1 x2 x3 x4 x5 x6 x7 y0 y1 y2 y3 y4 y5 y6 y7
                    go_wp2_with fail
                    obtain ⟨R1, R2⟩ := both8 HABx.out.b3 HABx.out.b4 (by omega) u v
                    obtain ⟨q0, q1, q2, q3, q4, q5, q6, q7⟩ := cells8 R1
                    obtain ⟨s0, s1, s2, s3, s4, s5, s6, s7⟩ := cells8 R2
                    obtain ⟨f, g, hL, hu, hv⟩ := HLL.out
                    try simp only [Exit.inBlock, Exit.then]
                    refine bodyPost_ret (v := .tuple #[u.v, v.v, .bool true]) (by simp [results, Try.results13, q0, q1, q2, q3, q4, q5, q6, q7, s0, s1, s2, s3, s4, s5, s6, s7, go_sem]) rfl (.inl ⟨f, g, hL, by rw [hu, hv], ?_⟩)
                    exact (put8_ext (put8_ext HABx.out.ex (by omega) _) (by omega) _).drew
end Go.Proofs.Ytibhfclkdbmmoaa
