/- Proof text: the document's diamond (rastrumref13: Exits); points that are few and near. By an AI agent. No condition beyond what each theorem states. -/
import Derived.Test.YtplljnfjkkloeaaGreatDoorYE
import Derived.Test.YtplljnfjkkloeaaGreatDoorMB
set_option linter.unusedVariables false
set_option linter.unusedSimpArgs false
namespace Go.Proofs.YtplljnfjkkloeaaGreatDoor
attribute [local go_sem] Go.Oper.semAt_some
open Go.RowKit
set_option maxRecDepth 100000 in
set_option maxHeartbeats 4000000 in
theorem exits_any (ax ay bx by_ gx gy : Int) (w : World) (ha : (-1048576 ≤ ax ∧ ax ≤ 1048576) ∧ (-1048576 ≤ ay ∧ ay ≤ 1048576)) (hb : (-1048576 ≤ bx ∧ bx ≤ 1048576) ∧ (-1048576 ≤ by_ ∧ by_ ≤ 1048576)) (hx : 0 ≤ gx ∧ gx ≤ 10) (hy : 0 ≤ gy ∧ gy ≤ 10) :
    Calls Tryz.prog 24 #[.agg (ptR ax ay), .agg (ptR bx by_), .int .i64 gx, .int .i64 gy] w fun e w' => e = .returned (.bool (decide (rExits ax ay bx by_ gx gy))) ∧ Ext w w' := by
  have HME := Lib.hid (fun wz => meets_any ax ay bx by_ gx gy wz ha hb hx hy)
  have HIN := Lib.hid (fun wz => inside_any bx by_ gx gy wz hb hx hy)
  obtain ⟨r, hr⟩ : ∃ r, r = decide (rExits ax ay bx by_ gx gy) := ⟨_, rfl⟩
  rw [← hr]
  have hr2 : r = (decide (rMeets ax ay bx by_ gx gy) && !decide (rIn bx by_ gx gy)) := by
    rw [hr, Bool.eq_iff_iff]
    simp only [Bool.and_eq_true, Bool.not_eq_true', decide_eq_true_eq, decide_eq_false_iff_not]
    exact Iff.rfl
  clear hr ha hb hx hy
  generalize decide (rMeets ax ay bx by_ gx gy) = B1 at *
  generalize decide (rIn bx by_ gx gy) = B2 at *
  have HR := Lib.hid hr2
  clear hr2
  cases B1 <;> cases B2
  all_goals
    have HRV : Hid (r = _) := Lib.hid HR.out
    go_enter Tryz.func24, Tryz.ntmps24
    go_wp2_with (first | (go_at_call 45; refine (HME.out _).mono ?_; rintro e w1 ⟨rfl, hE⟩; obtain ⟨z, rfl⟩ := Later.mk' hE; clear hE) | (go_at_call 46; refine (HIN.out _).mono ?_; rintro e w1 ⟨rfl, hE⟩; obtain ⟨z, rfl⟩ := Later.mk' hE; clear hE))
    go_ret
    exact ⟨by rw [HR.out]; rfl, by (repeat (first | with_reducible exact Ext.refl _ | with_reducible assumption | with_reducible refine Ext.alloc ?_ _ | with_reducible refine Ext.drew ?_ | with_reducible refine Ext.drewN ?_ _ | with_reducible refine Ext.later ?_ _ | (with_reducible refine Ext.setCell ?_ _ ?hp; case hp => first | (simp; done) | (simp; omega) | omega)))⟩
instance (q : Int × Int) : Decidable (Unit q) := by unfold Unit; infer_instance
def nearT (L : List (Int × Int)) (most : Int) : Bool := decide ((L.length : Int) ≤ most ∧ ∀ q ∈ L, Unit q)
set_option maxRecDepth 100000 in
set_option maxHeartbeats 8000000 in
theorem near_any (L : List (Int × Int)) (A : Option Addr) (n cap : Nat) (most : Int) (w : World) (hr : Rd w 2 A n cap (L.flatMap ptc)) (hL : L.length = n) :
    Calls Tryz.prog 19 #[.slice A n cap, .int .i64 most] w fun e w' => e = .returned (.bool (nearT L most)) ∧ w = w' := by
  have hn := hr.nat_le
  have HR := Lib.hid hr
  have HL := Lib.hid hL
  obtain ⟨r, hrr⟩ : ∃ r, r = nearT L most := ⟨_, rfl⟩
  rw [← hrr]
  unfold nearT at hrr
  rw [hL] at hrr
  have HRR := Lib.hid hrr
  clear hr hL hrr
  go_enter Tryz.func19, Tryz.ntmps19
  by_cases hm : most < n
  · have b0 : decide ((n : Int) > most) = true := by simpa using hm
    have HV : Hid (r = false) := Lib.hid (by rw [HRR.out]; apply decide_eq_false; rintro ⟨h, -⟩; omega)
    clear hm
    go_wp2_with fail
    go_ret
    exact ⟨by rw [HV.out]; rfl, rfl⟩
  have b0 : decide ((n : Int) > most) = false := by simpa using hm
  have HM := Lib.hid hm
  clear hm
  go_wp2_with fail
  go_loop [5] (fun i => ∃ k : Nat, k ≤ n ∧ i = .int .i64 k ∧ Hid (∀ j q, j < k → L[j]? = some q → Unit q)) (fun i => n - (intOf i).toNat)
  case atStart => exact ⟨0, Nat.zero_le _, rfl, Lib.hid (fun j q hj => by omega)⟩
  case round =>
    obtain ⟨k, hk, rfl, HX⟩ := hrel
    by_cases hlt : k < n
    · obtain ⟨q, hq⟩ : ∃ q, L[k]? = some q := ⟨_, List.getElem?_eq_getElem (by rw [HL.out]; exact hlt)⟩
      obtain ⟨b, off, ha, -, -⟩ := HR.out.at_ (by omega)
      subst ha
      obtain ⟨c0, c1⟩ := pt_at HR.out hq
      have HQ := Lib.hid hq
      have hk0 : (0 : Int) ≤ k := by omega
      have hkn : (k : Int) < n := by omega
      have HB : ∃ b1 b2 b3 b4 : Bool, decide (q.1 < -1048576) = b1 ∧ decide (q.1 > 1048576) = b2 ∧ decide (q.2 < -1048576) = b3 ∧ decide (q.2 > 1048576) = b4 ∧ decide (Unit q) = (!b1 && !b2 && !b3 && !b4) := by
        refine ⟨_, _, _, _, rfl, rfl, rfl, rfl, ?_⟩
        unfold Unit
        simp only [← decide_not, ← Bool.decide_and]
        apply decide_eq_decide.2
        omega
      obtain ⟨b1, b2, b3, b4, e1, e2, e3, e4, hu⟩ := HB
      clear hq
      by_cases hun : Unit q
      · rw [decide_eq_true hun] at hu
        have HU := Lib.hid hun
        clear hun
        cases b1 <;> cases b2 <;> cases b3 <;> cases b4 <;> first | (exfalso; simp at hu; done) | skip
        clear hu
        have HN : Hid (∀ j q, j < k + 1 → L[j]? = some q → Unit q) := Lib.hid (fun j q' hj hq' => by
          by_cases hjk : j = k
          · subst hjk
            rw [HQ.out] at hq'
            obtain rfl := Option.some.inj hq'
            exact HU.out
          · exact HX.out j q' (by omega) hq')
        have hk1 : wrap64 ((k : Int) + 1) = (k : Int) + 1 := wrap64_of (by omega) (by omega)
        go_wp2_with fail
        go_round
        case rel => first | exact ⟨k + 1, by omega, by go_num, HN⟩ | ((repeat apply Exists.intro); exact ⟨⟨k + 1, by omega, by go_num, HN⟩, rfl⟩)
        case measure => simp [intOf]; omega
      · rw [decide_eq_false hun] at hu
        have HV : Hid (r = false) := Lib.hid (by rw [HRR.out]; apply decide_eq_false; rintro ⟨-, h⟩; exact hun (h q (List.mem_of_getElem? HQ.out)))
        clear hun
        cases b1 <;> cases b2 <;> cases b3 <;> cases b4 <;> first | (exfalso; simp at hu; done) | skip
        all_goals
          clear hu
          go_wp2_with fail
          go_ret
          exact ⟨by rw [HV.out]; rfl, rfl⟩
    · obtain rfl : k = n := by omega
      have HV : Hid (r = true) := Lib.hid (by
        rw [HRR.out]
        apply decide_eq_true
        refine ⟨by have := HM.out; omega, fun q hq => ?_⟩
        obtain ⟨j, hj, rfl⟩ := List.getElem_of_mem hq
        exact HX.out j _ (by rw [← HL.out]; exact hj) (List.getElem?_eq_getElem hj))
      go_wp2_with fail
      go_ret
      exact ⟨by rw [HV.out]; rfl, rfl⟩
end Go.Proofs.YtplljnfjkkloeaaGreatDoor
set_option linter.unusedVariables false
set_option linter.unusedSimpArgs false
namespace Go.Proofs.YtplljnfjkkloeaaGreatDoor
attribute [local go_sem] Go.Oper.semAt_some
open Go.RowKit
def one (b : Bool) : Nat := if b = true then 1 else 0
theorem exitsN_cons (x y : Int) (a b : Int × Int) (l : List (Int × Int)) : exitsN x y (a :: b :: l) = one (decide (rExits a.1 a.2 b.1 b.2 x y)) + exitsN x y (b :: l) := by
  simp only [exitsN]
  congr 1
  unfold one
  by_cases h : rExits a.1 a.2 b.1 b.2 x y
  · rw [if_pos h, if_pos (by simpa using h)]
  · rw [if_neg h, if_neg (by simpa using h)]
theorem exitsN_two (x y : Int) (a b : Int × Int) : exitsN x y [a, b] = one (decide (rExits a.1 a.2 b.1 b.2 x y)) := by
  rw [exitsN_cons]; simp [exitsN]
theorem exitsN_snoc (x y : Int) (a b : Int × Int) : ∀ l : List (Int × Int), exitsN x y (l ++ [a, b]) = exitsN x y (l ++ [a]) + one (decide (rExits a.1 a.2 b.1 b.2 x y))
  | [] => by rw [List.nil_append, List.nil_append, exitsN_two]; simp [exitsN]
  | [c] => by
    show exitsN x y (c :: a :: [b]) = exitsN x y [c, a] + _
    rw [exitsN_cons, exitsN_two, exitsN_two]
  | c :: d :: l => by
    have h := exitsN_snoc x y a b (d :: l)
    simp only [List.cons_append] at h ⊢
    rw [exitsN_cons, exitsN_cons, h]
    omega
theorem exitsN_take (x y : Int) {L : List (Int × Int)} {k : Nat} {p q : Int × Int} (hp : L[k]? = some p) (hq : L[k + 1]? = some q) :
    exitsN x y (L.take (k + 1 + 1)) = exitsN x y (L.take (k + 1)) + one (decide (rExits p.1 p.2 q.1 q.2 x y)) := by
  obtain ⟨h1, rfl⟩ := List.getElem?_eq_some_iff.1 hp
  obtain ⟨h2, rfl⟩ := List.getElem?_eq_some_iff.1 hq
  rw [List.take_succ_eq_append_getElem h2, List.take_succ_eq_append_getElem h1, List.append_assoc]
  exact exitsN_snoc x y _ _ _
theorem exitsN_first (x y : Int) (L : List (Int × Int)) : exitsN x y (L.take (0 + 1)) = 0 := by
  cases L <;> simp [exitsN]
theorem strip_reds (d : Da) (L : List (Int × Int)) (h : L.length ≤ 20) (j : Nat) (hj : j < 72) : ((endC 1 false d L).map red)[j]? = some ((exitsN ((j : Int) % 9) ((j : Int) / 9) L : Nat) : Int) := by
  have := exitsN_le ((j : Int) % 9) ((j : Int) / 9) L
  rw [reds_strip, List.getElem?_map, List.getElem?_range hj]
  simp only [Option.map_some, Option.some.injEq]
  omega
set_option maxRecDepth 100000 in
set_option maxHeartbeats 16000000 in
theorem strip_any (L : List (Int × Int)) (A : Option Addr) (n cap : Nat) (w : World) (hW : Wd w) (hr : Rd w 2 A n cap (L.flatMap ptc)) (hL : L.length = n) :
    Calls Tryz.prog 5 #[.slice A n cap] w fun e w' => e = .returned (.bool true) ∧ Ext w w' := by
  have HW := Lib.hid hW
  have HR := Lib.hid hr
  have HLN := Lib.hid hL
  have HNE := Lib.hid (near_any L A n cap 20 w hr hL)
  clear hW hr hL
  have HAW := Lib.hid awake_any
  go_enter Tryz.func5, Tryz.ntmps5
  go_wp2_with fail
  refine HNE.out.mono ?_
  rintro e w1 ⟨rfl, rfl⟩
  obtain ⟨B, hB⟩ : ∃ B, B = nearT L 20 := ⟨_, rfl⟩
  rw [← hB]
  have HB := Lib.hid hB
  clear hB HNE
  cases B
  · go_wp2_with fail
    refine (HAW.out _ HW.out).mono ?_
    rintro e w1 ⟨rfl, hE⟩
    obtain ⟨y, rfl⟩ := Later.mk' hE
    clear hE
    go_wp2_with fail
    go_ret
    exact ⟨rfl, by (repeat (first | with_reducible exact Ext.refl _ | with_reducible assumption | with_reducible refine Ext.alloc ?_ _ | with_reducible refine Ext.drew ?_ | with_reducible refine Ext.drewN ?_ _ | with_reducible refine Ext.later ?_ _ | (with_reducible refine Ext.setCell ?_ _ ?hp; case hp => first | (simp; done) | (simp; omega) | omega)))⟩
  have HNN : Hid (n ≤ 20 ∧ ∀ q ∈ L, Unit q) := Lib.hid (by
    have h := of_decide_eq_true (show decide ((L.length : Int) ≤ 20 ∧ ∀ q ∈ L, Unit q) = true from HB.out.symm)
    exact ⟨by have := HLN.out; omega, h.2⟩)
  clear HB
  go_wp2_with fail
  refine (places_any 9 8 _).mono ?_
  rintro e w1 ⟨pv, Q1, rfl, hc1, hE⟩
  have HC1 := Lib.hid hc1
  have HE1 := Lib.hid hE
  have HRD1 := Lib.hid (HR.out.ext hE)
  have HB1 := Lib.hid hE.size
  clear hc1 hE
  have hb0 : w.heap.size ≤ w.heap.size := Nat.le_refl _
  have HB0 : Hid (∃ b, b = w.heap.size ∧ w.heap.size ≤ b) := Lib.hid ⟨_, rfl, hb0⟩
  clear hb0
  go_wp2_with fail
  refine (shape_any 2 L A n cap _ HRD1.out HLN.out (by have := HNN.out.1; omega)).mono ?_
  rintro e w2 ⟨sv, Q2, rfl, hc2, hE⟩
  obtain ⟨sa, sc, rfl, hs2⟩ := ownsRow_rd hc2.own
  have HC2 := Lib.hid hc2
  have hM : (shapeL 2 L).length = n + 2 := by simp [shapeL, HLN.out]
  rw [hM] at hs2 ⊢
  have HS2 := Lib.hid hs2
  have HEE := Lib.hid hE
  have HE2 := Lib.hid (HE1.out.trans hE)
  have HB2 := Lib.hid (Nat.le_trans HB1.out hE.size)
  have HM := Lib.hid hM
  have hn20 := HNN.out.1
  clear hc2 hs2 hE hM
  go_wp2_with (refine wpList_append_rd rfl (.tmp 12) (.tmp 14) 22 rfl w.heap.size 88 _ 2 32 Tryz.underlying22 info_rq rfl (by decide) pv 4 (Q1.flatMap Rq.cells) rfl (ownsRow_ext HC1.out.own HEE.out) sa (n + 2) sc (Q2.flatMap Rq.cells) rfl HS2.out (rq_one _) ?c3 (by decide) HB2.out ?_)
  case c3 => omega
  intro v' w3 ho' hg'
  obtain ⟨ca, cc, rfl, hcm⟩ := cat_cmds HC1.out HEE.out HC2.out hg' (by rw [HM.out]; exact ho')
  have hN : (placesL 9 8 ++ shapeL 2 L).length = n + 6 := by rw [List.length_append, HM.out]; show 4 + (n + 2) = n + 6; omega
  rw [hN] at hcm ⊢
  have HCM := Lib.hid hcm
  have HE4 := Lib.hid (HE2.out.grown hg' (fun g hk => own_ge HC1.out.own g hk))
  clear ho' hg' hcm hN HC1 HC2 HS2 HEE HE1 HRD1
  have HRN := Lib.hid (run_cmds (stripCs_steps L HNN.out.2 (by rw [HLN.out]; omega)) ca (n + 6) cc w3 (HW.out.ext HE4.out).glob HCM.out (by omega))
  clear hn20
  go_wp2_with fail
  refine HRN.out.mono ?_
  rintro e w4 ⟨l, he, hl, hE⟩
  obtain ⟨cs, hcs⟩ : ∃ c, c = (sE 1 false d00).cs (pE 1 false d00 L) l := ⟨_, rfl⟩
  rw [← hcs] at he
  subst he
  have hsz : cs.size = 94 := by rw [hcs]; rfl
  have HC0 : Hid (cs[0]? = some (.int .i64 0)) := Lib.hid (by rw [hcs]; rfl)
  have HC3 : Hid (cs[3]? = some (.slice l.c 72 l.cc)) := Lib.hid (by
    have h : cs[3]? = some (.slice l.c (pE 1 false d00 L).C.length l.cc) := by rw [hcs]; rfl
    rw [h]
    congr 2
    exact endC_len 1 false d00 L)
  have HCO : Hid (∀ u ∈ cs.toList, u.oneCell' = true) := Lib.hid (by rw [hcs]; exact Ps.cs_one _ _ _)
  have HRC : Hid (Rd w4 1 l.c 72 l.cc (ivs (endC 1 false d00 L))) := Lib.hid (by have := hl.lies.c; rw [show (pE 1 false d00 L).C.length = 72 from endC_len 1 false d00 L] at this; exact this)
  have HE5 := Lib.hid (HE4.out.trans hE)
  clear hcs hl hE HRN HCM HE4
  go_wp2_with (refine wpList_store_blk rfl (.tmp 3) (.tmp 16) 53 rfl 0 rfl (.agg cs) rfl (Blk.new w4 53 Tryz.zeroCells53) (by show _ = some cs.size; rw [hsz]; exact size_pipe) ?c1 ?c2 ?_)
  case c1 => exact fun u hu => HCO.out u hu
  case c2 => show 0 + cs.size ≤ _; rw [hsz]; decide
  intro w5 hb hk5
  rw [spl_all _ _ (by show cs.size = _; rw [hsz]; rfl)] at hb
  have HB5 := Lib.hid hb
  have HE6 := Lib.hid (hk5.ext ((HE5.out).alloc (.cells Tryz.zeroCells53 53)) (fun k hk => by have := HE5.out.size; omega))
  have HR5 : Hid (Rd w5 1 l.c 72 l.cc (ivs (endC 1 false d00 L))) := Lib.hid ((HRC.out.ext ((Ext.refl w4).alloc (.cells Tryz.zeroCells53 53))).kp hk5 (fun ad e => by have := HRC.out.ptr (by omega) ad e; omega))
  clear hb hk5 HRC HE5
  generalize w4.heap.size = G at *
  go_wp2_with (refine wpList_load_blk rfl (.tmp 3) 53 rfl 0 rfl HB5.out 94 agg_pipe size_pipe (by show 0 + 94 ≤ cs.size; rw [hsz]; exact Nat.le_refl _) cs (by show cs.extract 0 (0 + 94) = cs; rw [show 0 + 94 = cs.size from hsz.symm, Array.extract_size]) ?_)
  go_wp2_with fail
  refine (reds_any cs (endC 1 false d00 L) l.c 72 l.cc w5 HC3.out HR5.out (by omega) (endC_in d00 L)).mono ?_
  rintro e w6 ⟨ra, rc, rfl, hrr, hE⟩
  obtain ⟨RL, hRL⟩ : ∃ z, z = (endC 1 false d00 L).map red := ⟨_, rfl⟩
  rw [← hRL] at hrr
  have HRL : Hid (∀ j : Nat, j < 72 → RL[j]? = some ((exitsN ((j : Int) % 9) ((j : Int) / 9) L : Nat) : Int)) := Lib.hid (fun j hj => by rw [hRL]; exact strip_reds d00 L (by rw [HLN.out]; exact HNN.out.1) j hj)
  clear hRL
  have HRR := Lib.hid hrr
  have HE7 := Lib.hid (HE6.out.trans hE)
  have q0 := ((HB5.out.ext hE).cell 0).trans HC0.out
  clear hrr hE HR5 HE6 HB5
  go_wp2_with fail
  go_loopw [5] (fun i wr => ∃ j : Nat, j ≤ 72 ∧ i = .int .i64 j ∧ Hid (Ext w6 wr)) (fun i _ => 72 - (intOf i).toNat)
  case atStart => exact ⟨0, by omega, rfl, Lib.hid (Ext.refl _)⟩
  case round =>
    obtain ⟨j, hj, rfl, HX⟩ := hrel
    obtain ⟨W7, rfl⟩ : ∃ W7 : World, W7 = wr := ⟨_, rfl⟩
    by_cases hjl : j < 72
    · obtain ⟨X, hX⟩ : ∃ X, X = (j : Int) % 9 := ⟨_, rfl⟩
      obtain ⟨Y, hY⟩ : ∃ Y, Y = (j : Int) / 9 := ⟨_, rfl⟩
      have hx := HRL.out j hjl
      rw [← hX, ← hY] at hx
      have HXY : Hid ((0 ≤ X ∧ X ≤ 10) ∧ (0 ≤ Y ∧ Y ≤ 10)) := Lib.hid (by omega)
      have e1 : Hid ((j : Int).tmod 9 = X) := Lib.hid (by rw [hX]; exact Int.tmod_eq_emod_of_nonneg (by omega))
      have e2 : Hid ((j : Int).tdiv 9 = Y) := Lib.hid (by rw [hY]; exact Int.tdiv_eq_ediv_of_nonneg (by omega))
      have e3 : Hid (wrap64 Y = Y) := Lib.hid (wrap64_of (by omega) (by omega))
      have HRX := Lib.hid hx
      have HRA := HRR.out.at_ (by omega)
      clear hX hY hx
      have hj72 : (j : Int) < 72 := by omega
      have hj0 : (0 : Int) ≤ j := by omega
      go_wp2_with fail
      go_loopw [6, 7] (fun c k wr => ∃ m : Nat, (m + 1 ≤ n ∨ m = 0) ∧ k = .int .i64 ((m : Int) + 1) ∧ c = .int .i64 (exitsN X Y (L.take (m + 1)) : Nat) ∧ Hid (Ext W7 wr)) (fun _ k _ => n - (intOf k).toNat)
      case atStart => exact ⟨0, Or.inr rfl, rfl, by rw [exitsN_first]; rfl, Lib.hid (Ext.refl _)⟩
      case round =>
        obtain ⟨m, hm, rfl, rfl, HZ⟩ := hrel
        obtain ⟨W8, rfl⟩ : ∃ W8 : World, W8 = wr := ⟨_, rfl⟩
        by_cases hml : m + 1 < n
        · obtain ⟨p, hp⟩ : ∃ p, L[m]? = some p := ⟨_, List.getElem?_eq_getElem (by rw [HLN.out]; omega)⟩
          obtain ⟨q, hq⟩ : ∃ q, L[m + 1]? = some q := ⟨_, List.getElem?_eq_getElem (by rw [HLN.out]; omega)⟩
          obtain ⟨b, off, ha, -, -⟩ := HR.out.at_ (by omega)
          subst ha
          have HRW := HR.out.ext (HE7.out.trans (HX.out.trans HZ.out))
          obtain ⟨p0, p1⟩ := pt_at HRW hp
          obtain ⟨c0, c1⟩ := pt_at HRW hq
          have hpu := HNN.out.2 p (List.mem_of_getElem? hp)
          have hqu := HNN.out.2 q (List.mem_of_getElem? hq)
          obtain ⟨B, hB⟩ : ∃ B, B = decide (rExits p.1 p.2 q.1 q.2 X Y) := ⟨_, rfl⟩
          have HEX : Hid (∀ wz, Calls Tryz.prog 24 #[.agg (ptR p.1 p.2), .agg (ptR q.1 q.2), .int .i64 X, .int .i64 (wrap64 Y)] wz fun e w' => e = .returned (.bool B) ∧ Ext wz w') := Lib.hid (fun wz => by rw [hB, e3.out]; exact exits_any p.1 p.2 q.1 q.2 X Y wz hpu hqu HXY.out.1 HXY.out.2)
          have HNX : Hid (exitsN X Y (L.take (m + 1 + 1)) = exitsN X Y (L.take (m + 1)) + one B) := Lib.hid (by rw [hB]; exact exitsN_take X Y hp hq)
          have hN := exitsN_le X Y (L.take (m + 1))
          have hn20 := HNN.out.1
          rw [List.length_take] at hN
          clear hp hq hB hpu hqu HRW
          generalize exitsN X Y (L.take (m + 1)) = N at *
          have d1 : decide ((m : Int) + 1 < n) = true := by simp; omega
          have i1 : Hid (wrap64 ((m : Int) + 1 - 1) = (m : Int)) := Lib.hid (by rw [Int.add_sub_cancel]; exact wrap64_of (by omega) (by omega))
          have i2 : Hid (wrap64 (m : Int) = (m : Int)) := Lib.hid (wrap64_of (by omega) (by omega))
          have i3 : Hid (wrap64 ((m : Int) + 1 + 1) = (m : Int) + 1 + 1) := Lib.hid (wrap64_of (by omega) (by omega))
          have i4 : Hid (wrap64 ((N : Int) + 1) = (N : Int) + 1) := Lib.hid (wrap64_of (by omega) (by omega))
          have hmn : (m : Int) < n := by omega
          have hmn1 : (m : Int) + 1 < n := by omega
          have hm0 : (0 : Int) ≤ m := by omega
          clear hN hn20 hjl
          go_upto_region 14 with fail
          have j2 := i2.out
          have f1 := e1.out
          have f2 := e2.out
          refine wp_region_later (by kernel_rfl) (by kernel_rfl) ?_
          repeat (go_big_quiet_step ((first | (go_at_call 24; with_reducible exact Calls.later _ (HEX.out _)) | fail)))
          refine wpQuiet_nil ?_
          intro z
          have HZ2 := Lib.hid (HZ.out.trans z.ext)
          generalize z.w = W9 at *
          clear j2 f1 f2 p0 p1 c0 c1 HEX HZ
          have HMM : Hid (m + 1 + 1 ≤ n) := Lib.hid (by omega)
          cases B
          · as_aux_lemma =>
            have HN1 : Hid ((N : Int) = (exitsN X Y (L.take (m + 1 + 1)) : Nat)) := Lib.hid (by rw [HNX.out]; rfl)
            have j3 := i3.out
            go_wp2_with fail
            simp only [j3]
            clear j3
            go_roundw
            case rel => first | exact ⟨m + 1, Or.inl HMM.out, by go_num, by rw [HN1.out], HZ2⟩ | ((repeat apply Exists.intro); exact ⟨⟨m + 1, Or.inl HMM.out, by go_num, by rw [HN1.out], HZ2⟩, rfl⟩)
            case measure => simp [intOf]; omega
          · as_aux_lemma =>
            have HN1 : Hid (((N : Int) + 1) = (exitsN X Y (L.take (m + 1 + 1)) : Nat)) := Lib.hid (by rw [HNX.out]; rfl)
            have j4 := i4.out
            go_upto_region 13 with fail
            rw [j4]
            clear j4
            have j3 := i3.out
            go_wp2_with fail
            simp only [j3]
            clear j3
            go_roundw
            case rel => first | exact ⟨m + 1, Or.inl HMM.out, by go_num, by rw [HN1.out], HZ2⟩ | ((repeat apply Exists.intro); exact ⟨⟨m + 1, Or.inl HMM.out, by go_num, by rw [HN1.out], HZ2⟩, rfl⟩)
            case measure => simp [intOf]; omega
        · as_aux_lemma =>
          have hN : exitsN X Y (L.take (m + 1)) = exitsN X Y L := by
            rw [List.take_of_length_le (by rw [HLN.out]; omega)]
          rw [hN]
          have d1 : decide ((m : Int) + 1 < n) = false := by simp; omega
          obtain ⟨b, off, ha, -, -⟩ := HRA
          subst ha
          have c0 : W8.cell? ⟨b, off + j, none⟩ = some (.int .i64 (exitsN X Y L : Nat)) := (HRR.out.ext (HX.out.trans HZ.out)).get rfl (by simp [HRX.out])
          have HZ2 := Lib.hid (HX.out.trans HZ.out)
          have hj1 : j + 1 ≤ 72 := by omega
          clear hN hm hml HZ HX
          generalize exitsN X Y L = N at *
          go_wp2_with fail
          go_roundw
          case rel => first | exact ⟨j + 1, hj1, by go_num, HZ2⟩ | ((repeat apply Exists.intro); exact ⟨⟨j + 1, hj1, by go_num, HZ2⟩, rfl⟩)
          case measure => simp [intOf]; omega
    · obtain rfl : j = 72 := by omega
      go_wp2_with fail
      refine (HAW.out _ (HW.out.ext (HE7.out.trans HX.out))).mono ?_
      rintro e w8 ⟨rfl, hE⟩
      have HE8 := Lib.hid ((HE7.out.trans HX.out).trans hE)
      clear hE
      go_wp2_with fail
      go_ret
      exact ⟨rfl, HE8.out⟩
end Go.Proofs.YtplljnfjkkloeaaGreatDoor
