/- Proof text: the law CarveKeeps. By an AI agent. No condition beyond what each theorem states. -/
import Derived.Test.YtmpkimcegckloaaCE
set_option linter.unusedVariables false
set_option linter.unusedSimpArgs false
namespace Go.Proofs.Ytmpkimcegckloaa
open Go.RowKit
def cnt (d : Sd) (l : List Vx) : Nat := (l.filter fun v => decide (0 ≤ dist d v)).length
theorem cnt_take {d : Sd} {l : List Vx} {q : Nat} {v : Vx} (h : l[q]? = some v) : cnt d (l.take (q + 1)) = cnt d (l.take q) + if 0 ≤ dist d v then 1 else 0 := by
  have hq := (List.getElem?_eq_some_iff.1 h).1
  rw [List.take_succ_eq_append_getElem hq, (List.getElem?_eq_some_iff.1 h).2]
  unfold cnt
  rw [List.filter_append, List.length_append]
  by_cases hv : 0 ≤ dist d v
  · simp [hv]
  · simp [hv]
theorem cnt_le (d : Sd) (l : List Vx) : cnt d l ≤ l.length := List.length_filter_le _ _
theorem cnt_all {d : Sd} {l : List Vx} (h : cnt d l = l.length) : ∀ v ∈ l, 0 ≤ dist d v := by
  intro v hv
  have := List.length_filter_eq_length_iff.1 h v hv
  simpa using this
theorem cnt_none {d : Sd} {l : List Vx} (h : cnt d l = 0) : ∀ v ∈ l, ¬ 0 ≤ dist d v := by
  intro v hv hd
  have h1 : l.filter (fun v => decide (0 ≤ dist d v)) = [] := List.length_eq_zero_iff.1 h
  have := List.filter_eq_nil_iff.1 h1 v hv
  simp [hd] at this
theorem keep_all {s : List Sd} {l : List Vx} {z : List (Vx × Bool)} (h3 : 3 ≤ z.length) (hz : ∀ c ∈ z, c.1 ∈ l) (h : ∀ d ∈ s, ∀ v ∈ l, 0 ≤ dist d v) : cutAll cutF s z = z := by
  induction s with
  | nil => rfl
  | cons d s ih =>
    have e : cutBy (cutF d) z = z := cutBy_keep h3 (fun p hp q hq => by
      unfold cutF
      rw [if_pos (h d (by simp) _ (hz p hp)), if_pos (h d (by simp) _ (hz q hq))])
    show cutAll cutF s (cutBy (cutF d) z) = z
    rw [e]
    exact ih (fun d' hd => h d' (by simp [hd]))
theorem gone_all {s : List Sd} {l : List Vx} {z : List (Vx × Bool)} {j : Nat} {d : Sd} (h3 : 3 ≤ z.length) (hz : ∀ c ∈ z, c.1 ∈ l) (hd : s[j]? = some d) (h : ∀ d ∈ s.take j, ∀ v ∈ l, 0 ≤ dist d v) (h0 : ∀ v ∈ l, ¬ 0 ≤ dist d v) : cutAll cutF s z = [] := by
  have hj := (List.getElem?_eq_some_iff.1 hd).1
  have e : s = s.take j ++ d :: s.drop (j + 1) := by
    rw [← (List.getElem?_eq_some_iff.1 hd).2, ← List.drop_eq_getElem_cons hj, List.take_append_drop]
  rw [e]
  unfold cutAll
  rw [List.foldl_append, List.foldl_cons]
  have e1 := keep_all h3 hz h
  unfold cutAll at e1
  rw [e1, cutBy_gone (f := cutF d) (l := z) (fun p hp q hq => by
    unfold cutF
    rw [if_neg (h0 _ (hz p hp)), if_neg (h0 _ (hz q hq))])]
  exact cutAll_nil cutF (s.drop (j + 1))
theorem zip_snd {α β : Type} {l : List α} {m : List β} (h : m.length = l.length) : (l.zip m).map (·.2) = m := by
  rw [show (fun x : α × β => x.2) = Prod.snd from rfl, List.map_snd_zip (by omega)]
def KeepI (l : List Vx) (e : List Bool) (s : List Sd) (j : Nat) (x y : Bool) : Prop := (x = true → ∀ d ∈ s.take j, ∀ v ∈ l, 0 ≤ dist d v) ∧ (y = true → carved l e s = [])
theorem zip_in {l : List Vx} {e : List Bool} : ∀ c ∈ l.zip e, c.1 ∈ l := fun c hc => (List.of_mem_zip (a := c.1) (b := c.2) hc).1
theorem zip_len {l : List Vx} {e : List Bool} (h3 : 3 ≤ l.length) (he : e.length = l.length) : 3 ≤ (l.zip e).length := by rw [List.length_zip]; omega
theorem KeepI.next {l : List Vx} {e : List Bool} {s : List Sd} {j c n : Nat} {x y : Bool} {d : Sd} (h : KeepI l e s j x y) (h3 : 3 ≤ l.length) (he : e.length = l.length) (hd : s[j]? = some d) (hc : c = cnt d l) (hn : l.length = n) :
    KeepI l e s (j + 1) (x && ((c : Int) == (n : Int))) (y || (((c : Int) == 0) && x)) := by
  obtain ⟨h1, h2⟩ := h
  refine ⟨fun hx => ?_, fun hy => ?_⟩
  · simp at hx
    have hj := (List.getElem?_eq_some_iff.1 hd).1
    rw [List.take_succ_eq_append_getElem hj, (List.getElem?_eq_some_iff.1 hd).2]
    intro d' hd' v hv
    rcases List.mem_append.1 hd' with h | h
    · exact h1 hx.1 d' h v hv
    · obtain rfl : d' = d := by simpa using h
      exact cnt_all (by omega) v hv
  · simp at hy
    rcases hy with hy | hy
    · exact h2 hy
    · exact gone_all (zip_len h3 he) zip_in hd (h1 hy.2) (cnt_none (by omega))
set_option maxHeartbeats 1000000 in
theorem keeps_out (l : List Vx) (e : List Bool) (s : List Sd) (A B C : Option Addr) (n m k ca cb cc : Nat) (w : World) (hA : Rd w 8 A n ca (vrows l)) (hl : l.length = n) (he : e.length = m)
    (hC : Rd w 5 C k cc (srow s)) (hs : s.length = k) (hm : ¬ (n ≤ 40 ∧ m ≤ 40 ∧ k ≤ 12) ∨ ((n ≤ 40 ∧ m ≤ 40 ∧ k ≤ 12) ∧ ¬ MayC l e s)) :
    Calls Try.prog 11 #[.slice A n ca, .slice B m cb, .slice C k cc] w fun x w' => x = .returned (.bool true) ∧ Ext w w' := by
  rcases hm with hm | ⟨hsm, hm⟩
  · have CS := Lib.hid (small_no A B C n m k ca cb cc w hm)
    clear hA hl he hC hs hm
    go_enter Try.func11, Try.ntmps11
    go_wp2_with fail
    refine CS.out.mono ?_
    rintro x w1 ⟨rfl, hE⟩
    obtain ⟨x1, rfl⟩ := Later.mk' hE
    clear hE
    go_wp2_with fail
    refine (awake10 _).mono ?_
    rintro x w1 ⟨rfl, hE⟩
    have HE := Lib.hid (x1.ext.trans hE)
    clear hE
    go_wp2_with fail
    go_ret
    exact ⟨rfl, HE.out⟩
  · have CS := Lib.hid (small_yes A B C n m k ca cb cc w hsm.1 hsm.2.1 hsm.2.2)
    have CN := Lib.hid (fun W (hE : Ext w W) => carve_no l e s A B C n m k ca cb cc W (hA.ext hE) hl he (hC.ext hE) hs hm)
    clear hA hl he hC hs hm hsm
    go_enter Try.func11, Try.ntmps11
    go_wp2_with fail
    refine CS.out.mono ?_
    rintro x w1 ⟨rfl, hE⟩
    obtain ⟨x1, rfl⟩ := Later.mk' hE
    clear hE
    go_wp2_with fail
    refine (CN.out _ x1.ext).mono ?_
    rintro x w1 ⟨rfl, hE⟩
    obtain ⟨x2, rfl⟩ := Later.mk' hE
    clear hE
    go_wp2_with fail
    refine (awake10 _).mono ?_
    rintro x w1 ⟨rfl, hE⟩
    have HE := Lib.hid ((x1.ext.later x2).trans hE)
    clear hE
    go_wp2_with fail
    go_ret
    exact ⟨rfl, HE.out⟩
set_option maxRecDepth 100000 in
set_option maxHeartbeats 2000000 in
theorem keeps_in (l : List Vx) (e : List Bool) (s : List Sd) (A B C : Option Addr) (n m k ca cb cc : Nat) (w : World) (hA : Rd w 8 A n ca (vrows l)) (hl : l.length = n) (hB : Rd w 1 B m cb (brows e)) (he : e.length = m)
    (hC : Rd w 5 C k cc (srow s)) (hs : s.length = k) (hsm : n ≤ 40 ∧ m ≤ 40 ∧ k ≤ 12) (hm : MayC l e s) :
    Calls Try.prog 11 #[.slice A n ca, .slice B m cb, .slice C k cc] w fun x w' => x = .returned (.bool true) ∧ Ext w w' := by
  have CS := Lib.hid (small_yes A B C n m k ca cb cc w hsm.1 hsm.2.1 hsm.2.2)
  have HA := Lib.hid hA; have HB := Lib.hid hB; have HC := Lib.hid hC
  have HL := Lib.hid hl; have HLE := Lib.hid he; have HS := Lib.hid hs; have HM := Lib.hid hm
  have hni : (n : Int) ≤ 40 := by omega
  have hki : (k : Int) ≤ 12 := by omega
  clear hA hl hB he hC hs hm hsm
  go_enter Try.func11, Try.ntmps11
  go_wp2_with fail
  refine CS.out.mono ?_
  rintro x w1 ⟨rfl, hE⟩
  obtain ⟨x1, rfl⟩ := Later.mk' hE
  clear hE CS
  go_wp2_with fail
  refine (carve_yes l e s A B C n m k ca cb cc _ (HA.out.ext x1.ext) HL.out (HB.out.ext x1.ext) HLE.out (HC.out.ext x1.ext) HS.out HM.out).mono ?_
  rintro x W1 ⟨a, c, b, d, rfl, h1, h2, hE⟩
  have HR1 := Lib.hid h1; have HR2 := Lib.hid h2
  have HE1 := Lib.hid (x1.ext.trans hE)
  have HAr := Lib.hid (HA.out.ext HE1.out); have HBr := Lib.hid (HB.out.ext HE1.out); have HCr := Lib.hid (HC.out.ext HE1.out)
  clear h1 h2 hE HA HB HC
  obtain ⟨N, hN⟩ : ∃ N, N = (carved l e s).length := ⟨_, rfl⟩
  rw [← hN] at HR1 HR2 ⊢
  have HN := Lib.hid hN; clear hN
  go_wp2_with fail
  go_loopw [10, 11, 12, 13, 14] (fun ib gb i _ _ wr => ∃ (j : Nat) (x y : Bool), j ≤ k ∧ ib = .bool x ∧ gb = .bool y ∧ i = .int .i64 j ∧ Hid (KeepI l e s j x y) ∧ Ext W1 wr) (fun _ _ i _ _ _ => k - (intOf i).toNat)
  case atStart => exact ⟨0, true, false, Nat.zero_le _, rfl, rfl, rfl, Lib.hid ⟨fun _ d hd => by simp at hd, fun h => (by cases h)⟩, Ext.refl _⟩
  case round =>
    obtain ⟨j, x, y, hj, rfl, rfl, rfl, HI, hE⟩ := hrel
    by_cases hlt : j < k
    · obtain ⟨d0, hd⟩ : ∃ d, s[j]? = some d := ⟨_, List.getElem?_eq_getElem (by rw [HS.out]; exact hlt)⟩
      have HD := Lib.hid hd; clear hd
      obtain ⟨W2, rfl⟩ : ∃ W2 : World, W2 = wr := ⟨_, rfl⟩
      have HE2 := Lib.hid hE; clear hE
      go_wp2_with fail
      go_loopw [13, 14] (fun ci i wr => ∃ (q c : Nat), q ≤ n ∧ ci = .int .i64 c ∧ i = .int .i64 q ∧ Hid (c = cnt d0 (l.take q)) ∧ (c : Int) ≤ 40 ∧ Ext W2 wr) (fun _ i _ => n - (intOf i).toNat)
      case atStart => exact ⟨0, 0, Nat.zero_le _, rfl, rfl, Lib.hid rfl, by decide, Ext.refl _⟩
      case round =>
        obtain ⟨q, cn, hq, rfl, rfl, HCn, hcn, hE⟩ := hrel
        by_cases hlq : q < n
        · obtain ⟨v, hv⟩ : ∃ v, l[q]? = some v := ⟨_, List.getElem?_eq_getElem (by rw [HL.out]; exact hlq)⟩
          have hR1 := (HCr.out.ext HE2.out).ext hE
          have hR2 := (HAr.out.ext HE2.out).ext hE
          obtain ⟨b1, o1, ha1, -, -⟩ := hR1.at_ (by omega)
          obtain ⟨b2, o2, ha2, -, -⟩ := hR2.at_ (by omega)
          subst ha1; subst ha2
          obtain ⟨c0, c1, c2, c3, c4⟩ := side_at hR1 HD.out
          obtain ⟨v0, v1, v2, v3, v4, v5, v6, v7⟩ := vert_at hR2 hv
          have CD := Lib.hid (fun W => rdist_any d0 v W (HM.out.2.2.2.2.2 d0 (List.mem_of_getElem? HD.out)) (HM.out.2.2.2.2.1 v (List.mem_of_getElem? hv)))
          have HT := Lib.hid (cnt_take (d := d0) hv)
          have HEx := Lib.hid hE; clear hE
          have HQ := Lib.hid (cnt_le d0 (l.take (q + 1)))
          have HQ2 : Hid ((l.take (q + 1)).length ≤ 40) := Lib.hid (by rw [List.length_take]; omega)
          clear hR1 hR2 hv
          have hc : (decide (dist d0 v ≥ 0) = true ∧ Hid (cn + 1 = cnt d0 (l.take (q + 1)))) ∨ (decide (dist d0 v ≥ 0) = false ∧ Hid (cn = cnt d0 (l.take (q + 1)))) := by
            by_cases h : 0 ≤ dist d0 v
            · exact .inl ⟨by simpa using h, Lib.hid (by rw [HT.out, if_pos h, HCn.out])⟩
            · exact .inr ⟨by simpa using h, Lib.hid (by rw [HT.out, if_neg h, HCn.out]; rfl)⟩
          clear HT
          rcases hc with ⟨t1, HX⟩ | ⟨t1, HX⟩
          · have HX2 : Hid (((cn + 1 : Nat) : Int) ≤ 40) := Lib.hid (by have := HX.out; have := HQ.out; have := HQ2.out; omega)
            go_upto_region 14 with fail
            refine wp_region_later (by kernel_rfl) (by kernel_rfl) ?_
            repeat (go_big_quiet_step ((go_at_call 20; with_reducible exact Calls.later _ (CD.out _))))
            refine wpQuiet_nil ?_
            intro z
            have HE3 := Lib.hid (HEx.out.later z)
            clear c0 c1 c2 c3 c4 v0 v1 v2 v3 v4 v5 v6 v7
            go_wp2_with fail
            go_roundw
            case rel => first | exact ⟨q + 1, cn + 1, by omega, by go_num, by go_num, HX, HX2.out, HE3.out⟩ | ((repeat apply Exists.intro); exact ⟨⟨q + 1, cn + 1, by omega, by go_num, by go_num, HX, HX2.out, HE3.out⟩, rfl⟩)
            case measure => simp [intOf]; omega
          · go_upto_region 14 with fail
            refine wp_region_later (by kernel_rfl) (by kernel_rfl) ?_
            repeat (go_big_quiet_step ((go_at_call 20; with_reducible exact Calls.later _ (CD.out _))))
            refine wpQuiet_nil ?_
            intro z
            have HE3 := Lib.hid (HEx.out.later z)
            clear c0 c1 c2 c3 c4 v0 v1 v2 v3 v4 v5 v6 v7
            go_wp2_with fail
            go_roundw
            case rel => first | exact ⟨q + 1, cn, by omega, rfl, by go_num, HX, hcn, HE3.out⟩ | ((repeat apply Exists.intro); exact ⟨⟨q + 1, cn, by omega, rfl, by go_num, HX, hcn, HE3.out⟩, rfl⟩)
            case measure => simp [intOf]; omega
        · obtain rfl : q = n := by omega
          have HX : Hid (cn = cnt d0 l) := Lib.hid (by rw [HCn.out, List.take_of_length_le (by rw [HL.out]; exact Nat.le_refl _)])
          have HE3 := Lib.hid (HE2.out.trans hE)
          have HI2 := Lib.hid (HI.out.next HM.out.1 HM.out.2.2.1 HD.out HX.out HL.out)
          have hc : (((cn : Int) == 0) = true ∨ ((cn : Int) == 0) = false) ∧ (((cn : Int) == (q : Int)) = true ∨ ((cn : Int) == (q : Int)) = false) := ⟨by cases ((cn : Int) == 0) <;> simp, by cases ((cn : Int) == (q : Int)) <;> simp⟩
          clear HI HX HCn hE HE2
          obtain ⟨h1, h2⟩ := hc
          rcases h1 with t1 | t1 <;> rcases h2 with t2 | t2 <;> cases x <;> cases y
          all_goals
            go_wp2_with fail
            go_roundw
            case rel =>
              have HI3 := HI2.out
              simp only [t1, t2, Bool.and_true, Bool.and_false, Bool.true_and, Bool.false_and, Bool.or_true, Bool.or_false, Bool.true_or, Bool.false_or] at HI3
              first | exact ⟨j + 1, _, _, by omega, rfl, rfl, by go_num, Lib.hid HI3, HE3.out⟩ | ((repeat apply Exists.intro); exact ⟨⟨j + 1, _, _, by omega, rfl, rfl, by go_num, Lib.hid HI3, HE3.out⟩, rfl⟩)
            case measure => simp [intOf]; omega
    · obtain rfl : j = k := by omega
      obtain ⟨W2, rfl⟩ : ∃ W2 : World, W2 = wr := ⟨_, rfl⟩
      have HE2 := Lib.hid hE
      have HEw := Lib.hid (HE1.out.trans hE)
      have HX : Hid (x = true → carved l e s = l.zip e) := Lib.hid (fun h => keep_all (zip_len HM.out.1 HM.out.2.2.1) zip_in (fun d hd => HI.out.1 h d (by rw [List.take_of_length_le (by rw [HS.out]; exact Nat.le_refl _)]; exact hd)))
      have hc : (y = true ∧ ((N : Int) == 0) = true) ∨ y = false := by
        cases y
        · exact .inr rfl
        · refine .inl ⟨rfl, ?_⟩
          have h0 := HI.out.2 rfl
          have hN := HN.out
          rw [h0] at hN
          simp at hN
          simp [hN]
      have CS : x = true → Hid (∀ W, Ext W1 W → Calls Try.prog 32 #[.slice a N c, .slice A n ca, .slice b N d, .slice B m cb] W fun e w' => e = .returned (.bool true) ∧ Ext W w') := fun hx => Lib.hid (fun W hW => by
        have hz := HX.out hx
        have e1 : (carved l e s).map (·.1) = l := by rw [hz]; exact zip_fst (by rw [HLE.out, HL.out]; have := HM.out.2.2.1; have := HL.out; have := HLE.out; omega)
        have e2 : (carved l e s).map (·.2) = e := by rw [hz]; exact zip_snd (by have := HM.out.2.2.1; omega)
        have h1 := HR1.out.ext hW
        have h2 := HR2.out.ext hW
        rw [e1] at h1
        rw [e2] at h2
        have hNl : l.length = N := by rw [← e1, List.length_map, HN.out]
        have hNe : e.length = N := by rw [← e2, List.length_map, HN.out]
        refine (same_any l l e e a A b B N n N m c ca d cb W h1 (HAr.out.ext hW) h2 (HBr.out.ext hW) hNl HL.out hNe HLE.out).mono ?_
        rintro x w1 ⟨r, rfl, hr, hE⟩
        obtain rfl : r = true := hr.2 ⟨rfl, rfl, HM.out.2.2.1.symm⟩
        exact ⟨rfl, hE⟩)
      clear HI hE HX hlt hj
      cases x
      · clear CS
        rcases hc with ⟨rfl, t1⟩ | rfl
        all_goals
          go_wp2_with fail
          refine (awake10 _).mono ?_
          rintro x w1 ⟨rfl, hE⟩
          have HE := Lib.hid (HEw.out.trans hE)
          clear hE
          go_wp2_with fail
          go_ret
          exact ⟨rfl, HE.out⟩
      · have CT := CS rfl
        clear CS
        rcases hc with ⟨rfl, t1⟩ | rfl
        all_goals
          go_wp2_with fail
          refine (CT.out _ HE2.out).mono ?_
          rintro x w1 ⟨rfl, hE⟩
          obtain ⟨x1, rfl⟩ := Later.mk' hE
          clear hE
          go_wp2_with fail
          refine (awake10 _).mono ?_
          rintro x w1 ⟨rfl, hE⟩
          have HE := Lib.hid ((HEw.out.later x1).trans hE)
          clear hE
          go_wp2_with fail
          go_ret
          exact ⟨rfl, HE.out⟩
theorem keeps_any (l : List Vx) (e : List Bool) (s : List Sd) (A B C : Option Addr) (n m k ca cb cc : Nat) (w : World) (hA : Rd w 8 A n ca (vrows l)) (hl : l.length = n) (hB : Rd w 1 B m cb (brows e)) (he : e.length = m)
    (hC : Rd w 5 C k cc (srow s)) (hs : s.length = k) :
    Calls Try.prog 11 #[.slice A n ca, .slice B m cb, .slice C k cc] w fun x w' => x = .returned (.bool true) ∧ Ext w w' := by
  by_cases h1 : n ≤ 40 ∧ m ≤ 40 ∧ k ≤ 12
  · by_cases h2 : MayC l e s
    · exact keeps_in l e s A B C n m k ca cb cc w hA hl hB he hC hs h1 h2
    · exact keeps_out l e s A B C n m k ca cb cc w hA hl he hC hs (.inr ⟨h1, h2⟩)
  · exact keeps_out l e s A B C n m k ca cb cc w hA hl he hC hs (.inl h1)
end Go.Proofs.Ytmpkimcegckloaa
