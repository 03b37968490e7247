/- Proof text: the commands of a text (rastrumref29.Parse). By an AI agent. No condition beyond what each theorem states. -/
import Derived.Test.YtaklnijmcidpkaaDoorPP
import Derived.Test.YtaklnijmcidpkaaDoorRL
set_option linter.unusedVariables false
set_option linter.unusedSimpArgs false
namespace Go.Proofs.YtaklnijmcidpkaaDoor
open Go.RowKit
/-- Where a line of a text ends. -/
theorem line_end {s : ByteArray} {at_ : Nat} (h : at_ ≤ s.size) :
    (∀ j, j < (cut1 10 (s.data.toList.drop at_)).1.length → ∃ h : at_ + j < s.size, s[at_ + j].toNat ≠ 10) ∧
    ((cut1 10 (s.data.toList.drop at_)).2.2 = true → ∃ h : at_ + (cut1 10 (s.data.toList.drop at_)).1.length < s.size, s[at_ + (cut1 10 (s.data.toList.drop at_)).1.length].toNat = 10) ∧
    ((cut1 10 (s.data.toList.drop at_)).2.2 = false → at_ + (cut1 10 (s.data.toList.drop at_)).1.length = s.size) ∧
    (s.extract at_ (at_ + (cut1 10 (s.data.toList.drop at_)).1.length)).data.toList = (cut1 10 (s.data.toList.drop at_)).1 ∧
    ((cut1 10 (s.data.toList.drop at_)).2.2 = true → s.data.toList.drop (at_ + (cut1 10 (s.data.toList.drop at_)).1.length + 1) = (cut1 10 (s.data.toList.drop at_)).2.1) := by
  obtain ⟨D, hD⟩ : ∃ D, D = s.data.toList.drop at_ := ⟨_, rfl⟩
  have hlen : D.length = s.size - at_ := by rw [hD, List.length_drop, Lib.size_eq]
  have hget : ∀ j (b : UInt8), D[j]? = some b → ∃ h : at_ + j < s.size, s[at_ + j] = b := fun j b hb => by
    have hj := (List.getElem?_eq_some_iff.1 hb).1
    have h2 : at_ + j < s.size := by omega
    refine ⟨h2, ?_⟩
    rw [hD, List.getElem?_drop, bget h2] at hb
    exact Option.some.inj hb
  have hext : ∀ n, n ≤ D.length → (s.extract at_ (at_ + n)).data.toList = D.take n := fun n hn => by
    rw [ByteArray.data_extract, Array.toList_extract, hD]
    simp [List.extract]
  rw [← hD]
  have hy := cut1_yes 10 D
  have hn := cut1_no 10 D
  obtain ⟨p, hp⟩ : ∃ p, p = cut1 10 D := ⟨_, rfl⟩
  rw [← hp] at hy hn ⊢
  clear hp
  obtain ⟨x, y, m⟩ := p
  simp only [] at hy hn ⊢
  cases m with
  | true =>
    obtain ⟨e1, e2⟩ := hy rfl
    have hx : x.length < D.length := by rw [e1]; simp
    refine ⟨fun j hj => ?_, fun _ => ?_, fun h => (by cases h), ?_, fun _ => ?_⟩
    · obtain ⟨h1, h2⟩ := hget j x[j] (by rw [e1, List.getElem?_append_left hj]; simp)
      refine ⟨h1, fun e => e2 ?_⟩
      rw [h2] at e
      have e3 : x[j] = 10 := UInt8.toNat_inj.1 e
      rw [← e3]
      exact List.getElem_mem hj
    · obtain ⟨h1, h2⟩ := hget x.length 10 (by rw [e1]; simp)
      exact ⟨h1, by rw [h2]; rfl⟩
    · rw [hext _ (by omega), e1]; simp
    · rw [Nat.add_assoc, ← List.drop_drop, ← hD, e1]
      simp
  | false =>
    obtain ⟨e1, e2, e3⟩ := hn rfl
    subst e1
    refine ⟨fun j hj => ?_, fun h => (by cases h), fun _ => by omega, ?_, fun h => (by cases h)⟩
    · obtain ⟨h1, h2⟩ := hget j x[j] (by simp)
      refine ⟨h1, fun e => e3 ?_⟩
      rw [h2] at e
      have e4 : x[j] = 10 := UInt8.toNat_inj.1 e
      rw [← e4]
      exact List.getElem_mem hj
    · rw [hext _ (Nat.le_refl _)]; simp
set_option maxRecDepth 10000 in
set_option maxHeartbeats 2000000 in
theorem rparse_any (s : ByteArray) (w : World) (hs : s.size ≤ 1000000) : Calls Tryd.prog 10 #[.string s] w (GivesRecs w (parseT s.data.toList)) := by
  have HT : Hid (cont [] (parseF s.data.toList.length (s.data.toList.drop 0) 0) = parseT s.data.toList) := Lib.hid (by rw [cont_nil]; rfl)
  obtain ⟨tot, ht⟩ : ∃ tot, tot = parseT s.data.toList := ⟨_, rfl⟩
  rw [← ht] at HT ⊢
  have HS := Lib.hid hs
  clear ht
  go_enter Tryd.func10, Tryd.ntmps10
  go_wp2_with fail
  go_loopw [5, 6] (fun v i wr => ∃ (k f : Nat) (pre : List R) (vs : List Value), k ≤ s.size ∧ i = .int .i64 k ∧ Hid (wr.ownsRow w.heap.size 41 2 v pre.length vs) ∧ Hid (RecCells (RdT wr 3 1) vs pre) ∧ Hid (Ext w wr) ∧ Hid (s.size - k ≤ f ∧ pre.length ≤ 4096) ∧ Hid (cont pre (parseF f (s.data.toList.drop k) pre.length) = tot)) (fun _ i _ => s.size - (intOf i).toNat)
  case atStart => exact ⟨0, s.data.toList.length, [], [], Nat.zero_le _, rfl, Lib.hid (World.ownsRow_nil _ _ _ _), Lib.hid trivial, Lib.hid (Ext.refl _), Lib.hid ⟨by rw [Lib.size_eq]; exact Nat.sub_le _ _, by simp⟩, HT⟩
  case round =>
    clear HT
    obtain ⟨k, f, pre, vs, hk, rfl, HO, HRC, HE, HB, HT⟩ := hrel
    obtain ⟨av, capv, rfl, -⟩ := ownsRow_rd HO.out
    have hp4 := HB.out.2
    by_cases h0 : k = s.size
    · have hh := HT.out
      rw [List.drop_of_length_le (by rw [← Lib.size_eq]; omega), parseF_nil] at hh
      have HT2 : Hid (tot = .ok pre) := Lib.hid (by rw [← hh]; simp [cont])
      subst h0
      clear hh HT
      go_wp2_with fail
      go_ret3
      rw [HT2.out]
      exact ⟨_, vs, rfl, HO.out, HRC.out, HE.out⟩
    · have hlt : k < s.size := by omega
      have hle := line_end (s := s) (at_ := k) hk
      obtain ⟨D, hD⟩ : ∃ D, D = s.data.toList.drop k := ⟨_, rfl⟩
      have hne : D ≠ [] := by
        intro e
        have := congrArg List.length hD
        rw [e, List.length_drop, ← Lib.size_eq, List.length_nil] at this
        omega
      rw [← hD] at HT hle
      obtain ⟨f, rfl⟩ : ∃ f', f = f' + 1 := ⟨f - 1, by have h1 := HB.out.1; omega⟩
      have HNE := Lib.hid hne
      obtain ⟨c, hc⟩ : ∃ c, c = pre.length := ⟨_, rfl⟩
      have HC := Lib.hid hc
      rw [← hc] at HO hp4 ⊢
      by_cases hfull : c = 4096
      · have HT2 : Hid (tot = .error (c + 1, 12)) := Lib.hid (by
          rw [← HT.out, ← HC.out, parseF_full hne hfull]; rfl)
        have t1 : decide ((c : Int) + 1 > 4096) = true := by simp; omega
        clear h0 hne HT hc hfull hle hD
        go_wp2_with fail
        go_ret3
        exact gives_err HT2.out (by simp) HE.out
      · have t1 : decide ((c : Int) + 1 > 4096) = false := by simp; omega
        obtain ⟨p, hp⟩ : ∃ p, p = cut1 10 D := ⟨_, rfl⟩
        rw [← hp] at hle
        have HP := Lib.hid hp
        have HF := Lib.hid hfull
        obtain ⟨p1, p2, p3⟩ := p
        simp only [] at hle
        obtain ⟨l1, l2, l3, l4, l5⟩ := hle
        obtain ⟨E, hE⟩ : ∃ E, E = k + p1.length := ⟨_, rfl⟩
        rw [← hE] at l2 l3 l4 l5
        have HL : Hid (∀ e, k ≤ e → e < E → ∃ h : e < s.size, s[e].toNat ≠ 10) := Lib.hid (fun e h1 h2 => by
          obtain ⟨h3, h4⟩ := l1 (e - k) (by omega)
          have h5 : k + (e - k) = e := by omega
          simp only [h5] at h3 h4
          exact ⟨h3, h4⟩)
        have hEs : E ≤ s.size := by
          cases p3 with
          | true => obtain ⟨h, _⟩ := l2 rfl; omega
          | false => have := l3 rfl; omega
        have L2 := Lib.hid l2; have L3 := Lib.hid l3; have L4 := Lib.hid l4; have L5 := Lib.hid l5
        have hkE : k ≤ E := by omega
        clear h0 hne hp hfull hc l1 l2 l3 l4 l5 hE hD
        go_wp2_with fail
        go_loop [8] (fun i => ∃ e : Nat, k ≤ e ∧ e ≤ E ∧ i = .int .i64 e) (fun i => E - (intOf i).toNat)
        case atStart => exact ⟨k, Nat.le_refl _, hkE, rfl⟩
        case round =>
          obtain ⟨e, he1, he2, rfl⟩ := hrel
          by_cases hlt2 : e < E
          · obtain ⟨h3, h4⟩ := HL.out e he1 hlt2
            have t2 : ((s[e].toNat : Int) != 10) = true := by simp; omega
            have i1 : (e : Int) < s.size := by omega
            clear h4
            go_wp2_with fail
            go_round
            case rel => first | exact ⟨e + 1, by omega, by omega, by go_num⟩ | ((repeat apply Exists.intro); exact ⟨⟨e + 1, by omega, by omega, by go_num⟩, rfl⟩)
            case measure => simp [intOf]; omega
          · obtain rfl : e = E := by omega
            clear hlt2 HL
            cases p3 with
            | false =>
              have HT2 : Hid (tot = .error (c + 1, 11)) := Lib.hid (by
                rw [← HT.out, ← HC.out, parseF_open HNE.out HF.out (by rw [← HP.out])]; rfl)
              obtain rfl : e = s.size := L3.out rfl
              have t3 : ((s.size : Int) == s.size) = true := by simp
              clear HT L2 L3 L4 L5
              go_wp2_with fail
              go_ret3
              exact gives_err HT2.out (by simp) HE.out
            | true =>
              obtain ⟨hes, h10⟩ := L2.out rfl
              have t2 : ((s[e].toNat : Int) != 10) = false := by simp; omega
              have t3 : ((e : Int) == s.size) = false := by simp; omega
              have i1 : (e : Int) < s.size := by omega
              have i2 : (k : Int) ≤ e := by omega
              have i3 : (e : Int) ≤ s.size := by omega
              have hx := L4.out
              have L1 := Lib.hid (fun w1 => rline_any (s.extract k e) w1 (by rw [ByteArray.size_extract]; have := HS.out; omega))
              rw [hx] at L1
              have HX5 := Lib.hid (L5.out rfl)
              clear h10 hx L2 L3 L4 L5
              cases hl : lineT p1 with
              | error d =>
                have HT2 : Hid (tot = .error (c + 1, d)) := Lib.hid (by
                  rw [← HT.out, ← HC.out, parseF_bad HNE.out HF.out (by rw [← HP.out]) (by rw [← HP.out]; exact hl)]; rfl)
                rw [hl] at L1
                have hd0 : d ≠ 0 := line_err hl
                have t4 : (d != 0) = true := by simpa using hd0
                clear HT hl hd0
                go_wp2_with fail
                refine (L1.out _).mono ?_
                rintro e w2 ⟨rfl, hE⟩
                have HE2 := Lib.hid (HE.out.trans hE)
                clear hE
                go_wp2_with fail
                go_ret3
                exact gives_err HT2.out (by simp) (HE2.out.alloc _)
              | ok r =>
                obtain ⟨op, A⟩ := r
                have HT2 : Hid (cont (pre ++ [(op, A)]) (parseF f p2 (c + 1)) = tot) := Lib.hid (by
                  rw [← HT.out, ← HC.out, parseF_cont HNE.out HF.out (by rw [← HP.out]) (by rw [← HP.out]; exact hl), ← HP.out])
                rw [hl] at L1
                clear HT hl
                go_wp2_with fail
                refine (L1.out _).mono ?_
                rintro ee w2 ⟨u, rfl, ho, hE⟩
                obtain ⟨au, cu, rfl, hu⟩ := ownsRow_rdT ho
                have HE2 := Lib.hid (HE.out.trans hE)
                have HO2 := Lib.hid (ownsRow_ext HO.out hE)
                have HR2 : Hid (RecCells (RdT w2 3 1) vs pre) := Lib.hid (HRC.out.mono fun _ _ _ _ hx => hx.ext hE)
                have HU := Lib.hid hu
                clear hE ho hu HE HO HRC
                have hrd : Rd ((w2.alloc (.cells #[.int .i64 op, .slice au A.length cu] 41)).alloc (.cells #[.int .i64 op, .slice au A.length cu] 41)) 2 (some ⟨w2.heap.size + 1, 0, none⟩) 1 1 [.int .i64 op, .slice au A.length cu] := by
                  have := Rd_new (w2.alloc (.cells #[.int .i64 op, .slice au A.length cu] 41)) [.int .i64 op, .slice au A.length cu] 41 2 1 rfl (by unfold maxLen; omega)
                  rw [World.size_alloc] at this
                  exact this
                have HRD := Lib.hid hrd
                clear hrd
                go_wp2_with (refine wpList_append_rd rfl (.tmp 51) (.tmp 53) 23 rfl w.heap.size 41 _ 2 32 Tryd.underlying23 info24 rfl (by decide) (.slice av c capv) c vs rfl ((HO2.out.alloc _).alloc _) (some ⟨w2.heap.size + 1, 0, none⟩) 1 1 [.int .i64 op, .slice au A.length cu] rfl HRD.out (rec_one _ _ _ _) ?_ (by decide) ?_ ?_)
                · omega
                · have := HE2.out.size; simp; omega
                intro v' w5 ho hg
                obtain ⟨av', cv', rfl, -⟩ := ownsRow_rd ho
                have tr : ∀ a n c xs, RdT w2 3 1 a n c xs → RdT w5 3 1 a n c xs := fun a n c xs hx => (hx.ext (((Ext.refl w2).alloc _).alloc _)).grown ((HO2.out.alloc _).alloc _) hg (by decide)
                have HR5 : Hid (RecCells (RdT w5 3 1) (vs ++ [.int .i64 op, .slice au A.length cu]) (pre ++ [(op, A)])) := Lib.hid ((HR2.out.mono tr).snoc op A au cu (tr _ _ _ _ HU.out))
                have HO5 : Hid (w5.ownsRow w.heap.size 41 2 (.slice av' (c + 1) cv') (pre ++ [(op, A)]).length (vs ++ [.int .i64 op, .slice au A.length cu])) := Lib.hid (by rw [List.length_append, ← HC.out]; exact ho)
                have HE5 := Lib.hid (((HE2.out.alloc _).alloc _).grown hg (fun k hk => (HO2.out.lt _ hk).1))
                have HT5 : Hid (cont (pre ++ [(op, A)]) (parseF f (s.data.toList.drop (e + 1)) (pre ++ [(op, A)]).length) = tot) := Lib.hid (by rw [HX5.out, List.length_append, ← HC.out]; exact HT2.out)
                have HB5 : Hid (s.size - (e + 1) ≤ f ∧ (pre ++ [(op, A)]).length ≤ 4096) := Lib.hid (by
                  rw [List.length_append, ← HC.out]
                  have h1 := HB.out; have h3 := HF.out
                  simp only [List.length_cons, List.length_nil]
                  omega)
                have hes1 : e + 1 ≤ s.size := by omega
                clear ho hg tr HR2 HO2 HE2 HU HT2 HRD t2 HX5
                go_wp2_with fail
                go_roundw
                case rel => first | exact ⟨e + 1, f, pre ++ [(op, A)], _, by omega, by go_num, HO5, HR5, HE5, HB5, HT5⟩ | ((repeat apply Exists.intro); exact ⟨⟨e + 1, f, pre ++ [(op, A)], _, by omega, by go_num, HO5, HR5, HE5, HB5, HT5⟩, rfl⟩)
                case measure => simp [intOf]; omega
end Go.Proofs.YtaklnijmcidpkaaDoor
