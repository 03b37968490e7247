/- Proof text: the commands of a text (script.Parse). By an AI agent. No condition beyond what each theorem states. -/
import Derived.Test.YtaklnijmcidpkaaDoorLN
set_option linter.unusedVariables false
set_option linter.unusedSimpArgs false
namespace Go.Proofs.YtaklnijmcidpkaaDoor
open Go.RowKit
/-- What 'Parse' hands back. -/
def GivesRecs (w : World) (g : G) (e : Ending) (w' : World) : Prop :=
  match g with
  | .ok l => ∃ v vs, e = .returned (.tuple #[v, .int .i64 0, .int .i64 0]) ∧ w'.ownsRow w.heap.size 41 2 v l.length vs ∧ RecCells (RdT w' 3 1) vs l ∧ Ext w w'
  | .error (k, c) => e = .returned (.tuple #[.slice none 0 0, .int .i64 k, .int .i64 c]) ∧ Ext w w'
theorem gives_err {w w' : World} {g : G} {k : Nat} {c : Int} {e : Ending} (h : g = .error (k, c)) (he : e = .returned (.tuple #[.slice none 0 0, .int .i64 (k : Int), .int .i64 c])) (hE : Ext w w') : GivesRecs w g e w' := by
  rw [h]; exact ⟨he, hE⟩
/-- What stands behind a line. -/
theorem data_mk (l : List UInt8) : (⟨l.toArray⟩ : ByteArray).data.toList = l := by simp
set_option maxRecDepth 10000 in
set_option maxHeartbeats 2000000 in
theorem parse_any (s : ByteArray) (w : World) (hs : s.size ≤ 1000000) (hW : Wd w) : Calls Tryd.prog 9 #[.string s] w (GivesRecs w (parseT s.data.toList)) := by
  have HT : Hid (cont [] (parseF s.data.toList.length s.data.toList 0) = parseT s.data.toList) := Lib.hid (by rw [cont_nil]; rfl)
  obtain ⟨tot, ht⟩ : ∃ tot, tot = parseT s.data.toList := ⟨_, rfl⟩
  rw [← ht] at HT ⊢
  have HW := Lib.hid hW
  have HS : Hid (s.data.toList.length ≤ 1000000) := Lib.hid (by rw [← Lib.size_eq]; exact hs)
  clear ht hW hs
  go_enter Tryd.func9, Tryd.ntmps9
  go_wp2_with fail
  go_loopw [0, 5] (fun sv v wr => ∃ (S : ByteArray) (f : Nat) (pre : List R) (vs : List Value), sv = .string S ∧ Hid (wr.ownsRow w.heap.size 41 2 v pre.length vs) ∧ Hid (RecCells (RdT wr 3 1) vs pre) ∧ Hid (Ext w wr) ∧ Hid (S.data.toList.length ≤ f ∧ S.data.toList.length ≤ 1000000 ∧ pre.length ≤ 4096) ∧ Hid (cont pre (parseF f S.data.toList pre.length) = tot)) (fun sv _ _ => strLen sv)
  case atStart => exact ⟨s, s.data.toList.length, [], [], rfl, Lib.hid (World.ownsRow_nil _ _ _ _), Lib.hid trivial, Lib.hid (Ext.refl _), Lib.hid ⟨Nat.le_refl _, HS.out, by simp⟩, HT⟩
  case round =>
    clear HT HS
    obtain ⟨S, f, pre, vs, rfl, HO, HRC, HE, HB, HT⟩ := hrel
    obtain ⟨av, capv, rfl, -⟩ := ownsRow_rd HO.out
    have hp4 := HB.out.2.2
    by_cases h0 : S = ⟨#[]⟩
    · subst h0
      have hh := HT.out
      rw [show (⟨#[]⟩ : ByteArray).data.toList = [] from rfl, parseF_nil] at hh
      have HT2 : Hid (tot = .ok pre) := Lib.hid (by rw [← hh]; simp [cont])
      clear hh HT
      go_wp2_with fail
      go_ret3
      rw [HT2.out]
      exact ⟨_, vs, rfl, HO.out, HRC.out, HE.out⟩
    · obtain ⟨d0, hpos⟩ := empty_no h0
      have hne : S.data.toList ≠ [] := by
        intro e
        have := Lib.size_eq S
        rw [e, List.length_nil] at this
        omega
      obtain ⟨f, rfl⟩ : ∃ f', f = f' + 1 := ⟨f - 1, by
        have h1 := HB.out.1
        have h2 := Lib.size_eq S
        omega⟩
      have HNE := Lib.hid hne
      obtain ⟨c, hc⟩ : ∃ c, c = pre.length := ⟨_, rfl⟩
      have HC := Lib.hid hc
      rw [← hc] at HO hp4 ⊢
      by_cases hfull : c = 4096
      · have HT2 : Hid (tot = .error (c + 1, 12)) := Lib.hid (by
          rw [← HT.out, ← HC.out, parseF_full hne hfull]; rfl)
        have t1 : decide ((c : Int) + 1 > 4096) = true := by simp; omega
        clear h0 hne HT hc hfull
        go_wp2_with fail
        go_ret3
        exact gives_err HT2.out (by simp) HE.out
      · have t1 : decide ((c : Int) + 1 > 4096) = false := by simp; omega
        have C1 := Lib.hid (fun w1 h => cut_any S ⟨#[10]⟩ 10 w1 (by rw [Lib.size_eq]; exact HB.out.2.1) rfl h)
        have hpl := cut1_len 10 S.data.toList
        obtain ⟨p, hp⟩ : ∃ p, p = cut1 10 S.data.toList := ⟨_, rfl⟩
        rw [← hp] at C1 hpl
        have HP := Lib.hid hp
        have HF := Lib.hid hfull
        obtain ⟨p1, p2, p3⟩ := p
        simp only [] at C1 hpl
        have HPL := Lib.hid hpl
        clear h0 hne hp hfull hpl hc
        cases p3 with
        | false =>
          have HT2 : Hid (tot = .error (c + 1, 11)) := Lib.hid (by
            rw [← HT.out, ← HC.out, parseF_open HNE.out HF.out (by rw [← HP.out])]; rfl)
          clear HT
          go_wp2_with fail
          refine (C1.out _ (HW.out.ext HE.out)).mono ?_
          rintro e w1 ⟨rfl, hE⟩
          have HE1 := Lib.hid (HE.out.trans hE)
          clear hE
          go_wp2_with fail
          go_ret3
          exact gives_err HT2.out (by simp) HE1.out
        | true =>
          have L1 := Lib.hid (fun w1 h => line_any ⟨p1.toArray⟩ w1 (by rw [Lib.size_eq]; simp only [List.toList_toArray]; exact Nat.le_trans HPL.out.1 HB.out.2.1) h)
          simp only [List.toList_toArray] at L1
          cases hl : lineT p1 with
          | error d =>
            have HT2 : Hid (tot = .error (c + 1, d)) := Lib.hid (by
              rw [← HT.out, ← HC.out, parseF_bad HNE.out HF.out (by rw [← HP.out]) (by rw [← HP.out]; exact hl)]; rfl)
            rw [hl] at L1
            have hd0 : d ≠ 0 := line_err hl
            have t2 : (d != 0) = true := by simpa using hd0
            clear HT hl hd0
            go_wp2_with fail
            refine (C1.out _ (HW.out.ext HE.out)).mono ?_
            rintro e w1 ⟨rfl, hE⟩
            have HE1 := Lib.hid (HE.out.trans hE)
            clear hE
            go_wp2_with fail
            refine (L1.out _ (HW.out.ext HE1.out)).mono ?_
            rintro e w2 ⟨rfl, hE⟩
            have HE2 := Lib.hid (HE1.out.trans hE)
            clear hE
            go_wp2_with fail
            go_ret3
            exact gives_err HT2.out (by simp) (HE2.out.alloc _)
          | ok r =>
            obtain ⟨op, A⟩ := r
            have HT2 : Hid (cont (pre ++ [(op, A)]) (parseF f p2 (c + 1)) = tot) := Lib.hid (by
              rw [← HT.out, ← HC.out, parseF_cont HNE.out HF.out (by rw [← HP.out]) (by rw [← HP.out]; exact hl), ← HP.out])
            rw [hl] at L1
            clear HT hl
            go_wp2_with fail
            refine (C1.out _ (HW.out.ext HE.out)).mono ?_
            rintro e w1 ⟨rfl, hE⟩
            have HE1 := Lib.hid (HE.out.trans hE)
            have HO1 := Lib.hid (ownsRow_ext HO.out hE)
            have HR1 : Hid (RecCells (RdT w1 3 1) vs pre) := Lib.hid (HRC.out.mono fun _ _ _ _ hx => hx.ext hE)
            clear hE HE HO HRC
            go_wp2_with fail
            refine (L1.out _ (HW.out.ext HE1.out)).mono ?_
            rintro e w2 ⟨u, rfl, ho, hE⟩
            obtain ⟨au, cu, rfl, hu⟩ := ownsRow_rdT ho
            have HE2 := Lib.hid (HE1.out.trans hE)
            have HO2 := Lib.hid (ownsRow_ext HO1.out hE)
            have HR2 : Hid (RecCells (RdT w2 3 1) vs pre) := Lib.hid (HR1.out.mono fun _ _ _ _ hx => hx.ext hE)
            have HU := Lib.hid hu
            clear hE ho hu HE1 HO1 HR1
            have hrd : Rd ((w2.alloc (.cells #[.int .i64 op, .slice au A.length cu] 41)).alloc (.cells #[.int .i64 op, .slice au A.length cu] 41)) 2 (some ⟨w2.heap.size + 1, 0, none⟩) 1 1 [.int .i64 op, .slice au A.length cu] := by
              have := Rd_new (w2.alloc (.cells #[.int .i64 op, .slice au A.length cu] 41)) [.int .i64 op, .slice au A.length cu] 41 2 1 rfl (by unfold maxLen; omega)
              rw [World.size_alloc] at this
              exact this
            have HRD := Lib.hid hrd
            clear hrd
            go_wp2_with (refine wpList_append_rd rfl (.tmp 38) (.tmp 40) 23 rfl w.heap.size 41 _ 2 32 Tryd.underlying23 info24 rfl (by decide) (.slice av c capv) c vs rfl ((HO2.out.alloc _).alloc _) (some ⟨w2.heap.size + 1, 0, none⟩) 1 1 [.int .i64 op, .slice au A.length cu] rfl HRD.out (rec_one _ _ _ _) ?_ (by decide) ?_ ?_)
            · omega
            · have := HE2.out.size; simp; omega
            intro v' w5 ho hg
            obtain ⟨av', cv', rfl, -⟩ := ownsRow_rd ho
            have tr : ∀ a n c xs, RdT w2 3 1 a n c xs → RdT w5 3 1 a n c xs := fun a n c xs hx => (hx.ext (((Ext.refl w2).alloc _).alloc _)).grown ((HO2.out.alloc _).alloc _) hg (by decide)
            have HR5 : Hid (RecCells (RdT w5 3 1) (vs ++ [.int .i64 op, .slice au A.length cu]) (pre ++ [(op, A)])) := Lib.hid ((HR2.out.mono tr).snoc op A au cu (tr _ _ _ _ HU.out))
            have HO5 : Hid (w5.ownsRow w.heap.size 41 2 (.slice av' (c + 1) cv') (pre ++ [(op, A)]).length (vs ++ [.int .i64 op, .slice au A.length cu])) := Lib.hid (by rw [List.length_append, ← HC.out]; exact ho)
            have HE5 := Lib.hid (((HE2.out.alloc _).alloc _).grown hg (fun k hk => (HO2.out.lt _ hk).1))
            have HT5 : Hid (cont (pre ++ [(op, A)]) (parseF f (⟨p2.toArray⟩ : ByteArray).data.toList (pre ++ [(op, A)]).length) = tot) := Lib.hid (by rw [data_mk, List.length_append, ← HC.out]; exact HT2.out)
            have HB5 : Hid ((⟨p2.toArray⟩ : ByteArray).data.toList.length ≤ f ∧ (⟨p2.toArray⟩ : ByteArray).data.toList.length ≤ 1000000 ∧ (pre ++ [(op, A)]).length ≤ 4096) := Lib.hid (by
              rw [data_mk, List.length_append, ← HC.out]
              have h1 := HB.out; have h2 := HPL.out.2.2.1 (by simp); have h3 := HF.out
              simp only [List.length_cons, List.length_nil]
              omega)
            have hms : p2.length < S.size := by rw [Lib.size_eq]; exact HPL.out.2.2.1 (by simp)
            clear ho hg tr HR2 HO2 HE2 HU HT2 HRD
            go_wp2_with fail
            go_roundw
            case rel => first | exact ⟨⟨p2.toArray⟩, f, pre ++ [(op, A)], _, rfl, HO5, HR5, HE5, HB5, HT5⟩ | ((repeat apply Exists.intro); exact ⟨⟨⟨p2.toArray⟩, f, pre ++ [(op, A)], _, rfl, HO5, HR5, HE5, HB5, HT5⟩, rfl⟩)
            case measure =>
              show p2.toArray.size < S.size
              rw [List.size_toArray]
              exact hms
end Go.Proofs.YtaklnijmcidpkaaDoor
