/- Proof text: what sides leave of a polygon, the document's answer (rastrumref10.Carve). By an AI agent. No condition beyond what each theorem states. -/
import Derived.Test.YtibhfclkdbmmoaaKF
set_option linter.unusedVariables false
set_option linter.unusedSimpArgs false
namespace Go.Proofs.Ytibhfclkdbmmoaa
open Go.RowKit
theorem zip_back {α β : Type} : ∀ z : List (α × β), (z.map (·.1)).zip (z.map (·.2)) = z
  | [] => rfl
  | a :: z => by simp [zip_back z]
theorem same_true (la : List Vx) (le : List Bool) (A B E F : Option Addr) (n ca cb ce cf : Nat) (w : World) (hA : Rd w 8 A n ca (vrows la)) (hB : Rd w 8 B n cb (vrows la)) (hE : Rd w 1 E n ce (brows le)) (hF : Rd w 1 F n cf (brows le)) (hla : la.length = n) (hle : le.length = n) :
    Calls Try.prog 18 #[.slice A n ca, .slice B n cb, .slice E n ce, .slice F n cf] w fun x w' => x = .returned (.bool true) ∧ Ext w w' := by
  refine (same_any la la le le A B E F n n n n ca cb ce cf w hA hB hE hF hla hla hle hle).mono ?_
  rintro x w1 ⟨r, rfl, hr, hE⟩
  obtain rfl : r = true := hr.2 ⟨rfl, rfl, hla.trans hle.symm⟩
  exact ⟨rfl, hE⟩
/-- What is held between two sides, as two rows. -/
def RHeld (w : World) (l : List (Vx × Bool)) (s : List Sd) (j : Nat) (Z : List (Vx × Bool)) (a b : Option Addr) (c d : Nat) (wr : World) : Prop :=
  Rd wr 8 a Z.length c (vrows (Z.map (·.1))) ∧ Rd wr 1 b Z.length d (brows (Z.map (·.2))) ∧ Z = cutAll cutF (s.take j) l ∧ (∀ c ∈ Z, c.1.Fit) ∧ Z.length ≤ 256 * 2 ^ j ∧ Ext w wr
theorem RHeld.ext {w wr w' : World} {l Z : List (Vx × Bool)} {s : List Sd} {j c d : Nat} {a b : Option Addr} (h : RHeld w l s j Z a b c d wr) (e : Ext wr w') : RHeld w l s j Z a b c d w' :=
  ⟨h.1.ext e, h.2.1.ext e, h.2.2.1, h.2.2.2.1, h.2.2.2.2.1, h.2.2.2.2.2.trans e⟩
theorem RHeld.next {w wr w' : World} {l Z : List (Vx × Bool)} {s : List Sd} {j c d : Nat} {a b : Option Addr} {d0 : Sd} {x : Ending} (h : RHeld w l s j Z a b c d wr) (hd : s[j]? = some d0) (hj : j < 9)
    (hp : RCut (Z.map (·.1)) (Z.map (·.2)) d0 wr x w') : ∃ (a' b' : Option Addr) (c' d' : Nat), x = .returned (.tuple #[.slice a' (cutBy (cutF d0) Z).length c', .slice b' (cutBy (cutF d0) Z).length d']) ∧ RHeld w l s (j + 1) (cutBy (cutF d0) Z) a' b' c' d' w' ∧ Ext wr w' := by
  obtain ⟨_, _, h3, h4, h5, h6⟩ := h
  obtain ⟨a', c', b', d', hx, q1, q2, q3⟩ := hp
  rw [zip_back] at hx q1 q2
  refine ⟨a', b', c', d', hx, ⟨q1, q2, ?_, cutBy_fit h4, ?_, h6.trans q3⟩, q3⟩
  · rw [h3, cutAll_take hd]
  · have h7 := cutBy_len2 d0 Z
    have := (grow2 j hj).1
    omega
theorem RHeld.cut {w wr : World} {l Z : List (Vx × Bool)} {s : List Sd} {j c d : Nat} {a b : Option Addr} {d0 : Sd} (h : RHeld w l s j Z a b c d wr) (hj : j < 9) (hs : d0.Ok) {W : World} (e : Ext wr W) :
    Calls Try.prog 20 #[.slice a Z.length c, .slice b Z.length d, d0.v] W (RCut (Z.map (·.1)) (Z.map (·.2)) d0 W) :=
  rcut_any _ _ d0 a b Z.length c d W (h.1.ext e) (by rw [List.length_map]) (h.2.1.ext e) (by rw [List.length_map]) (by have h1 := h.2.2.2.2.1; have h2 := (grow2 j hj).2; omega) hs (fun v hv => by
    obtain ⟨c, hc, rfl⟩ := List.mem_map.1 hv
    exact h.2.2.2.1 c hc)
theorem RHeld.begin {w wr : World} {l : List Vx} {e : List Bool} {s : List Sd} {a b : Option Addr} {n c d : Nat} (hl : l.length = n) (he : e.length = n) (hn : n ≤ 256) (hf : ∀ v ∈ l, v.Fit) (h1 : Rd wr 8 a n c (vrows l)) (h2 : Rd wr 1 b n d (brows e)) (hE : Ext w wr) :
    ∃ Z : List (Vx × Bool), Z.length = n ∧ RHeld w (l.zip e) s 0 Z a b c d wr := by
  refine ⟨l.zip e, by rw [List.length_zip, hl, he, Nat.min_self], ?_, ?_, rfl, zip_fit hf, ?_, hE⟩
  · rw [zip_fst (by omega), List.length_zip, hl, he, Nat.min_self]; exact h1
  · rw [show (l.zip e).map (·.2) = e from List.map_snd_zip (by omega), List.length_zip, hl, he, Nat.min_self]; exact h2
  · rw [List.length_zip, hl, he, Nat.min_self]; omega
set_option maxRecDepth 100000 in
set_option maxHeartbeats 1000000 in
theorem rcarve_yes (l : List Vx) (e : List Bool) (s : List Sd) (A B C : Option Addr) (n m k ca cb cc : Nat) (w : World) (hA : Rd w 8 A n ca (vrows l)) (hl : l.length = n) (hB : Rd w 1 B m cb (brows e)) (he : e.length = m)
    (hC : Rd w 5 C k cc (srow s)) (hs : s.length = k) (hm : MayC l e s) : Calls Try.prog 17 #[.slice A n ca, .slice B m cb, .slice C k cc] w (CarveYes l e s w) := by
  have HM := Lib.hid hm
  have HA := Lib.hid hA; have HB := Lib.hid hB; have HC := Lib.hid hC
  obtain rfl : m = n := by have := hm.2.2.1; omega
  have hk : (k : Int) ≤ 9 := by have := hm.2.2.2.1; omega
  have hm3 : 3 ≤ m := by have := hm.1; omega
  have hm256 : m ≤ 256 := by have := hm.2.1; omega
  have H256 := Lib.hid hm256
  have d1 : decide ((m : Int) < 3) = false := by simp; omega
  have d2 : decide ((m : Int) > 256) = false := by simp; omega
  have d3 : ((m : Int) != (m : Int)) = false := by simp
  have d4 : decide ((k : Int) > 9) = false := by simp; omega
  have hmi : (m : Int) ≤ 256 := by omega
  have HL := Lib.hid hl; have HLE := Lib.hid he; have HS := Lib.hid hs
  clear hA hB hC hl he hs hm hm256 hm3
  go_enter Try.func17, Try.ntmps17
  go_wp2_with fail
  clear d1 d2 d3 d4
  go_loopw [9] (fun i wr => ∃ j : Nat, j ≤ m ∧ i = .int .i64 j ∧ Ext w wr) (fun i _ => m - (intOf i).toNat)
  case atStart => exact ⟨0, Nat.zero_le _, rfl, Ext.refl _⟩
  case round =>
    obtain ⟨j, hj, rfl, hE⟩ := hrel
    by_cases hlt : j < m
    · obtain ⟨v, hv⟩ : ∃ v, l[j]? = some v := ⟨_, List.getElem?_eq_getElem (by rw [HL.out]; exact hlt)⟩
      have hRr := HA.out.ext hE
      obtain ⟨b, off, ha, -, -⟩ := hRr.at_ (by omega)
      subst ha
      obtain ⟨c0, c1, c2, c3, c4, c5, c6, c7⟩ := vert_at hRr hv
      have HF := Lib.hid (HM.out.2.2.2.2.1 v (List.mem_of_getElem? hv))
      have HE := Lib.hid hE
      clear hRr hv hE
      go_wp2_with fail
      refine (rfits_yes v _ HF.out).mono ?_
      rintro x w1 ⟨rfl, hE1⟩
      obtain ⟨x1, rfl⟩ := Later.mk' hE1
      clear hE1 c0 c1 c2 c3 c4 c5 c6 c7
      have HE2 := Lib.hid (HE.out.later x1)
      go_wp2_with fail
      go_roundw
      case rel => first | exact ⟨j + 1, by omega, by go_num, HE2.out⟩ | ((repeat apply Exists.intro); exact ⟨⟨j + 1, by omega, by go_num, HE2.out⟩, rfl⟩)
      case measure => simp [intOf]; omega
    · obtain rfl : j = m := by omega
      have HE := Lib.hid hE; clear hE
      clear hj hlt
      go_wp2_with fail
      go_loopw [10] (fun i wr => ∃ q : Nat, q ≤ k ∧ i = .int .i64 q ∧ Ext w wr) (fun i _ => k - (intOf i).toNat)
      case atStart => exact ⟨0, Nat.zero_le _, rfl, HE.out⟩
      case round =>
        clear HE
        obtain ⟨q, hj, rfl, hE⟩ := hrel
        by_cases hlt : q < k
        · obtain ⟨v, hv⟩ : ∃ v, s[q]? = some v := ⟨_, List.getElem?_eq_getElem (by rw [HS.out]; exact hlt)⟩
          have hRr := HC.out.ext hE
          obtain ⟨b, off, ha, -, -⟩ := hRr.at_ (by omega)
          subst ha
          obtain ⟨c0, c1, c2, c3, c4⟩ := side_at hRr hv
          have HF := Lib.hid (HM.out.2.2.2.2.2 v (List.mem_of_getElem? hv))
          have HE := Lib.hid hE
          clear hRr hv hE
          go_wp2_with fail
          refine (rright_yes v _ HF.out).mono ?_
          rintro x w1 ⟨rfl, hE1⟩
          obtain ⟨x1, rfl⟩ := Later.mk' hE1
          clear hE1 c0 c1 c2 c3 c4
          have HE2 := Lib.hid (HE.out.later x1)
          go_wp2_with fail
          go_roundw
          case rel => first | exact ⟨q + 1, by omega, by go_num, HE2.out⟩ | ((repeat apply Exists.intro); exact ⟨⟨q + 1, by omega, by go_num, HE2.out⟩, rfl⟩)
          case measure => simp [intOf]; omega
        · obtain rfl : q = k := by omega
          obtain ⟨W1, rfl⟩ : ∃ W1 : World, W1 = wr := ⟨_, rfl⟩
          have HE := Lib.hid hE; clear hE
          clear hj hlt
          have OW : Hid ((W1.alloc (.cells #[] 25)).ownsRow W1.heap.size 25 8 (.slice (some ⟨W1.heap.size, 0, none⟩) 0 0) 0 []) := Lib.hid (World.ownsRow_lit W1 #[] 0 (Nat.le_refl _) (by unfold maxLen; omega) rfl)
          go_wp2_with (refine wpList_append_rd rfl (.tmp 58) (.tmp 59) 36 rfl W1.heap.size 25 _ 8 64 Try.underlying36 info_vert rfl (by decide) (.slice (some ⟨W1.heap.size, 0, none⟩) 0 0) 0 [] rfl OW.out A j ca (vrows l) rfl ((HA.out.ext HE.out).ext ((Ext.refl W1).alloc _)) (vrows_one l) ?_ (by decide) ?_ ?_)
          · omega
          · simp
          intro v1 w1 ho1 hg1
          have hE1 : Ext W1 w1 := Ext.grown (Ext.alloc (Ext.refl _) _) hg1 (fun k hk => (OW.out.lt k hk).1)
          obtain ⟨a1, c1, rfl, hr1⟩ := ownsRow_rd ho1
          have HR1 := Lib.hid hr1
          have HE1 := Lib.hid (HE.out.trans hE1)
          clear ho1 hg1 hr1 hE1 OW HE
          have OW : Hid ((w1.alloc (.cells #[] 4)).ownsRow w1.heap.size 4 1 (.slice (some ⟨w1.heap.size, 0, none⟩) 0 0) 0 []) := Lib.hid (World.ownsRow_lit w1 #[] 0 (Nat.le_refl _) (by unfold maxLen; omega) rfl)
          go_wp2_with (refine wpList_append_rd rfl (.tmp 61) (.tmp 62) 37 rfl w1.heap.size 4 _ 1 1 Try.underlying37 info_bool rfl (by decide) (.slice (some ⟨w1.heap.size, 0, none⟩) 0 0) 0 [] rfl OW.out B j cb (brows e) rfl ((HB.out.ext HE1.out).ext ((Ext.refl w1).alloc _)) (brows_one e) ?_ (by decide) ?_ ?_)
          · omega
          · simp
          intro v2 w2 ho2 hg2
          have hE2 : Ext w1 w2 := Ext.grown (Ext.alloc (Ext.refl _) _) hg2 (fun k hk => (OW.out.lt k hk).1)
          obtain ⟨a2, c2, rfl, hr2⟩ := ownsRow_rd ho2
          obtain ⟨Z0, hZ0, hH⟩ := RHeld.begin (s := s) HL.out HLE.out H256.out HM.out.2.2.2.2.1 (HR1.out.ext hE2) hr2 (HE1.out.trans hE2)
          subst hZ0
          have HH := Lib.hid hH
          clear ho2 hg2 hr2 hE2 OW HE1 HR1 hH
          go_wp2_with fail
          go_loopw [11, 12, 13] (fun va vb i wr => ∃ (j : Nat) (Z : List (Vx × Bool)) (a b : Option Addr) (c d : Nat), j ≤ q ∧ va = .slice a Z.length c ∧ vb = .slice b Z.length d ∧ i = .int .i64 j ∧ Hid (RHeld w (l.zip e) s j Z a b c d wr)) (fun _ _ i _ => q - (intOf i).toNat)
          case atStart => exact ⟨0, Z0, _, _, _, _, Nat.zero_le _, rfl, rfl, rfl, HH⟩
          case round =>
            clear HH
            obtain ⟨r, Z, a, b, c, d, hr, rfl, rfl, rfl, HH⟩ := hrel
            by_cases hlt : r < q
            · obtain ⟨d0, hd⟩ : ∃ d, s[r]? = some d := ⟨_, List.getElem?_eq_getElem (by rw [HS.out]; exact hlt)⟩
              have hRr := HC.out.ext HH.out.2.2.2.2.2
              obtain ⟨bb, off, ha, -, -⟩ := hRr.at_ (by omega)
              subst ha
              obtain ⟨c0, c1, c2, c3, c4⟩ := side_at hRr hd
              have HD := Lib.hid hd
              have CU := Lib.hid (HH.out.cut (by omega) (HM.out.2.2.2.2.2 d0 (List.mem_of_getElem? hd)) (Ext.refl _))
              clear hRr hd
              go_wp2_with fail
              refine CU.out.mono ?_
              intro x w3 hx
              obtain ⟨a', b', c', d', hx', hN, -⟩ := HH.out.next HD.out (by omega) hx
              generalize cutBy (cutF d0) Z = Z' at hx' hN
              subst hx'
              have HN := Lib.hid hN
              clear hN hx c0 c1 c2 c3 c4 CU HH
              go_wp2_with fail
              go_roundw
              case rel => first | exact ⟨r + 1, Z', _, _, _, _, by omega, rfl, rfl, by go_num, HN⟩ | ((repeat apply Exists.intro); exact ⟨⟨r + 1, Z', _, _, _, _, by omega, rfl, rfl, by go_num, HN⟩, rfl⟩)
              case measure => simp [intOf]; omega
            · obtain rfl : r = q := by omega
              go_wp2_with fail
              go_ret3
              obtain ⟨h1, h2, h3, h4, h5, h6⟩ := HH.out
              have e1 : Z = carved l e s := by
                rw [List.take_of_length_le (by rw [HS.out]; exact Nat.le_refl _)] at h3
                exact h3
              rw [e1] at h1 h2
              exact ⟨a, c, b, d, by rw [e1]; rfl, h1, h2, h6⟩
set_option maxRecDepth 100000 in
set_option maxHeartbeats 1000000 in
theorem rcarve_no (l : List Vx) (e : List Bool) (s : List Sd) (A B C : Option Addr) (n m k ca cb cc : Nat) (w : World) (hA : Rd w 8 A n ca (vrows l)) (hl : l.length = n) (he : e.length = m)
    (hC : Rd w 5 C k cc (srow s)) (hs : s.length = k) (hm : ¬ MayC l e s) : Calls Try.prog 17 #[.slice A n ca, .slice B m cb, .slice C k cc] w fun x w' => x = .returned (.tuple #[.slice none 0 0, .slice none 0 0, .int .i64 1]) ∧ Ext w w' := by
  have HM := Lib.hid hm
  have HA := Lib.hid hA; have HC := Lib.hid hC
  have HL := Lib.hid hl; have HLE := Lib.hid he; have HS := Lib.hid hs
  by_cases hin : 3 ≤ n ∧ n ≤ 256 ∧ m = n ∧ k ≤ 9
  · obtain ⟨h1, h2, rfl, h4⟩ := hin
    have HIN : Hid (3 ≤ m ∧ m ≤ 256 ∧ k ≤ 9) := Lib.hid ⟨h1, h2, h4⟩
    have d1 : decide ((m : Int) < 3) = false := by simp; omega
    have d2 : decide ((m : Int) > 256) = false := by simp; omega
    have d3 : ((m : Int) != (m : Int)) = false := by simp
    have d4 : decide ((k : Int) > 9) = false := by simp; omega
    have hmi : (m : Int) ≤ 256 := by omega
    have hki : (k : Int) ≤ 9 := by omega
    clear h1 h2 h4 hA hC hl he hs hm
    go_enter Try.func17, Try.ntmps17
    go_wp2_with fail
    clear d1 d2 d3 d4
    go_loopw [9] (fun i wr => ∃ j : Nat, j ≤ m ∧ i = .int .i64 j ∧ Hid (∀ k, k < j → ∀ s, l[k]? = some s → s.Fit) ∧ Ext w wr) (fun i _ => m - (intOf i).toNat)
    case atStart => exact ⟨0, Nat.zero_le _, rfl, Lib.hid (fun k hk => by omega), Ext.refl _⟩
    case round =>
      obtain ⟨j, hj, rfl, HJ, hE⟩ := hrel
      by_cases hlt : j < m
      · obtain ⟨v, hv⟩ : ∃ v, l[j]? = some v := ⟨_, List.getElem?_eq_getElem (by rw [HL.out]; exact hlt)⟩
        have hRr := HA.out.ext hE
        obtain ⟨b, off, ha, -, -⟩ := hRr.at_ (by omega)
        subst ha
        obtain ⟨c0, c1, c2, c3, c4, c5, c6, c7⟩ := vert_at hRr hv
        have HV := Lib.hid hv
        have HE := Lib.hid hE
        clear hRr hv hE
        by_cases hok : v.Fit
        · have HF := Lib.hid hok; clear hok
          go_wp2_with fail
          refine (rfits_yes v _ HF.out).mono ?_
          rintro x w1 ⟨rfl, hE1⟩
          obtain ⟨x1, rfl⟩ := Later.mk' hE1
          clear hE1 c0 c1 c2 c3 c4 c5 c6 c7
          have HE2 := Lib.hid (HE.out.later x1)
          go_wp2_with fail
          go_roundw
          case rel => first | exact ⟨j + 1, by omega, by go_num, Lib.hid (upto9 HJ.out HV.out HF.out), HE2.out⟩ | ((repeat apply Exists.intro); exact ⟨⟨j + 1, by omega, by go_num, Lib.hid (upto9 HJ.out HV.out HF.out), HE2.out⟩, rfl⟩)
          case measure => simp [intOf]; omega
        · have HF := Lib.hid hok; clear hok
          go_wp2_with fail
          refine (rfits_no v _ HF.out).mono ?_
          rintro x w1 ⟨rfl, hE1⟩
          have HE2 := Lib.hid (HE.out.trans hE1)
          clear hE1 c0 c1 c2 c3 c4 c5 c6 c7
          go_wp2_with fail
          go_ret3
          exact ⟨rfl, HE2.out⟩
      · obtain rfl : j = m := by omega
        have HF := Lib.hid (all_of_upto HL.out HJ.out); clear HJ
        have HE := Lib.hid hE; clear hE
        clear hj hlt
        go_wp2_with fail
        go_loopw [10] (fun i wr => ∃ q : Nat, q ≤ k ∧ i = .int .i64 q ∧ Hid (∀ k, k < q → ∀ s', s[k]? = some s' → s'.Ok) ∧ Ext w wr) (fun i _ => k - (intOf i).toNat)
        case atStart => exact ⟨0, Nat.zero_le _, rfl, Lib.hid (fun k hk => by omega), HE.out⟩
        case round =>
          clear HE
          obtain ⟨q, hj, rfl, HJ, hE⟩ := hrel
          by_cases hlt : q < k
          · obtain ⟨v, hv⟩ : ∃ v, s[q]? = some v := ⟨_, List.getElem?_eq_getElem (by rw [HS.out]; exact hlt)⟩
            have hRr := HC.out.ext hE
            obtain ⟨b, off, ha, -, -⟩ := hRr.at_ (by omega)
            subst ha
            obtain ⟨c0, c1, c2, c3, c4⟩ := side_at hRr hv
            have HV := Lib.hid hv
            have HE := Lib.hid hE
            clear hRr hv hE
            by_cases hok : v.Ok
            · have HK := Lib.hid hok; clear hok
              go_wp2_with fail
              refine (rright_yes v _ HK.out).mono ?_
              rintro x w1 ⟨rfl, hE1⟩
              obtain ⟨x1, rfl⟩ := Later.mk' hE1
              clear hE1 c0 c1 c2 c3 c4
              have HE2 := Lib.hid (HE.out.later x1)
              go_wp2_with fail
              go_roundw
              case rel => first | exact ⟨q + 1, by omega, by go_num, Lib.hid (upto9 HJ.out HV.out HK.out), HE2.out⟩ | ((repeat apply Exists.intro); exact ⟨⟨q + 1, by omega, by go_num, Lib.hid (upto9 HJ.out HV.out HK.out), HE2.out⟩, rfl⟩)
              case measure => simp [intOf]; omega
            · have HK := Lib.hid hok; clear hok
              go_wp2_with fail
              refine (rright_no v _ HK.out).mono ?_
              rintro x w1 ⟨rfl, hE1⟩
              have HE2 := Lib.hid (HE.out.trans hE1)
              clear hE1 c0 c1 c2 c3 c4
              go_wp2_with fail
              go_ret3
              exact ⟨rfl, HE2.out⟩
          · obtain rfl : q = k := by omega
            exfalso
            have HF2 := all_of_upto HS.out HJ.out
            exact HM.out ⟨by rw [HL.out]; exact HIN.out.1, by rw [HL.out]; exact HIN.out.2.1, by rw [HL.out, HLE.out], by rw [HS.out]; exact HIN.out.2.2, HF.out, HF2⟩
  · have hc : decide ((n : Int) < 3) = true ∨ (decide ((n : Int) < 3) = false ∧ decide ((n : Int) > 256) = true) ∨ (decide ((n : Int) < 3) = false ∧ decide ((n : Int) > 256) = false ∧ ((m : Int) != (n : Int)) = true) ∨
        (decide ((n : Int) < 3) = false ∧ decide ((n : Int) > 256) = false ∧ ((m : Int) != (n : Int)) = false ∧ decide ((k : Int) > 9) = true) := by
      simp
      omega
    clear hin hl he hs hA hC hm
    rcases hc with d1 | ⟨d1, d2⟩ | ⟨d1, d2, d3⟩ | ⟨d1, d2, d3, d4⟩
    all_goals
      go_enter Try.func17, Try.ntmps17
      go_wp2_with fail
      go_ret3
      exact ⟨rfl, Ext.refl _⟩
end Go.Proofs.Ytibhfclkdbmmoaa
