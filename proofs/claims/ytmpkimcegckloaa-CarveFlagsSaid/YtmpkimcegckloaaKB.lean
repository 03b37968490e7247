/- Proof text: the law CarveFlags. By an AI agent. No condition beyond what each theorem states. -/
import Derived.Test.YtmpkimcegckloaaCE
set_option linter.unusedVariables false
set_option linter.unusedSimpArgs false
namespace Go.Proofs.Ytmpkimcegckloaa
open Go.RowKit
theorem cutAll_len {σ α : Type} {f : σ → α → α → List α} {s : List σ} {l : List α} (h : l = [] ∨ 3 ≤ l.length) : cutAll f s l = [] ∨ 3 ≤ (cutAll f s l).length := by
  induction s generalizing l with
  | nil => exact h
  | cons d s ih => exact ih (cutBy_len (f d) l)
theorem cutAll_all {σ α : Type} {f : σ → α → α → List α} {P : α → Prop} (hf : ∀ d p q, P p → P q → ∀ c ∈ f d p q, P c) {s : List σ} {l : List α} (h : ∀ c ∈ l, P c) : ∀ c ∈ cutAll f s l, P c := by
  induction s generalizing l with
  | nil => exact h
  | cons d s ih => exact ih (cutBy_all fun p hp q hq => hf d p q (h p hp) (h q hq))
theorem cutF_on (s : Sd) (p q : Vx × Bool) (hp : p.2 = true) (hq : q.2 = true) : ∀ c ∈ cutF s p q, c.2 = true := by
  intro c hc
  unfold cutF at hc
  split at hc
  · split at hc
    · simp at hc; subst hc; exact hp
    · simp at hc
      rcases hc with rfl | rfl
      · exact hp
      · rfl
  · split at hc
    · simp at hc; subst hc; exact hp
    · simp at hc
theorem flags_on {l : List Vx} {s : List Sd} {n : Nat} : ∀ c ∈ carved l (List.replicate n true) s, c.2 = true :=
  cutAll_all (P := fun c : Vx × Bool => c.2 = true) (fun d p q hp hq => cutF_on d p q hp hq) fun c hc => List.eq_of_mem_replicate (List.of_mem_zip (a := c.1) (b := c.2) hc).2
set_option maxRecDepth 100000 in
set_option maxHeartbeats 2000000 in
theorem flags_out (l : List Vx) (s : List Sd) (A C : Option Addr) (n k ca cc : Nat) (w : World) (hA : Rd w 8 A n ca (vrows l)) (hl : l.length = n)
    (hC : Rd w 5 C k cc (srow s)) (hs : s.length = k) (hm : ¬ (n ≤ 40 ∧ k ≤ 12)) :
    Calls Try.prog 12 #[.slice A n ca, .slice C k cc] w fun x w' => x = .returned (.bool true) ∧ Ext w w' := by
  have CS := Lib.hid (small_no A none C n 0 k ca 0 cc w (fun h => hm ⟨h.1, h.2.2⟩))
  clear hA hl hC hs hm
  go_enter Try.func12, Try.ntmps12
  go_wp2_with fail
  refine CS.out.mono ?_
  rintro x w1 ⟨rfl, hE⟩
  obtain ⟨x1, rfl⟩ := Later.mk' hE
  clear hE
  go_wp2_with fail
  refine (awake10 _).mono ?_
  rintro x w1 ⟨rfl, hE⟩
  have HE := Lib.hid (x1.ext.trans hE)
  clear hE
  go_wp2_with fail
  go_ret
  exact ⟨rfl, HE.out⟩
set_option maxRecDepth 100000 in
set_option maxHeartbeats 2000000 in
theorem flags_in (l : List Vx) (s : List Sd) (A C : Option Addr) (n k ca cc : Nat) (w : World) (hA : Rd w 8 A n ca (vrows l)) (hl : l.length = n)
    (hC : Rd w 5 C k cc (srow s)) (hs : s.length = k) (hm : n ≤ 40 ∧ k ≤ 12) :
    Calls Try.prog 12 #[.slice A n ca, .slice C k cc] w fun x w' => x = .returned (.bool true) ∧ Ext w w' := by
  have CS := Lib.hid (small_yes A none C n 0 k ca 0 cc w hm.1 (by omega) hm.2)
  have HA := Lib.hid hA; have HC := Lib.hid hC; have HL := Lib.hid hl; have HS := Lib.hid hs
  have hni : (n : Int) ≤ 40 := by omega
  obtain ⟨cur, hmk⟩ := make_bools n (by omega)
  have m1 := fun W => (hmk W).1
  have M2 := Lib.hid (fun W => (hmk W).2)
  clear hmk hA hl hC hs hm
  go_enter Try.func12, Try.ntmps12
  go_wp2_with fail
  refine CS.out.mono ?_
  rintro x w1 ⟨rfl, hE⟩
  obtain ⟨x1, rfl⟩ := Later.mk' hE
  clear hE CS
  go_wp2_with fail
  have ho := M2.out x1.w x1.w.heap.size (Nat.le_refl _)
  clear m1 M2
  go_loopw [6] (fun i wr => ∃ (j : Nat) (L : List Bool), j ≤ n ∧ i = .int .i64 j ∧ L.length = n ∧ Hid (∀ k, k < j → L[k]? = (List.replicate n true)[k]?) ∧ wr.ownsRow x1.w.heap.size 4 1 (.slice (some ⟨x1.w.heap.size, 0, none⟩) n n) n (brows L) ∧ Ext x1.w wr) (fun i _ => n - (intOf i).toNat)
  case atStart => exact ⟨0, _, Nat.zero_le _, rfl, by simp, Lib.hid (fun k hk => by omega), ho, by (repeat (first | with_reducible exact Ext.refl _ | with_reducible assumption | with_reducible refine Ext.alloc ?_ _ | with_reducible refine Ext.drew ?_ | with_reducible refine Ext.drewN ?_ _ | with_reducible refine Ext.later ?_ _ | (with_reducible refine Ext.setCell ?_ _ ?hp; case hp => first | (simp; done) | (simp; omega) | omega)))⟩
  case round =>
    clear ho
    obtain ⟨j, L, hj, rfl, hLn, HJ, ho, hE⟩ := hrel
    by_cases hlt : j < n
    · obtain ⟨b0, hb⟩ : ∃ b, L[j]? = some b := ⟨_, List.getElem?_eq_getElem (by rw [hLn]; exact hlt)⟩
      obtain ⟨r0, f0⟩ := row_flag ho hb
      obtain ⟨s0, g0⟩ := ho.stored j (.bool true)
      rw [brows_set hb true] at s0
      have HO := Lib.hid s0; clear s0 g0
      have HJ2 := Lib.hid (set_upto hLn hlt HJ.out (by rw [List.getElem?_replicate, if_pos hlt] : (List.replicate n true)[j]? = some true))
      have HLn := Lib.hid hLn
      have HE2 := Lib.hid (hE.setCell (p := ⟨x1.w.heap.size, j, none⟩) (.bool true) (Nat.le_refl _))
      clear ho hb hLn hE HJ
      go_wp2_with fail
      go_roundw
      case rel => first | exact ⟨j + 1, _, by omega, by go_num, by rw [List.length_set]; exact HLn.out, HJ2, HO.out, HE2.out⟩ | ((repeat apply Exists.intro); exact ⟨⟨j + 1, _, by omega, by go_num, by rw [List.length_set]; exact HLn.out, HJ2, HO.out, HE2.out⟩, rfl⟩)
      case measure => simp [intOf]; omega
    · obtain rfl : j = n := by omega
      obtain rfl := list_same hLn (List.length_replicate (n := j) (a := true)) HJ.out
      obtain ⟨a', c', ea, hr⟩ := ownsRow_rd ho
      obtain ⟨rfl, rfl⟩ : some (⟨x1.w.heap.size, 0, none⟩ : Addr) = a' ∧ j = c' := by simpa using ea
      have HR := Lib.hid hr
      have HE := Lib.hid (x1.ext.trans hE)
      clear ho hr ea hE HJ hLn hlt hj
      by_cases hm : MayC l (List.replicate j true) s
      · have CY := Lib.hid (carve_yes l (List.replicate j true) s A (some ⟨x1.w.heap.size, 0, none⟩) C j j k ca j cc wr (HA.out.ext HE.out) HL.out HR.out (List.length_replicate ..) (HC.out.ext HE.out) HS.out hm)
        have HLC := Lib.hid (cutAll_len (f := cutF) (s := s) (l := l.zip (List.replicate j true)) (.inr (by rw [List.length_zip, List.length_replicate, HL.out, Nat.min_self]; have := hm.1; have := HL.out; omega)))
        clear hm
        go_wp2_with fail
        refine CY.out.mono ?_
        rintro x W1 ⟨a, c, b, d, rfl, h1, h2, hE⟩
        have HF := Lib.hid (flags_on (l := l) (s := s) (n := j))
        obtain ⟨Cv, hcv⟩ : ∃ Cv, Cv = carved l (List.replicate j true) s := ⟨_, rfl⟩
        have hle : Cv = [] ∨ 3 ≤ Cv.length := by rw [hcv]; exact HLC.out
        rw [← hcv] at h1 h2 HF ⊢
        have HR2 := Lib.hid h2
        have HE1 := Lib.hid (HE.out.trans hE)
        obtain ⟨N, hN⟩ : ∃ N, Cv.length = N := ⟨_, rfl⟩
        rw [hN] at HR2 ⊢
        have hnn := HR2.out.nat_le
        have hc : N = 0 ∨ (0 < N ∧ 3 ≤ (N : Int)) := by
          rcases hle with h | h
          · rw [h] at hN; simp at hN; left; exact hN.symm
          · right; omega
        have HN := Lib.hid hN
        clear hcv hle h1 h2 hE CY HLC hN
        rcases hc with rfl | ⟨t1, t2⟩
        · go_wp2_with fail
          go_loopw [10] (fun i wr => i = .int .i64 0 ∧ wr = W1) (fun i _ => 0)
          case atStart => exact ⟨rfl, rfl⟩
          case round =>
            obtain ⟨rfl, rfl⟩ := hrel
            go_wp2_with fail
            refine (awake10 _).mono ?_
            rintro x w1 ⟨rfl, hE⟩
            have HE3 := Lib.hid (HE1.out.trans hE)
            clear hE
            go_wp2_with fail
            go_ret
            exact ⟨rfl, HE3.out⟩
        · go_wp2_with fail
          go_loopw [10] (fun i wr => ∃ q : Nat, q ≤ N ∧ i = .int .i64 q ∧ Ext W1 wr) (fun i _ => N - (intOf i).toNat)
          case atStart => exact ⟨0, Nat.zero_le _, rfl, Ext.refl _⟩
          case round =>
            obtain ⟨q, hq, rfl, hE⟩ := hrel
            by_cases hlt : q < N
            · obtain ⟨v, hv⟩ : ∃ v, Cv[q]? = some v := ⟨_, List.getElem?_eq_getElem (by rw [HN.out]; exact hlt)⟩
              have hvt : v.2 = true := HF.out v (List.mem_of_getElem? hv)
              have hRr := HR2.out.ext hE
              obtain ⟨b1, o1, ha1, -, -⟩ := hRr.at_ (by omega)
              subst ha1
              have f1 := flag_at hRr (j := q) (v := true) (by rw [List.getElem?_map, hv]; simp [hvt])
              have HEx := Lib.hid hE
              clear hv hvt hRr hE
              go_wp2_with fail
              go_roundw
              case rel => first | exact ⟨q + 1, by omega, by go_num, HEx.out⟩ | ((repeat apply Exists.intro); exact ⟨⟨q + 1, by omega, by go_num, HEx.out⟩, rfl⟩)
              case measure => simp [intOf]; omega
            · have hqN : q = N := by omega
              subst hqN
              have HE2 := Lib.hid (HE1.out.trans hE)
              clear hE
              go_wp2_with fail
              refine (awake10 _).mono ?_
              rintro x w1 ⟨rfl, hE⟩
              have HE3 := Lib.hid (HE2.out.trans hE)
              clear hE
              go_wp2_with fail
              go_ret
              exact ⟨rfl, HE3.out⟩
      · have CN := Lib.hid (carve_no l (List.replicate j true) s A (some ⟨x1.w.heap.size, 0, none⟩) C j j k ca j cc wr (HA.out.ext HE.out) HL.out (List.length_replicate ..) (HC.out.ext HE.out) HS.out hm)
        clear hm
        go_wp2_with fail
        refine CN.out.mono ?_
        rintro x W1 ⟨rfl, hE⟩
        have HE1 := Lib.hid (HE.out.trans hE)
        clear hE CN
        go_wp2_with fail
        go_loopw [10] (fun i wr => i = .int .i64 0 ∧ wr = W1) (fun i _ => 0)
        case atStart => exact ⟨rfl, rfl⟩
        case round =>
          obtain ⟨rfl, rfl⟩ := hrel
          go_wp2_with fail
          refine (awake10 _).mono ?_
          rintro x w1 ⟨rfl, hE⟩
          have HE3 := Lib.hid (HE1.out.trans hE)
          clear hE
          go_wp2_with fail
          go_ret
          exact ⟨rfl, HE3.out⟩
theorem flags_any (l : List Vx) (s : List Sd) (A C : Option Addr) (n k ca cc : Nat) (w : World) (hA : Rd w 8 A n ca (vrows l)) (hl : l.length = n) (hC : Rd w 5 C k cc (srow s)) (hs : s.length = k) :
    Calls Try.prog 12 #[.slice A n ca, .slice C k cc] w fun x w' => x = .returned (.bool true) ∧ Ext w w' := by
  by_cases h1 : n ≤ 40 ∧ k ≤ 12
  · exact flags_in l s A C n k ca cc w hA hl hC hs h1
  · exact flags_out l s A C n k ca cc w hA hl hC hs h1
end Go.Proofs.Ytmpkimcegckloaa
