/- Proof text of the claims about the statements of layer 4 (code). By an AI agent. No condition beyond what each theorem states. -/
import Derived.Test.YtaklnijmcidpkaaDoorF
import Derived.Test.YtaklnijmcidpkaaDoorE
import Derived.Deep.RegionHeld3
set_option linter.unusedVariables false
set_option linter.unusedSimpArgs false
namespace Go.Proofs.YtaklnijmcidpkaaDoor
open Go.RowKit
/-- A row of commands that is read. -/
def RdRecs (w : World) (a : Option Addr) (n cap : Nat) (l : List R) : Prop := ∃ vs, Rd w 2 a n cap vs ∧ RecCells (Rd w 1) vs l
theorem RdRecs.ext {w w' : World} {a : Option Addr} {n cap : Nat} {l : List R} (h : RdRecs w a n cap l) (e : Ext w w') : RdRecs w' a n cap l :=
  let ⟨vs, h1, h2⟩ := h
  ⟨vs, h1.ext e, h2.mono fun _ _ _ _ hx => hx.ext e⟩
theorem RdRecs.len {w : World} {a : Option Addr} {n cap : Nat} {l : List R} (h : RdRecs w a n cap l) : l.length = n := by
  obtain ⟨vs, h1, h2⟩ := h
  have := h1.len
  rw [h2.length] at this
  omega
theorem RdRecs.le63 {w : World} {a : Option Addr} {n cap : Nat} {l : List R} (h : RdRecs w a n cap l) : (n : Int) ≤ 9223372036854775807 := by
  obtain ⟨vs, h1, h2⟩ := h
  exact h1.nat_le
theorem RdRecs.at_ {w : World} {a : Option Addr} {n cap : Nat} {l : List R} (h : RdRecs w a n cap l) (k : Nat) (hk : k < n) : ∃ b off ak ck, a = some ⟨b, off, none⟩ ∧
    w.cell? ⟨b, off + k * 2, none⟩ = some (.int .i64 (l.getD k (0, [])).1) ∧ w.cell? ⟨b, off + k * 2 + 1, none⟩ = some (.slice ak (l.getD k (0, [])).2.length ck) ∧ Rd w 1 ak (l.getD k (0, [])).2.length ck (ivs (l.getD k (0, [])).2) := by
  have hl := h.len
  obtain ⟨vs, h1, h2⟩ := h
  obtain ⟨b, off, ha, hb, hc⟩ := h1.at_ (by omega)
  obtain ⟨g1, ak, ck, g2, g3⟩ := h2.get k (by omega)
  exact ⟨b, off, ak, ck, ha, (hc (k * 2) (by omega)).trans g1, (hc (k * 2 + 1) (by omega)).trans g2, g3⟩

set_option maxHeartbeats 2000000 in
theorem same_any (a1 a2 : Option Addr) (n1 n2 c1 c2 : Nat) (l1 l2 : List R) (w : World) (h1 : RdRecs w a1 n1 c1 l1) (h2 : RdRecs w a2 n2 c2 l2) :
    Calls Tryd.prog 11 #[.slice a1 n1 c1, .slice a2 n2 c2] w fun e w' => e = .returned (.bool (decide (l1 = l2))) ∧ Ext w w' := by
  have H1 := Lib.hid h1
  have H2 := Lib.hid h2
  have L1 := Lib.hid h1.len
  have L2 := Lib.hid h2.len
  have b1 := h1.le63
  have b2 := h2.le63
  clear h1 h2
  by_cases hn : n1 = n2
  · subst hn
    have hne : ((n1 : Int) != (n1 : Int)) = false := by simp
    go_enter Tryd.func11, Tryd.ntmps11
    go_wp2
    go_loopw [5] (fun i wr => ∃ k : Nat, k ≤ n1 ∧ i = .int .i64 k ∧ Ext w wr ∧ Hid (∀ j, j < k → l1.getD j (0, []) = l2.getD j (0, []))) (fun i _ => n1 - (intOf i).toNat)
    case atStart => exact ⟨0, Nat.zero_le _, rfl, Ext.refl _, fun j hj => by omega⟩
    case round =>
      obtain ⟨k, hk, rfl, hEr, hall⟩ := hrel
      by_cases hlt : k < n1
      · obtain ⟨p1, o1, s1, d1, rfl, x1, x2, x3⟩ := (H1.out.ext hEr).at_ k hlt
        obtain ⟨p2, o2, s2, d2, rfl, y1, y2, y3⟩ := (H2.out.ext hEr).at_ k hlt
        have hno : Hid (l1.getD k (0, []) ≠ l2.getD k (0, []) → decide (l1 = l2) = false) := fun hne => by simp; intro e; exact hne (by rw [e])
        have hall' : Hid (l1.getD k (0, []) = l2.getD k (0, []) → ∀ j, j < k + 1 → l1.getD j (0, []) = l2.getD j (0, [])) := fun he j hj => by
          by_cases hjk : j < k
          · exact hall.out j hjk
          · obtain rfl : j = k := by omega
            exact he
        have HE := Lib.hid hEr
        have X3 := Lib.hid x3
        have Y3 := Lib.hid y3
        clear hall x3 y3 hEr
        generalize l1.getD k (0, []) = r1 at x1 x2 X3 hno hall'
        generalize l2.getD k (0, []) = r2 at y1 y2 Y3 hno hall'
        obtain ⟨q1, A1⟩ := r1
        obtain ⟨q2, A2⟩ := r2
        simp only at x1 x2 X3 y1 y2 Y3
        have hkn : decide ((k : Int) < (n1 : Int)) = true := by simp; omega
        have hk1 : (k : Int) < (n1 : Int) := by omega
        have hk0 : (0 : Int) ≤ (k : Int) := by omega
        by_cases hq : q1 = q2
        · by_cases hA : A1.length = A2.length
          · have hd1 : (q1 != q2) = false := by simpa using hq
            have hd2 : ((A1.length : Int) != (A2.length : Int)) = false := by simp [hA]
            have hb1 := X3.out.nat_le
            have HA := Lib.hid hA
            have Hq := Lib.hid hq
            clear hA hq
            go_wp2
            go_quiet (fail)
            go_wp2
            have HEo := Lib.hid (HE.out.drewN nq)
            have X4 := Lib.hid (X3.out.ext ((Ext.refl _).drewN nq))
            have Y4 := Lib.hid (Y3.out.ext ((Ext.refl _).drewN nq))
            have x5 : (wr.drewN nq).cell? ⟨p1, o1 + k * 2 + 1, none⟩ = some (.slice s1 A1.length d1) := x2
            have y5 : (wr.drewN nq).cell? ⟨p2, o2 + k * 2 + 1, none⟩ = some (.slice s2 A2.length d2) := y2
            clear HE X3 Y3 x2 y2 x1 y1 hd1 hd2
            generalize wr.drewN nq = wo at HEo X4 Y4 x5 y5
            go_loopw [6] (fun i wr => ∃ m : Nat, m ≤ A1.length ∧ i = .int .i64 m ∧ Ext wo wr ∧ Hid (∀ j, j < m → A1.getD j 0 = A2.getD j 0)) (fun i _ => A1.length - (intOf i).toNat)
            case atStart => exact ⟨0, Nat.zero_le _, rfl, Ext.refl _, fun j hj => by omega⟩
            case round =>
              obtain ⟨m, hm, rfl, hEm, hal⟩ := hrel
              have x6 := hEm.cell_some x5
              have y6 := hEm.cell_some y5
              by_cases hml : m < A1.length
              · have hm2 : m < A2.length := by rw [← HA.out]; exact hml
                obtain ⟨e1, f1, rfl, _, z1⟩ := (X4.out.ext hEm).at_ (by omega)
                obtain ⟨e2, f2, rfl, _, z2⟩ := (Y4.out.ext hEm).at_ (by omega)
                have z3 := (z1 m (by omega)).trans (ivs_get A1 m hml)
                have z4 := (z2 m (by omega)).trans (ivs_get A2 m hm2)
                have hal' : Hid (A1.getD m 0 = A2.getD m 0 → ∀ j, j < m + 1 → A1.getD j 0 = A2.getD j 0) := fun he j hj => by
                  by_cases hjk : j < m
                  · exact hal.out j hjk
                  · obtain rfl : j = m := by omega
                    exact he
                have hno' : Hid (A1.getD m 0 ≠ A2.getD m 0 → decide (l1 = l2) = false) := fun hne => hno.out (by simp; intro _ e; exact hne (by rw [e]))
                have HEm := Lib.hid hEm
                clear z1 z2 hal hEm
                generalize A1.getD m 0 = v1 at z3 hal' hno'
                generalize A2.getD m 0 = v2 at z4 hal' hno'
                have hmi1 : (m : Int) < (A1.length : Int) := by omega
                have hmi2 : (m : Int) < (A2.length : Int) := by omega
                have hm0 : (0 : Int) ≤ (m : Int) := by omega
                by_cases hv : v1 = v2
                · have hd3 : (v1 != v2) = false := by simpa using hv
                  have hal3 := Lib.hid (hal'.out hv)
                  clear hv hal' hno'
                  go_wp2
                  go_quiet (fail)
                  go_wp2
                  go_roundw
                  case rel => exact ⟨m + 1, by omega, by go_num, HEm.out.drewN _, hal3⟩
                  case measure => simp [intOf]; omega
                · have hd3 : (v1 != v2) = true := by simpa using hv
                  have e0 := Lib.hid (hno'.out hv)
                  clear hv hal' hno'
                  go_wp2
                  go_quiet (fail)
                  go_wp2
                  go_ret
                  exact ⟨by rw [e0.out]; rfl, (HEo.out.trans HEm.out).drewN _⟩
              · have hme : m = A1.length := by omega
                have heq : A1 = A2 := List.ext_getElem? fun j => by
                  by_cases hj : j < A1.length
                  · have := hal.out j (by rw [hme]; exact hj)
                    have j2 : j < A2.length := by rw [← HA.out]; exact hj
                    simpa [hj, j2] using this
                  · rw [List.getElem?_eq_none (by omega), List.getElem?_eq_none (by rw [← HA.out]; omega)]
                have hal3 := Lib.hid (hall'.out (by rw [heq, Hq.out]))
                have HEm := Lib.hid hEm
                clear heq hme hal hEm
                go_wp2
                go_roundw
                case rel => exact ⟨k + 1, by omega, by go_num, HEo.out.trans HEm.out, hal3⟩
                case measure => simp [intOf]; omega
          · have hd1 : (q1 != q2) = false := by simpa using hq
            have hd2 : ((A1.length : Int) != (A2.length : Int)) = true := by simp; omega
            have e0 := Lib.hid (hno.out (by simp; intro _ e; exact hA (by rw [e])))
            clear hq hA
            go_wp2
            go_quiet (fail)
            go_wp2
            go_ret
            exact ⟨by rw [e0.out]; rfl, HE.out.drewN _⟩
        · have hd1 : (q1 != q2) = true := by simpa using hq
          have e0 := Lib.hid (hno.out (by simp; intro e; exact absurd e hq))
          clear hq
          go_wp2
          go_quiet (fail)
          go_wp2
          go_ret
          exact ⟨by rw [e0.out]; rfl, HE.out.drewN _⟩
      · go_wp2
        go_ret
        obtain rfl : k = n1 := by omega
        have e0 : l1 = l2 := List.ext_getElem? fun j => by
          by_cases hj : j < k
          · have := hall.out j hj
            have j1 : j < l1.length := by rw [L1.out]; exact hj
            have j2 : j < l2.length := by rw [L2.out]; exact hj
            simpa [j1, j2] using this
          · rw [List.getElem?_eq_none (by rw [L1.out]; omega), List.getElem?_eq_none (by rw [L2.out]; omega)]
        exact ⟨by simp [e0], hEr⟩
  · have hne : ((n1 : Int) != (n2 : Int)) = true := by simp; omega
    have e0 : decide (l1 = l2) = false := by simp; intro e; rw [e, L2.out] at L1; exact hn L1.out.symm
    rw [e0]
    go_enter Tryd.func11, Tryd.ntmps11
    go_wp2
    go_ret
    exact ⟨rfl, Ext.refl _⟩
end Go.Proofs.YtaklnijmcidpkaaDoor
