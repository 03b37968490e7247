/- Proof text: rows of vertices, of flags, of corners; which polygons may be (carve.may), whether two are the same. By an AI agent. No condition beyond what each theorem states. -/
import Derived.Test.YtibhfclkdbmmoaaSN0
import Derived.Test.YtibhfclkdbmmoaaWay
import Derived.Test.YtibhfclkdbmmoaaRoll
import Derived.Test.YtibhfclkdbmmoaaEq
set_option linter.unusedVariables false
set_option linter.unusedSimpArgs false
namespace Go.Proofs.Ytibhfclkdbmmoaa
open Go.RowKit
theorem frow_len {α : Type} {f : α → List Value} {K : Nat} (hK : ∀ s, (f s).length = K) (l : List α) : (l.flatMap f).length = l.length * K := by
  induction l with
  | nil => simp
  | cons s l ih => rw [List.flatMap_cons, List.length_append, ih, hK, List.length_cons, Nat.succ_mul, Nat.add_comm]
theorem frow_get {α : Type} {f : α → List Value} {K : Nat} (hK : ∀ s, (f s).length = K) {l : List α} {j : Nat} {s : α} (h : l[j]? = some s) (i : Nat) (hi : i < K) : (l.flatMap f)[j * K + i]? = (f s)[i]? := by
  induction l generalizing j with
  | nil => simp at h
  | cons t l ih =>
    rw [List.flatMap_cons]
    cases j with
    | zero =>
      obtain rfl : t = s := by simpa using h
      rw [Nat.zero_mul, Nat.zero_add, List.getElem?_append_left (by rw [hK]; exact hi)]
    | succ j =>
      rw [List.getElem?_append_right (by rw [hK, Nat.succ_mul]; omega), show (j + 1) * K + i - (f t).length = j * K + i by rw [hK, Nat.succ_mul]; omega]
      exact ih (by simpa using h)
theorem frow_one {α : Type} {f : α → List Value} (h1 : ∀ s, ∀ u ∈ f s, u.oneCell' = true) (l : List α) : ∀ u ∈ l.flatMap f, u.oneCell' = true := by
  intro u hu
  obtain ⟨s, _, hs⟩ := List.mem_flatMap.1 hu
  exact h1 s u hs
/-- The cells of vertices, of flags, of corners. -/
@[reducible] def Vx.rl (v : Vx) : List Value := [.int .i64 v.x, .int .i64 v.y, .int .i64 v.z, .int .i64 v.w, .int .i64 v.c0, .int .i64 v.c1, .int .i64 v.c2, .int .i64 v.c3]
def vrows (l : List Vx) : List Value := l.flatMap Vx.rl
def brows (l : List Bool) : List Value := l.flatMap fun b => [.bool b]
structure Cn where
  v : Vx
  i : Int
  on : Bool
@[reducible] def Cn.rl (c : Cn) : List Value := [.int .i64 c.v.x, .int .i64 c.v.y, .int .i64 c.v.z, .int .i64 c.v.w, .int .i64 c.v.c0, .int .i64 c.v.c1, .int .i64 c.v.c2, .int .i64 c.v.c3, .int .i64 c.i, .bool c.on]
@[reducible] def Cn.row (c : Cn) : Array Value := #[.int .i64 c.v.x, .int .i64 c.v.y, .int .i64 c.v.z, .int .i64 c.v.w, .int .i64 c.v.c0, .int .i64 c.v.c1, .int .i64 c.v.c2, .int .i64 c.v.c3, .int .i64 c.i, .bool c.on]
@[reducible] def Cn.val (c : Cn) : Value := .agg #[.int .i64 c.v.x, .int .i64 c.v.y, .int .i64 c.v.z, .int .i64 c.v.w, .int .i64 c.v.c0, .int .i64 c.v.c1, .int .i64 c.v.c2, .int .i64 c.v.c3, .int .i64 c.i, .bool c.on]
def crows (l : List Cn) : List Value := l.flatMap Cn.rl
theorem vrows_len (l : List Vx) : (vrows l).length = l.length * 8 := frow_len (f := Vx.rl) (K := 8) (fun _ => rfl) l
theorem brows_len (l : List Bool) : (brows l).length = l.length := by rw [brows, frow_len (K := 1) (fun _ => rfl) l, Nat.mul_one]
theorem crows_len (l : List Cn) : (crows l).length = l.length * 10 := frow_len (f := Cn.rl) (K := 10) (fun _ => rfl) l
theorem vrows_get {l : List Vx} {j : Nat} {v : Vx} (h : l[j]? = some v) (i : Nat) (hi : i < 8) : (vrows l)[j * 8 + i]? = v.rl[i]? := frow_get (f := Vx.rl) (K := 8) (fun _ => rfl) h i hi
theorem brows_get {l : List Bool} {j : Nat} {v : Bool} (h : l[j]? = some v) : (brows l)[j]? = some (.bool v) := by
  have := frow_get (f := fun b => [Value.bool b]) (K := 1) (fun _ => rfl) h 0 (by omega)
  rwa [Nat.mul_one, Nat.add_zero] at this
theorem crows_get {l : List Cn} {j : Nat} {v : Cn} (h : l[j]? = some v) (i : Nat) (hi : i < 10) : (crows l)[j * 10 + i]? = v.rl[i]? := frow_get (f := Cn.rl) (K := 10) (fun _ => rfl) h i hi
theorem vrows_one (l : List Vx) : ∀ u ∈ vrows l, u.oneCell' = true := frow_one (fun s u hu => by simp at hu; rcases hu with rfl | rfl | rfl | rfl | rfl | rfl | rfl | rfl <;> rfl) l
theorem brows_one (l : List Bool) : ∀ u ∈ brows l, u.oneCell' = true := frow_one (fun s u hu => by simp at hu; subst hu; rfl) l
theorem crows_one (l : List Cn) : ∀ u ∈ crows l, u.oneCell' = true := frow_one (fun s u hu => by simp at hu; rcases hu with rfl | rfl | rfl | rfl | rfl | rfl | rfl | rfl | rfl | rfl <;> rfl) l
theorem vrows_append (l m : List Vx) : vrows (l ++ m) = vrows l ++ vrows m := by simp [vrows]
theorem brows_append (l m : List Bool) : brows (l ++ m) = brows l ++ brows m := by simp [brows]
theorem crows_append (l m : List Cn) : crows (l ++ m) = crows l ++ crows m := by simp [crows]
theorem vert_at {w : World} {b off n cap j : Nat} {l : List Vx} {v : Vx} (h : Rd w 8 (some ⟨b, off, none⟩) n cap (vrows l)) (hs : l[j]? = some v) :
    w.cell? ⟨b, off + j * 8, none⟩ = some (.int .i64 v.x) ∧ w.cell? ⟨b, off + j * 8 + 1, none⟩ = some (.int .i64 v.y) ∧ w.cell? ⟨b, off + j * 8 + 2, none⟩ = some (.int .i64 v.z) ∧ w.cell? ⟨b, off + j * 8 + 3, none⟩ = some (.int .i64 v.w) ∧
    w.cell? ⟨b, off + j * 8 + 4, none⟩ = some (.int .i64 v.c0) ∧ w.cell? ⟨b, off + j * 8 + 5, none⟩ = some (.int .i64 v.c1) ∧ w.cell? ⟨b, off + j * 8 + 6, none⟩ = some (.int .i64 v.c2) ∧ w.cell? ⟨b, off + j * 8 + 7, none⟩ = some (.int .i64 v.c3) :=
  ⟨h.get rfl ((vrows_get hs 0 (by omega)).trans rfl), h.get rfl ((vrows_get hs 1 (by omega)).trans rfl), h.get rfl ((vrows_get hs 2 (by omega)).trans rfl), h.get rfl ((vrows_get hs 3 (by omega)).trans rfl),
   h.get rfl ((vrows_get hs 4 (by omega)).trans rfl), h.get rfl ((vrows_get hs 5 (by omega)).trans rfl), h.get rfl ((vrows_get hs 6 (by omega)).trans rfl), h.get rfl ((vrows_get hs 7 (by omega)).trans rfl)⟩
theorem flag_at {w : World} {b off n cap j : Nat} {l : List Bool} {v : Bool} (h : Rd w 1 (some ⟨b, off, none⟩) n cap (brows l)) (hs : l[j]? = some v) : w.cell? ⟨b, off + j, none⟩ = some (.bool v) :=
  h.get rfl (brows_get hs)
theorem corner_at {w : World} {b off n cap j : Nat} {l : List Cn} {c : Cn} (h : Rd w 10 (some ⟨b, off, none⟩) n cap (crows l)) (hs : l[j]? = some c) :
    w.cell? ⟨b, off + j * 10, none⟩ = some (.int .i64 c.v.x) ∧ w.cell? ⟨b, off + j * 10 + 1, none⟩ = some (.int .i64 c.v.y) ∧ w.cell? ⟨b, off + j * 10 + 2, none⟩ = some (.int .i64 c.v.z) ∧ w.cell? ⟨b, off + j * 10 + 3, none⟩ = some (.int .i64 c.v.w) ∧
    w.cell? ⟨b, off + j * 10 + 4, none⟩ = some (.int .i64 c.v.c0) ∧ w.cell? ⟨b, off + j * 10 + 5, none⟩ = some (.int .i64 c.v.c1) ∧ w.cell? ⟨b, off + j * 10 + 6, none⟩ = some (.int .i64 c.v.c2) ∧ w.cell? ⟨b, off + j * 10 + 7, none⟩ = some (.int .i64 c.v.c3) ∧
    w.cell? ⟨b, off + j * 10 + 8, none⟩ = some (.int .i64 c.i) ∧ w.cell? ⟨b, off + j * 10 + 9, none⟩ = some (.bool c.on) :=
  ⟨h.get rfl ((crows_get hs 0 (by omega)).trans rfl), h.get rfl ((crows_get hs 1 (by omega)).trans rfl), h.get rfl ((crows_get hs 2 (by omega)).trans rfl), h.get rfl ((crows_get hs 3 (by omega)).trans rfl),
   h.get rfl ((crows_get hs 4 (by omega)).trans rfl), h.get rfl ((crows_get hs 5 (by omega)).trans rfl), h.get rfl ((crows_get hs 6 (by omega)).trans rfl), h.get rfl ((crows_get hs 7 (by omega)).trans rfl),
   h.get rfl ((crows_get hs 8 (by omega)).trans rfl), h.get rfl ((crows_get hs 9 (by omega)).trans rfl)⟩
theorem all_of_upto {α : Type} {l : List α} {n : Nat} {p : α → Prop} (hl : l.length = n) (h : ∀ k, k < n → ∀ s, l[k]? = some s → p s) : ∀ s ∈ l, p s := by
  intro s hs
  obtain ⟨k, hk, he⟩ := List.mem_iff_getElem.1 hs
  exact h k (hl ▸ hk) s (by rw [List.getElem?_eq_getElem hk, he])
theorem upto9 {α : Type} {l : List α} {j : Nat} {s : α} {p : α → Prop} (h : ∀ k, k < j → ∀ s, l[k]? = some s → p s) (hs : l[j]? = some s) (hp : p s) : ∀ k, k < j + 1 → ∀ s, l[k]? = some s → p s := by
  intro k hk t ht
  by_cases h1 : k < j
  · exact h k h1 t ht
  · obtain rfl : k = j := by omega
    rw [hs] at ht; injection ht with ht; exact ht ▸ hp
/-- Which polygons may be carved. -/
def MayC (l : List Vx) (e : List Bool) (s : List Sd) : Prop := 3 ≤ l.length ∧ l.length ≤ 256 ∧ e.length = l.length ∧ s.length ≤ 9 ∧ (∀ v ∈ l, v.Fit) ∧ ∀ d ∈ s, d.Ok
set_option maxHeartbeats 2000000 in
theorem cmay_any (l : List Vx) (e : List Bool) (s : List Sd) (A B C : Option Addr) (n m k ca cb cc : Nat) (w : World) (hA : Rd w 8 A n ca (vrows l)) (hl : l.length = n) (he : e.length = m) (hC : Rd w 5 C k cc (srow s)) (hs : s.length = k) :
    Calls Try.prog 33 #[.slice A n ca, .slice B m cb, .slice C k cc] w fun x w' => ∃ r : Bool, x = .returned (.bool r) ∧ (r = true ↔ MayC l e s) ∧ Ext w w' := by
  have HR := Lib.hid hA; clear hA
  have HRC := Lib.hid hC; clear hC
  have HL := Lib.hid hl
  have HLE := Lib.hid he
  have HLS := Lib.hid hs
  by_cases hin : 3 ≤ n ∧ n ≤ 256 ∧ m = n ∧ k ≤ 9
  · obtain ⟨h1, h2, rfl, h4⟩ := hin
    have HIN : Hid (3 ≤ m ∧ m ≤ 256 ∧ k ≤ 9) := Lib.hid ⟨h1, h2, h4⟩
    have d1 : decide ((m : Int) < 3) = false := by simp; omega
    have d2 : decide ((m : Int) > 256) = false := by simp; omega
    have d4 : decide ((k : Int) > 9) = false := by simp; omega
    have hm : (m : Int) ≤ 256 := by omega
    have hk : (k : Int) ≤ 9 := by omega
    clear h1 h2 h4 hl he hs
    go_enter Try.func33, Try.ntmps33
    go_wp2_with fail
    clear d1 d2 d4
    go_loopw [8, 33] (fun _ i wr => ∃ j : Nat, j ≤ m ∧ i = .int .i64 j ∧ Hid (∀ k, k < j → ∀ s, l[k]? = some s → s.Fit) ∧ Ext w wr) (fun _ i _ => m - (intOf i).toNat)
    case atStart => exact ⟨0, Nat.zero_le _, rfl, Lib.hid (fun k hk => by omega), Ext.refl _⟩
    case round =>
      obtain ⟨j, hj, rfl, HJ, hE⟩ := hrel
      by_cases hlt : j < m
      · obtain ⟨v, hv⟩ : ∃ v, l[j]? = some v := ⟨_, List.getElem?_eq_getElem (by rw [HL.out]; exact hlt)⟩
        have hRr := HR.out.ext hE
        obtain ⟨b, off, ha, hb, hcell⟩ := hRr.at_ (by omega)
        subst ha
        obtain ⟨c0, c1, c2, c3, c4, c5, c6, c7⟩ := vert_at hRr hv
        have HV := Lib.hid hv
        have HE := Lib.hid hE; clear hE
        clear hRr hcell hv
        by_cases hok : v.Fit
        · have HK := Lib.hid hok; clear hok
          go_wp2_with fail
          refine (fits_yes v _ HK.out).mono ?_
          rintro x w1 ⟨rfl, hE1⟩
          obtain ⟨x1, rfl⟩ := Later.mk' hE1
          clear hE1
          have HE2 := Lib.hid ((HE.out.alloc (.cells v.row 25)).later x1)
          clear c0 c1 c2 c3 c4 c5 c6 c7
          go_wp2_with fail
          go_roundw
          case rel => first | exact ⟨j + 1, by omega, by go_num, Lib.hid (upto9 HJ.out HV.out HK.out), HE2.out⟩ | ((repeat apply Exists.intro); exact ⟨⟨j + 1, by omega, by go_num, Lib.hid (upto9 HJ.out HV.out HK.out), HE2.out⟩, rfl⟩)
          case measure => simp [intOf]; omega
        · have HK := Lib.hid hok; clear hok
          go_wp2_with fail
          refine (fits_no v _ HK.out).mono ?_
          rintro x w1 ⟨rfl, hE1⟩
          obtain ⟨x1, rfl⟩ := Later.mk' hE1
          clear hE1
          have HE2 := Lib.hid ((HE.out.alloc (.cells v.row 25)).later x1)
          clear c0 c1 c2 c3 c4 c5 c6 c7
          go_wp2_with fail
          go_ret
          exact ⟨false, rfl, ⟨fun h => (by cases h), fun h => absurd (h.2.2.2.2.1 v (List.mem_of_getElem? HV.out)) HK.out⟩, HE2.out⟩
      · obtain rfl : j = m := by omega
        have HF := Lib.hid (all_of_upto HL.out HJ.out); clear HJ
        have HE := Lib.hid hE; clear hE
        clear hj hlt
        go_wp2_with fail
        go_loopw [10, 43] (fun _ i wr => ∃ q : Nat, q ≤ k ∧ i = .int .i64 q ∧ Hid (∀ k, k < q → ∀ s', s[k]? = some s' → s'.Ok) ∧ Ext w wr) (fun _ i _ => k - (intOf i).toNat)
        case atStart => exact ⟨0, Nat.zero_le _, rfl, Lib.hid (fun k hk => by omega), HE.out⟩
        case round =>
          clear HE
          obtain ⟨q, hj, rfl, HJ, hE⟩ := hrel
          by_cases hlt : q < k
          · obtain ⟨v, hv⟩ : ∃ v, s[q]? = some v := ⟨_, List.getElem?_eq_getElem (by rw [HLS.out]; exact hlt)⟩
            have hRr := HRC.out.ext hE
            obtain ⟨b, off, ha, hb, hcell⟩ := hRr.at_ (by omega)
            subst ha
            obtain ⟨c0, c1, c2, c3, c4⟩ := side_at hRr hv
            have HV := Lib.hid hv
            have HE := Lib.hid hE; clear hE
            clear hRr hcell hv
            by_cases hok : v.Ok
            · have HK := Lib.hid hok; clear hok
              go_wp2_with fail
              refine (right_yes v _ HK.out).mono ?_
              rintro x w1 ⟨rfl, hE1⟩
              obtain ⟨x1, rfl⟩ := Later.mk' hE1
              clear hE1
              have HE2 := Lib.hid ((HE.out.alloc (.cells v.row.toArray 45)).later x1)
              clear c0 c1 c2 c3 c4
              go_wp2_with fail
              go_roundw
              case rel => first | exact ⟨q + 1, by omega, by go_num, Lib.hid (upto9 HJ.out HV.out HK.out), HE2.out⟩ | ((repeat apply Exists.intro); exact ⟨⟨q + 1, by omega, by go_num, Lib.hid (upto9 HJ.out HV.out HK.out), HE2.out⟩, rfl⟩)
              case measure => simp [intOf]; omega
            · have HK := Lib.hid hok; clear hok
              go_wp2_with fail
              refine (right_no v _ HK.out).mono ?_
              rintro x w1 ⟨rfl, hE1⟩
              obtain ⟨x1, rfl⟩ := Later.mk' hE1
              clear hE1
              have HE2 := Lib.hid ((HE.out.alloc (.cells v.row.toArray 45)).later x1)
              clear c0 c1 c2 c3 c4
              go_wp2_with fail
              go_ret
              exact ⟨false, rfl, ⟨fun h => (by cases h), fun h => absurd (h.2.2.2.2.2 v (List.mem_of_getElem? HV.out)) HK.out⟩, HE2.out⟩
          · obtain rfl : q = k := by omega
            have HF2 := Lib.hid (all_of_upto HLS.out HJ.out); clear HJ
            have HE := Lib.hid hE; clear hE
            go_wp2_with fail
            go_ret
            exact ⟨true, rfl, ⟨fun _ => ⟨by rw [HL.out]; exact HIN.out.1, by rw [HL.out]; exact HIN.out.2.1, by rw [HL.out, HLE.out], by rw [HLS.out]; exact HIN.out.2.2, HF.out, HF2.out⟩, fun _ => rfl⟩, HE.out⟩
  · have HN : Hid (¬ MayC l e s) := Lib.hid (fun h => hin ⟨by have := h.1; omega, by have := h.2.1; omega, by have := h.2.2.1; omega, by have := h.2.2.2.1; omega⟩)
    have hc : decide ((n : Int) < 3) = true ∨ (decide ((n : Int) < 3) = false ∧ decide ((n : Int) > 256) = true) ∨ (decide ((n : Int) < 3) = false ∧ decide ((n : Int) > 256) = false ∧ ((m : Int) != (n : Int)) = true) ∨
        (decide ((n : Int) < 3) = false ∧ decide ((n : Int) > 256) = false ∧ ((m : Int) != (n : Int)) = false ∧ decide ((k : Int) > 9) = true) := by
      simp
      omega
    clear hin hl he hs
    rcases hc with d1 | ⟨d1, d2⟩ | ⟨d1, d2, d3⟩ | ⟨d1, d2, d3, d4⟩
    all_goals
      go_enter Try.func33, Try.ntmps33
      go_wp2_with fail
      go_ret
      exact ⟨false, rfl, ⟨fun h => (by cases h), fun h => absurd h HN.out⟩, Ext.refl _⟩
theorem list_same {α : Type} {l m : List α} {n : Nat} (hl : l.length = n) (hm : m.length = n) (h : ∀ k, k < n → l[k]? = m[k]?) : l = m := by
  apply List.ext_getElem?
  intro k
  by_cases hk : k < n
  · exact h k hk
  · rw [List.getElem?_eq_none (by omega), List.getElem?_eq_none (by omega)]
set_option maxHeartbeats 2000000 in
theorem same_any (la lb : List Vx) (le lf : List Bool) (A B E F : Option Addr) (n m k p ca cb ce cf : Nat) (w : World) (hA : Rd w 8 A n ca (vrows la)) (hB : Rd w 8 B m cb (vrows lb)) (hE : Rd w 1 E k ce (brows le)) (hF : Rd w 1 F p cf (brows lf))
    (ha : la.length = n) (hb : lb.length = m) (he : le.length = k) (hf : lf.length = p) :
    Calls Try.prog 18 #[.slice A n ca, .slice B m cb, .slice E k ce, .slice F p cf] w fun x w' => ∃ r : Bool, x = .returned (.bool r) ∧ (r = true ↔ (la = lb ∧ le = lf ∧ la.length = le.length)) ∧ Ext w w' := by
  have hn := hA.nat_le
  have HA := Lib.hid hA; clear hA
  have HB := Lib.hid hB; clear hB
  have HE0 := Lib.hid hE; clear hE
  have HF := Lib.hid hF; clear hF
  by_cases hin : n = m ∧ k = p ∧ n = k
  · obtain ⟨rfl, rfl, rfl⟩ := hin
    have LA := Lib.hid ha; have LB := Lib.hid hb; have LE := Lib.hid he; have LF := Lib.hid hf
    clear ha hb he hf
    go_enter Try.func18, Try.ntmps18
    go_wp2_with fail
    go_loopw [9] (fun i wr => ∃ j : Nat, j ≤ n ∧ i = .int .i64 j ∧ Hid (∀ k, k < j → la[k]? = lb[k]? ∧ le[k]? = lf[k]?) ∧ Ext w wr) (fun i _ => n - (intOf i).toNat)
    case atStart => exact ⟨0, Nat.zero_le _, rfl, Lib.hid (fun k hk => by omega), Ext.refl _⟩
    case round =>
      obtain ⟨j, hj, rfl, HJ, hE⟩ := hrel
      by_cases hlt : j < n
      · obtain ⟨v, hv⟩ : ∃ v, la[j]? = some v := ⟨_, List.getElem?_eq_getElem (by rw [LA.out]; exact hlt)⟩
        obtain ⟨u, hu⟩ : ∃ u, lb[j]? = some u := ⟨_, List.getElem?_eq_getElem (by rw [LB.out]; exact hlt)⟩
        obtain ⟨x, hx⟩ : ∃ x, le[j]? = some x := ⟨_, List.getElem?_eq_getElem (by rw [LE.out]; exact hlt)⟩
        obtain ⟨y, hy⟩ : ∃ y, lf[j]? = some y := ⟨_, List.getElem?_eq_getElem (by rw [LF.out]; exact hlt)⟩
        obtain ⟨b1, o1, ha1, _, _⟩ := HA.out.at_ (by omega)
        obtain ⟨b2, o2, ha2, _, _⟩ := HB.out.at_ (by omega)
        obtain ⟨b3, o3, ha3, _, _⟩ := HE0.out.at_ (by omega)
        obtain ⟨b4, o4, ha4, _, _⟩ := HF.out.at_ (by omega)
        subst ha1; subst ha2; subst ha3; subst ha4
        obtain ⟨c0, c1, c2, c3, c4, c5, c6, c7⟩ := vert_at (HA.out.ext hE) hv
        obtain ⟨e0, e1, e2, e3, e4, e5, e6, e7⟩ := vert_at (HB.out.ext hE) hu
        have f1 := flag_at (HE0.out.ext hE) hx
        have f2 := flag_at (HF.out.ext hE) hy
        have HX : Hid (la[j]? = some v ∧ lb[j]? = some u ∧ le[j]? = some x ∧ lf[j]? = some y) := Lib.hid ⟨hv, hu, hx, hy⟩
        have HEr := Lib.hid hE; clear hE
        clear hv hu hx hy
        by_cases hg : v = u ∧ x = y
        · obtain ⟨rfl, rfl⟩ := hg
          have q1 := fun W => eq_vx v v W
          rw [Vx.same_refl] at q1
          have db : (x != x) = false := by simp
          go_upto_region 6 with fail
          refine wp_region_later (by kernel_rfl) (by kernel_rfl) ?_
          repeat (go_big_quiet_step (fail))
          refine wpQuiet_nil ?_
          intro z
          have HE2 := Lib.hid (HEr.out.later z)
          clear c0 c1 c2 c3 c4 c5 c6 c7 e0 e1 e2 e3 e4 e5 e6 e7 f1 f2
          have HJ2 : Hid (∀ k, k < j + 1 → la[k]? = lb[k]? ∧ le[k]? = lf[k]?) := Lib.hid (fun k hk => by
            by_cases h1 : k < j
            · exact HJ.out k h1
            · obtain rfl : k = j := by omega
              obtain ⟨h1, h2, h3, h4⟩ := HX.out
              rw [h1, h2, h3, h4]; exact ⟨rfl, rfl⟩)
          go_wp2_with fail
          go_roundw
          case rel => first | exact ⟨j + 1, by omega, by go_num, HJ2, HE2.out⟩ | ((repeat apply Exists.intro); exact ⟨⟨j + 1, by omega, by go_num, HJ2, HE2.out⟩, rfl⟩)
          case measure => simp [intOf]; omega
        · have HN : Hid (¬ (la = lb ∧ le = lf ∧ la.length = le.length)) := Lib.hid (fun h => hg (by
            obtain ⟨h1, h2, h3, h4⟩ := HX.out
            obtain ⟨rfl, rfl, _⟩ := h
            rw [h1] at h2; rw [h3] at h4
            injection h2 with h2; injection h4 with h4
            exact ⟨h2, h4⟩))
          have hc : (v ≠ u) ∨ (v = u ∧ (x != y) = true) := by
            by_cases hvu : v = u
            · exact .inr ⟨hvu, by simp; exact fun h => hg ⟨hvu, h⟩⟩
            · exact .inl hvu
          clear hg
          have hc : (∀ W, (Op.equalIn 10000 25 v.v u.v).run Try.prog W = .ok false W) ∨ ((∀ W, (Op.equalIn 10000 25 v.v u.v).run Try.prog W = .ok true W) ∧ (x != y) = true) := by
            rcases hc with h | ⟨h, h2⟩
            · exact .inl fun W => by rw [eq_vx, Vx.same_not h]
            · exact .inr ⟨fun W => by rw [eq_vx, h, Vx.same_refl], h2⟩
          have hc : (∀ W, (Op.equalIn 10000 25 v.v u.v).run Try.prog W = .ok false W) ∨ ((∀ W, (Op.equalIn 10000 25 v.v u.v).run Try.prog W = .ok true W) ∧ (!(x == y)) = true) := hc
          rcases hc with q1 | ⟨q1, db⟩
          all_goals
            go_upto_region 6 with fail
            refine wp_region_later (by kernel_rfl) (by kernel_rfl) ?_
            repeat (go_big_quiet_step (fail))
            refine wpQuiet_nil ?_
            intro z
            have HE2 := Lib.hid (HEr.out.later z)
            clear c0 c1 c2 c3 c4 c5 c6 c7 e0 e1 e2 e3 e4 e5 e6 e7 f1 f2
            go_wp2_with fail
            go_ret
            exact ⟨false, rfl, ⟨fun h => (by cases h), fun h => absurd h HN.out⟩, HE2.out⟩
      · obtain rfl : j = n := by omega
        have HY : Hid (la = lb ∧ le = lf ∧ la.length = le.length) := Lib.hid ⟨list_same LA.out LB.out (fun k hk => (HJ.out k hk).1), list_same LE.out LF.out (fun k hk => (HJ.out k hk).2), by rw [LA.out, LE.out]⟩
        have HEr := Lib.hid hE; clear hE
        go_wp2_with fail
        go_ret
        exact ⟨true, rfl, ⟨fun _ => HY.out, fun _ => rfl⟩, HEr.out⟩
  · have HN : Hid (¬ (la = lb ∧ le = lf ∧ la.length = le.length)) := Lib.hid (fun h => hin (by
      obtain ⟨rfl, rfl, h⟩ := h
      omega))
    have hc : ((n : Int) != (m : Int)) = true ∨ (((n : Int) != (m : Int)) = false ∧ ((k : Int) != (p : Int)) = true) ∨ (((n : Int) != (m : Int)) = false ∧ ((k : Int) != (p : Int)) = false ∧ ((n : Int) != (k : Int)) = true) := by
      simp
      omega
    clear hin
    rcases hc with d1 | ⟨d1, d2⟩ | ⟨d1, d2, d3⟩
    all_goals
      go_enter Try.func18, Try.ntmps18
      go_wp2_with fail
      go_ret
      exact ⟨false, rfl, ⟨fun h => (by cases h), fun h => absurd h HN.out⟩, Ext.refl _⟩
theorem small_yes (A B C : Option Addr) (n m k ca cb cc : Nat) (w : World) (h1 : n ≤ 40) (h2 : m ≤ 40) (h3 : k ≤ 12) :
    Calls Try.prog 14 #[.slice A n ca, .slice B m cb, .slice C k cc] w fun x w' => x = .returned (.bool true) ∧ Ext w w' := by
  have d1 : decide ((n : Int) ≤ 40) = true := by simp; omega
  have d2 : decide ((m : Int) ≤ 40) = true := by simp; omega
  have d3 : decide ((k : Int) ≤ 12) = true := by simp; omega
  clear h1 h2 h3
  go_enter Try.func14, Try.ntmps14
  go_wp2_with fail
  go_ret
  exact ⟨rfl, Ext.refl _⟩
theorem small_no (A B C : Option Addr) (n m k ca cb cc : Nat) (w : World) (h : ¬ (n ≤ 40 ∧ m ≤ 40 ∧ k ≤ 12)) :
    Calls Try.prog 14 #[.slice A n ca, .slice B m cb, .slice C k cc] w fun x w' => x = .returned (.bool false) ∧ Ext w w' := by
  have hc : decide ((n : Int) ≤ 40) = false ∨ (decide ((n : Int) ≤ 40) = true ∧ decide ((m : Int) ≤ 40) = false) ∨ (decide ((n : Int) ≤ 40) = true ∧ decide ((m : Int) ≤ 40) = true ∧ decide ((k : Int) ≤ 12) = false) := by
    simp
    omega
  clear h
  rcases hc with d1 | ⟨d1, d2⟩ | ⟨d1, d2, d3⟩
  all_goals
    go_enter Try.func14, Try.ntmps14
    go_wp2_with fail
    go_ret
    exact ⟨rfl, Ext.refl _⟩
end Go.Proofs.Ytibhfclkdbmmoaa
