/- Proof text: what sides leave of a polygon (carve.Carve), and layer 10's example. By an AI agent. No condition beyond what each theorem states. -/
import Derived.Test.YtibhfclkdbmmoaaCC
import Derived.Test.YtibhfclkdbmmoaaSM
set_option linter.unusedVariables false
set_option linter.unusedSimpArgs false
namespace Go.Proofs.Ytibhfclkdbmmoaa
open Go.RowKit
theorem cut_any (w0 w : World) (L : List Cn) (v : Value) (s : Sd) (h0 : Ext w0 w) (ho : w.ownsRow w0.heap.size 88 10 v L.length (crows L)) (hn : L.length ≤ 131072) (hs : s.Ok) (hf : ∀ c ∈ L, c.v.Fit) :
    Calls Try.prog 35 #[v, s.v] w (CutPost w0 (L.map Cn.pl) s) := by
  by_cases hz : L = []
  · subst hz
    obtain ⟨a, c, rfl, _⟩ := ownsRow_rd ho
    exact cut_none w0 w s a c h0
  · have hpos : 0 < L.length := List.length_pos_iff.2 hz
    rcases ho.2 with ⟨_, h⟩ | ⟨g, cap, cur, rfl, _⟩
    · omega
    · exact cut_some w0 w L g L.length cap s h0 ho rfl hpos hn hs hf
theorem cutAll_take {σ α : Type} {f : σ → α → α → List α} {s : List σ} {l : List α} {k : Nat} {d : σ} (h : s[k]? = some d) : cutAll f (s.take (k + 1)) l = cutBy (f d) (cutAll f (s.take k) l) := by
  have hk := (List.getElem?_eq_some_iff.1 h).1
  rw [List.take_succ_eq_append_getElem hk, (List.getElem?_eq_some_iff.1 h).2]
  simp [cutAll]
theorem pl_fit {L : List Cn} {l : List (Vx × Bool)} (h : L.map Cn.pl = l) (hf : ∀ c ∈ l, c.1.Fit) : ∀ c ∈ L, c.v.Fit := fun c hc => hf c.pl (h ▸ List.mem_map.2 ⟨c, hc, rfl⟩)
theorem cns_pl {l : List Vx} {e : List Bool} : (cns l e).map Cn.pl = l.zip e := by
  simp [cns, Cn.pl, Function.comp_def]
theorem zip_fit {l : List Vx} {e : List Bool} (h : ∀ v ∈ l, v.Fit) : ∀ c ∈ l.zip e, c.1.Fit := fun c hc => h c.1 (List.of_mem_zip hc).1
/-- What sides leave of a polygon. -/
def carved (l : List Vx) (e : List Bool) (s : List Sd) : List (Vx × Bool) := cutAll cutF s (l.zip e)
def CarveYes (l : List Vx) (e : List Bool) (s : List Sd) (w : World) (x : Ending) (w' : World) : Prop :=
  ∃ a c b d, x = .returned (.tuple #[.slice a (carved l e s).length c, .slice b (carved l e s).length d, .int .i64 0]) ∧ Rd w' 8 a (carved l e s).length c (vrows ((carved l e s).map (·.1))) ∧ Rd w' 1 b (carved l e s).length d (brows ((carved l e s).map (·.2))) ∧ Ext w w'
theorem grow2 (k : Nat) (h : k < 9) : 2 * (256 * 2 ^ k) = 256 * 2 ^ (k + 1) ∧ 256 * 2 ^ k ≤ 65536 := by
  rcases (by omega : k = 0 ∨ k = 1 ∨ k = 2 ∨ k = 3 ∨ k = 4 ∨ k = 5 ∨ k = 6 ∨ k = 7 ∨ k = 8) with rfl | rfl | rfl | rfl | rfl | rfl | rfl | rfl | rfl <;> decide
theorem grow9 (k : Nat) (h : k ≤ 9) : 256 * 2 ^ k ≤ 131072 := by
  rcases (by omega : k = 0 ∨ k = 1 ∨ k = 2 ∨ k = 3 ∨ k = 4 ∨ k = 5 ∨ k = 6 ∨ k = 7 ∨ k = 8 ∨ k = 9) with rfl | rfl | rfl | rfl | rfl | rfl | rfl | rfl | rfl | rfl <;> decide
/-- What is held between two sides. -/
def Held (w : World) (l : List (Vx × Bool)) (s : List Sd) (j : Nat) (v : Value) (L : List Cn) (wr : World) : Prop :=
  wr.ownsRow w.heap.size 88 10 v L.length (crows L) ∧ L.map Cn.pl = cutAll cutF (s.take j) l ∧ (∀ c ∈ L, c.v.Fit) ∧ L.length ≤ 256 * 2 ^ j ∧ Ext w wr
theorem Held.next {w w' : World} {l : List (Vx × Bool)} {s : List Sd} {j : Nat} {v v' : Value} {L L' : List Cn} {wr : World} {d : Sd} (h : Held w l s j v L wr) (hd : s[j]? = some d) (hj : j < 9)
    (ho : w'.ownsRow w.heap.size 88 10 v' L'.length (crows L')) (hp : L'.map Cn.pl = cutBy (cutF d) (L.map Cn.pl)) (hE : Ext w w') : Held w l s (j + 1) v' L' w' := by
  obtain ⟨_, h1, h2, h3, _⟩ := h
  refine ⟨ho, ?_, ?_, ?_, hE⟩
  · rw [hp, h1, cutAll_take hd]
  · refine pl_fit hp (cutBy_fit ?_)
    intro c hc
    obtain ⟨c', h, rfl⟩ := List.mem_map.1 hc
    exact h2 c' h
  · have h4 := cutBy_len2 d (L.map Cn.pl)
    rw [← hp, List.length_map, List.length_map] at h4
    have := (grow2 j hj).1
    omega
set_option maxRecDepth 100000 in
set_option maxHeartbeats 1000000 in
theorem carve_yes (l : List Vx) (e : List Bool) (s : List Sd) (A B C : Option Addr) (n m k ca cb cc : Nat) (w : World) (hA : Rd w 8 A n ca (vrows l)) (hl : l.length = n) (hB : Rd w 1 B m cb (brows e)) (he : e.length = m)
    (hC : Rd w 5 C k cc (srow s)) (hs : s.length = k) (hm : MayC l e s) : Calls Try.prog 16 #[.slice A n ca, .slice B m cb, .slice C k cc] w (CarveYes l e s w) := by
  have HM := Lib.hid hm
  have CM := Lib.hid (cmay_any l e s A B C n m k ca cb cc w hA hl he hC hs)
  have HA := Lib.hid hA; have HB := Lib.hid hB; have HC := Lib.hid hC
  obtain rfl : m = n := by have := hm.2.2.1; omega
  have hk : (k : Int) ≤ 9 := by have := hm.2.2.2.1; omega
  have hm256 : m ≤ 256 := by have := hm.2.1; omega
  have H256 := Lib.hid hm256
  have HL := Lib.hid hl; have HLE := Lib.hid he; have HS := Lib.hid hs
  clear hA hB hC hl he hs hm hm256
  go_enter Try.func16, Try.ntmps16
  go_wp2_with fail
  refine CM.out.mono ?_
  rintro x w1 ⟨r, rfl, hr, hE⟩
  obtain rfl : r = true := hr.2 HM.out
  obtain ⟨x1, rfl⟩ := Later.mk' hE
  clear hE hr
  go_wp2_with fail
  refine (corners_any l e A B m ca cb x1.w (HA.out.ext x1.ext) (HB.out.ext x1.ext) HL.out HLE.out (by have := H256.out; omega)).mono ?_
  rintro x w1 ⟨v0, rfl, ho, hE⟩
  have h0 : Held w (l.zip e) s 0 v0 (cns l e) w1 := by
    refine ⟨?_, cns_pl, pl_fit cns_pl (zip_fit HM.out.2.2.2.2.1), by rw [cns_len HL.out HLE.out]; have := H256.out; omega, x1.ext.trans hE⟩
    rw [cns_len HL.out HLE.out]
    exact ownsRow_base ho x1.le
  have HH := Lib.hid h0
  clear ho hE h0
  go_wp2_with fail
  go_loopw [9, 11, 24] (fun v _ i wr => ∃ (j : Nat) (L : List Cn) (vv : Value), j ≤ k ∧ vv = v ∧ i = .int .i64 j ∧ Held w (l.zip e) s j vv L wr) (fun _ _ i _ => k - (intOf i).toNat)
  case atStart => exact ⟨0, _, _, Nat.zero_le _, rfl, rfl, HH.out⟩
  case round =>
    clear HH
    obtain ⟨j, L, v, hj, rfl, rfl, hH⟩ := hrel
    have HH := Lib.hid hH; clear hH
    by_cases hlt : j < k
    · obtain ⟨d, hd⟩ : ∃ d, s[j]? = some d := ⟨_, List.getElem?_eq_getElem (by rw [HS.out]; exact hlt)⟩
      have hRr := HC.out.ext HH.out.2.2.2.2
      obtain ⟨b, off, ha, hb, hcell⟩ := hRr.at_ (by omega)
      subst ha
      obtain ⟨c0, c1, c2, c3, c4⟩ := side_at hRr hd
      have HD := Lib.hid hd
      clear hRr hcell hd hb
      have CC := Lib.hid (cut_any w (wr.alloc (.cells d.row.toArray 45)) L v d (HH.out.2.2.2.2.alloc _) (ownsRow_ext HH.out.1 ((Ext.refl wr).alloc _)) (by have h1 := HH.out.2.2.2.1; have h2 := (grow2 j (by omega)).2; omega) (HM.out.2.2.2.2.2 d (List.mem_of_getElem? HD.out)) HH.out.2.2.1)
      go_wp2_with fail
      refine CC.out.mono ?_
      rintro x w1 ⟨v', L', rfl, ho, hp, hE⟩
      have HN := Lib.hid (HH.out.next HD.out (by omega) ho hp hE)
      clear ho hp hE c0 c1 c2 c3 c4 HH CC
      go_wp2_with fail
      go_roundw
      case rel => first | exact ⟨j + 1, _, v', by omega, rfl, by go_num, HN.out⟩ | ((repeat apply Exists.intro); exact ⟨⟨j + 1, _, v', by omega, rfl, by go_num, HN.out⟩, rfl⟩)
      case measure => simp [intOf]; omega
    · obtain rfl : j = k := by omega
      obtain ⟨a, c, rfl, hR⟩ := ownsRow_rd HH.out.1
      have CP := Lib.hid (parts_any L a L.length c wr hR rfl (by have h1 := HH.out.2.2.2.1; have h2 := grow9 j (by omega); omega))
      have hcv : L.map Cn.pl = carved l e s := by
        have := HH.out.2.1
        rw [List.take_of_length_le (by rw [HS.out]; exact Nat.le_refl _)] at this
        exact this
      have HCV := Lib.hid hcv
      have HE := Lib.hid HH.out.2.2.2.2
      clear hcv hR HH hlt hj
      go_wp2_with fail
      refine CP.out.mono ?_
      rintro x w1 ⟨a1, c1, b1, d1, rfl, h1, h2, h3⟩
      have HR : Hid (Rd w1 8 a1 L.length c1 (vrows (L.map (·.v))) ∧ Rd w1 1 b1 L.length d1 (brows (L.map (·.on))) ∧ Ext w w1) := Lib.hid ⟨h1, h2, HE.out.trans h3⟩
      clear h1 h2 h3 CP
      go_wp2_with fail
      go_ret3
      have e1 : L.length = (carved l e s).length := by rw [← HCV.out, List.length_map]
      have e2 : L.map (·.v) = (carved l e s).map (·.1) := by rw [← HCV.out, List.map_map]; rfl
      have e3 : L.map (·.on) = (carved l e s).map (·.2) := by rw [← HCV.out, List.map_map]; rfl
      have h := HR.out
      rw [e1, e2, e3] at h
      exact ⟨a1, c1, b1, d1, by rw [e1]; rfl, h.1, h.2.1, h.2.2⟩
set_option maxHeartbeats 1000000 in
theorem carve_no (l : List Vx) (e : List Bool) (s : List Sd) (A B C : Option Addr) (n m k ca cb cc : Nat) (w : World) (hA : Rd w 8 A n ca (vrows l)) (hl : l.length = n) (he : e.length = m)
    (hC : Rd w 5 C k cc (srow s)) (hs : s.length = k) (hm : ¬ MayC l e s) : Calls Try.prog 16 #[.slice A n ca, .slice B m cb, .slice C k cc] w fun x w' => x = .returned (.tuple #[.slice none 0 0, .slice none 0 0, .int .i64 1]) ∧ Ext w w' := by
  have HM := Lib.hid hm
  have CM := Lib.hid (cmay_any l e s A B C n m k ca cb cc w hA hl he hC hs)
  clear hA hC hl he hs hm
  go_enter Try.func16, Try.ntmps16
  go_wp2_with fail
  refine CM.out.mono ?_
  rintro x w1 ⟨r, rfl, hr, hE⟩
  obtain rfl : r = false := by
    cases r
    · rfl
    · exact absurd (hr.1 rfl) HM.out
  have HE := Lib.hid hE
  clear hE hr
  go_wp2_with fail
  go_ret3
  exact ⟨rfl, HE.out⟩
theorem fit0 : (⟨4, 0, 0, 5, 0, 0, 0, 0⟩ : Vx).Fit := fit_of _ (by decide) (by decide)
theorem ok0 : (⟨0, 0, 0, 0, 0⟩ : Sd).Ok := .inr ⟨by decide, by decide, four_cases ⟨rfl, rfl, rfl, rfl⟩⟩
def exL : List Vx := [⟨0, 0, 0, 5, 0, 0, 0, 0⟩, ⟨4, 0, 0, 5, 0, 0, 0, 0⟩, ⟨0, 0, 0, -3, 0, 0, 0, 0⟩]
def exE : List Bool := [true, false, true]
def exS : List Sd := [⟨0, 0, 0, 0, 0⟩]
theorem ex_may : MayC exL exE exS := by
  refine ⟨by decide, by decide, rfl, by decide, ?_, ?_⟩
  · intro v hv
    simp [exL] at hv
    rcases hv with rfl | rfl | rfl
    · exact fit1
    · exact fit0
    · exact fit2
  · intro v hv
    simp [exS] at hv
    subst hv
    exact ok0
theorem ex_carved : ∃ a b c d, carved exL exE exS = [a, b, c, d] ∧ c.1.w = 1 ∧ c.2 = true ∧ b.2 = false := ⟨_, _, _, _, rfl, by decide, by decide, by decide⟩
end Go.Proofs.Ytibhfclkdbmmoaa
