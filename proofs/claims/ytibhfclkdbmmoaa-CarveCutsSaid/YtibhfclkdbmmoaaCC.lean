/- Proof text: what comes of corners at a side (carve.cut). By an AI agent. No condition beyond what each theorem states. -/
import Derived.Test.YtibhfclkdbmmoaaCM
set_option linter.unusedVariables false
set_option linter.unusedSimpArgs false
namespace Go.Proofs.Ytibhfclkdbmmoaa
open Go.RowKit
def CutPost (w0 : World) (l : List (Vx × Bool)) (s : Sd) (x : Ending) (w' : World) : Prop :=
  ∃ v, ∃ L' : List Cn, x = .returned v ∧ w'.ownsRow w0.heap.size 88 10 v L'.length (crows L') ∧ L'.map Cn.pl = cutBy (cutF s) l ∧ Ext w0 w'
set_option maxRecDepth 100000 in
set_option maxHeartbeats 1000000 in
theorem cut_none (w0 w : World) (s : Sd) (a : Option Addr) (c : Nat) (h0 : Ext w0 w) : Calls Try.prog 35 #[.slice a 0 c, s.v] w (CutPost w0 [] s) := by
  have HE := Lib.hid h0; clear h0
  have HR := Lib.hid (World.ownsRow_nil (w.alloc (.cells s.row.toArray 45)) w0.heap.size 88 10)
  go_enter Try.func35, Try.ntmps35
  go_wp2_with fail
  go_loopw [5, 12] (fun _ i wr => i = .int .i64 0 ∧ wr = w.alloc (.cells s.row.toArray 45)) (fun _ i _ => 0)
  case atStart => exact ⟨rfl, rfl⟩
  case round =>
    obtain ⟨rfl, rfl⟩ := hrel
    go_wp2_with fail
    go_loopw [6, 7, 8, 9, 29, 47, 60, 71] (fun o _ _ _ i _ _ _ wr => o = .slice none 0 0 ∧ i = .int .i64 0 ∧ wr = w.alloc (.cells s.row.toArray 45)) (fun _ _ _ _ i _ _ _ _ => 0)
    case atStart => exact ⟨rfl, rfl, rfl⟩
    case round =>
      obtain ⟨rfl, rfl, rfl⟩ := hrel
      go_wp2_with fail
      go_ret
      exact ⟨_, [], rfl, HR.out, rfl, HE.out.alloc _⟩
theorem Blk.grown {w w' : World} {g X : Nat} {t : TypeId} {cs : Array Value} (h : Blk w g t cs) (hg : w.grownBy w' (some X)) (hne : g ≠ X) : Blk w' g t cs :=
  (hg.block g h.lt (fun e => hne (by injection e))).trans h
theorem Blk.grown' {w w' : World} {g : Nat} {t : TypeId} {cs : Array Value} {row : Option Nat} (h : Blk w g t cs) (hg : w.grownBy w' row) (hne : row ≠ some g) : Blk w' g t cs :=
  (hg.block g h.lt (fun e => hne e.symm)).trans h
/-- The cells of two corners. -/
@[reducible] def rl2 (c d : Cn) : List Value := [.int .i64 c.v.x, .int .i64 c.v.y, .int .i64 c.v.z, .int .i64 c.v.w, .int .i64 c.v.c0, .int .i64 c.v.c1, .int .i64 c.v.c2, .int .i64 c.v.c3, .int .i64 c.i, .bool c.on, .int .i64 d.v.x, .int .i64 d.v.y, .int .i64 d.v.z, .int .i64 d.v.w, .int .i64 d.v.c0, .int .i64 d.v.c1, .int .i64 d.v.c2, .int .i64 d.v.c3, .int .i64 d.i, .bool d.on]
theorem crows_two (O : List Cn) (c d : Cn) : crows O ++ rl2 c d = crows (O ++ [c, d]) := by rw [crows_append]; rfl
theorem crows_more (O : List Cn) (c : Cn) : crows O ++ Cn.rl c = crows (O ++ [c]) := by rw [crows_append]; rfl
theorem both10 {w : World} {g h : Nat} {t : TypeId} {c d : Cn} (hc : Blk w g t c.row) (hd : Blk w h t d.row) : At10 w g c ∧ At10 w h d := ⟨cells10 hc, cells10 hd⟩
theorem flat10 {w : World} {g h : Nat} {t : TypeId} {c d : Cn} (hc : Blk w g t c.row) (hd : Blk w h t d.row) :
    w.cell? ⟨g, 0, none⟩ = some (.int .i64 c.v.x) ∧ w.cell? ⟨g, 1, none⟩ = some (.int .i64 c.v.y) ∧ w.cell? ⟨g, 2, none⟩ = some (.int .i64 c.v.z) ∧ w.cell? ⟨g, 3, none⟩ = some (.int .i64 c.v.w) ∧ w.cell? ⟨g, 4, none⟩ = some (.int .i64 c.v.c0) ∧ w.cell? ⟨g, 5, none⟩ = some (.int .i64 c.v.c1) ∧ w.cell? ⟨g, 6, none⟩ = some (.int .i64 c.v.c2) ∧ w.cell? ⟨g, 7, none⟩ = some (.int .i64 c.v.c3) ∧ w.cell? ⟨g, 8, none⟩ = some (.int .i64 c.i) ∧ w.cell? ⟨g, 9, none⟩ = some (.bool c.on) ∧
    w.cell? ⟨h, 0, none⟩ = some (.int .i64 d.v.x) ∧ w.cell? ⟨h, 1, none⟩ = some (.int .i64 d.v.y) ∧ w.cell? ⟨h, 2, none⟩ = some (.int .i64 d.v.z) ∧ w.cell? ⟨h, 3, none⟩ = some (.int .i64 d.v.w) ∧ w.cell? ⟨h, 4, none⟩ = some (.int .i64 d.v.c0) ∧ w.cell? ⟨h, 5, none⟩ = some (.int .i64 d.v.c1) ∧ w.cell? ⟨h, 6, none⟩ = some (.int .i64 d.v.c2) ∧ w.cell? ⟨h, 7, none⟩ = some (.int .i64 d.v.c3) ∧ w.cell? ⟨h, 8, none⟩ = some (.int .i64 d.i) ∧ w.cell? ⟨h, 9, none⟩ = some (.bool d.on) :=
  ⟨hc.cell 0, hc.cell 1, hc.cell 2, hc.cell 3, hc.cell 4, hc.cell 5, hc.cell 6, hc.cell 7, hc.cell 8, hc.cell 9, hd.cell 0, hd.cell 1, hd.cell 2, hd.cell 3, hd.cell 4, hd.cell 5, hd.cell 6, hd.cell 7, hd.cell 8, hd.cell 9⟩
/-- What is out so far, one corner further on. -/
theorem next_out {O X : List Cn} {l : List (Vx × Bool)} {k : Nat} {p q : Vx × Bool} {s : Sd} (h : O.map Cn.pl = ((ring l).take k).flatMap (fun c => cutF s c.1 c.2)) (hr : (ring l)[k]? = some (p, q)) (hx : X.map Cn.pl = cutF s p q) :
    (O ++ X).map Cn.pl = ((ring l).take (k + 1)).flatMap (fun c => cutF s c.1 c.2) := by
  rw [take_flat hr, List.map_append, h, hx]
/-- All of it. -/
theorem all_out {O : List Cn} {l : List (Vx × Bool)} {k : Nat} {s : Sd} (h : O.map Cn.pl = ((ring l).take k).flatMap (fun c => cutF s c.1 c.2)) (hk : l.length = k) : O.map Cn.pl = (ring l).flatMap (fun c => cutF s c.1 c.2) := by
  rw [h, List.take_of_length_le (by rw [ring_length]; omega)]
theorem cut_few {O : List Cn} {l : List (Vx × Bool)} {s : Sd} (h : O.map Cn.pl = (ring l).flatMap (fun c => cutF s c.1 c.2)) (hl : O.length < 3) : cutBy (cutF s) l = [] := by
  unfold cutBy
  simp only
  rw [← h, List.length_map, if_pos hl]
theorem cut_more {O : List Cn} {l : List (Vx × Bool)} {s : Sd} (h : O.map Cn.pl = (ring l).flatMap (fun c => cutF s c.1 c.2)) (hl : ¬ O.length < 3) : cutBy (cutF s) l = O.map Cn.pl := by
  unfold cutBy
  simp only
  rw [← h, List.length_map, if_neg hl]
set_option maxRecDepth 100000 in
set_option maxHeartbeats 4000000 in
theorem cut_some (w0 w : World) (L : List Cn) (g n cap : Nat) (s : Sd) (h0 : Ext w0 w) (ho : w.ownsRow w0.heap.size 88 10 (.slice (some ⟨g, 0, none⟩) n cap) n (crows L)) (hl : L.length = n) (hpos : 0 < n) (hn : n ≤ 131072) (hs : s.Ok) (hf : ∀ c ∈ L, c.v.Fit) :
    Calls Try.prog 35 #[.slice (some ⟨g, 0, none⟩) n cap, s.v] w (CutPost w0 (L.map Cn.pl) s) := by
  have hlt := ho.lt g rfl
  have HL := Lib.hid hl; clear hl
  have HS := Lib.hid hs; clear hs
  have HF := Lib.hid hf; clear hf
  have hni : (n : Int) ≤ 131072 := by omega
  have hg0 := hlt.1
  have hg1 := hlt.2
  have HN : Hid (0 < n ∧ n ≤ 131072) := Lib.hid ⟨hpos, hn⟩
  clear hn hlt
  have HE0 := Lib.hid h0; clear h0
  have HO := Lib.hid ho; clear ho
  go_enter Try.func35, Try.ntmps35
  go_wp2_with fail
  go_loopw [5, 12] (fun _ i wr => ∃ (j : Nat) (L1 : List Cn), j ≤ n ∧ i = .int .i64 j ∧ L1.length = n ∧ Hid (∀ k, k < j → L1[k]? = (told s L)[k]?) ∧ Hid (∀ k, j ≤ k → L1[k]? = L[k]?) ∧ wr.ownsRow w0.heap.size 88 10 (.slice (some ⟨g, 0, none⟩) n cap) n (crows L1) ∧ Blk wr w.heap.size 45 s.row.toArray ∧ Ext w0 wr) (fun _ i _ => n - (intOf i).toNat)
  case atStart => exact ⟨0, L, Nat.zero_le _, rfl, HL.out, Lib.hid (fun k hk => by omega), Lib.hid (fun k hk => rfl), HO.out.alloc _, Blk.new _ _ _, HE0.out.alloc _⟩
  case round =>
    clear HO HE0
    obtain ⟨j, L1, hj, rfl, hL1, HJ, HK, ho, hB, hE⟩ := hrel
    by_cases hlt : j < n
    · obtain ⟨c, hc⟩ : ∃ c, L[j]? = some c := ⟨_, List.getElem?_eq_getElem (by rw [HL.out]; exact hlt)⟩
      have hc1 : L1[j]? = some c := (HK.out j (Nat.le_refl _)).trans hc
      have HFc := Lib.hid (HF.out c (List.mem_of_getElem? hc))
      obtain ⟨a', c', ea, hr⟩ := ownsRow_rd ho
      obtain ⟨rfl, rfl⟩ : some (⟨g, 0, none⟩ : Addr) = a' ∧ cap = c' := by simpa using ea
      obtain ⟨c0, c1, c2, c3, c4, c5, c6, c7, c8, c9⟩ := corner_at hr hc1
      simp only [Nat.zero_add] at c0 c1 c2 c3 c4 c5 c6 c7 c8 c9
      obtain ⟨k0, k1, k2, k3, k4⟩ := cells5 hB
      have HO := Lib.hid ho; clear ho
      have HB := Lib.hid hB; clear hB
      have HE := Lib.hid hE; clear hE
      have HC1 := Lib.hid hc1; clear hc1
      have HC := Lib.hid hc; clear hc
      have HL1 := Lib.hid hL1; clear hL1
      clear ea hr
      have CD := Lib.hid (fun W => dist_any s c.v W HS.out HFc.out)
      go_upto_region 4 with fail
      refine wp_region_later_tail 11 (by kernel_rfl) (by kernel_rfl) ?_
      simp only [List.take_succ_cons, List.take_zero, List.drop_succ_cons, List.drop_zero]
      repeat (go_big_quiet_step ((go_at_call 27; with_reducible exact Calls.later _ (CD.out _))))
      refine wpQuiet_nil ?_
      intro y
      refine wpList_store_own rfl (.tmp 25) (.tmp 23) 3 rfl w0.heap.size 88 10 g n cap (crows L1) (j * 10 + 8) rfl (.int .i64 (dist s c.v)) rfl (ownsRow_ext HO.out y.ext) size3 ?c1 ?c2 ?_
      case c1 => simp [Value.cells, Value.oneCell']
      case c2 => simp [Value.cells]; omega
      intro w2 ho2 hg2
      have ho3 : w2.ownsRow w0.heap.size 88 10 (.slice (some ⟨g, 0, none⟩) n cap) n (crows (L1.set j ⟨c.v, dist s c.v, c.on⟩)) := by
        rw [← crows_in HC1.out]; exact ho2
      have HO3 := Lib.hid ho3
      have HB3 := Lib.hid (((HB.out.later y).grown hg2 (by omega)))
      have HE3 := Lib.hid ((HE.out.later y).grown hg2 (fun k hk => by injection hk with hk; omega))
      have HJ2 := Lib.hid (set_upto (m := told s L) HL1.out hlt HJ.out (by simp [told, HC.out] : (told s L)[j]? = some ⟨c.v, dist s c.v, c.on⟩))
      have HK2 : Hid (∀ k, j + 1 ≤ k → (L1.set j ⟨c.v, dist s c.v, c.on⟩)[k]? = L[k]?) := Lib.hid (fun k hk => by
        rw [List.getElem?_set_ne (by omega)]; exact HK.out k (by omega))
      clear ho2 ho3 hg2 c0 c1 c2 c3 c4 c5 c6 c7 c8 c9 k0 k1 k2 k3 k4
      go_wp2_with fail
      go_roundw
      case rel => first | exact ⟨j + 1, _, by omega, by go_num, by rw [List.length_set]; exact HL1.out, HJ2, HK2, HO3.out, HB3.out, HE3.out⟩ | ((repeat apply Exists.intro); exact ⟨⟨j + 1, _, by omega, by go_num, by rw [List.length_set]; exact HL1.out, HJ2, HK2, HO3.out, HB3.out, HE3.out⟩, rfl⟩)
      case measure => simp [intOf]; omega
    · obtain rfl : j = n := by omega
      obtain rfl := list_same hL1 (by rw [told, List.length_map, HL.out]) HJ.out
      obtain ⟨a', c', ea, hr⟩ := ownsRow_rd ho
      obtain ⟨rfl, rfl⟩ : some (⟨g, 0, none⟩ : Addr) = a' ∧ cap = c' := by simpa using ea
      have HR := Lib.hid hr
      have HE := Lib.hid hE
      clear ea hr hE ho hB HJ HK hL1 hlt hj
      obtain ⟨W1, rfl⟩ : ∃ W1 : World, W1 = wr := ⟨_, rfl⟩
      go_wp2_with fail
      go_loopw [6, 7, 8, 9, 29, 47, 60, 71] (fun o _ _ _ i _ _ _ wr => ∃ (k : Nat) (O : List Cn) (v : Value), k ≤ j ∧ v = o ∧ i = .int .i64 k ∧ wr.ownsRow W1.heap.size 88 10 v O.length (crows O) ∧ Hid (O.map Cn.pl = ((ring (L.map Cn.pl)).take k).flatMap (fun c => cutF s c.1 c.2)) ∧ O.length ≤ 2 * k ∧ Ext W1 wr) (fun _ _ _ _ i _ _ _ _ => j - (intOf i).toNat)
      case atStart => exact ⟨0, [], _, Nat.zero_le _, rfl, rfl, World.ownsRow_nil _ _ _ _, Lib.hid (by simp), Nat.zero_le _, Ext.refl _⟩
      case round =>
        obtain ⟨k, O, v, hk, rfl, rfl, hO, HP, hOl, hEx⟩ := hrel
        by_cases hlt : k < j
        · obtain ⟨c, hc⟩ : ∃ c, L[k]? = some c := ⟨_, List.getElem?_eq_getElem (by rw [HL.out]; exact hlt)⟩
          obtain ⟨z, hz⟩ : ∃ z, L[0]? = some z := ⟨_, List.getElem?_eq_getElem (by rw [HL.out]; omega)⟩
          obtain ⟨d, hd⟩ : ∃ d, (if k + 1 < j then L[k + 1]? else L[0]?) = some d := by
            by_cases h : k + 1 < j
            · rw [if_pos h]; exact ⟨_, List.getElem?_eq_getElem (by rw [HL.out]; exact h)⟩
            · rw [if_neg h]; exact ⟨z, hz⟩
          have hdm : d ∈ L := by
            by_cases h : k + 1 < j
            · rw [if_pos h] at hd; exact List.mem_of_getElem? hd
            · rw [if_neg h] at hd; exact List.mem_of_getElem? hd
          have HFC : Hid (c.v.Fit ∧ d.v.Fit) := Lib.hid ⟨HF.out c (List.mem_of_getElem? hc), HF.out d hdm⟩
          have HRG : Hid ((ring (L.map Cn.pl))[k]? = some (c.pl, d.pl)) := Lib.hid (ring_get (n := j) (by rw [List.length_map, HL.out]) (by rw [List.getElem?_map, hc]; rfl) (by
            by_cases h : k + 1 < j
            · rw [if_pos h] at hd ⊢; rw [List.getElem?_map, hd]; rfl
            · rw [if_neg h] at hd ⊢; rw [List.getElem?_map, hd]; rfl))
          have HO := Lib.hid hO; clear hO
          have HEx := Lib.hid hEx; clear hEx
          have hcT : (told s L)[k]? = some ⟨c.v, dist s c.v, c.on⟩ := by simp [told, hc]
          have hzT : (told s L)[0]? = some ⟨z.v, dist s z.v, z.on⟩ := by simp [told, hz]
          obtain ⟨c0, c1, c2, c3, c4, c5, c6, c7, c8, c9⟩ := corner_at (HR.out.ext HEx.out) hcT
          obtain ⟨z0, z1, z2, z3, z4, z5, z6, z7, z8, z9⟩ := corner_at (HR.out.ext HEx.out) hzT
          simp only [Nat.zero_add, Nat.zero_mul] at c0 c1 c2 c3 c4 c5 c6 c7 c8 c9 z0 z1 z2 z3 z4 z5 z6 z7 z8 z9
          have HD := Lib.hid hd
          have HZ := Lib.hid hz
          clear hc hz hd hcT hzT hdm
          go_upto_if 41 with fail
          go_cut [9] from 40 to 46 (fun s9 wy => s9 = .pointer (some ⟨wr.heap.size + 1, 0, none⟩) ∧ Blk wy wr.heap.size 88 (⟨c.v, dist s c.v, c.on⟩ : Cn).row ∧ Blk wy (wr.heap.size + 1) 88 (⟨d.v, dist s d.v, d.on⟩ : Cn).row ∧ Ext wr wy)
          case first =>
            by_cases hlast : k + 1 < j
            · have hd := HD.out
              rw [if_pos hlast] at hd
              have hdT : (told s L)[k + 1]? = some ⟨d.v, dist s d.v, d.on⟩ := by simp [told, hd]
              obtain ⟨d0, d1, d2, d3, d4, d5, d6, d7, d8, d9⟩ := corner_at (HR.out.ext HEx.out) hdT
              simp only [Nat.zero_add] at d0 d1 d2 d3 d4 d5 d6 d7 d8 d9
              have t1 : (k : Int) + 1 < (j : Int) := by omega
              clear hd hdT hlast
              go_wp2_with fail
              go_meet
              exact ⟨rfl, (Blk.new _ _ _).alloc _, Blk.new' _ _ _ (by simp), ((Ext.refl wr).alloc _).alloc _⟩
            · have hd := HD.out
              rw [if_neg hlast, HZ.out] at hd
              obtain rfl : z = d := by injection hd
              have t1 : ¬ (k : Int) + 1 < (j : Int) := by omega
              clear hd hlast
              go_wp2_with fail
              go_meet
              exact ⟨rfl, (Blk.new _ _ _).alloc _, Blk.new' _ _ _ (by simp), ((Ext.refl wr).alloc _).alloc _⟩
          case rest =>
            clear c0 c1 c2 c3 c4 c5 c6 c7 c8 c9 z0 z1 z2 z3 z4 z5 z6 z7 z8 z9
            obtain ⟨rfl, B1, B2, hE2⟩ := hcut
            have HE2 := Lib.hid hE2; clear hE2
            have HB := Lib.hid (And.intro B1 B2); clear B1 B2
            have HOy := Lib.hid (ownsRow_ext HO.out HE2.out)
            have HEy := Lib.hid (HEx.out.trans HE2.out)
            have hz1 := HB.out.2.lt
            have HOk := Lib.hid HO.out.lt
            clear HO HEx HE2
            obtain ⟨d0, d1, d2, d3, d4, d5, d6, d7, d8, d9⟩ := cells10 (c := ⟨c.v, dist s c.v, c.on⟩) HB.out.1
            obtain ⟨e0, e1, e2, e3, e4, e5, e6, e7, e8, e9⟩ := cells10 (c := ⟨d.v, dist s d.v, d.on⟩) HB.out.2
            dsimp only at d0 d1 d2 d3 d4 d5 d6 d7 d8 d9 e0 e1 e2 e3 e4 e5 e6 e7 e8 e9
            have HB1 := Lib.hid (dist_bound HS.out HFC.out.1)
            have HB2 := Lib.hid (dist_bound HS.out HFC.out.2)
            have HKB := Lib.hid (show k < 131072 from by have := HN.out.2; omega)
            have hOl : (O.length : Int) ≤ 262144 := by have := HKB.out; omega
            by_cases hp : 0 ≤ dist s c.v
            · by_cases hq : 0 ≤ dist s d.v
              · have t1 : decide (dist s c.v ≥ 0) = true := by simpa using hp
                have t2 : decide (dist s d.v ≥ 0) = true := by simpa using hq
                have HN2 : Hid (List.map Cn.pl [(⟨c.v, dist s c.v, c.on⟩ : Cn)] = cutF s c.pl d.pl) := Lib.hid (by simp [cutF, Cn.pl, hp, hq])
                have HP3 := Lib.hid (next_out HP.out HRG.out HN2.out)
                have HNw := Lib.hid (news_at wc (Cn.rl (⟨c.v, dist s c.v, c.on⟩ : Cn)) 88)
                clear hp hq
                go_wp2_with (refine wpList_append_src rfl (.tmp 56) (.tmp 58) 62 rfl W1.heap.size 88 _ 10 80 Try.underlying62 info_corner rfl (by decide) v O.length (crows O) rfl (ownsRow_ext HOy.out (Ext.alloc (Ext.refl wc) _)) ⟨wc.heap.size, 0, none⟩ 1 1 (Cn.rl (⟨c.v, dist s c.v, c.on⟩ : Cn)) rfl rfl ?c1 ?c2 ?c3 (by decide) ?c5 ?_)
                case c1 => simpa [Addr.add] using HNw.out
                case c2 => exact crows_one [(⟨c.v, dist s c.v, c.on⟩ : Cn)]
                case c3 => omega
                case c5 => have := HEy.out.size; simp; omega
                intro v' w' ho' hg' _
                have HE3 := Lib.hid ((HEy.out.alloc (.cells (⟨c.v, dist s c.v, c.on⟩ : Cn).row 88)).grown hg' (fun k hk => (HOk.out k hk).1))
                rw [crows_more] at ho'
                have HO3 := Lib.hid (show w'.ownsRow W1.heap.size 88 10 v' (O ++ [(⟨c.v, dist s c.v, c.on⟩ : Cn)]).length (crows (O ++ [(⟨c.v, dist s c.v, c.on⟩ : Cn)])) from by rw [List.length_append]; exact ho')
                clear hg' ho' HNw d0 d1 d2 d3 d4 d5 d6 d7 d8 d9 e0 e1 e2 e3 e4 e5 e6 e7 e8 e9
                go_wp2_with fail
                go_roundw
                case rel => first | exact ⟨k + 1, _, v', by omega, rfl, by go_num, HO3.out, HP3, by simp only [List.length_append, List.length_cons, List.length_nil]; omega, HE3.out⟩ | ((repeat apply Exists.intro); exact ⟨⟨k + 1, _, v', by omega, rfl, by go_num, HO3.out, HP3, by simp only [List.length_append, List.length_cons, List.length_nil]; omega, HE3.out⟩, rfl⟩)
                case measure => simp [intOf]; omega
              · have hq' := Int.lt_of_not_ge hq
                have t1 : decide (dist s c.v ≥ 0) = true := by simpa using hp
                have t2 : decide (dist s d.v ≥ 0) = false := by simpa using hq'
                have HM := Lib.hid (fun W => meet_any (⟨c.v, dist s c.v, c.on⟩ : Cn) (⟨d.v, dist s d.v, d.on⟩ : Cn) true W HFC.out.1 HFC.out.2 hp hq' HB1.out.2 HB2.out.1)
                have HN2 : Hid (List.map Cn.pl [(⟨c.v, dist s c.v, c.on⟩ : Cn), ⟨at_ c.v d.v (dist s c.v) (dist s c.v - dist s d.v), 0, true⟩] = cutF s c.pl d.pl) := Lib.hid (by simp [cutF, Cn.pl, hp, hq])
                obtain ⟨u, hu⟩ : ∃ u, u = at_ c.v d.v (dist s c.v) (dist s c.v - dist s d.v) := ⟨_, rfl⟩
                dsimp only at HM
                rw [← hu] at HM HN2
                have HP3 := Lib.hid (next_out HP.out HRG.out HN2.out)
                clear hp hq hq' hu
                go_upto_region 16 with fail
                go_region_held3 (fun w' => w'.cell? ⟨wr.heap.size, 0, none⟩ = some (.int .i64 c.v.x) ∧ w'.cell? ⟨wr.heap.size, 1, none⟩ = some (.int .i64 c.v.y) ∧ w'.cell? ⟨wr.heap.size, 2, none⟩ = some (.int .i64 c.v.z) ∧ w'.cell? ⟨wr.heap.size, 3, none⟩ = some (.int .i64 c.v.w) ∧ w'.cell? ⟨wr.heap.size, 4, none⟩ = some (.int .i64 c.v.c0) ∧ w'.cell? ⟨wr.heap.size, 5, none⟩ = some (.int .i64 c.v.c1) ∧ w'.cell? ⟨wr.heap.size, 6, none⟩ = some (.int .i64 c.v.c2) ∧ w'.cell? ⟨wr.heap.size, 7, none⟩ = some (.int .i64 c.v.c3) ∧ w'.cell? ⟨wr.heap.size, 8, none⟩ = some (.int .i64 (dist s c.v)) ∧ w'.cell? ⟨wr.heap.size, 9, none⟩ = some (.bool c.on) ∧ w'.cell? ⟨wr.heap.size + 1, 0, none⟩ = some (.int .i64 d.v.x) ∧ w'.cell? ⟨wr.heap.size + 1, 1, none⟩ = some (.int .i64 d.v.y) ∧ w'.cell? ⟨wr.heap.size + 1, 2, none⟩ = some (.int .i64 d.v.z) ∧ w'.cell? ⟨wr.heap.size + 1, 3, none⟩ = some (.int .i64 d.v.w) ∧ w'.cell? ⟨wr.heap.size + 1, 4, none⟩ = some (.int .i64 d.v.c0) ∧ w'.cell? ⟨wr.heap.size + 1, 5, none⟩ = some (.int .i64 d.v.c1) ∧ w'.cell? ⟨wr.heap.size + 1, 6, none⟩ = some (.int .i64 d.v.c2) ∧ w'.cell? ⟨wr.heap.size + 1, 7, none⟩ = some (.int .i64 d.v.c3) ∧ w'.cell? ⟨wr.heap.size + 1, 8, none⟩ = some (.int .i64 (dist s d.v)) ∧ w'.cell? ⟨wr.heap.size + 1, 9, none⟩ = some (.bool d.on)) ((refine flat10 (t := 88) (c := (⟨c.v, dist s c.v, c.on⟩ : Cn)) (d := (⟨d.v, dist s d.v, d.on⟩ : Cn)) ?_ ?_ <;> (repeat (first | with_reducible exact HB.out.1 | with_reducible exact HB.out.2 | with_reducible refine Blk.alloc ?_ _ | with_reducible refine Blk.drew ?_ | with_reducible refine Blk.later ?_ _ | (refine Blk.grown' ?_ hg' ?_; rotate_left; (intro hk; have := (HOk.out _ hk).2; omega)))))) (first | (go_at_call 53; refine (HM.out _).mono ?_; rintro x w1 ⟨rfl, hE⟩; obtain ⟨y, rfl⟩ := Later.mk' hE; clear hE) | (refine step_append_src rfl (.tmp 64) (.tmp 69) 62 rfl W1.heap.size 88 _ 10 80 Try.underlying62 info_corner rfl (by decide) v O.length (crows O) rfl (ownsRow_ext HOy.out (Ext.alloc (Ext.later (Ext.drew (Ext.refl _)) _) _)) ⟨_, 0, none⟩ 2 2 (rl2 (⟨c.v, dist s c.v, c.on⟩ : Cn) (⟨u, 0, true⟩ : Cn)) rfl rfl (by simpa [Addr.add] using news_at _ (rl2 (⟨c.v, dist s c.v, c.on⟩ : Cn) (⟨u, 0, true⟩ : Cn)) 88) (crows_one [(⟨c.v, dist s c.v, c.on⟩ : Cn), (⟨u, 0, true⟩ : Cn)]) (by omega) (by decide) (by have := HEy.out.size; have := y.le; simp at this ⊢; omega) ?_; intro v' w' ho' hg' _))
                have HE3 := Lib.hid (((HEy.out.drew.later y).alloc _).grown hg' (fun k hk => (HOk.out k hk).1))
                rw [crows_two] at ho'
                have HO3 := Lib.hid (show w'.ownsRow W1.heap.size 88 10 v' (O ++ [(⟨c.v, dist s c.v, c.on⟩ : Cn), (⟨u, 0, true⟩ : Cn)]).length (crows (O ++ [(⟨c.v, dist s c.v, c.on⟩ : Cn), (⟨u, 0, true⟩ : Cn)])) from by rw [List.length_append]; exact ho')
                clear hg' ho' d0 d1 d2 d3 d4 d5 d6 d7 d8 d9 e0 e1 e2 e3 e4 e5 e6 e7 e8 e9
                go_wp2_with fail
                go_roundw
                case rel => first | exact ⟨k + 1, _, v', by omega, rfl, by go_num, HO3.out, HP3, by simp only [List.length_append, List.length_cons, List.length_nil]; omega, HE3.out⟩ | ((repeat apply Exists.intro); exact ⟨⟨k + 1, _, v', by omega, rfl, by go_num, HO3.out, HP3, by simp only [List.length_append, List.length_cons, List.length_nil]; omega, HE3.out⟩, rfl⟩)
                case measure => simp [intOf]; omega
            · have hp' := Int.lt_of_not_ge hp
              by_cases hq : 0 ≤ dist s d.v
              · have t1 : decide (dist s c.v ≥ 0) = false := by simpa using hp'
                have t2 : decide (dist s d.v ≥ 0) = true := by simpa using hq
                have HM := Lib.hid (fun W => meet_any (⟨d.v, dist s d.v, d.on⟩ : Cn) (⟨c.v, dist s c.v, c.on⟩ : Cn) c.on W HFC.out.2 HFC.out.1 hq hp' HB2.out.2 HB1.out.1)
                have HN2 : Hid (List.map Cn.pl [(⟨at_ d.v c.v (dist s d.v) (dist s d.v - dist s c.v), 0, c.on⟩ : Cn)] = cutF s c.pl d.pl) := Lib.hid (by simp [cutF, Cn.pl, hp, hq])
                obtain ⟨u, hu⟩ : ∃ u, u = at_ d.v c.v (dist s d.v) (dist s d.v - dist s c.v) := ⟨_, rfl⟩
                dsimp only at HM
                rw [← hu] at HM HN2
                have HP3 := Lib.hid (next_out HP.out HRG.out HN2.out)
                clear hp hq hp' hu
                go_wp2_with fail
                refine (HM.out _).mono ?_
                rintro x w1 ⟨rfl, hE⟩
                obtain ⟨y, rfl⟩ := Later.mk' hE
                clear hE
                have HNw := Lib.hid (news_at y.w (Cn.rl (⟨u, 0, c.on⟩ : Cn)) 88)
                clear d0 d1 d2 d3 d4 d5 d6 d7 d8 d9 e0 e1 e2 e3 e4 e5 e6 e7 e8 e9
                go_wp2_with (refine wpList_append_src rfl (.tmp 75) (.tmp 81) 62 rfl W1.heap.size 88 _ 10 80 Try.underlying62 info_corner rfl (by decide) v O.length (crows O) rfl (ownsRow_ext HOy.out (Ext.alloc y.ext _)) ⟨y.w.heap.size, 0, none⟩ 1 1 (Cn.rl (⟨u, 0, c.on⟩ : Cn)) rfl rfl ?c1 ?c2 ?c3 (by decide) ?c5 ?_)
                case c1 => simpa [Addr.add] using HNw.out
                case c2 => exact crows_one [(⟨u, 0, c.on⟩ : Cn)]
                case c3 => omega
                case c5 => have := HEy.out.size; have := y.le; simp; omega
                intro v' w' ho' hg' _
                have HE3 := Lib.hid (((HEy.out.later y).alloc (.cells (⟨u, 0, c.on⟩ : Cn).row 88)).grown hg' (fun k hk => (HOk.out k hk).1))
                rw [crows_more] at ho'
                have HO3 := Lib.hid (show w'.ownsRow W1.heap.size 88 10 v' (O ++ [(⟨u, 0, c.on⟩ : Cn)]).length (crows (O ++ [(⟨u, 0, c.on⟩ : Cn)])) from by rw [List.length_append]; exact ho')
                clear hg' ho' HNw
                go_wp2_with fail
                go_roundw
                case rel => first | exact ⟨k + 1, _, v', by omega, rfl, by go_num, HO3.out, HP3, by simp only [List.length_append, List.length_cons, List.length_nil]; omega, HE3.out⟩ | ((repeat apply Exists.intro); exact ⟨⟨k + 1, _, v', by omega, rfl, by go_num, HO3.out, HP3, by simp only [List.length_append, List.length_cons, List.length_nil]; omega, HE3.out⟩, rfl⟩)
                case measure => simp [intOf]; omega
              · have t1 : decide (dist s c.v ≥ 0) = false := by simpa using hp'
                have t2 : decide (dist s d.v ≥ 0) = false := by simpa using hq
                have HN2 : Hid (List.map Cn.pl [] = cutF s c.pl d.pl) := Lib.hid (by simp [cutF, Cn.pl, hp, hq])
                have HP3 := Lib.hid (next_out HP.out HRG.out HN2.out)
                clear hp hq hp'
                go_wp2_with fail
                go_roundw
                case rel => first | exact ⟨k + 1, O, v, by omega, rfl, by go_num, HOy.out, by simpa using HP3, by omega, HEy.out⟩ | ((repeat apply Exists.intro); exact ⟨⟨k + 1, O, v, by omega, rfl, by go_num, HOy.out, by simpa using HP3, by omega, HEy.out⟩, rfl⟩)
                case measure => simp [intOf]; omega
        · obtain rfl : k = j := by omega
          have HA := Lib.hid (all_out HP.out (by rw [List.length_map, HL.out]))
          have HEz := Lib.hid (HE.out.trans hEx)
          have HO := Lib.hid hO
          obtain ⟨a', c', rfl, hrd⟩ := ownsRow_rd hO
          have hOl2 : (O.length : Int) ≤ 262144 := by have := HN.out.2; omega
          clear hrd hO hEx HP
          by_cases h3 : O.length < 3
          · have t1 : decide ((O.length : Int) < 3) = true := by simp; omega
            have HF3 := Lib.hid (cut_few HA.out h3)
            have HR0 := Lib.hid (World.ownsRow_nil wr w0.heap.size 88 10)
            clear h3
            go_wp2_with fail
            go_ret
            exact ⟨_, [], rfl, HR0.out, HF3.out.symm, HEz.out⟩
          · have t1 : decide ((O.length : Int) < 3) = false := by simp; omega
            have HF3 := Lib.hid (cut_more HA.out h3)
            clear h3
            go_wp2_with fail
            go_ret
            exact ⟨_, O, rfl, ownsRow_base HO.out HE.out.size, HF3.out.symm, HEz.out⟩
end Go.Proofs.Ytibhfclkdbmmoaa
