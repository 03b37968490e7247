/- Proof text: the image of a text, the document's answer (rastrumref28.Decode). By an AI agent. No condition beyond what each theorem states. -/
import Derived.Test.YtpjkhnkbijpmnaaDoorPO
set_option linter.unusedVariables false
set_option linter.unusedSimpArgs false
namespace Go.Proofs.YtpjkhnkbijpmnaaDoor
open Go.RowKit
def raft (want s : ByteArray) : ByteArray := if pre want s = true then s.extract want.size s.size else ⟨#[]⟩
theorem after_any (s want : ByteArray) (w : World) (hs : s.size ≤ 1000000) (hw : want.size ≤ 1000000) :
    Calls Tryd.prog 21 #[.string s, .string want] w fun e w' => e = .returned (.tuple #[.string (raft want s), .bool (pre want s)]) ∧ w = w' := by
  cases hp : pre want s with
  | true =>
    obtain ⟨h1, h2⟩ := pre_yes hp
    unfold raft
    rw [if_pos hp]
    exact after_yes s want w hs h1 h2
  | false =>
    unfold raft
    rw [if_neg (by rw [hp]; decide)]
    exact after_no s want w hs hw (pre_no hp)
theorem raft_size (want s : ByteArray) : (raft want s).size ≤ s.size := by
  unfold raft
  split
  · exact ext_size s _
  · exact Nat.zero_le _
theorem raft_yes {want s : ByteArray} (h : pre want s = true) : raft want s = aft want s := by unfold raft aft; rw [if_pos h, if_pos h]
def q1 (s : ByteArray) : ByteArray := raft sP6 s
def q2 (s : ByteArray) : ByteArray := (q1 s).extract (dg_ (q1 s)).length (q1 s).size
def q3 (s : ByteArray) : ByteArray := raft sBl (q2 s)
def q4 (s : ByteArray) : ByteArray := (q3 s).extract (dg_ (q3 s)).length (q3 s).size
def q5 (s : ByteArray) : ByteArray := raft s255 (q4 s)
theorem q1_size (s : ByteArray) : (q1 s).size ≤ s.size := raft_size _ _
theorem q2_size (s : ByteArray) : (q2 s).size ≤ s.size := Nat.le_trans (ext_size _ _) (q1_size s)
theorem q3_size (s : ByteArray) : (q3 s).size ≤ s.size := Nat.le_trans (raft_size _ _) (q2_size s)
theorem q4_size (s : ByteArray) : (q4 s).size ≤ s.size := Nat.le_trans (ext_size _ _) (q3_size s)
theorem q5_size (s : ByteArray) : (q5 s).size ≤ s.size := Nat.le_trans (raft_size _ _) (q4_size s)
/-- Which of the five it is that fails, if one does. -/
theorem head_same (s : ByteArray) : (pre sP6 s && dgOk (q1 s) && pre sBl (q2 s) && dgOk (q3 s) && pre s255 (q4 s)) = headOk s ∧ (headOk s = true → q1 s = p1 s ∧ q3 s = p3 s ∧ q5 s = p5 s) := by
  unfold headOk
  by_cases h1 : pre sP6 s = true
  · have e1 : q1 s = p1 s := raft_yes h1
    have e2 : q2 s = p2 s := by unfold q2 p2; rw [e1]
    rw [e1, e2]
    by_cases h3 : pre sBl (p2 s) = true
    · have e3 : q3 s = p3 s := by unfold q3 p3; rw [e2]; exact raft_yes h3
      have e4 : q4 s = p4 s := by unfold q4 p4; rw [e3]
      rw [e3, e4]
      refine ⟨rfl, fun h => ⟨rfl, rfl, ?_⟩⟩
      have h5 : pre s255 (p4 s) = true := by simp at h; exact h.2
      unfold q5 p5; rw [e4]; exact raft_yes h5
    · have h3' : pre sBl (p2 s) = false := by simpa using h3
      rw [h3']
      simp
  · have h1' : pre sP6 s = false := by simpa using h1
    rw [h1']
    simp
/-- In the loop: the result's box, the image's box at P, its row at X. -/
structure DecJ (bw bh : Nat) (w wr : World) (X Y P : Nat) (n cx cy : Nat) (C : List Int) : Prop where
  res : Blk wr w.heap.size 24 #[.int .i64 0, .int .i64 0, .slice none 0 0, .slice none 0 0]
  box : Blk wr P 24 #[.int .i64 bw, .int .i64 bh, .slice (some ⟨X, 0, none⟩) n cx, .slice (some ⟨Y, 0, none⟩) n cy]
  c : wr.ownsRow (w.heap.size + 1) 3 1 (.slice (some ⟨X, 0, none⟩) n cx) n (ivs C)
  z : wr.ownsRow (w.heap.size + 1) 3 1 (.slice (some ⟨Y, 0, none⟩) n cy) n (ivs (List.replicate n 16777215))
  xy : X ≠ Y
  px : P ≠ X
  ext : Ext w wr
theorem DecJ.put {bw bh : Nat} {w wr w' : World} {X Y P n cx cy : Nat} {C C' : List Int} (h : DecJ bw bh w wr X Y P n cx cy C) (hg : wr.grownBy w' (some X)) (ho : w'.ownsRow (w.heap.size + 1) 3 1 (.slice (some ⟨X, 0, none⟩) n cx) n (ivs C')) : DecJ bw bh w w' X Y P n cx cy C' := by
  have hX := (h.c.lt X rfl).1
  exact ⟨h.res.grown' hg (fun e => by injection e with e; omega), h.box.grown' hg (fun e => h.px (by injection e with e; exact e.symm)), ho,
    own_keep2 h.z hg (fun g h1 h2 => h.xy (by simp [Value.ownBlock] at h1; injection h2 with h2; omega)), h.xy, h.px, h.ext.grown hg (fun k hk => Option.some.inj hk ▸ (by omega))⟩
theorem DecJ.ext' {bw bh : Nat} {w wr w' : World} {X Y P n cx cy : Nat} {C : List Int} (h : DecJ bw bh w wr X Y P n cx cy C) (e : Ext wr w') : DecJ bw bh w w' X Y P n cx cy C :=
  ⟨h.res.ext e, h.box.ext e, ownsRow_ext h.c e, ownsRow_ext h.z e, h.xy, h.px, h.ext.trans e⟩
theorem DecJ.done {r : ByteArray} {bw bh : Nat} {w wr : World} {X Y P n cx cy : Nat} {C : List Int} (h : DecJ bw bh w wr X Y P n cx cy C) (hn : n = bw * bh) (hJ : ∀ p, p < n → C[p]? = (imC r bw bh)[p]?) {W' : World} (hg : wr.grownBy W' (some w.heap.size)) :
    ImR W' (.agg #[.int .i64 bw, .int .i64 bh, .slice (some ⟨X, 0, none⟩) n cx, .slice (some ⟨Y, 0, none⟩) n cy]) ⟨bw, bh, imC r bw bh, List.replicate (bw * bh) 16777215⟩ ∧ Ext w W' := by
  have hc := own_grown h.c hg (by omega)
  have hz := own_grown h.z hg (by omega)
  have hCl : C.length = n := by have := h.c.1; simpa using this
  have hC : C = imC r bw bh := list_same0 hCl (by rw [imC_len, hn]) hJ
  obtain ⟨a1, c1, e1, r1⟩ := ownsRow_rd hc
  obtain ⟨a2, c2, e2, r2⟩ := ownsRow_rd hz
  obtain ⟨rfl, rfl⟩ : some ⟨X, 0, none⟩ = a1 ∧ cx = c1 := by simpa using e1
  obtain ⟨rfl, rfl⟩ : some ⟨Y, 0, none⟩ = a2 ∧ cy = c2 := by simpa using e2
  refine ⟨⟨some ⟨X, 0, none⟩, some ⟨Y, 0, none⟩, cx, cy, ?_, ?_, ?_⟩, h.ext.grown hg (fun k hk => Option.some.inj hk ▸ Nat.le_refl _)⟩
  · simp only [imC_len, List.length_replicate, hn]
  · rw [← hC]
    show Rd _ 1 _ C.length cx (ivs C)
    rw [hCl]; exact r1
  · show Rd _ 1 _ (List.replicate (bw * bh) (16777215 : Int)).length cy _
    rw [List.length_replicate, ← hn]; exact r2
theorem rpack255 (a b c : Nat) (w : World) (ha : a ≤ 255) (hb : b ≤ 255) (hc : c ≤ 255) :
    Calls Tryd.prog 24 #[.agg #[.int .i64 a, .int .i64 b, .int .i64 c, .int .i64 255]] w fun e w' => e = .returned (.int .i64 (pk a b c 255)) ∧ Ext w w' := rpack_any a b c 255 w ha hb hc (by decide)
set_option maxRecDepth 10000 in
set_option maxHeartbeats 2000000 in
theorem rdecode_any (s : ByteArray) (w : World) (hs : s.size ≤ 100000) : Calls Tryd.prog 12 #[.string s] w (DecP s w) := by
  have HR0 := Lib.hid (Blk.new w 24 #[.int .i64 0, .int .i64 0, .slice none 0 0, .slice none 0 0])
  have HE0 := Lib.hid ((Ext.refl w).alloc (.cells #[.int .i64 0, .int .i64 0, .slice none 0 0, .slice none 0 0] 24))
  have Hs := Lib.hid hs
  have N1 := q1_size s; have N2 := q2_size s; have N3 := q3_size s; have N4 := q4_size s; have N5 := q5_size s
  have T1 := Lib.hid (fun W => after_any s sP6 W (by omega) (by decide))
  have T2 := Lib.hid (fun W => rnumber_any (q1 s) W (by omega))
  have T3 := Lib.hid (fun W => after_any (q2 s) sBl W (by omega) (by decide))
  have T4 := Lib.hid (fun W => rnumber_any (q3 s) W (by omega))
  have T5 := Lib.hid (fun W => after_any (q4 s) s255 W (by omega) (by decide))
  have HN5 := Lib.hid N5
  obtain ⟨hh1, hh2⟩ := head_same s
  have HH1 := Lib.hid hh1; have HH2 := Lib.hid hh2
  clear N1 N2 N3 N4 N5 hs hh1 hh2
  go_enter Tryd.func12, Tryd.ntmps12
  go_wp2_with fail
  refine (T1.out _).mono ?_
  rintro e w1 ⟨rfl, rfl⟩
  clear T1
  go_wp2_with fail
  refine (T2.out _).mono ?_
  rintro e w2 ⟨rfl, hE⟩
  have HR2 := Lib.hid (HR0.out.ext hE); have HE2 := Lib.hid (HE0.out.trans hE)
  clear hE HR0 HE0 T2
  go_wp2_with fail
  refine (T3.out _).mono ?_
  rintro e w3 ⟨rfl, rfl⟩
  clear T3
  go_wp2_with fail
  refine (T4.out _).mono ?_
  rintro e w4 ⟨rfl, hE⟩
  have HR4 := Lib.hid (HR2.out.ext hE); have HE4 := Lib.hid (HE2.out.trans hE)
  clear hE HR2 HE2 T4
  go_wp2_with fail
  refine (T5.out _).mono ?_
  rintro e w5 ⟨rfl, rfl⟩
  clear T5
  obtain ⟨b1, h1⟩ : ∃ b, b = pre sP6 s := ⟨_, rfl⟩
  obtain ⟨b2, h2⟩ : ∃ b, b = dgOk (q1 s) := ⟨_, rfl⟩
  obtain ⟨b3, h3⟩ : ∃ b, b = pre sBl (q2 s) := ⟨_, rfl⟩
  obtain ⟨b4, h4⟩ : ∃ b, b = dgOk (q3 s) := ⟨_, rfl⟩
  obtain ⟨b5, h5⟩ : ∃ b, b = pre s255 (q4 s) := ⟨_, rfl⟩
  obtain ⟨S5, hS5⟩ : ∃ S, S = q5 s := ⟨_, rfl⟩
  have hS5' : raft s255 (q4 s) = S5 := hS5.symm
  obtain ⟨bw, hbw⟩ : ∃ k, k = valD (dg_ (q1 s)) := ⟨_, rfl⟩
  obtain ⟨bh, hbh⟩ : ∃ k, k = valD (dg_ (q3 s)) := ⟨_, rfl⟩
  have wl : bw < 10000 := by have := dg_lt (q1 s) (dg_ (q1 s)).length; rw [List.take_length] at this; rw [hbw]; exact this
  have hl : bh < 10000 := by have := dg_lt (q3 s) (dg_ (q3 s)).length; rw [List.take_length] at this; rw [hbh]; exact this
  have HOK : Hid ((b1 && b2 && b3 && b4 && b5) = headOk s) := Lib.hid (by rw [h1, h2, h3, h4, h5]; exact HH1.out)
  have HW : Hid (headOk s = true → bw = wid s ∧ bh = hei s ∧ S5 = p5 s) := Lib.hid (fun h => by
    obtain ⟨e1, e2, e3⟩ := HH2.out h
    exact ⟨by rw [hbw, e1]; rfl, by rw [hbh, e2]; rfl, by rw [hS5, e3]⟩)
  have HSS : Hid (S5.size ≤ 100000) := Lib.hid (by have := HN5.out; have := Hs.out; rw [hS5]; omega)
  rw [hS5', ← hbw, ← hbh, ← h1, ← h2, ← h3, ← h4, ← h5]
  clear h1 h2 h3 h4 h5 hS5 hS5' hbw hbh HH1 HH2 HN5 Hs
  obtain ⟨r0, r1, r2, r3⟩ := HR4.out.four
  obtain ⟨f0, f1, f2, f3⟩ := HR4.out.frees4
  by_cases hall : (b1 && b2 && b3 && b4 && b5) = false
  · have HD := Lib.hid (decE_head (by rw [← HOK.out]; exact hall))
    have hcs : b1 = false ∨ (b1 = true ∧ b2 = false) ∨ (b1 = true ∧ b2 = true ∧ b3 = false) ∨ (b1 = true ∧ b2 = true ∧ b3 = true ∧ b4 = false) ∨ (b1 = true ∧ b2 = true ∧ b3 = true ∧ b4 = true ∧ b5 = false) := by
      revert hall
      cases b1 <;> cases b2 <;> cases b3 <;> cases b4 <;> cases b5 <;> decide
    clear hall HOK HW
    rcases hcs with rfl | ⟨rfl, rfl⟩ | ⟨rfl, rfl, rfl⟩ | ⟨rfl, rfl, rfl, rfl⟩ | ⟨rfl, rfl, rfl, rfl, rfl⟩
    all_goals
      go_wp2_with fail
      try simp only [Exit.inBlock, Exit.then]
      obtain ⟨s0, s1, s2, s3⟩ := (HR4.out.set4 (.int .i64 0) (.int .i64 0) (.slice none 0 0) (.slice none 0 0)).four
      refine bodyPost_ret (v := .tuple #[.agg #[.int .i64 0, .int .i64 0, .slice none 0 0, .slice none 0 0], .int .i64 11]) (by simp [results, Tryd.results12, go_sem, s0, s1, s2, s3]) rfl ?_
      exact decP_no HD.out (by decide) (HE4.out.set4 (Nat.le_refl _) _ _ _ _)
  · have hok : headOk s = true := by
      rw [← HOK.out]
      exact eq_true_of_ne_false hall
    have hcs : b1 = true ∧ b2 = true ∧ b3 = true ∧ b4 = true ∧ b5 = true := by
      revert hall
      cases b1 <;> cases b2 <;> cases b3 <;> cases b4 <;> cases b5 <;> decide
    obtain ⟨rfl, rfl, rfl, rfl, rfl⟩ := hcs
    have HKO := Lib.hid hok
    obtain ⟨e1, e2, e3⟩ := HW.out hok
    have HBW := Lib.hid e1; have HBH := Lib.hid e2; have HS5 := Lib.hid e3
    clear hall hok HOK HW e1 e2 e3 r0 r1 r2 r3 f0 f1 f2 f3
    by_cases hsz : 1 ≤ bw ∧ bw ≤ 1024 ∧ 1 ≤ bh ∧ bh ≤ 1024
    · obtain ⟨g1, g2, g3, g4⟩ := hsz
      have HSZ : Hid (1 ≤ wid s ∧ wid s ≤ 1024 ∧ 1 ≤ hei s ∧ hei s ≤ 1024) := Lib.hid (by rw [← HBW.out, ← HBH.out]; exact ⟨g1, g2, g3, g4⟩)
      go_wp2_with fail
      refine (rnew_yes bw bh _ g1 g2 g3 g4).mono ?_
      rintro e w6 ⟨X, Y, cx, cy, rfl, hC, hZ, hXY, hE⟩
      have hmul := mul_le bw bh g2 g4
      have hpos : 0 < bw * bh := Nat.mul_pos g1 g3
      obtain ⟨n, hn⟩ : ∃ n, n = bw * bh := ⟨_, rfl⟩
      rw [← hn] at hC hZ hmul hpos ⊢
      have HN := Lib.hid hn
      have hb5 := HR4.out.lt
      have hx6 := (hC.lt X rfl).2
      have hy6 := (hZ.lt Y rfl).2
      have hx5 := (hC.lt X rfl).1
      have hy5 := (hZ.lt Y rfl).1
      have HI0 : Hid (DecJ bw bh w (w6.alloc (.cells #[.int .i64 bw, .int .i64 bh, .slice (some ⟨X, 0, none⟩) n cx, .slice (some ⟨Y, 0, none⟩) n cy] 24)) X Y w6.heap.size n cx cy (List.replicate n 0)) := Lib.hid
        ⟨(HR4.out.ext hE).alloc _, Blk.new _ _ _, (ownsRow_base hC (by omega)).alloc _, (ownsRow_base hZ (by omega)).alloc _, hXY, by omega, (HE4.out.trans hE).alloc _⟩
      clear hC hZ hXY hE hb5 hx6 hy6 hx5 hy5 hn HR4 HE4
      obtain ⟨P, hP⟩ : ∃ P, P = w6.heap.size := ⟨_, rfl⟩
      rw [← hP] at HI0
      have HP := Lib.hid hP
      have m1 : 0 ≤ 3 * (bw : Int) * bh := by
        have : (3 * (bw : Int) * bh) = ((3 * bw * bh : Nat) : Int) := by simp
        omega
      have m2 : 3 * (bw : Int) * bh ≤ 3145728 := by
        have h1 : (3 * (bw : Int) * bh) = ((3 * (bw * bh) : Nat) : Int) := by rw [← Nat.mul_assoc]; simp
        rw [h1, ← HN.out]; omega
      have hsize5 : (S5.size : Int) ≤ 100000 := by have := HSS.out; omega
      by_cases hlen : S5.size = 3 * bw * bh
      · have t1 : ((S5.size : Int) != 3 * (bw : Int) * bh) = false := by
          simp only [bne_eq_false_iff_eq]; rw [hlen]; simp
        have HD : Hid (decE s = 0) := Lib.hid (decE_yes HKO.out HSZ.out (by rw [← HS5.out, hlen, HBW.out, HBH.out]))
        have HLN : Hid (S5.size = 3 * n) := Lib.hid (by rw [hlen, HN.out, Nat.mul_assoc])
        clear hlen hP
        go_wp2_with fail
        clear t1 m1 m2
        obtain ⟨W0, hW0⟩ : ∃ W0 : World, W0 = w6.alloc (.cells #[.int .i64 bw, .int .i64 bh, .slice (some ⟨X, 0, none⟩) n cx, .slice (some ⟨Y, 0, none⟩) n cy] 24) := ⟨_, rfl⟩
        rw [← hW0] at HI0 ⊢
        rw [← HP.out]
        clear hW0
        have HI1 : Hid (∃ C : List Int, DecJ bw bh w W0 X Y P n cx cy C ∧ C.length = n) := Lib.hid ⟨_, HI0.out, by simp⟩
        clear HI0
        have hcast : ((n : Nat) : Int) = (bw : Int) * bh := by rw [HN.out]; simp
        have HCA := Lib.hid hcast.symm
        have m1 : 0 ≤ (bw : Int) * bh := by omega
        have m2 : (bw : Int) * bh ≤ 1048576 := by omega
        have hne : ((bw : Int) == 0) = false := by simp; omega
        clear hcast
        go_loopw [13] (fun a wr => ∃ (i : Nat) (C : List Int), i ≤ n ∧ a = .int .i64 i ∧ Hid (DecJ bw bh w wr X Y P n cx cy C) ∧ Hid (∀ p, p < i → C[flip bw bh p]? = (imC S5 bw bh)[flip bw bh p]?)) (fun a _ => n - (intOf a).toNat)
        case atStart =>
          obtain ⟨C, hC, hl⟩ := HI1.out
          exact ⟨0, C, Nat.zero_le _, rfl, Lib.hid hC, Lib.hid (fun p h1 => by omega)⟩
        case round =>
          clear HI1
          obtain ⟨i, C, hi, rfl, HI, HJ⟩ := hrel
          by_cases hlt : i < n
          · have tl : decide ((i : Int) < (bw : Int) * bh) = true := by rw [HCA.out]; simp; omega
            have HCL : Hid (C.length = n) := Lib.hid (by have := HI.out.c.1; simpa using this)
            obtain ⟨k1, k2, k3⟩ := parts_of (w := bw) (h := bh) (i := i) (by rw [← HN.out]; exact hlt)
            obtain ⟨hf, hff⟩ := flip_lt (w := bw) (h := bh) (i := i) (by rw [← HN.out]; exact hlt)
            rw [← HN.out] at hf
            obtain ⟨qi, hqi⟩ : ∃ qi, qi = i / bw := ⟨_, rfl⟩
            obtain ⟨ri, hri⟩ : ∃ ri, ri = i % bw := ⟨_, rfl⟩
            obtain ⟨id, hid⟩ : ∃ id, id = flip bw bh i := ⟨_, rfl⟩
            have hid2 : id = (bh - 1 - qi) * bw + ri := by rw [hid, hqi, hri]; rfl
            have HID := Lib.hid hid
            have HFF := Lib.hid hff
            have t2 : (i : Int).tdiv bw = (qi : Int) := by rw [hqi, Int.tdiv_eq_ediv_of_nonneg (by omega)]; simp
            have t3 : (i : Int).tmod bw = (ri : Int) := by rw [hri, Int.tmod_eq_emod_of_nonneg (by omega)]; simp
            rw [← hqi] at k1 k3
            rw [← hri] at k2 k3
            rw [← hid] at hf
            obtain ⟨yv, hyv⟩ : ∃ yv, yv = bh - 1 - qi := ⟨_, rfl⟩
            rw [← hyv] at hid2
            obtain ⟨yb, hyb⟩ : ∃ yb, yb = yv * bw := ⟨_, rfl⟩
            have hyb2 : (yv : Int) * bw = (yb : Int) := by rw [hyb]; simp
            rw [← hyb] at hid2
            obtain ⟨q, hq⟩ : ∃ q, q = 3 * i := ⟨_, rfl⟩
            have HQ := Lib.hid hq
            have hq3 : q + 2 < S5.size := by have := HLN.out; omega
            have u1 : IntKind.i64.wrap ((bh : Int) - 1) = (bh : Int) - 1 := by rw [IntKind.wrap_i64]; omega
            have u2 : IntKind.i64.wrap ((bh : Int) - 1 - qi) = (yv : Int) := by rw [IntKind.wrap_i64]; omega
            have u3 : IntKind.i64.wrap ((yv : Int) * bw) = (yb : Int) := by rw [hyb2, IntKind.wrap_i64]; omega
            have u4 : IntKind.i64.wrap ((yb : Int) + ri) = (id : Int) := by rw [IntKind.wrap_i64]; omega
            have u5 : IntKind.i64.wrap (3 * (i : Int)) = (q : Int) := by rw [IntKind.wrap_i64]; omega
            have u6 : IntKind.i64.wrap ((q : Int) + 1) = (q : Int) + 1 := by rw [IntKind.wrap_i64]; omega
            have u7 : IntKind.i64.wrap ((q : Int) + 2) = (q : Int) + 2 := by rw [IntKind.wrap_i64]; omega
            have v1 : (q : Int) < S5.size := by omega
            have v2 : (q : Int) + 1 < S5.size := by omega
            have v3 : (q : Int) + 2 < S5.size := by omega
            have v4 : (0 : Int) ≤ (q : Int) + 1 := by omega
            have v5 : (0 : Int) ≤ (q : Int) + 2 := by omega
            have v6 : ((q : Int) + 1).toNat = q + 1 := by omega
            have v7 : ((q : Int) + 2).toNat = q + 2 := by omega
            have v8 : (id : Int) < n := by omega
            have n1 : q < S5.size := by omega
            have n2 : q + 1 < S5.size := by omega
            have z1 : wrap64 (S5[q].toNat : Int) = (S5[q].toNat : Int) := by have := S5[q].toNat_lt; unfold wrap64; omega
            have z2 : wrap64 (S5[q + 1].toNat : Int) = (S5[q + 1].toNat : Int) := by have := S5[q + 1].toNat_lt; unfold wrap64; omega
            have z3 : wrap64 (S5[q + 2].toNat : Int) = (S5[q + 2].toNat : Int) := by have := S5[q + 2].toNat_lt; unfold wrap64; omega
            have PK := Lib.hid (fun W => rpack255 S5[q].toNat S5[q + 1].toNat S5[q + 2].toNat W (by have := S5[q].toNat_lt; omega) (by have := S5[q + 1].toNat_lt; omega) (by have := S5[q + 2].toNat_lt; omega))
            obtain ⟨-, -, x2, -⟩ := HI.out.box.four
            clear hff hid hid2 hqi hri hyv hyb hyb2 hq k3
            go_upto_region 16 with fail
            refine wp_region_later_tail 34 (by kernel_rfl) (by kernel_rfl) ?_
            simp only [List.take_succ_cons, List.take_zero, List.drop_succ_cons, List.drop_zero]
            repeat (go_big_quiet_step ((go_at_call 24; with_reducible exact Calls.later _ (PK.out _))))
            refine wpQuiet_nil ?_
            intro y
            have hI := HI.out.ext' y.ext
            obtain ⟨xs, hxs⟩ : ∃ xs : List Value, xs = ivs C := ⟨_, rfl⟩
            have hc := hI.c
            rw [← hxs] at hc
            have HXS := Lib.hid hxs
            have HI2 := Lib.hid hI
            refine wpList_store_own rfl (.tmp 118) (.tmp 117) 3 rfl (w.heap.size + 1) 3 1 X n cx xs id rfl (.int .i64 (pk S5[q].toNat S5[q + 1].toNat S5[q + 2].toNat 255)) rfl hc size_int ?c1 ?c2 ?_
            case c1 => simp [Value.cells]; rfl
            case c2 => simp [Value.cells]; omega
            intro w7 ho hg
            have ho2 : w7.ownsRow (w.heap.size + 1) 3 1 (.slice (some ⟨X, 0, none⟩) n cx) n (ivs (C.set id (pk S5[q].toNat S5[q + 1].toNat S5[q + 2].toNat 255))) := by
              rw [← ivs_put (by rw [HCL.out]; exact hf), ← HXS.out]; exact ho
            have HI3 := Lib.hid (HI2.out.put hg ho2)
            have hcol : pk S5[q].toNat S5[q + 1].toNat S5[q + 2].toNat 255 = colr S5 i := by
              unfold colr
              rw [← HQ.out, byte_getD (s := S5) (i := q) (by omega), byte_getD (s := S5) (i := q + 1) (by omega), byte_getD (s := S5) (i := q + 2) (by omega)]
            have HJ2 : Hid (∀ p, p < i + 1 → (C.set id (pk S5[q].toNat S5[q + 1].toNat S5[q + 2].toNat 255))[flip bw bh p]? = (imC S5 bw bh)[flip bw bh p]?) := Lib.hid (fun p h1 => by
              by_cases he : id = flip bw bh p
              · rw [← he, List.getElem?_set_self (by rw [HCL.out]; exact hf), hcol, imC_get (by rw [← HN.out]; exact hf), HID.out, HFF.out]
              · rw [List.getElem?_set_ne he]
                have hpi : p ≠ i := fun e => he (by rw [HID.out, e])
                exact HJ.out p (by omega))
            obtain ⟨C2, hC2⟩ : ∃ C2, C2 = C.set id (pk S5[q].toNat S5[q + 1].toNat S5[q + 2].toNat 255) := ⟨_, rfl⟩
            rw [← hC2] at HI3 HJ2
            clear ho ho2 hg hc hxs hI hC2 hcol PK z1 z2 z3 u1 u2 u3 u4 u5 u6 u7 t2 t3 x2 HI HJ HI2 tl
            go_wp2_with fail
            go_roundw
            case rel => first | exact ⟨i + 1, C2, by omega, by go_num, HI3, HJ2⟩ | ((repeat apply Exists.intro); exact ⟨⟨i + 1, C2, by omega, by go_num, HI3, HJ2⟩, rfl⟩)
            case measure => simp [intOf]; omega
          · obtain rfl : i = n := by omega
            have tl : decide ((i : Int) < (bw : Int) * bh) = false := by rw [HCA.out]; simp
            obtain ⟨q0, q1, q2, q3⟩ := HI.out.box.four
            obtain ⟨r0, r1, r2, r3⟩ := HI.out.res.four
            obtain ⟨f0, f1, f2, f3⟩ := HI.out.res.frees4
            obtain ⟨W2, rfl⟩ : ∃ W2 : World, W2 = wr := ⟨_, rfl⟩
            go_wp2_with fail
            try simp only [Exit.inBlock, Exit.then]
            obtain ⟨s0, s1, s2, s3⟩ := (HI.out.res.set4 (.int .i64 bw) (.int .i64 bh) (.slice (some ⟨X, 0, none⟩) i cx) (.slice (some ⟨Y, 0, none⟩) i cy)).four
            refine bodyPost_ret (v := .tuple #[.agg #[.int .i64 bw, .int .i64 bh, .slice (some ⟨X, 0, none⟩) i cx, .slice (some ⟨Y, 0, none⟩) i cy], .int .i64 0]) (by simp [results, Tryd.results12, go_sem, s0, s1, s2, s3]) rfl ?_
            have hJ2 : ∀ p, p < i → C[p]? = (imC S5 bw bh)[p]? := fun p hp => by
              obtain ⟨a1, a2⟩ := flip_lt (w := bw) (h := bh) (i := p) (by rw [← HN.out]; exact hp)
              have := HJ.out (flip bw bh p) (by rw [HN.out]; exact a1)
              rw [a2] at this
              exact this
            have hd := HI.out.done HN.out hJ2 (grown_trans (grown_trans (grown_trans (grown_set W2 w.heap.size 0 (.int .i64 bw)) (grown_set _ _ 1 (.int .i64 bh))) (grown_set _ _ 2 (.slice (some ⟨X, 0, none⟩) i cx))) (grown_set _ _ 3 (.slice (some ⟨Y, 0, none⟩) i cy)))
            exact decP_yes HD.out HS5.out HBW.out HBH.out hd.1 hd.2
      · have t1 : ((S5.size : Int) != 3 * (bw : Int) * bh) = true := by
          simp only [bne_iff_ne, ne_eq]
          have : (3 * (bw : Int) * bh) = ((3 * bw * bh : Nat) : Int) := by simp
          omega
        have HD : Hid (decE s = 11) := Lib.hid (decE_len HKO.out HSZ.out (by rw [← HBW.out, ← HBH.out, ← HS5.out]; exact hlen))
        obtain ⟨r0, r1, r2, r3⟩ := HI0.out.res.four
        obtain ⟨f0, f1, f2, f3⟩ := HI0.out.res.frees4
        clear hlen hP
        go_wp2_with fail
        try simp only [Exit.inBlock, Exit.then]
        obtain ⟨s0, s1, s2, s3⟩ := (HI0.out.res.set4 (.int .i64 0) (.int .i64 0) (.slice none 0 0) (.slice none 0 0)).four
        refine bodyPost_ret (v := .tuple #[.agg #[.int .i64 0, .int .i64 0, .slice none 0 0, .slice none 0 0], .int .i64 11]) (by simp [results, Tryd.results12, go_sem, s0, s1, s2, s3]) rfl ?_
        exact decP_no HD.out (by decide) (HI0.out.ext.set4 (Nat.le_refl _) _ _ _ _)
    · have HD : Hid (decE s = 10) := Lib.hid (decE_size HKO.out (by rw [← HBW.out, ← HBH.out]; exact hsz))
      have hn : ¬ (1 ≤ (bw : Int) ∧ (bw : Int) ≤ 1024 ∧ 1 ≤ (bh : Int) ∧ (bh : Int) ≤ 1024) := fun h => hsz (by omega)
      have HN := Lib.hid hn
      clear hsz hn
      go_wp2_with fail
      refine (rnew_no _ _ _ HN.out).mono ?_
      rintro e w6 ⟨rfl, hE⟩
      have HR6 := Lib.hid ((HR4.out.ext hE).alloc (.cells #[.int .i64 0, .int .i64 0, .slice none 0 0, .slice none 0 0] 24))
      have HE6 := Lib.hid ((HE4.out.trans hE).alloc (.cells #[.int .i64 0, .int .i64 0, .slice none 0 0, .slice none 0 0] 24))
      obtain ⟨r0, r1, r2, r3⟩ := HR6.out.four
      obtain ⟨f0, f1, f2, f3⟩ := HR6.out.frees4
      clear hE HR4 HE4
      go_wp2_with fail
      try simp only [Exit.inBlock, Exit.then]
      obtain ⟨s0, s1, s2, s3⟩ := (HR6.out.set4 (.int .i64 0) (.int .i64 0) (.slice none 0 0) (.slice none 0 0)).four
      refine bodyPost_ret (v := .tuple #[.agg #[.int .i64 0, .int .i64 0, .slice none 0 0, .slice none 0 0], .int .i64 10]) (by simp [results, Tryd.results12, go_sem, s0, s1, s2, s3]) rfl ?_
      exact decP_no HD.out (by decide) (HE6.out.set4 (Nat.le_refl _) _ _ _ _)
end Go.Proofs.YtpjkhnkbijpmnaaDoor
