/- Proof text: the image of a text (ppm.Decode). By an AI agent. No condition beyond what each theorem states. -/
import Derived.Test.YtpjkhnkbijpmnaaDoorPN
set_option linter.unusedVariables false
set_option linter.unusedSimpArgs false
namespace Go.Proofs.YtpjkhnkbijpmnaaDoor
open Go.RowKit
/-- What must come next, whichever way it goes. -/
theorem text_any (b : Nat) (s want : ByteArray) (bad : Bool) (w : World) (hB : Blk w b 42 #[.string s, .bool bad]) (hs : s.size ≤ 1000000) (hw : want.size ≤ 1000000) :
    Calls Tryd.prog 17 #[.pointer (some ⟨b, 0, none⟩), .string want] w fun e w' => e = .returned (.tuple #[]) ∧ Blk w' b 42 #[.string (aft want s), .bool (bad || !pre want s)] ∧ w.grownBy w' (some b) := by
  cases hp : pre want s with
  | true =>
    obtain ⟨h1, h2⟩ := pre_yes hp
    refine (text_yes b s want bad w hB hs h1 h2).mono ?_
    rintro e w' ⟨rfl, rfl⟩
    refine ⟨rfl, ?_, grown_set _ _ _ _⟩
    unfold aft
    rw [if_pos hp, Bool.not_true, Bool.or_false]
    exact reader_put hB
  | false =>
    refine (text_no b s want bad w hB hs hw (pre_no hp)).mono ?_
    rintro e w' ⟨rfl, rfl⟩
    refine ⟨rfl, ?_, grown_set _ _ _ _⟩
    unfold aft
    rw [if_neg (by rw [hp]; decide), Bool.not_false, Bool.or_true]
    exact reader_bad hB
theorem pack255 (a b c : Nat) (w : World) (ha : a ≤ 255) (hb : b ≤ 255) (hc : c ≤ 255) :
    Calls Tryd.prog 20 #[.agg #[.int .i64 a, .int .i64 b, .int .i64 c, .int .i64 255]] w fun e w' => e = .returned (.int .i64 (pk a b c 255)) ∧ Ext w w' := pack_any a b c 255 w ha hb hc (by decide)
theorem own_grown {w w' : World} {base : Nat} {e : TypeId} {size : Nat} {v : Value} {n : Nat} {xs : List Value} {b : Nat} (h : w.ownsRow base e size v n xs) (hg : w.grownBy w' (some b)) (hb : b < base) : w'.ownsRow base e size v n xs :=
  own_keep2 h hg (fun g h1 h2 => by have := (h.lt g h1).1; injection h2 with h2; omega)
/-- In the loop: the result's box, the reader's box at R, the image's box at P, its row at X. -/
structure DecI (r : ByteArray) (bw bh : Nat) (w wr : World) (X Y P : Nat) (n cx cy : Nat) (C : List Int) : Prop where
  res : Blk wr w.heap.size 24 #[.int .i64 0, .int .i64 0, .slice none 0 0, .slice none 0 0]
  rd : Blk wr (w.heap.size + 1) 42 #[.string r, .bool false]
  box : Blk wr P 24 #[.int .i64 bw, .int .i64 bh, .slice (some ⟨X, 0, none⟩) n cx, .slice (some ⟨Y, 0, none⟩) n cy]
  c : wr.ownsRow (w.heap.size + 2) 3 1 (.slice (some ⟨X, 0, none⟩) n cx) n (ivs C)
  z : wr.ownsRow (w.heap.size + 2) 3 1 (.slice (some ⟨Y, 0, none⟩) n cy) n (ivs (List.replicate n 16777215))
  xy : X ≠ Y
  px : P ≠ X
  py : P ≠ Y
  pb : w.heap.size + 2 ≤ P
  ext : Ext w wr
theorem DecI.put {r : ByteArray} {bw bh : Nat} {w wr w' : World} {X Y P n cx cy : Nat} {C C' : List Int} (h : DecI r bw bh w wr X Y P n cx cy C) (hg : wr.grownBy w' (some X)) (ho : w'.ownsRow (w.heap.size + 2) 3 1 (.slice (some ⟨X, 0, none⟩) n cx) n (ivs C')) : DecI r bw bh w w' X Y P n cx cy C' := by
  have hX := (h.c.lt X rfl).1
  exact ⟨h.res.grown' hg (fun e => by injection e with e; omega), h.rd.grown' hg (fun e => by injection e with e; omega), h.box.grown' hg (fun e => h.px (by injection e with e; exact e.symm)), ho,
    own_keep2 h.z hg (fun g h1 h2 => h.xy (by simp [Value.ownBlock] at h1; injection h2 with h2; omega)), h.xy, h.px, h.py, h.pb, h.ext.grown hg (fun k hk => Option.some.inj hk ▸ (by omega))⟩
theorem DecI.ext' {r : ByteArray} {bw bh : Nat} {w wr w' : World} {X Y P n cx cy : Nat} {C : List Int} (h : DecI r bw bh w wr X Y P n cx cy C) (e : Ext wr w') : DecI r bw bh w w' X Y P n cx cy C :=
  ⟨h.res.ext e, h.rd.ext e, h.box.ext e, ownsRow_ext h.c e, ownsRow_ext h.z e, h.xy, h.px, h.py, h.pb, h.ext.trans e⟩
theorem byte_getD {s : ByteArray} {i : Nat} (h : i < s.size) : s[i] = s.data.toList.getD i 0 := by
  rw [List.getD_eq_getElem?_getD, List.getElem?_eq_getElem (by rw [← Lib.size_eq]; exact h)]
  rfl
/-- The end: the image is handed back. -/
theorem DecI.done {r : ByteArray} {bw bh : Nat} {w wr : World} {X Y P n cx cy : Nat} {C : List Int} (h : DecI r bw bh w wr X Y P n cx cy C) (hn : n = bw * bh) (hJ : ∀ p, p < n → C[p]? = (imC r bw bh)[p]?) {W' : World} (hg : wr.grownBy W' (some w.heap.size)) :
    ImR W' (.agg #[.int .i64 bw, .int .i64 bh, .slice (some ⟨X, 0, none⟩) n cx, .slice (some ⟨Y, 0, none⟩) n cy]) ⟨bw, bh, imC r bw bh, List.replicate (bw * bh) 16777215⟩ ∧ Ext w W' := by
  have hc := own_grown h.c hg (by omega)
  have hz := own_grown h.z hg (by omega)
  have hCl : C.length = n := by have := h.c.1; simpa using this
  have hC : C = imC r bw bh := list_same0 hCl (by rw [imC_len, hn]) hJ
  obtain ⟨a1, c1, e1, r1⟩ := ownsRow_rd hc
  obtain ⟨a2, c2, e2, r2⟩ := ownsRow_rd hz
  obtain ⟨rfl, rfl⟩ : some ⟨X, 0, none⟩ = a1 ∧ cx = c1 := by simpa using e1
  obtain ⟨rfl, rfl⟩ : some ⟨Y, 0, none⟩ = a2 ∧ cy = c2 := by simpa using e2
  refine ⟨⟨some ⟨X, 0, none⟩, some ⟨Y, 0, none⟩, cx, cy, ?_, ?_, ?_⟩, h.ext.grown hg (fun k hk => Option.some.inj hk ▸ Nat.le_refl _)⟩
  · simp only [imC_len, List.length_replicate, hn]
  · rw [← hC]
    show Rd _ 1 _ C.length cx (ivs C)
    rw [hCl]; exact r1
  · show Rd _ 1 _ (List.replicate (bw * bh) (16777215 : Int)).length cy _
    rw [List.length_replicate, ← hn]; exact r2
theorem decP_yes {s : ByteArray} {w w' : World} {v : Value} {r : ByteArray} {bw bh : Nat} (h0 : decE s = 0) (hr : r = p5 s) (hw : bw = wid s) (hh : bh = hei s) (hv : ImR w' v ⟨bw, bh, imC r bw bh, List.replicate (bw * bh) 16777215⟩) (hE : Ext w w') : DecP s w (.returned (.tuple #[v, .int .i64 0])) w' := by
  refine ⟨v, by rw [h0], ?_, hE⟩
  unfold decIm
  rw [if_pos h0, ← hr, ← hw, ← hh]
  exact hv
theorem head_cases (s : ByteArray) : headOk s = !(((((false || !pre sP6 s) || !dgOk (p1 s)) || !pre sBl (p2 s)) || !dgOk (p3 s)) || !pre s255 (p4 s)) := by
  unfold headOk
  cases pre sP6 s <;> cases dgOk (p1 s) <;> cases pre sBl (p2 s) <;> cases dgOk (p3 s) <;> cases pre s255 (p4 s) <;> rfl
set_option maxRecDepth 10000 in
set_option maxHeartbeats 2000000 in
theorem decode_any (s : ByteArray) (w : World) (hs : s.size ≤ 100000) : Calls Tryd.prog 11 #[.string s] w (DecP s w) := by
  have B0 : Blk ((w.alloc (.cells #[.int .i64 0, .int .i64 0, .slice none 0 0, .slice none 0 0] 24)).alloc (.cells #[.string s, .bool false] 42)) w.heap.size 24 #[.int .i64 0, .int .i64 0, .slice none 0 0, .slice none 0 0] := (Blk.new _ _ _).alloc _
  have B1 : Blk ((w.alloc (.cells #[.int .i64 0, .int .i64 0, .slice none 0 0, .slice none 0 0] 24)).alloc (.cells #[.string s, .bool false] 42)) (w.heap.size + 1) 42 #[.string s, .bool false] := Blk.new' _ _ _ (by simp)
  have hE0 : Ext w ((w.alloc (.cells #[.int .i64 0, .int .i64 0, .slice none 0 0, .slice none 0 0] 24)).alloc (.cells #[.string s, .bool false] 42)) := by (repeat (first | with_reducible exact Ext.refl _ | with_reducible assumption | with_reducible refine Ext.alloc ?_ _ | with_reducible refine Ext.drew ?_ | with_reducible refine Ext.drewN ?_ _ | with_reducible refine Ext.later ?_ _ | (with_reducible refine Ext.setCell ?_ _ ?hp; case hp => first | (simp; done) | (simp; omega) | omega)))
  have HB0 := Lib.hid B0; have HB1 := Lib.hid B1; have HE0 := Lib.hid hE0
  have Hs := Lib.hid hs
  clear B0 B1 hE0
  have N1 := p1_size s; have N2 := p2_size s; have N3 := p3_size s; have N4 := p4_size s; have N5 := p5_size s
  have T1 := Lib.hid (fun W h => text_any (w.heap.size + 1) s sP6 false W h (by omega) (by decide))
  have T2 := Lib.hid (fun bad W h => number_any (w.heap.size + 1) (p1 s) bad W h (by omega))
  have T3 := Lib.hid (fun bad W h => text_any (w.heap.size + 1) (p2 s) sBl bad W h (by omega) (by decide))
  have T4 := Lib.hid (fun bad W h => number_any (w.heap.size + 1) (p3 s) bad W h (by omega))
  have T5 := Lib.hid (fun bad W h => text_any (w.heap.size + 1) (p4 s) s255 bad W h (by omega) (by decide))
  have HN5 := Lib.hid N5
  clear N1 N2 N3 N4 N5 hs
  go_enter Tryd.func11, Tryd.ntmps11
  go_wp2_with fail
  refine (T1.out _ HB1.out).mono ?_
  rintro e w1 ⟨rfl, hB, hg⟩
  have HB2 := Lib.hid hB
  have HR2 := Lib.hid (HB0.out.grown' hg (fun e => by injection e with e; omega))
  have HE2 := Lib.hid (HE0.out.grown hg (fun k hk => Option.some.inj hk ▸ by omega))
  clear hB hg HB0 HB1 HE0 T1
  go_wp2_with fail
  refine (T2.out _ _ HB2.out).mono ?_
  rintro e w2 ⟨rfl, hB, hg⟩
  have HB3 := Lib.hid hB
  have HR3 := Lib.hid (HR2.out.grown' hg (fun e => by injection e with e; omega))
  have HE3 := Lib.hid (HE2.out.grown hg (fun k hk => Option.some.inj hk ▸ by omega))
  clear hB hg HB2 HR2 HE2 T2
  go_wp2_with fail
  refine (T3.out _ _ HB3.out).mono ?_
  rintro e w3 ⟨rfl, hB, hg⟩
  have HB4 := Lib.hid hB
  have HR4 := Lib.hid (HR3.out.grown' hg (fun e => by injection e with e; omega))
  have HE4 := Lib.hid (HE3.out.grown hg (fun k hk => Option.some.inj hk ▸ by omega))
  clear hB hg HB3 HR3 HE3 T3
  go_wp2_with fail
  refine (T4.out _ _ HB4.out).mono ?_
  rintro e w4 ⟨rfl, hB, hg⟩
  have HB5 := Lib.hid hB
  have HR5 := Lib.hid (HR4.out.grown' hg (fun e => by injection e with e; omega))
  have HE5 := Lib.hid (HE4.out.grown hg (fun k hk => Option.some.inj hk ▸ by omega))
  clear hB hg HB4 HR4 HE4 T4
  go_wp2_with fail
  refine (T5.out _ _ HB5.out).mono ?_
  rintro e w5 ⟨rfl, hB, hg⟩
  have HR := Lib.hid (HR5.out.grown' hg (fun e => by injection e with e; omega))
  have HE := Lib.hid (HE5.out.grown hg (fun k hk => Option.some.inj hk ▸ by omega))
  have hh : ((((((false || !pre sP6 s) || !dgOk (p1 s)) || !pre sBl (p2 s)) || !dgOk (p3 s)) || !pre s255 (p4 s))) = !headOk s := by rw [head_cases, Bool.not_not]
  have hp5 : aft s255 (p4 s) = p5 s := rfl
  rw [hh, hp5] at hB
  have hw1 : valD (dg_ (p1 s)) = wid s := rfl
  have hw2 : valD (dg_ (p3 s)) = hei s := rfl
  rw [hw1, hw2]
  have HB := Lib.hid hB
  clear hB hg hh hp5 hw1 hw2 HB5 HR5 HE5 T5
  have wl := wid_lt s
  have hl := hei_lt s
  obtain ⟨bw, hbw⟩ : ∃ k, k = wid s := ⟨_, rfl⟩
  obtain ⟨bh, hbh⟩ : ∃ k, k = hei s := ⟨_, rfl⟩
  have HBW := Lib.hid hbw; have HBH := Lib.hid hbh
  rw [← hbw] at wl ⊢
  rw [← hbh] at hl ⊢
  clear hbw hbh
  cases hok : headOk s with
  | false =>
    rw [hok, Bool.not_false] at HB
    have HD := Lib.hid (decE_head hok)
    obtain ⟨q0, q1, -, -⟩ := HB.out.two
    obtain ⟨r0, r1, r2, r3⟩ := HR.out.four
    obtain ⟨f0, f1, f2, f3⟩ := HR.out.frees4
    clear hok
    go_wp2_with fail
    try simp only [Exit.inBlock, Exit.then]
    obtain ⟨s0, s1, s2, s3⟩ := (HR.out.set4 (.int .i64 0) (.int .i64 0) (.slice none 0 0) (.slice none 0 0)).four
    refine bodyPost_ret (v := .tuple #[.agg #[.int .i64 0, .int .i64 0, .slice none 0 0, .slice none 0 0], .int .i64 11]) (by simp [results, Tryd.results11, go_sem, s0, s1, s2, s3]) rfl ?_
    exact decP_no HD.out (by decide) (HE.out.set4 (Nat.le_refl _) _ _ _ _)
  | true =>
    rw [hok, Bool.not_true] at HB
    have HOK := Lib.hid hok
    clear hok
    by_cases hsz : 1 ≤ bw ∧ bw ≤ 1024 ∧ 1 ≤ bh ∧ bh ≤ 1024
    · obtain ⟨g1, g2, g3, g4⟩ := hsz
      have HSZ : Hid (1 ≤ wid s ∧ wid s ≤ 1024 ∧ 1 ≤ hei s ∧ hei s ≤ 1024) := Lib.hid (by rw [← HBW.out, ← HBH.out]; exact ⟨g1, g2, g3, g4⟩)
      obtain ⟨q0, q1, -, -⟩ := HB.out.two
      go_wp2_with fail
      refine (new_yes bw bh _ g1 g2 g3 g4).mono ?_
      rintro e w6 ⟨X, Y, rfl, hC, hZ, hXY, hE⟩
      have hmul := mul_le bw bh g2 g4
      have hpos : 0 < bw * bh := Nat.mul_pos g1 g3
      obtain ⟨n, hn⟩ : ∃ n, n = bw * bh := ⟨_, rfl⟩
      rw [← hn] at hC hZ hmul hpos ⊢
      have HN := Lib.hid hn
      have hb5 := HB.out.lt
      have hx6 := (hC.lt X rfl).2
      have hy6 := (hZ.lt Y rfl).2
      have hx5 := (hC.lt X rfl).1
      have hy5 := (hZ.lt Y rfl).1
      obtain ⟨S5, hS5⟩ : ∃ S5, S5 = p5 s := ⟨_, rfl⟩
      have HS5 := Lib.hid hS5
      rw [← hS5] at HB HN5
      have HI0 : Hid (DecI S5 bw bh w (w6.alloc (.cells #[.int .i64 bw, .int .i64 bh, .slice (some ⟨X, 0, none⟩) n n, .slice (some ⟨Y, 0, none⟩) n n] 24)) X Y w6.heap.size n n n (List.replicate n 0)) := Lib.hid
        ⟨(HR.out.ext hE).alloc _, (HB.out.ext hE).alloc _, Blk.new _ _ _, (ownsRow_base hC (by omega)).alloc _, (ownsRow_base hZ (by omega)).alloc _, hXY, by omega, by omega, by have := hE.size; omega, (HE.out.trans hE).alloc _⟩
      clear hC hZ hXY hE hb5 hx6 hy6 hx5 hy5 hn q0 q1 HB HR HE
      obtain ⟨P, hP⟩ : ∃ P, P = w6.heap.size := ⟨_, rfl⟩
      rw [← hP] at HI0
      have HP := Lib.hid hP
      obtain ⟨q0, -, -, -⟩ := HI0.out.rd.two
      have m1 : 0 ≤ 3 * (bw : Int) * bh := by
        have : (3 * (bw : Int) * bh) = ((3 * bw * bh : Nat) : Int) := by simp
        omega
      have m2 : 3 * (bw : Int) * bh ≤ 3145728 := by
        have h1 : (3 * (bw : Int) * bh) = ((3 * (bw * bh) : Nat) : Int) := by rw [← Nat.mul_assoc]; simp
        rw [h1, ← HN.out]; omega
      have hsize5 : (S5.size : Int) ≤ 100000 := by have := HN5.out; have := Hs.out; omega
      clear hS5
      by_cases hlen : S5.size = 3 * bw * bh
      · have t1 : ((S5.size : Int) != 3 * (bw : Int) * bh) = false := by
          simp only [bne_eq_false_iff_eq]; rw [hlen]; simp
        have HD : Hid (decE s = 0) := Lib.hid (decE_yes HOK.out HSZ.out (by rw [← HS5.out, hlen, HBW.out, HBH.out]))
        have HLN : Hid (S5.size = 3 * n) := Lib.hid (by rw [hlen, HN.out, Nat.mul_assoc])
        clear hlen hP
        go_wp2_with fail
        clear t1 q0 m1 m2
        obtain ⟨W0, hW0⟩ : ∃ W0 : World, W0 = w6.alloc (.cells #[.int .i64 bw, .int .i64 bh, .slice (some ⟨X, 0, none⟩) n n, .slice (some ⟨Y, 0, none⟩) n n] 24) := ⟨_, rfl⟩
        rw [← hW0] at HI0 ⊢
        rw [← HP.out]
        clear hW0
        have HI1 : Hid (∃ C : List Int, DecI S5 bw bh w W0 X Y P n n n C ∧ C.length = n) := Lib.hid ⟨_, HI0.out, by simp⟩
        clear HI0
        go_loopw [9, 10, 11, 58] (fun a y _ _ wr => ∃ (k : Nat) (C : List Int), k ≤ bh ∧ a = .int .i64 ((3 * ((bh - k) * bw) : Nat) : Int) ∧ y = .int .i64 ((k : Int) - 1) ∧ Hid (DecI S5 bw bh w wr X Y P n n n C) ∧ Hid (∀ p, k * bw ≤ p → p < n → C[p]? = (imC S5 bw bh)[p]?)) (fun _ y _ _ _ => (intOf y + 1).toNat)
        case atStart =>
          obtain ⟨C, hC, hl⟩ := HI1.out
          exact ⟨bh, C, Nat.le_refl _, by rw [Nat.sub_self, Nat.zero_mul]; rfl, rfl, Lib.hid hC, Lib.hid (fun p h1 h2 => by rw [HN.out, Nat.mul_comm] at h2; omega)⟩
        case round =>
          clear HI1
          obtain ⟨k, C, hk, rfl, rfl, HI, HJ⟩ := hrel
          rcases k with _ | k
          · have hy : ((0 : Nat) : Int) - 1 = -1 := by decide
            rw [hy]
            clear hy
            obtain ⟨q0, q1, q2, q3⟩ := HI.out.box.four
            obtain ⟨r0, r1, r2, r3⟩ := HI.out.res.four
            obtain ⟨f0, f1, f2, f3⟩ := HI.out.res.frees4
            obtain ⟨W2, rfl⟩ : ∃ W2 : World, W2 = wr := ⟨_, rfl⟩
            go_wp2_with fail
            try simp only [Exit.inBlock, Exit.then]
            obtain ⟨s0, s1, s2, s3⟩ := (HI.out.res.set4 (.int .i64 bw) (.int .i64 bh) (.slice (some ⟨X, 0, none⟩) n n) (.slice (some ⟨Y, 0, none⟩) n n)).four
            refine bodyPost_ret (v := .tuple #[.agg #[.int .i64 bw, .int .i64 bh, .slice (some ⟨X, 0, none⟩) n n, .slice (some ⟨Y, 0, none⟩) n n], .int .i64 0]) (by simp [results, Tryd.results11, go_sem, s0, s1, s2, s3]) rfl ?_
            have hd := HI.out.done HN.out (fun p hp => HJ.out p (by omega) hp) (grown_trans (grown_trans (grown_trans (grown_set W2 w.heap.size 0 (.int .i64 bw)) (grown_set _ _ 1 (.int .i64 bh))) (grown_set _ _ 2 (.slice (some ⟨X, 0, none⟩) n n))) (grown_set _ _ 3 (.slice (some ⟨Y, 0, none⟩) n n)))
            exact decP_yes HD.out HS5.out HBW.out HBH.out hd.1 hd.2
          · have hy : ((k + 1 : Nat) : Int) - 1 = k := by omega
            rw [hy]
            clear hy
            go_wp2_with fail
            go_loopw [9, 11, 58] (fun a _ i wr => ∃ (j : Nat) (C : List Int), j ≤ bw ∧ a = .int .i64 ((3 * ((bh - 1 - k) * bw + j) : Nat) : Int) ∧ i = .int .i64 j ∧ Hid (DecI S5 bw bh w wr X Y P n n n C) ∧ Hid (∀ p, ((k + 1) * bw ≤ p ∨ (k * bw ≤ p ∧ p < k * bw + j)) → p < n → C[p]? = (imC S5 bw bh)[p]?)) (fun _ _ i _ => bw - (intOf i).toNat)
            case atStart => exact ⟨0, C, Nat.zero_le _, by rw [Nat.add_zero, show bh - (k + 1) = bh - 1 - k by omega]; rfl, rfl, HI, Lib.hid (fun p h1 h2 => HJ.out p (by omega) h2)⟩
            case round =>
              clear HI HJ
              obtain ⟨j, C, hj, rfl, rfl, HI, HJ⟩ := hrel
              by_cases hlt : j < bw
              · have HCL : Hid (C.length = n) := Lib.hid (by have := HI.out.c.1; simpa using this)
                obtain ⟨hf, hid⟩ := flip_at (w := bw) (h := bh) (k := k) (j := j) (by omega) hlt
                rw [← HN.out] at hid
                have hkk : (bh - 1 - k) * bw + j < n := by
                  have := (flip_at (w := bw) (h := bh) (k := bh - 1 - k) (j := j) (by omega) hlt).2
                  rw [← HN.out] at this; exact this
                have HF := Lib.hid hf
                obtain ⟨id, hidd⟩ : ∃ id, id = k * bw + j := ⟨_, rfl⟩
                have HID := Lib.hid hidd
                rw [← hidd] at hid hf HF
                obtain ⟨fi, hfi⟩ : ∃ fi, fi = (bh - 1 - k) * bw + j := ⟨_, rfl⟩
                have HFI := Lib.hid hfi
                rw [← hfi] at hkk HF ⊢
                obtain ⟨q, hq⟩ : ∃ q, q = 3 * fi := ⟨_, rfl⟩
                have HQ := Lib.hid hq
                rw [← hq]
                have hq3 : q + 2 < S5.size := by have := HLN.out; omega
                have hc1 : ((k * bw : Nat) : Int) = (k : Int) * bw := by simp
                have u1 : IntKind.i64.wrap ((k : Int) * bw) = (k : Int) * bw := by rw [IntKind.wrap_i64]; omega
                have u2 : IntKind.i64.wrap ((k : Int) * bw + j) = (id : Int) := by rw [IntKind.wrap_i64]; omega
                have u3 : IntKind.i64.wrap ((q : Int) + 1) = (q : Int) + 1 := by rw [IntKind.wrap_i64]; omega
                have u4 : IntKind.i64.wrap ((q : Int) + 2) = (q : Int) + 2 := by rw [IntKind.wrap_i64]; omega
                have v1 : (q : Int) < S5.size := by omega
                have v2 : (q : Int) + 1 < S5.size := by omega
                have v3 : (q : Int) + 2 < S5.size := by omega
                have v4 : (0 : Int) ≤ (q : Int) + 1 := by omega
                have v5 : (0 : Int) ≤ (q : Int) + 2 := by omega
                have v6 : ((q : Int) + 1).toNat = q + 1 := by omega
                have v7 : ((q : Int) + 2).toNat = q + 2 := by omega
                have v8 : (id : Int) < n := by omega
                have n1 : q < S5.size := by omega
                have n2 : q + 1 < S5.size := by omega
                have z1 : wrap64 (S5[q].toNat : Int) = (S5[q].toNat : Int) := by have := S5[q].toNat_lt; unfold wrap64; omega
                have z2 : wrap64 (S5[q + 1].toNat : Int) = (S5[q + 1].toNat : Int) := by have := S5[q + 1].toNat_lt; unfold wrap64; omega
                have z3 : wrap64 (S5[q + 2].toNat : Int) = (S5[q + 2].toNat : Int) := by have := S5[q + 2].toNat_lt; unfold wrap64; omega
                have PK := Lib.hid (fun W => pack255 S5[q].toNat S5[q + 1].toNat S5[q + 2].toNat W (by have := S5[q].toNat_lt; omega) (by have := S5[q + 1].toNat_lt; omega) (by have := S5[q + 2].toNat_lt; omega))
                obtain ⟨r0, -, -, -⟩ := HI.out.rd.two
                obtain ⟨-, -, x2, -⟩ := HI.out.box.four
                clear hf hidd hfi hq hc1
                go_upto_region 21 with fail
                refine wp_region_later_tail 33 (by kernel_rfl) (by kernel_rfl) ?_
                simp only [List.take_succ_cons, List.take_zero, List.drop_succ_cons, List.drop_zero]
                repeat (go_big_quiet_step ((go_at_call 20; with_reducible exact Calls.later _ (PK.out _))))
                refine wpQuiet_nil ?_
                intro y
                have hI := HI.out.ext' y.ext
                obtain ⟨xs, hxs⟩ : ∃ xs : List Value, xs = ivs C := ⟨_, rfl⟩
                have hc := hI.c
                rw [← hxs] at hc
                have HXS := Lib.hid hxs
                have HI2 := Lib.hid hI
                refine wpList_store_own rfl (.tmp 93) (.tmp 92) 3 rfl (w.heap.size + 2) 3 1 X n n xs id rfl (.int .i64 (pk S5[q].toNat S5[q + 1].toNat S5[q + 2].toNat 255)) rfl hc size_int ?c1 ?c2 ?_
                case c1 => simp [Value.cells]; rfl
                case c2 => simp [Value.cells]; omega
                intro w7 ho hg
                have ho2 : w7.ownsRow (w.heap.size + 2) 3 1 (.slice (some ⟨X, 0, none⟩) n n) n (ivs (C.set id (pk S5[q].toNat S5[q + 1].toNat S5[q + 2].toNat 255))) := by
                  rw [← ivs_put (by rw [HCL.out]; exact hid), ← HXS.out]; exact ho
                have HI3 := Lib.hid (HI2.out.put hg ho2)
                have hcol : pk S5[q].toNat S5[q + 1].toNat S5[q + 2].toNat 255 = colr S5 fi := by
                  unfold colr
                  rw [← HQ.out, byte_getD (s := S5) (i := q) (by omega), byte_getD (s := S5) (i := q + 1) (by omega), byte_getD (s := S5) (i := q + 2) (by omega)]
                have HJ2 : Hid (∀ p, ((k + 1) * bw ≤ p ∨ (k * bw ≤ p ∧ p < k * bw + (j + 1))) → p < n → (C.set id (pk S5[q].toNat S5[q + 1].toNat S5[q + 2].toNat 255))[p]? = (imC S5 bw bh)[p]?) := Lib.hid (fun p h1 h2 => by
                  by_cases he : id = p
                  · subst he
                    rw [List.getElem?_set_self (by rw [HCL.out]; exact hid), hcol, imC_get (by rw [← HN.out]; exact hid), HF.out]
                  · rw [List.getElem?_set_ne he]
                    have := HID.out
                    exact HJ.out p (by omega) h2)
                obtain ⟨C2, hC2⟩ : ∃ C2, C2 = C.set id (pk S5[q].toNat S5[q + 1].toNat S5[q + 2].toNat 255) := ⟨_, rfl⟩
                rw [← hC2] at HI3 HJ2
                have HQ3 : Hid ((q : Int) + 3 = ((3 * ((bh - 1 - k) * bw + (j + 1)) : Nat) : Int)) := Lib.hid (by have := HQ.out; have := HFI.out; omega)
                clear ho ho2 hg hc hxs hI hC2 hcol PK z1 z2 z3 u1 u2 u3 u4 r0 x2 HI HJ HI2
                go_wp2_with fail
                go_roundw
                case rel => first | exact ⟨j + 1, C2, by omega, by rw [HQ3.out], by go_num, HI3, HJ2⟩ | ((repeat apply Exists.intro); exact ⟨⟨j + 1, C2, by omega, by rw [HQ3.out], by go_num, HI3, HJ2⟩, rfl⟩)
                case measure => simp [intOf]; omega
              · obtain rfl : j = bw := by omega
                have hks : (k + 1) * j = k * j + j := Nat.succ_mul k j
                have HJ2 : Hid (∀ p, k * j ≤ p → p < n → C[p]? = (imC S5 j bh)[p]?) := Lib.hid (fun p h1 h2 => HJ.out p (by omega) h2)
                have HQ3 : Hid (3 * ((bh - 1 - k) * j + j) = 3 * ((bh - k) * j)) := Lib.hid (by
                  have e : (bh - 1 - k + 1) * j = (bh - 1 - k) * j + j := Nat.succ_mul (bh - 1 - k) j
                  rw [← e, show bh - 1 - k + 1 = bh - k by omega])
                rw [HQ3.out]
                clear HJ hks
                go_wp2_with fail
                go_roundw
                case rel => first | exact ⟨k, C, by omega, rfl, rfl, HI, HJ2⟩ | ((repeat apply Exists.intro); exact ⟨⟨k, C, by omega, rfl, rfl, HI, HJ2⟩, rfl⟩)
                case measure => first | (simp [intOf]; done) | (simp [intOf]; omega)
      · have t1 : ((S5.size : Int) != 3 * (bw : Int) * bh) = true := by
          simp only [bne_iff_ne, ne_eq]
          have : (3 * (bw : Int) * bh) = ((3 * bw * bh : Nat) : Int) := by simp
          omega
        have HD : Hid (decE s = 11) := Lib.hid (decE_len HOK.out HSZ.out (by rw [← HBW.out, ← HBH.out, ← HS5.out]; exact hlen))
        obtain ⟨r0, r1, r2, r3⟩ := HI0.out.res.four
        obtain ⟨f0, f1, f2, f3⟩ := HI0.out.res.frees4
        clear hlen hP
        go_wp2_with fail
        try simp only [Exit.inBlock, Exit.then]
        obtain ⟨s0, s1, s2, s3⟩ := (HI0.out.res.set4 (.int .i64 0) (.int .i64 0) (.slice none 0 0) (.slice none 0 0)).four
        refine bodyPost_ret (v := .tuple #[.agg #[.int .i64 0, .int .i64 0, .slice none 0 0, .slice none 0 0], .int .i64 11]) (by simp [results, Tryd.results11, go_sem, s0, s1, s2, s3]) rfl ?_
        exact decP_no HD.out (by decide) (HI0.out.ext.set4 (Nat.le_refl _) _ _ _ _)
    · have HD : Hid (decE s = 10) := Lib.hid (decE_size HOK.out (by rw [← HBW.out, ← HBH.out]; exact hsz))
      have hn : ¬ (1 ≤ (bw : Int) ∧ (bw : Int) ≤ 1024 ∧ 1 ≤ (bh : Int) ∧ (bh : Int) ≤ 1024) := fun h => hsz (by omega)
      have HN := Lib.hid hn
      obtain ⟨q0, q1, -, -⟩ := HB.out.two
      clear hsz hn
      go_wp2_with fail
      refine (new_no _ _ _ HN.out).mono ?_
      rintro e w6 ⟨rfl, hE⟩
      have HR6 := Lib.hid ((HR.out.ext hE).alloc (.cells #[.int .i64 0, .int .i64 0, .slice none 0 0, .slice none 0 0] 24))
      have HE6 := Lib.hid ((HE.out.trans hE).alloc (.cells #[.int .i64 0, .int .i64 0, .slice none 0 0, .slice none 0 0] 24))
      obtain ⟨r0, r1, r2, r3⟩ := HR6.out.four
      obtain ⟨f0, f1, f2, f3⟩ := HR6.out.frees4
      clear hE q0 q1 HB HR HE
      go_wp2_with fail
      try simp only [Exit.inBlock, Exit.then]
      obtain ⟨s0, s1, s2, s3⟩ := (HR6.out.set4 (.int .i64 0) (.int .i64 0) (.slice none 0 0) (.slice none 0 0)).four
      refine bodyPost_ret (v := .tuple #[.agg #[.int .i64 0, .int .i64 0, .slice none 0 0, .slice none 0 0], .int .i64 10]) (by simp [results, Tryd.results11, go_sem, s0, s1, s2, s3]) rfl ?_
      exact decP_no HD.out (by decide) (HE6.out.set4 (Nat.le_refl _) _ _ _ _)
end Go.Proofs.YtpjkhnkbijpmnaaDoor
