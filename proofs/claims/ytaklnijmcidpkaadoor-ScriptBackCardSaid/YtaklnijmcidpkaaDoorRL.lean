/- Proof text: the command of a line (rastrumref29.line). By an AI agent. No condition beyond what each theorem states. -/
import Derived.Test.YtaklnijmcidpkaaDoorWS
import Derived.Test.YtaklnijmcidpkaaDoorE
set_option linter.unusedVariables false
set_option linter.unusedSimpArgs false
namespace Go.Proofs.YtaklnijmcidpkaaDoor
open Go.RowKit
theorem splitW_le (l : List UInt8) : (splitW l).length ≤ l.length + 1 ∧ ∀ x ∈ splitW l, x.length ≤ l.length := by
  induction l with
  | nil => simp [splitW]
  | cons b l ih =>
    by_cases h : b = 32
    · subst h
      rw [show splitW (32 :: l) = [] :: splitW l by simp [splitW]]
      refine ⟨by simp; exact ih.1, fun x hx => ?_⟩
      rcases List.mem_cons.1 hx with rfl | hx
      · exact Nat.zero_le _
      · have := ih.2 x hx; simp; omega
    · cases h2 : splitW l with
      | nil => exact absurd h2 (splitW_ne l)
      | cons y r =>
        rw [splitW_byte h h2]
        rw [h2] at ih
        refine ⟨by simpa using Nat.le_succ_of_le ih.1, fun x hx => ?_⟩
        rcases List.mem_cons.1 hx with rfl | hx
        · have := ih.2 y (by simp); simp; exact this
        · have := ih.2 x (by simp [hx]); simp; omega
theorem lineT_words {L : List UInt8} {x0 : List UInt8} {r : List (List UInt8)} (h : splitW L = x0 :: r) : lineT L = if (opT ⟨x0.toArray⟩).2 = true then lineE (opT ⟨x0.toArray⟩).1 (numsT r) else .error 5 := by
  have hs := splitW_is L
  rw [h] at hs
  injection hs with h1 h2
  unfold lineT
  rw [← h1, ← h2]
theorem Ext.boxed {W w' : World} {P : Nat} {v : Value} (h : Ext W w') (hP : W.heap.size ≤ P) : Ext W (w'.setCell ⟨P, 1, none⟩ v) := h.setCell v hP
theorem rarity_ask (op : Int) (w : World) : Calls Tryd.prog 34 #[.int .i64 op] w fun e w' => e = .returned (.tuple #[.int .i64 ((askT op).getD []).length, .bool (askT op).isSome]) ∧ Ext w w' := by
  rw [ask_bounds]
  exact rarity_any op w
set_option maxRecDepth 10000 in
set_option maxHeartbeats 2000000 in
theorem rline_any (s : ByteArray) (w : World) (hs : s.size ≤ 1000000) : Calls Tryd.prog 20 #[.string s] w (LineP w (lineT s.data.toList)) := by
  obtain ⟨L, hL⟩ : ∃ L, L = s.data.toList := ⟨_, rfl⟩
  have hLs : L.length ≤ 1000000 := by rw [hL, ← Lib.size_eq]; exact hs
  have WD := Lib.hid (fun w1 => words_any s w1 hs)
  rw [← hL] at WD ⊢
  obtain ⟨tot, ht⟩ : ∃ tot, tot = lineT L := ⟨_, rfl⟩
  rw [← ht]
  have hle := splitW_le L
  obtain ⟨ws, hws⟩ : ∃ ws, ws = splitW L := ⟨_, rfl⟩
  rw [← hws] at WD hle
  obtain ⟨x0, r, hxr⟩ : ∃ x0 r, ws = x0 :: r := by
    cases h : ws with
    | nil => rw [h] at hws; exact absurd hws.symm (splitW_ne L)
    | cons x r => exact ⟨x, r, rfl⟩
  have hlt := lineT_words (L := L) (by rw [← hws]; exact hxr)
  rw [← ht] at hlt
  obtain ⟨n, hn⟩ : ∃ n, n = ws.length := ⟨_, rfl⟩
  rw [← hn] at WD hle
  have hn1 : 1 ≤ n := by rw [hn, hxr]; simp
  have HLE : Hid (n ≤ 1000001 ∧ ∀ x ∈ ws, x.length ≤ 1000000) := Lib.hid ⟨by omega, fun x hx => Nat.le_trans (hle.2 x hx) hLs⟩
  have HE0 := Lib.hid ((Ext.refl w).alloc (.cells #[.int .i64 0, .slice none 0 0] 41))
  have B0 := Lib.hid (Blk.new w 41 #[.int .i64 0, .slice none 0 0])
  have O1 := Lib.hid (fun w1 => rop_any ⟨x0.toArray⟩ w1)
  obtain ⟨rr, hr⟩ : ∃ rr, rr = opT ⟨x0.toArray⟩ := ⟨_, rfl⟩
  rw [← hr] at O1 hlt
  obtain ⟨op, ok⟩ := rr
  simp only [] at O1 hlt
  have HX := Lib.hid hxr
  have HNN := Lib.hid hn
  have HTOT := Lib.hid hlt
  clear hle hlt hxr hn hws ht hL hLs hr hs
  go_enter Tryd.func20, Tryd.ntmps20
  go_upto_region 1 with fail
  generalize (w.alloc (.cells #[.int .i64 0, .slice none 0 0] 41)) = W0 at B0 HE0 ⊢
  go_wp2_with fail
  refine (WD.out _).mono ?_
  rintro e w1 ⟨v, rfl, ho, hE⟩
  obtain ⟨a, cap, rfl, hrd⟩ := ownsRow_rd ho
  obtain ⟨b, off, rfl, -, hc⟩ := hrd.at_ (by omega)
  have hcell0 : w1.cell? ⟨b, off, none⟩ = some (.string ⟨x0.toArray⟩) := by
    have := hc 0 (by omega)
    rw [HX.out] at this
    exact this
  have HRD := Lib.hid hrd
  have B1 := Lib.hid (B0.out.ext hE)
  have HE1 := Lib.hid (HE0.out.trans hE)
  clear hE B0 HE0 ho hrd hc WD
  have hn0 : (0 : Int) < n := by omega
  go_wp2_with fail
  refine (O1.out _).mono ?_
  rintro e w2 ⟨rfl, hE⟩
  have B2 := Lib.hid (B1.out.ext hE)
  have HE2 := Lib.hid (HE1.out.trans hE)
  have HRD2 := Lib.hid (HRD.out.ext hE)
  clear hE B1 HE1 O1 hcell0 HRD
  cases ok with
  | false =>
    have HN : Hid (tot = .error 5) := Lib.hid (by rw [HTOT.out]; rfl)
    obtain ⟨c0, c1, f0, f1⟩ := B2.out.two
    go_wp2_with fail
    try simp only [Exit.inBlock, Exit.then]
    obtain ⟨s0, s1, -, -⟩ := ((B2.out.set_ 0 (.int .i64 0)).set_ 1 (.slice none 0 0)).two
    refine bodyPost_ret (v := .tuple #[.agg #[.int .i64 0, .slice none 0 0], .int .i64 5]) (by simp [results, Tryd.results20, go_sem, s0, s1]) rfl ?_
    rw [HN.out]
    exact ⟨rfl, (HE2.out.setCell _ (Nat.le_refl _)).setCell _ (Nat.le_refl _)⟩
  | true =>
    have HN : Hid (lineE op (contN [] (numsT (ws.drop 1))) = tot) := Lib.hid (by
      rw [HTOT.out, contN_nil, HX.out]; rfl)
    have HI : Hid (LnI w (w2.alloc (.cells #[.int .i64 op, .slice none 0 0] 41)) w2.heap.size op (.slice none 0 0) []) := Lib.hid ⟨B2.out.alloc _, Blk.new _ _ _, World.ownsRow_nil _ _ _ _, B2.out.lt, HE2.out.alloc _⟩
    have HEW := Lib.hid ((Ext.refl w2).alloc (.cells #[.int .i64 op, .slice none 0 0] 41))
    obtain ⟨P, hP⟩ : ∃ P, P = w2.heap.size := ⟨_, rfl⟩
    have HPP := Lib.hid hP
    clear B2 HE2 HTOT
    go_wp2_with fail
    rw [← hP] at HI ⊢
    clear hP
    generalize (w2.alloc (.cells #[.int .i64 op, .slice none 0 0] 41)) = W2 at HI HEW ⊢
    go_loopw [8] (fun i wr => ∃ (k : Nat) (v : Value) (acc : List Int), 1 ≤ k ∧ k ≤ n ∧ i = .int .i64 k ∧ Hid (LnI w wr P op v acc) ∧ Hid (Ext w2 wr) ∧ Hid (acc.length < k) ∧ Hid (lineE op (contN acc (numsT (ws.drop k))) = tot)) (fun i _ => n - (intOf i).toNat)
    case atStart => exact ⟨1, .slice none 0 0, [], Nat.le_refl _, hn1, rfl, HI, HEW, Lib.hid (by simp), HN⟩
    case round =>
      clear HI HN HEW
      obtain ⟨k, v, acc, hk1, hk, rfl, HI, HEW, HB, HN⟩ := hrel
      by_cases hlt : k < n
      · have hkw : k < ws.length := by rw [← HNN.out]; exact hlt
        have hd : ws.drop k = ws[k] :: ws.drop (k + 1) := List.drop_eq_getElem_cons hkw
        obtain ⟨y, hy⟩ : ∃ y, y = ws[k] := ⟨_, rfl⟩
        have hcell : wr.cell? ⟨b, off + k, none⟩ = some (.string ⟨y.toArray⟩) := by
          obtain ⟨b', off', he, -, hc⟩ := (HRD2.out.ext HEW.out).at_ (by omega)
          obtain ⟨rfl, rfl⟩ : b = b' ∧ off = off' := by simpa using he
          rw [hc k (by omega), svs, List.getElem?_map, List.getElem?_eq_getElem hkw, hy]
          rfl
        have hyl : y.length ≤ 1000000 := HLE.out.2 y (by rw [hy]; exact List.getElem_mem hkw)
        have N1 := Lib.hid (fun w1 => rnumber_any ⟨y.toArray⟩ w1 (by show y.toArray.size ≤ _; simp; exact hyl))
        simp only [] at N1
        have hn := HN.out
        rw [hd, ← hy] at hn
        have i1 : (k : Int) < n := by omega
        have hnb := HLE.out.1
        obtain ⟨x, hx⟩ : ∃ x, x = numT y := ⟨_, rfl⟩
        rw [← hx] at N1
        by_cases h0 : (numT y).2 = 0
        · rw [nums_step h0, ← hx] at hn
          rw [← hx] at h0
          obtain ⟨m, c⟩ := x
          simp only [] at h0 hn N1
          subst h0
          have HN2 := Lib.hid hn
          clear hn hx hd hy hyl hkw HN
          go_wp2_with fail
          refine (N1.out _).mono ?_
          rintro e w4 ⟨rfl, hE⟩
          have HI4 := Lib.hid (HI.out.ext' hE)
          have HEW4 := Lib.hid (HEW.out.trans hE)
          clear hE HI HEW hcell
          obtain ⟨c0, c1, f0, f1⟩ := HI4.out.box.two
          go_wp2_with (refine wpList_append_rd rfl (.tmp 46) (.tmp 48) 39 rfl (P + 1) 3 _ 1 8 Tryd.underlying39 info3 rfl (by decide) v acc.length (ivs acc) rfl (HI4.out.own.alloc _) (some ⟨w4.heap.size, 0, none⟩) 1 1 [.int .i64 m] rfl (Rd_new w4 [.int .i64 m] 3 1 1 rfl (by unfold maxLen; omega)) (by simp [Value.oneCell']) ?_ (by decide) ?_ ?_)
          · have := HB.out; omega
          · have := HI4.out.box.lt; simp; omega
          intro v' w5 ho hg
          obtain ⟨av, cv, rfl, -⟩ := ownsRow_rd ho
          obtain ⟨hb, hI⟩ := HI4.out.grow _ ho hg
          have HI5 := Lib.hid hI
          have HEW5 := Lib.hid (((HEW4.out.alloc _).grown hg (fun k hk => by have h1 := (HI4.out.own.lt _ hk).1; have h2 := HPP.out; omega)).setCell (p := ⟨P, 1, none⟩) (.slice av (acc.length + 1) cv) (Nat.le_of_eq HPP.out.symm))
          obtain ⟨d0, d1, g0, g1⟩ := hb.two
          have hB : Hid ((acc ++ [m]).length < k + 1) := Lib.hid (by have := HB.out; simp; omega)
          clear ho hg hb hI c0 c1 f0 f1 HI4 HEW4 HB
          go_wp2_with fail
          go_roundw
          case rel => first | exact ⟨k + 1, _, acc ++ [m], by omega, by omega, by go_num, HI5, HEW5, hB, HN2⟩ | ((repeat apply Exists.intro); exact ⟨⟨k + 1, _, acc ++ [m], by omega, by omega, by go_num, HI5, HEW5, hB, HN2⟩, rfl⟩)
          case measure => simp [intOf]; omega
        · rw [nums_bad h0, ← hx] at hn
          rw [← hx] at h0
          obtain ⟨m, c⟩ := x
          simp only [] at h0 hn N1
          have HN2 : Hid (tot = .error c) := Lib.hid hn.symm
          have t1 : (c != 0) = true := by simpa using h0
          clear hn hx hd hy hyl hkw HN h0
          go_wp2_with fail
          refine (N1.out _).mono ?_
          rintro e w4 ⟨rfl, hE⟩
          have HI4 := Lib.hid (HI.out.ext' hE)
          clear hE HI hcell
          obtain ⟨c0, c1, f0, f1⟩ := HI4.out.res.two
          go_wp2_with fail
          try simp only [Exit.inBlock, Exit.then]
          obtain ⟨s0, s1, -, -⟩ := ((HI4.out.res.set_ 0 (.int .i64 0)).set_ 1 (.slice none 0 0)).two
          refine bodyPost_ret (v := .tuple #[.agg #[.int .i64 0, .slice none 0 0], .int .i64 c]) (by simp [results, Tryd.results20, go_sem, s0, s1]) rfl ?_
          rw [HN2.out]
          exact ⟨rfl, (HI4.out.ext.setCell _ (Nat.le_refl _)).setCell _ (Nat.le_refl _)⟩
      · obtain rfl : k = n := by omega
        have hn := HN.out
        rw [List.drop_of_length_le (by rw [← HNN.out]; exact Nat.le_refl _), nums_end] at hn
        have A1 := Lib.hid (fun w1 => rarity_ask op w1)
        obtain ⟨m, hm⟩ : ∃ m, m = ((askT op).getD []).length := ⟨_, rfl⟩
        rw [← hm] at A1
        have hm16 := ask_len op
        rw [← hm] at hm16
        have hal : acc.length ≤ 1000001 := by have h1 := HB.out; have h2 := HLE.out.1; omega
        have hl : lineE op (.ok acc) = if m = acc.length then .ok (op, acc) else .error 1 := by rw [hm]; rfl
        rw [hl] at hn
        obtain ⟨av, cv, rfl, -⟩ := ownsRow_rd HI.out.own
        obtain ⟨q, hq⟩ : ∃ q, q = acc.length := ⟨_, rfl⟩
        rw [← hq] at hn hal
        by_cases he : m = q
        · rw [if_pos he] at hn
          subst he
          have HN2 := Lib.hid hn
          have t1 : ((m : Int) != m) = false := by simp
          rw [← hq] at HI
          clear hn HN hm hl hq hlt
          go_wp2_with fail
          refine (A1.out _).mono ?_
          rintro e w4 ⟨rfl, hE⟩
          have HI4 := Lib.hid (HI.out.ext' hE)
          clear hE HI
          obtain ⟨c0, c1, f0, f1⟩ := HI4.out.res.two
          obtain ⟨d0, d1, g0, g1⟩ := HI4.out.box.two
          go_wp2_with fail
          try simp only [Exit.inBlock, Exit.then]
          obtain ⟨s0, s1, -, -⟩ := ((HI4.out.res.set_ 0 (.int .i64 op)).set_ 1 (.slice av m cv)).two
          refine bodyPost_ret (v := .tuple #[.agg #[.int .i64 op, .slice av m cv], .int .i64 0]) (by simp [results, Tryd.results20, go_sem, s0, s1]) rfl ?_
          rw [← HN2.out]
          have hd := HI4.out.done (grown_trans (grown_set w4 w.heap.size 0 (.int .i64 op)) (grown_set _ _ 1 (.slice av m cv)))
          exact ⟨_, rfl, hd.1, hd.2⟩
        · rw [if_neg he] at hn
          have HN2 := Lib.hid hn
          have t1 : ((m : Int) != q) = true := by simp; omega
          rw [← hq] at HI
          clear hn HN hm hl hq hlt
          go_wp2_with fail
          refine (A1.out _).mono ?_
          rintro e w4 ⟨rfl, hE⟩
          have HI4 := Lib.hid (HI.out.ext' hE)
          clear hE HI
          obtain ⟨c0, c1, f0, f1⟩ := HI4.out.res.two
          obtain ⟨d0, d1, g0, g1⟩ := HI4.out.box.two
          go_wp2_with fail
          try simp only [Exit.inBlock, Exit.then]
          obtain ⟨s0, s1, -, -⟩ := ((HI4.out.res.set_ 0 (.int .i64 0)).set_ 1 (.slice none 0 0)).two
          refine bodyPost_ret (v := .tuple #[.agg #[.int .i64 0, .slice none 0 0], .int .i64 1]) (by simp [results, Tryd.results20, go_sem, s0, s1]) rfl ?_
          rw [← HN2.out]
          exact ⟨rfl, (HI4.out.ext.setCell _ (Nat.le_refl _)).setCell _ (Nat.le_refl _)⟩
end Go.Proofs.YtaklnijmcidpkaaDoor
