/- Proof text: the command of a line (script.line). By an AI agent. No condition beyond what each theorem states. -/
import Derived.Test.YtaklnijmcidpkaaDoorBX
import Derived.Test.YtaklnijmcidpkaaDoorLT
import Derived.Test.YtaklnijmcidpkaaDoorRO
set_option linter.unusedVariables false
set_option linter.unusedSimpArgs false
namespace Go.Proofs.YtaklnijmcidpkaaDoor
open Go.RowKit
/-- The length of a text in a slot; a flag in a slot. -/
def strLen : Value → Nat
  | .string s => s.size
  | _ => 0
def flagN : Value → Nat
  | .bool true => 1
  | _ => 0
def bs (l : List UInt8) : ByteArray := ⟨l.toArray⟩
theorem bs_size (l : List UInt8) : (bs l).size = l.length := by show l.toArray.size = _; simp
theorem bs_data (l : List UInt8) : (bs l).data.toList = l := by simp [bs]
set_option maxRecDepth 10000 in
set_option maxHeartbeats 1000000 in
theorem line_any (s : ByteArray) (w : World) (hs : s.size ≤ 1000000) (hW : Wd w) : Calls Tryd.prog 19 #[.string s] w (LineP w (lineT s.data.toList)) := by
  obtain ⟨L, hL⟩ : ∃ L, L = s.data.toList := ⟨_, rfl⟩
  have HW := Lib.hid hW
  have hLs : L.length ≤ 1000000 := by rw [hL, ← Lib.size_eq]; exact hs
  have C1 := Lib.hid (fun w1 h => cut_any s ⟨#[32]⟩ 32 w1 hs rfl h)
  rw [← hL] at C1 ⊢
  obtain ⟨p, hp⟩ : ∃ p, p = cut1 32 L := ⟨_, rfl⟩
  rw [← hp] at C1
  have hpl := cut1_len 32 L
  rw [← hp] at hpl
  obtain ⟨tot, ht⟩ : ∃ tot, tot = lineT L := ⟨_, rfl⟩
  rw [← ht]
  have HT := Lib.hid ht
  have HP := Lib.hid hp
  have HE0 := Lib.hid ((Ext.refl w).alloc (.cells #[.int .i64 0, .slice none 0 0] 41))
  have B0 := Lib.hid (Blk.new w 41 #[.int .i64 0, .slice none 0 0])
  obtain ⟨p1, p2, p3⟩ := p
  simp only [] at C1 hpl
  have O1 := Lib.hid (fun w1 => op_any ⟨p1.toArray⟩ w1)
  obtain ⟨r, hr⟩ : ∃ r, r = opT ⟨p1.toArray⟩ := ⟨_, rfl⟩
  rw [← hr] at O1
  have HR := Lib.hid hr
  have HY : Hid (p2.length ≤ 1000000) := Lib.hid (by have := hpl.2.1; omega)
  have HM : Hid (p3 = false → p2 = []) := Lib.hid hpl.2.2.2
  clear hpl hp ht hL hLs hr hs hW
  obtain ⟨op, ok⟩ := r
  simp only [] at O1
  cases ok with
  | false =>
    have HN : Hid (tot = .error 5) := Lib.hid (by
      rw [HT.out]; unfold lineT
      rw [← HP.out, ← HR.out]; rfl)
    go_enter Tryd.func19, Tryd.ntmps19
    go_upto_region 1 with fail
    generalize (w.alloc (.cells #[.int .i64 0, .slice none 0 0] 41)) = W0 at B0 HE0 ⊢
    go_wp2_with fail
    refine (C1.out _ (HW.out.ext HE0.out)).mono ?_
    rintro e w1 ⟨rfl, hE⟩
    have B1 := Lib.hid (B0.out.ext hE)
    have HE1 := Lib.hid (HE0.out.trans hE)
    clear hE B0 HE0
    go_wp2_with fail
    refine (O1.out _).mono ?_
    rintro e w2 ⟨rfl, hE⟩
    have B2 := Lib.hid (B1.out.ext hE)
    have HE2 := Lib.hid (HE1.out.trans hE)
    clear hE B1 HE1
    obtain ⟨c0, c1, f0, f1⟩ := B2.out.two
    go_wp2_with fail
    try simp only [Exit.inBlock, Exit.then]
    obtain ⟨s0, s1, -, -⟩ := ((B2.out.set_ 0 (.int .i64 0)).set_ 1 (.slice none 0 0)).two
    refine bodyPost_ret (v := .tuple #[.agg #[.int .i64 0, .slice none 0 0], .int .i64 5]) (by simp [results, Tryd.results19, go_sem, s0, s1]) rfl ?_
    rw [HN.out]
    exact ⟨rfl, (HE2.out.setCell _ (Nat.le_refl _)).setCell _ (Nat.le_refl _)⟩
  | true =>
    have HN : Hid (lineE op (contN [] (numsT (restW (p1, p2, p3)))) = tot) := Lib.hid (by
      rw [HT.out]; unfold lineT
      rw [← HP.out, ← HR.out, contN_nil]; rfl)
    clear HT HP HR
    go_enter Tryd.func19, Tryd.ntmps19
    go_upto_region 1 with fail
    generalize (w.alloc (.cells #[.int .i64 0, .slice none 0 0] 41)) = W0 at B0 HE0 ⊢
    go_wp2_with fail
    refine (C1.out _ (HW.out.ext HE0.out)).mono ?_
    rintro e w1 ⟨rfl, hE⟩
    have B1 := Lib.hid (B0.out.ext hE)
    have HE1 := Lib.hid (HE0.out.trans hE)
    clear hE B0 HE0
    go_wp2_with fail
    refine (O1.out _).mono ?_
    rintro e w2 ⟨rfl, hE⟩
    have B2 := Lib.hid (B1.out.ext hE)
    have HE2 := Lib.hid (HE1.out.trans hE)
    clear hE B1 HE1 O1 C1
    have HI : Hid (LnI w (w2.alloc (.cells #[.int .i64 op, .slice none 0 0] 41)) w2.heap.size op (.slice none 0 0) []) := Lib.hid ⟨B2.out.alloc _, Blk.new _ _ _, World.ownsRow_nil _ _ _ _, B2.out.lt, HE2.out.alloc _⟩
    obtain ⟨P, hP⟩ : ∃ P, P = w2.heap.size := ⟨_, rfl⟩
    have HPP := Lib.hid hP
    clear B2 HE2
    go_wp2_with fail
    rw [← hP] at HI ⊢
    clear hP
    generalize (w2.alloc (.cells #[.int .i64 op, .slice none 0 0] 41)) = W2 at HI ⊢
    go_loopw [5, 6] (fun y m wr => ∃ (Y : List UInt8) (M : Bool) (v : Value) (acc : List Int), y = .string ⟨Y.toArray⟩ ∧ m = .bool M ∧ Hid (LnI w wr P op v acc) ∧ Hid (acc.length + Y.length + (if M then 1 else 0) ≤ 1000001) ∧ Hid (lineE op (contN acc (numsT (if M then splitW Y else []))) = tot)) (fun y m _ => strLen y + flagN m)
    case atStart => exact ⟨p2, p3, .slice none 0 0, [], rfl, rfl, HI, Lib.hid (by have := HY.out; simp; split <;> omega), HN⟩
    case round =>
      clear HI HN HM HY
      obtain ⟨Y, M, v, acc, rfl, rfl, HI, HB, HN⟩ := hrel
      cases M with
      | true =>
        have C2 := Lib.hid (fun w1 h => cut_any ⟨Y.toArray⟩ ⟨#[32]⟩ 32 w1 (by have := HB.out; show Y.toArray.size ≤ _; simp at this ⊢; omega) rfl h)
        simp only [] at C2
        obtain ⟨q, hq⟩ : ∃ q, q = cut1 32 Y := ⟨_, rfl⟩
        rw [← hq] at C2
        have hql := cut1_len 32 Y
        rw [← hq] at hql
        have hsp := splitW_is Y
        rw [← hq] at hsp
        obtain ⟨q1, q2, q3⟩ := q
        simp only [] at C2 hql hsp
        have HQ := Lib.hid hql
        have N1 := Lib.hid (fun w1 h => number_any ⟨q1.toArray⟩ w1 (by have h1 := HB.out; have h2 := HQ.out.1; show q1.toArray.size ≤ _; simp at h1 h2 ⊢; omega) h)
        simp only [] at N1
        have hn := HN.out
        rw [if_pos rfl, hsp] at hn
        obtain ⟨x, hx⟩ : ∃ x, x = numT q1 := ⟨_, rfl⟩
        rw [← hx] at N1
        by_cases h0 : (numT q1).2 = 0
        · rw [nums_step h0, ← hx] at hn
          rw [← hx] at h0
          obtain ⟨n, c⟩ := x
          simp only [] at h0 hn N1
          subst h0
          have HN2 := Lib.hid hn
          clear hn hx hq hql hsp HN
          go_wp2_with fail
          refine (C2.out _ (HW.out.ext HI.out.ext)).mono ?_
          rintro e w3 ⟨rfl, hE⟩
          have HI3 := Lib.hid (HI.out.ext' hE)
          clear hE HI
          go_wp2_with fail
          refine (N1.out _ (HW.out.ext HI3.out.ext)).mono ?_
          rintro e w4 ⟨rfl, hE⟩
          have HI4 := Lib.hid (HI3.out.ext' hE)
          clear hE HI3
          obtain ⟨c0, c1, f0, f1⟩ := HI4.out.box.two
          go_wp2_with (refine wpList_append_rd rfl (.tmp 48) (.tmp 50) 39 rfl (P + 1) 3 _ 1 8 Tryd.underlying39 info3 rfl (by decide) v acc.length (ivs acc) rfl (HI4.out.own.alloc _) (some ⟨w4.heap.size, 0, none⟩) 1 1 [.int .i64 n] rfl (Rd_new w4 [.int .i64 n] 3 1 1 rfl (by unfold maxLen; omega)) (by simp [Value.oneCell']) ?_ (by decide) ?_ ?_)
          · have := HB.out; simp at this ⊢; omega
          · have := HI4.out.box.lt; simp; omega
          intro v' w5 ho hg
          obtain ⟨av, cv, rfl, -⟩ := ownsRow_rd ho
          obtain ⟨hb, hI⟩ := HI4.out.grow _ ho hg
          have HI5 := Lib.hid hI
          obtain ⟨d0, d1, g0, g1⟩ := hb.two
          clear ho hg hb hI c0 c1 f0 f1 HI4
          go_wp2_with fail
          go_roundw
          case rel =>
            have hbb : Hid ((acc ++ [n]).length + q2.length + (if q3 then 1 else 0) ≤ 1000001) := Lib.hid (by
              have h1 := HB.out; have h2 := HQ.out
              cases q3 with
              | true => have := h2.2.2.1 rfl; simp at h1 ⊢; omega
              | false => have := h2.2.2.2 rfl; subst this; simp at h1 ⊢; omega)
            first | exact ⟨q2, q3, _, acc ++ [n], rfl, rfl, HI5, hbb, HN2⟩ | ((repeat apply Exists.intro); exact ⟨⟨q2, q3, _, acc ++ [n], rfl, rfl, HI5, hbb, HN2⟩, rfl⟩)
          case measure =>
            have h2 := HQ.out
            cases q3 with
            | true => have := h2.2.2.1 rfl; simp [strLen, flagN, ByteArray.size]; omega
            | false => have := h2.2.2.2 rfl; subst this; simp [strLen, flagN, ByteArray.size]; try omega
        · rw [nums_bad h0, ← hx] at hn
          rw [← hx] at h0
          obtain ⟨n, c⟩ := x
          simp only [] at h0 hn N1
          have HN2 : Hid (tot = .error c) := Lib.hid hn.symm
          have t1 : (c != 0) = true := by simpa using h0
          clear hn hx hq hql hsp HN h0
          go_wp2_with fail
          refine (C2.out _ (HW.out.ext HI.out.ext)).mono ?_
          rintro e w3 ⟨rfl, hE⟩
          have HI3 := Lib.hid (HI.out.ext' hE)
          clear hE HI
          go_wp2_with fail
          refine (N1.out _ (HW.out.ext HI3.out.ext)).mono ?_
          rintro e w4 ⟨rfl, hE⟩
          have HI4 := Lib.hid (HI3.out.ext' hE)
          clear hE HI3
          obtain ⟨c0, c1, f0, f1⟩ := HI4.out.res.two
          go_wp2_with fail
          try simp only [Exit.inBlock, Exit.then]
          obtain ⟨s0, s1, -, -⟩ := ((HI4.out.res.set_ 0 (.int .i64 0)).set_ 1 (.slice none 0 0)).two
          refine bodyPost_ret (v := .tuple #[.agg #[.int .i64 0, .slice none 0 0], .int .i64 c]) (by simp [results, Tryd.results19, go_sem, s0, s1]) rfl ?_
          rw [HN2.out]
          exact ⟨rfl, (HI4.out.ext.setCell _ (Nat.le_refl _)).setCell _ (Nat.le_refl _)⟩
      | false =>
        have hn := HN.out
        rw [if_neg (by decide), nums_end] at hn
        have A1 := Lib.hid (fun w1 h => arity_any op w1 h)
        obtain ⟨m, hm⟩ : ∃ m, m = ((askT op).getD []).length := ⟨_, rfl⟩
        rw [← hm] at A1
        have hm16 := ask_len op
        rw [← hm] at hm16
        have hal : acc.length ≤ 1000001 := by have := HB.out; omega
        have hl : lineE op (.ok acc) = if m = acc.length then .ok (op, acc) else .error 1 := by rw [hm]; rfl
        rw [hl] at hn
        obtain ⟨av, cv, rfl, -⟩ := ownsRow_rd HI.out.own
        obtain ⟨k, hk⟩ : ∃ k, k = acc.length := ⟨_, rfl⟩
        rw [← hk] at hn hal
        have HK := Lib.hid hk
        by_cases he : m = k
        · rw [if_pos he] at hn
          subst he
          have HN2 := Lib.hid hn
          have t1 : ((m : Int) != m) = false := by simp
          rw [← hk] at HI
          clear hn HN hm hl hk
          go_wp2_with fail
          refine (A1.out _ (HW.out.ext HI.out.ext).glob).mono ?_
          rintro e w4 ⟨rfl, hE⟩
          have HI4 := Lib.hid (HI.out.ext' hE)
          clear hE HI
          obtain ⟨c0, c1, f0, f1⟩ := HI4.out.res.two
          obtain ⟨d0, d1, g0, g1⟩ := HI4.out.box.two
          go_wp2_with fail
          try simp only [Exit.inBlock, Exit.then]
          obtain ⟨s0, s1, -, -⟩ := ((HI4.out.res.set_ 0 (.int .i64 op)).set_ 1 (.slice av m cv)).two
          refine bodyPost_ret (v := .tuple #[.agg #[.int .i64 op, .slice av m cv], .int .i64 0]) (by simp [results, Tryd.results19, go_sem, s0, s1]) rfl ?_
          rw [← HN2.out]
          have hd := HI4.out.done (grown_trans (grown_set w4 w.heap.size 0 (.int .i64 op)) (grown_set _ _ 1 (.slice av m cv)))
          exact ⟨_, rfl, hd.1, hd.2⟩
        · rw [if_neg he] at hn
          have HN2 := Lib.hid hn
          have t1 : ((m : Int) != k) = true := by simp; omega
          rw [← hk] at HI
          clear hn HN hm hl hk
          go_wp2_with fail
          refine (A1.out _ (HW.out.ext HI.out.ext).glob).mono ?_
          rintro e w4 ⟨rfl, hE⟩
          have HI4 := Lib.hid (HI.out.ext' hE)
          clear hE HI
          obtain ⟨c0, c1, f0, f1⟩ := HI4.out.res.two
          obtain ⟨d0, d1, g0, g1⟩ := HI4.out.box.two
          go_wp2_with fail
          try simp only [Exit.inBlock, Exit.then]
          obtain ⟨s0, s1, -, -⟩ := ((HI4.out.res.set_ 0 (.int .i64 0)).set_ 1 (.slice none 0 0)).two
          refine bodyPost_ret (v := .tuple #[.agg #[.int .i64 0, .slice none 0 0], .int .i64 1]) (by simp [results, Tryd.results19, go_sem, s0, s1]) rfl ?_
          rw [← HN2.out]
          exact ⟨rfl, (HI4.out.ext.setCell _ (Nat.le_refl _)).setCell _ (Nat.le_refl _)⟩
end Go.Proofs.YtaklnijmcidpkaaDoor
