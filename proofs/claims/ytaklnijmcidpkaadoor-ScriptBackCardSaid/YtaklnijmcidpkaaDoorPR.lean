/- Proof text: the text of commands (script.Print). By an AI agent. No condition beyond what each theorem states. -/
import Derived.Test.YtaklnijmcidpkaaDoorPT
set_option linter.unusedVariables false
set_option linter.unusedSimpArgs false
namespace Go.Proofs.YtaklnijmcidpkaaDoor
open Go.RowKit
/-- What 'Print' hands back. -/
def TextP (w : World) (l : List R) (e : Ending) (w' : World) : Prop :=
  (match putT l with
  | .ok _ => e = .returned (.tuple #[.string ⟨(textP l).toArray⟩, .int .i64 0])
  | .error c => e = .returned (.tuple #[.string ⟨#[]⟩, .int .i64 c])) ∧ Ext w w'
theorem textP_err {w w' : World} {l : List R} {c : Int} {e : Ending} (h : putT l = .error c) (he : e = .returned (.tuple #[.string ⟨#[]⟩, .int .i64 c])) (hE : Ext w w') : TextP w l e w' := by
  unfold TextP; rw [h]; exact ⟨he, hE⟩
theorem textP_ok {w w' : World} {l : List R} {a : List Int} {e : Ending} (h : putT l = .ok a) (he : e = .returned (.tuple #[.string ⟨(textP l).toArray⟩, .int .i64 0])) (hE : Ext w w') : TextP w l e w' := by
  unfold TextP; rw [h]; exact ⟨he, hE⟩
theorem putF_err : ∀ (l : List R) (acc : List Int) (e : Int), putF l acc = .error e → e ≠ 0 := by
  intro l
  induction l with
  | nil => intro acc e h; cases h
  | cons x l ih =>
    intro acc e h
    obtain ⟨op, A⟩ := x
    cases hq : askT op with
    | none => rw [putF_cons_none hq] at h; injection h with h; subst h; decide
    | some q =>
      by_cases hl : q.length = A.length
      · rw [putF_cons_ok hq hl] at h; exact ih _ _ h
      · rw [putF_cons_bad hq hl] at h; injection h with h; subst h; decide
theorem putT_err {l : List R} {e : Int} (h : putT l = .error e) : e ≠ 0 := by
  unfold putT at h
  split at h
  · injection h with h; subst h; decide
  · exact putF_err _ _ _ h
/-- A box above a builder stays. -/
theorem blk_kept {w w' : World} {b P : Nat} {cs : Array Value} (h : Blk w P 41 cs) (hne : P ≠ b) (hk : Lib.OthersKept 5 (some b) w w') : Blk w' P 41 cs :=
  hk P _ h (fun e => hne (Option.some.inj e)) (fun c fz e => by injection e with _ e2 _; exact absurd e2 (by decide))
theorem blank_str : (⟨#[32]⟩ : ByteArray) = ⟨([32] : List UInt8).toArray⟩ := rfl
theorem text_step {l : List R} {k : Nat} (hk : k < l.length) : textP (l.drop k) = (nameT (l.getD k (0, [])).1).1.data.toList ++ (numsP (l.getD k (0, [])).2 ++ ([10] ++ textP (l.drop (k + 1)))) := by
  rw [drop_rec hk]
  unfold textP recP
  simp [List.flatMap_cons]
theorem nums_step2 {A : List Int} {j : Nat} (hj : j < A.length) : numsP (A.drop j) = [32] ++ (Lib.itoa (A.getD j 0) ++ numsP (A.drop (j + 1))) := by
  rw [List.drop_eq_getElem_cons hj]
  unfold numsP
  rw [List.flatMap_cons, List.getD_eq_getElem?_getD, List.getElem?_eq_getElem hj]
  simp
theorem ownsRowF_ext {w w' : World} {base : Nat} {e : TypeId} {size : Nat} {v : Value} {n : Nat} {xs : List Value} (h : w.ownsRowF base e size v n xs) (he : Ext w w') : w'.ownsRowF base e size v n xs := by
  refine ⟨h.1, ?_⟩
  rcases h.2 with hn | ⟨g, cap, cur, fz, hv, hb, hg, rest⟩
  · exact .inl hn
  · exact .inr ⟨g, cap, cur, fz, hv, hb, (he.block (Array.getElem?_eq_some_iff.1 hg).1).trans hg, rest⟩
theorem atF_ext {w w' : World} {T e : TypeId} {B b : Nat} {p : Value} {bs : List Value} (h : Lib.BuilderAtF T e B b p bs w) (he : Ext w w') : Lib.BuilderAtF T e B b p bs w' := by
  obtain ⟨hB, v, hb, ho, hne⟩ := h
  exact ⟨hB, v, (he.block (Array.getElem?_eq_some_iff.1 hb).1).trans hb, ownsRowF_ext ho he, hne⟩
theorem Bld.ext {b : Nat} {acc : List UInt8} {w w' : World} (h : Bld b acc w) (he : Ext w w') : Bld b acc w' := h.elim (fun h => .inl (atF_ext h he)) (fun h => .inr (atF_ext h he))
theorem Bld.lt {b : Nat} {acc : List UInt8} {w : World} (h : Bld b acc w) : b < w.heap.size := by
  rcases h with h | h
  · exact h.lt
  · exact h.lt
theorem write_s (b : Nat) (acc : List UInt8) (s : ByteArray) (w : World) (h : Bld b acc w) (hlen : acc.length + s.data.toList.length ≤ 100000000) :
    Calls Tryd.prog 24 #[.pointer (some ⟨b, 0, none⟩), .string s] w fun e w' => (∃ v, e = .returned v) ∧ Bld b (acc ++ s.data.toList) w' ∧ Below b w w' ∧ Lib.OthersKept 5 (some b) w w' :=
  write_bld b acc s.data.toList w h hlen (Nat.le_of_lt h.lt)
theorem ext_below {W w w' : World} (h : Ext W w) (k : Below W.heap.size w w') : Ext W w' := Below.trans h k
set_option maxRecDepth 10000 in
set_option maxHeartbeats 2000000 in
theorem print_any (a : Option Addr) (n cap : Nat) (l : List R) (w : World) (hl : RdRecs w a n cap l) (hn : Nums l) (hW : Wd w) : Calls Tryd.prog 16 #[.slice a n cap] w (TextP w l) := by
  have HL := Lib.hid hl
  have HN := Lib.hid hn
  have HW := Lib.hid hW
  have HP := Lib.hid (put_any a n cap l w hW.glob hl)
  have hb63 := hl.le63
  have HLN := Lib.hid hl.len
  clear hl hn hW
  cases hg : putT l with
  | error c =>
    have HE := Lib.hid hg
    have hc := putT_err hg
    have t1 : (c != 0) = true := by simpa using hc
    rw [hg] at HP
    clear hg hc
    go_enter Tryd.func16, Tryd.ntmps16
    go_wp2_with fail
    refine HP.out.mono ?_
    rintro e w1 ⟨rfl, hE⟩
    have HE1 := Lib.hid hE
    clear hE
    go_wp2_with fail
    go_ret2
    exact textP_err HE.out rfl HE1.out
  | ok q =>
    have HOK := Lib.hid hg
    have hb := putT_ok hg
    have htl := text_len l (fun r hr => (hb.2 r hr).1) HN.out
    rw [hg] at HP
    have HB := Lib.hid hb
    have HTL : Hid ((textP l).length ≤ 2000000) := Lib.hid (by omega)
    have hn4 : n ≤ 4096 := by rw [← HLN.out]; exact hb.1
    have hn4i : (n : Int) ≤ 4096 := by omega
    obtain ⟨tot, ht⟩ : ∃ tot, tot = textP l := ⟨_, rfl⟩
    rw [← ht] at HTL
    have HT := Lib.hid ht
    have HA0 : Hid (([] : List UInt8) ++ textP (l.drop 0) = tot) := Lib.hid (by rw [List.drop_zero, ht]; rfl)
    clear hg hb htl ht hn4
    go_enter Tryd.func16, Tryd.ntmps16
    go_wp2_with fail
    refine HP.out.mono ?_
    rintro e w1 ⟨v, rfl, -, hE⟩
    have HE1 := Lib.hid hE
    have HL1 := Lib.hid (HL.out.ext hE)
    have HBD : Hid (Bld w1.heap.size [] (w1.alloc (.cells #[.pointer none, .slice none 0 0] 55))) := Lib.hid (by
      unfold Bld
      refine .inl ⟨Nat.le_refl _, .slice none 0 0, heap_alloc_new w1 _, ?_, by simp [Value.ownBlock]⟩
      exact World.ownsRowF_of (World.ownsRow_nil _ _ _ _))
    have HEB : Hid (Ext w1 (w1.alloc (.cells #[.pointer none, .slice none 0 0] 55))) := Lib.hid ((Ext.refl w1).alloc _)
    clear hE HP
    go_wp2_with fail
    generalize (w1.alloc (.cells #[.pointer none, .slice none 0 0] 55)) = W2 at HBD HEB ⊢
    go_loopw [23] (fun i wr => ∃ (k : Nat) (acc : List UInt8), k ≤ n ∧ i = .int .i64 k ∧ Hid (Bld w1.heap.size acc wr) ∧ Hid (Ext w1 wr) ∧ Hid (acc ++ textP (l.drop k) = tot)) (fun i _ => n - (intOf i).toNat)
    case atStart => exact ⟨0, [], Nat.zero_le _, rfl, HBD, HEB, HA0⟩
    case round =>
      clear HBD HEB HA0
      obtain ⟨k, acc, hk, rfl, HBD, HE, HA⟩ := hrel
      by_cases hlt : k < n
      · obtain ⟨p, o, ak, ck, rfl, y1, y2, x3⟩ := HL1.out.at_ k hlt
        have x1 := HE.out.cell_some y1
        have x2 := HE.out.cell_some y2
        have hkl : k < l.length := by rw [HLN.out]; exact hlt
        have hst := text_step hkl
        obtain ⟨r, hr⟩ : ∃ r, r = l.getD k (0, []) := ⟨_, rfl⟩
        have hrm : r ∈ l := by rw [hr]; simp [hkl]
        rw [← hr] at x1 x2 x3 hst
        obtain ⟨op, A⟩ := r
        simp only [] at x1 x2 x3 hst
        have HX3 := Lib.hid x3
        have hA := HA.out
        rw [hst] at hA
        obtain ⟨REST, hrest⟩ : ∃ REST, REST = textP (l.drop (k + 1)) := ⟨_, rfl⟩
        rw [← hrest] at hA
        have HREST := Lib.hid hrest
        have hAl := (HB.out.2 _ hrm).1
        have HAN : Hid (∀ x ∈ A, I64 x) := Lib.hid (HN.out _ hrm)
        simp only [] at hAl
        have i1 : (k : Int) < n := by omega
        have N1 := Lib.hid (fun w => name_any op w)
        obtain ⟨nm, hnm⟩ : ∃ nm, nm = nameT op := ⟨_, rfl⟩
        rw [← hnm] at N1 hA
        obtain ⟨nb, nok⟩ := nm
        simp only [] at N1 hA
        have HA1 := Lib.hid hA
        have HLEN : Hid (acc.length + nb.data.toList.length + (numsP A).length + 1 ≤ 2000000) := Lib.hid (by
          have h1 := HTL.out
          rw [← HA1.out] at h1
          simp only [List.length_append, List.length_cons, List.length_nil] at h1
          omega)
        have hBl := HBD.out.lt
        have HPB : Hid (wr.heap.size ≠ w1.heap.size) := Lib.hid (by omega)
        obtain ⟨la, hla⟩ : ∃ la, la = A.length := ⟨_, rfl⟩
        have HLA := Lib.hid hla
        rw [← hla] at x2 x3 hAl
        have HX3 := Lib.hid x3
        clear hA hst hr hrm hkl hnm x3 y1 y2 hrest hBl HA hla
        go_wp2_with fail
        refine (N1.out _).mono ?_
        rintro e w3 ⟨rfl, hE⟩
        have B3 := Lib.hid ((Blk.new wr 41 #[.int .i64 op, .slice ak la ck]).ext hE)
        have HE3 := Lib.hid ((HE.out.alloc (.cells #[.int .i64 op, .slice ak la ck] 41)).trans hE)
        have HB3 := Lib.hid (HBD.out.ext (((Ext.refl wr).alloc (.cells #[.int .i64 op, .slice ak la ck] 41)).trans hE))
        clear hE x1 x2 HBD HE
        go_wp2_with fail
        refine (write_s _ acc nb _ HB3.out (by have := HLEN.out; omega)).mono ?_
        rintro e w4 ⟨⟨v4, rfl⟩, hb4, hE, hk4⟩
        have B4 := Lib.hid (blk_kept B3.out HPB.out hk4)
        have HE4 := Lib.hid (ext_below HE3.out hE)
        obtain ⟨acc4, ha4⟩ : ∃ acc4, acc4 = acc ++ nb.data.toList := ⟨_, rfl⟩
        rw [← ha4] at hb4
        have HB4 := Lib.hid hb4
        have HA4 : Hid (acc4 ++ (numsP (A.drop 0) ++ ([10] ++ REST)) = tot) := Lib.hid (by rw [ha4, ← HA1.out, List.drop_zero]; simp)
        have HX4 := Lib.hid (HX3.out.ext HE4.out)
        clear hb4 hE hk4 B3 HE3 HB3 ha4 HA1 HLEN
        obtain ⟨c0, c1, -, -⟩ := B4.out.two
        have hla16 : (la : Int) ≤ 16 := by omega
        go_wp2_with fail
        clear c0 c1
        go_loopw [38] (fun i wq => ∃ (j : Nat) (acc : List UInt8), j ≤ la ∧ i = .int .i64 j ∧ Hid (Bld w1.heap.size acc wq) ∧ Hid (Ext w1 wq) ∧ Hid (acc ++ (numsP (A.drop j) ++ ([10] ++ REST)) = tot)) (fun i _ => la - (intOf i).toNat)
        case atStart => exact ⟨0, acc4, Nat.zero_le _, rfl, HB4, HE4, HA4⟩
        case round =>
          clear HB4 HE4 HA4 HX4 B4
          obtain ⟨j, acc, hj, rfl, HBD, HE, HA⟩ := hrel
          by_cases hlt2 : j < la
          · have hx := HX3.out.ext HE.out
            obtain ⟨pb, po, rfl, -, -⟩ := hx.at_ (by omega)
            have hjl : j < A.length := by rw [← HLA.out]; exact hlt2
            have hs := nums_step2 hjl
            have cc := hx.get rfl (ivs_get A j hjl)
            have hb64 := HAN.out (A.getD j 0) (by
              have : A.getD j 0 = A[j] := by simp [hjl]
              rw [this]; exact List.getElem_mem hjl)
            obtain ⟨x, hxx⟩ : ∃ x, x = A.getD j 0 := ⟨_, rfl⟩
            rw [← hxx] at cc hs hb64
            have IT := Lib.hid (fun w1 h => itoa_any x hb64.1 hb64.2 w1 h)
            have hA := HA.out
            rw [hs] at hA
            have HA1 := Lib.hid hA
            have HLEN : Hid (acc.length + (Lib.itoa x).length + 1 ≤ 2000000) := Lib.hid (by
              have h1 := HTL.out
              rw [← HA1.out] at h1
              simp only [List.length_append, List.length_cons, List.length_nil] at h1
              omega)
            have i2 : (j : Int) < la := by omega
            clear hx hs hb64 hxx hA HA hjl
            go_wp2_with fail
            refine (write_s _ acc ⟨#[32]⟩ _ HBD.out (by have := HLEN.out; show acc.length + 1 ≤ _; omega)).mono ?_
            rintro e w5 ⟨⟨v5, rfl⟩, hb5, hE, -⟩
            have HE5 := Lib.hid (ext_below HE.out hE)
            obtain ⟨acc5, ha5⟩ : ∃ acc5, acc5 = acc ++ (⟨#[32]⟩ : ByteArray).data.toList := ⟨_, rfl⟩
            rw [← ha5] at hb5
            have HB5 := Lib.hid hb5
            have HA5 : Hid (acc5 ++ (Lib.itoa x ++ numsP (A.drop (j + 1)) ++ ([10] ++ REST)) = tot) := Lib.hid (by rw [ha5, ← HA1.out]; simp)
            have hl5 : Hid (acc5.length = acc.length + 1) := Lib.hid (by rw [ha5]; simp)
            clear hb5 hE ha5 cc HBD HE HA1
            go_wp2_with fail
            refine (IT.out _ (HW.out.ext (HE1.out.trans HE5.out))).mono ?_
            rintro e w6 ⟨rfl, hE⟩
            have HE6 := Lib.hid (HE5.out.trans hE)
            have HB6 := Lib.hid (HB5.out.ext hE)
            clear hE HE5 HB5 IT
            go_wp2_with fail
            refine (write_s _ acc5 ⟨(Lib.itoa x).toArray⟩ _ HB6.out (by have h1 := HLEN.out; have h2 := hl5.out; rw [data_mk]; omega)).mono ?_
            rintro e w7 ⟨⟨v7, rfl⟩, hb7, hE, -⟩
            rw [data_mk] at hb7
            have HE7 := Lib.hid (ext_below HE6.out hE)
            have HB7 := Lib.hid hb7
            have HA7 : Hid ((acc5 ++ Lib.itoa x) ++ (numsP (A.drop (j + 1)) ++ ([10] ++ REST)) = tot) := Lib.hid (by rw [← HA5.out]; simp)
            clear hb7 hE HE6 HB6 HA5
            go_wp2_with fail
            go_roundw
            case rel => first | exact ⟨j + 1, acc5 ++ Lib.itoa x, by omega, by go_num, HB7, HE7, HA7⟩ | ((repeat apply Exists.intro); exact ⟨⟨j + 1, acc5 ++ Lib.itoa x, by omega, by go_num, HB7, HE7, HA7⟩, rfl⟩)
            case measure => simp [intOf]; omega
          · obtain rfl : j = la := by omega
            have hA := HA.out
            rw [List.drop_of_length_le (by rw [← HLA.out]; exact Nat.le_refl _), show numsP [] = [] from rfl, List.nil_append] at hA
            have HA1 := Lib.hid hA
            have HLEN : Hid (acc.length + 1 ≤ 2000000) := Lib.hid (by
              have h1 := HTL.out
              rw [← HA1.out] at h1
              simp only [List.length_append, List.length_cons, List.length_nil] at h1
              omega)
            clear hA HA hlt2
            go_wp2_with fail
            refine (write_s _ acc ⟨#[10]⟩ _ HBD.out (by have := HLEN.out; show acc.length + 1 ≤ _; omega)).mono ?_
            rintro e w5 ⟨⟨v5, rfl⟩, hb5, hE, -⟩
            have HE5 := Lib.hid (ext_below HE.out hE)
            have HB5 : Hid (Bld w1.heap.size (acc ++ [10]) w5) := Lib.hid hb5
            have HA5 : Hid ((acc ++ [10]) ++ textP (l.drop (k + 1)) = tot) := Lib.hid (by rw [← HREST.out, ← HA1.out]; simp)
            clear hb5 hE HBD HE HA1
            go_wp2_with fail
            go_roundw
            case rel => first | exact ⟨k + 1, acc ++ [10], by omega, by go_num, HB5, HE5, HA5⟩ | ((repeat apply Exists.intro); exact ⟨⟨k + 1, acc ++ [10], by omega, by go_num, HB5, HE5, HA5⟩, rfl⟩)
            case measure => simp [intOf]; omega
      · obtain rfl : k = n := by omega
        have hA := HA.out
        rw [List.drop_of_length_le (by rw [HLN.out]; exact Nat.le_refl _), show textP [] = [] from rfl, List.append_nil] at hA
        have HA1 := Lib.hid hA
        have ST := Lib.hid (string_bld _ acc wr HBD.out (Nat.le_of_lt HBD.out.lt))
        clear hA HA hlt
        go_wp2_with fail
        refine ST.out.mono ?_
        rintro e w5 ⟨rfl, hE⟩
        have HE5 := Lib.hid (ext_below HE.out hE)
        clear hE
        go_wp2_with fail
        go_ret2
        have he : acc = textP l := HA1.out.trans HT.out
        exact textP_ok HOK.out (by subst he; rfl) (HE1.out.trans HE5.out)
end Go.Proofs.YtaklnijmcidpkaaDoor
