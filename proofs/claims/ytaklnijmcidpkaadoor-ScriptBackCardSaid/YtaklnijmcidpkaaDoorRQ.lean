/- Proof text: the text of commands (rastrumref29.Print). By an AI agent. No condition beyond what each theorem states. -/
import Derived.Test.YtaklnijmcidpkaaDoorPR
import Derived.Test.YtaklnijmcidpkaaDoorDN
import Derived.Test.YtaklnijmcidpkaaDoorV2
set_option linter.unusedVariables false
set_option linter.unusedSimpArgs false
namespace Go.Proofs.YtaklnijmcidpkaaDoor
open Go.RowKit
theorem str_addb (l : List UInt8) (s : ByteArray) : (⟨l.toArray⟩ : ByteArray) ++ s = ⟨(l ++ s.data.toList).toArray⟩ := by
  apply data_eq
  rw [ByteArray.data_append, Array.toList_append]
set_option maxRecDepth 10000 in
set_option maxHeartbeats 2000000 in
theorem rprint_any (a : Option Addr) (n cap : Nat) (l : List R) (w : World) (hl : RdRecs w a n cap l) (hn : Nums l) : Calls Tryd.prog 17 #[.slice a n cap] w (TextP w l) := by
  have HL := Lib.hid hl
  have HN := Lib.hid hn
  have HP := Lib.hid (rput_any a n cap l w hl)
  have hb63 := hl.le63
  have HLN := Lib.hid hl.len
  clear hl hn
  cases hg : putT l with
  | error c =>
    have HE := Lib.hid hg
    have hc := putT_err hg
    have t1 : (c != 0) = true := by simpa using hc
    rw [hg] at HP
    clear hg hc
    go_enter Tryd.func17, Tryd.ntmps17
    go_wp2_with fail
    refine HP.out.mono ?_
    rintro e w1 ⟨rfl, hE⟩
    have HE1 := Lib.hid hE
    clear hE
    go_wp2_with fail
    go_ret2
    exact textP_err HE.out rfl HE1.out
  | ok q =>
    have HOK := Lib.hid hg
    have hb := putT_ok hg
    have htl := text_len l (fun r hr => (hb.2 r hr).1) HN.out
    rw [hg] at HP
    have HB := Lib.hid hb
    have HTL : Hid ((textP l).length ≤ 2000000) := Lib.hid (by omega)
    have hn4 : n ≤ 4096 := by rw [← HLN.out]; exact hb.1
    have hn4i : (n : Int) ≤ 4096 := by omega
    obtain ⟨tot, ht⟩ : ∃ tot, tot = textP l := ⟨_, rfl⟩
    rw [← ht] at HTL
    have HT := Lib.hid ht
    have HA0 : Hid (([] : List UInt8) ++ textP (l.drop 0) = tot) := Lib.hid (by rw [List.drop_zero, ht]; rfl)
    clear hg hb htl ht hn4
    go_enter Tryd.func17, Tryd.ntmps17
    go_wp2_with fail
    refine HP.out.mono ?_
    rintro e w1 ⟨v, rfl, -, hE⟩
    have HE1 := Lib.hid hE
    have HL1 := Lib.hid (HL.out.ext hE)
    clear hE HP
    go_wp2_with fail
    go_loopw [6, 7] (fun sv i wr => ∃ (k : Nat) (acc : List UInt8), k ≤ n ∧ i = .int .i64 k ∧ sv = .string ⟨acc.toArray⟩ ∧ Hid (Ext w1 wr) ∧ Hid (acc ++ textP (l.drop k) = tot)) (fun _ i _ => n - (intOf i).toNat)
    case atStart => exact ⟨0, [], Nat.zero_le _, rfl, rfl, Lib.hid (Ext.refl _), HA0⟩
    case round =>
      clear HA0
      obtain ⟨k, acc, hk, rfl, rfl, HE, HA⟩ := hrel
      by_cases hlt : k < n
      · obtain ⟨p, o, ak, ck, rfl, y1, y2, x3⟩ := HL1.out.at_ k hlt
        have x1 := HE.out.cell_some y1
        have hkl : k < l.length := by rw [HLN.out]; exact hlt
        have hst := text_step hkl
        obtain ⟨r, hr⟩ : ∃ r, r = l.getD k (0, []) := ⟨_, rfl⟩
        have hrm : r ∈ l := by rw [hr]; simp [hkl]
        rw [← hr] at x1 y2 x3 hst
        obtain ⟨op, A⟩ := r
        simp only [] at x1 y2 x3 hst
        have hA := HA.out
        rw [hst] at hA
        obtain ⟨REST, hrest⟩ : ∃ REST, REST = textP (l.drop (k + 1)) := ⟨_, rfl⟩
        rw [← hrest] at hA
        have HREST := Lib.hid hrest
        have hAl := (HB.out.2 _ hrm).1
        have HAN : Hid (∀ x ∈ A, I64 x) := Lib.hid (HN.out _ hrm)
        simp only [] at hAl
        have i1 : (k : Int) < n := by omega
        have N1 := Lib.hid (fun w => rname_any op w)
        obtain ⟨nm, hnm⟩ : ∃ nm, nm = nameT op := ⟨_, rfl⟩
        rw [← hnm] at N1 hA
        obtain ⟨nb, nok⟩ := nm
        simp only [] at N1 hA
        have HA1 := Lib.hid hA
        have hlen : acc.length + nb.data.toList.length + (numsP A).length + 1 ≤ 2000000 := by
          have h1 := HTL.out
          rw [← HA1.out] at h1
          simp only [List.length_append, List.length_cons, List.length_nil] at h1
          omega
        have n1 : ¬ 9223372036854775807 < acc.length + nb.size := by rw [Lib.size_eq]; omega
        have HLEN := Lib.hid hlen
        obtain ⟨la, hla⟩ : ∃ la, la = A.length := ⟨_, rfl⟩
        have HLA := Lib.hid hla
        rw [← hla] at y2 x3 hAl
        have HX3 := Lib.hid x3
        have HY2 := Lib.hid y2
        clear hA hst hr hrm hkl hnm x3 y1 y2 hrest HA hla hlen
        go_wp2_with fail
        refine (N1.out _).mono ?_
        rintro e w3 ⟨rfl, hE⟩
        have HE3 := Lib.hid (HE.out.trans hE)
        have HA4 : Hid ((acc ++ nb.data.toList) ++ (numsP (A.drop 0) ++ ([10] ++ REST)) = tot) := Lib.hid (by rw [← HA1.out, List.drop_zero]; simp)
        have hsn := str_addb acc nb
        have HSN := Lib.hid hsn
        clear hE x1 HE HA1 hsn N1
        have hla16 : (la : Int) ≤ 16 := by omega
        go_wp2_with fail
        clear n1
        rw [HSN.out]
        go_loopw [6, 10] (fun sv i wq => ∃ (j : Nat) (acc : List UInt8), j ≤ la ∧ i = .int .i64 j ∧ sv = .string ⟨acc.toArray⟩ ∧ Hid (Ext w1 wq) ∧ Hid (acc ++ (numsP (A.drop j) ++ ([10] ++ REST)) = tot)) (fun _ i _ => la - (intOf i).toNat)
        case atStart => exact ⟨0, acc ++ nb.data.toList, Nat.zero_le _, rfl, rfl, HE3, HA4⟩
        case round =>
          clear HE3 HA4 HSN HLEN
          obtain ⟨j, acc, hj, rfl, rfl, HE, HA⟩ := hrel
          have x2 := HE.out.cell_some HY2.out
          by_cases hlt2 : j < la
          · have hx := HX3.out.ext HE.out
            obtain ⟨pb, po, rfl, -, -⟩ := hx.at_ (by omega)
            have hjl : j < A.length := by rw [← HLA.out]; exact hlt2
            have hs := nums_step2 hjl
            have cc := hx.get rfl (ivs_get A j hjl)
            have hb64 := HAN.out (A.getD j 0) (by
              have : A.getD j 0 = A[j] := by simp [hjl]
              rw [this]; exact List.getElem_mem hjl)
            obtain ⟨x, hxx⟩ : ∃ x, x = A.getD j 0 := ⟨_, rfl⟩
            rw [← hxx] at cc hs hb64
            have IT := Lib.hid (fun w1 => rdigits_any x w1 hb64)
            have hA := HA.out
            rw [hs] at hA
            obtain ⟨ds, hds⟩ : ∃ ds, ds = Lib.itoa x := ⟨_, rfl⟩
            rw [← hds] at hA IT
            have HA1 := Lib.hid hA
            have hlen : acc.length + ds.length + 1 ≤ 2000000 := by
              have h1 := HTL.out
              rw [← HA1.out] at h1
              simp only [List.length_append, List.length_cons, List.length_nil] at h1
              omega
            have n1 : ¬ 9223372036854775807 < acc.length + 1 := by omega
            have n2 : ¬ 9223372036854775807 < acc.length + 1 + ds.length := by omega
            have i2 : (j : Int) < la := by omega
            clear hx hs hb64 hxx hA HA hjl hds hlen
            go_wp2_with fail
            refine (IT.out _).mono ?_
            rintro e w6 ⟨rfl, hE⟩
            have HE6 := Lib.hid (HE.out.trans hE)
            have HA7 : Hid ((acc ++ [32] ++ ds) ++ (numsP (A.drop (j + 1)) ++ ([10] ++ REST)) = tot) := Lib.hid (by rw [← HA1.out]; simp)
            have hs : Hid ((⟨acc.toArray⟩ : ByteArray) ++ ⟨#[32]⟩ ++ ⟨ds.toArray⟩ = ⟨(acc ++ [32] ++ ds).toArray⟩) := Lib.hid (by
              rw [show (⟨#[32]⟩ : ByteArray) = ⟨([32] : List UInt8).toArray⟩ from rfl, str_add, str_add])
            clear hE HE HA1 IT x2 cc
            go_wp2_with fail
            go_roundw
            case rel => first | exact ⟨j + 1, acc ++ [32] ++ ds, by omega, by go_num, congrArg Value.string hs.out, HE6, HA7⟩ | ((repeat apply Exists.intro); exact ⟨⟨j + 1, acc ++ [32] ++ ds, by omega, by go_num, congrArg Value.string hs.out, HE6, HA7⟩, rfl⟩)
            case measure => simp [intOf]; omega
          · obtain rfl : j = la := by omega
            have hA := HA.out
            rw [List.drop_of_length_le (by rw [← HLA.out]; exact Nat.le_refl _), show numsP [] = [] from rfl, List.nil_append] at hA
            have HA1 := Lib.hid hA
            have hlen : acc.length + 1 ≤ 2000000 := by
              have h1 := HTL.out
              rw [← HA1.out] at h1
              simp only [List.length_append, List.length_cons, List.length_nil] at h1
              omega
            have n1 : ¬ 9223372036854775807 < acc.length + 1 := by omega
            have hs : Hid ((⟨acc.toArray⟩ : ByteArray) ++ ⟨#[10]⟩ = ⟨(acc ++ [10]).toArray⟩) := Lib.hid (by
              rw [show (⟨#[10]⟩ : ByteArray) = ⟨([10] : List UInt8).toArray⟩ from rfl, str_add])
            have HA5 : Hid ((acc ++ [10]) ++ textP (l.drop (k + 1)) = tot) := Lib.hid (by rw [← HREST.out, ← HA1.out]; simp)
            clear hA HA hlt2 HA1 hlen
            go_wp2_with fail
            go_roundw
            case rel => first | exact ⟨k + 1, acc ++ [10], by omega, by go_num, congrArg Value.string hs.out, HE, HA5⟩ | ((repeat apply Exists.intro); exact ⟨⟨k + 1, acc ++ [10], by omega, by go_num, congrArg Value.string hs.out, HE, HA5⟩, rfl⟩)
            case measure => simp [intOf]; omega
      · obtain rfl : k = n := by omega
        have hA := HA.out
        rw [List.drop_of_length_le (by rw [HLN.out]; exact Nat.le_refl _), show textP [] = [] from rfl, List.append_nil] at hA
        have HA1 := Lib.hid hA
        clear hA HA hlt
        go_wp2_with fail
        go_ret2
        have he : acc = textP l := HA1.out.trans HT.out
        exact textP_ok HOK.out (by subst he; rfl) (HE1.out.trans HE.out)
end Go.Proofs.YtaklnijmcidpkaaDoor
