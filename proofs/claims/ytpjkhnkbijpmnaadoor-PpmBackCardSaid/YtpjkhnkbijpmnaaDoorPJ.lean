/- Proof text: the decimal numeral (strconv.Itoa) in worlds that come later; bytes as strings. By an AI agent. No condition beyond what each theorem states. -/
import Derived.Test.YtpjkhnkbijpmnaaDoorPI
import Derived.Test.YtpjkhnkbijpmnaaDoorPS
import Derived.Lib.LaidTab
import Derived.Lib.AppendStr
import Derived.Laws.BytesString
import Derived.Lib.ItoaLen
set_option linter.unusedVariables false
set_option linter.unusedSimpArgs false
namespace Go.Proofs.YtpjkhnkbijpmnaaDoor
open Go.RowKit
/-- The table of powers of ten reads as it was laid. -/
def Tb (w : World) : Prop := Lib.TabIs Tryd.prog w "internal/strconv.uint64pow10" .u64 Lib.pow10Tab
theorem Tb.ext {w w' : World} (h : Tb w) (e : Ext w w') : Tb w' := by
  unfold Tb Lib.TabIs World.var? at h ⊢
  cases hg : Tryd.prog.globalNamed "internal/strconv.uint64pow10" with
  | none => rw [hg] at h; cases h
  | some g =>
    rw [hg] at h
    simp only [Option.bind_some] at h ⊢
    by_cases hlt : g < w.heap.size
    · rw [e.block hlt]; exact h
    · rw [Array.getElem?_eq_none (by omega)] at h; cases h
theorem ext_grow (w : World) (os : Array Obj) : Ext w (Sort.grow w os) :=
  ⟨rfl, rfl, rfl, by simp [Sort.grow], fun k hk => by simp [Sort.grow, Array.getElem?_append_left hk]⟩
theorem itoa_any (n : Int) (h0 : -9223372036854775808 ≤ n) (h1 : n ≤ 9223372036854775807) (w : World) (hT : Tb w) :
    Calls Tryd.prog 15 #[.int .i64 n] w fun e w' => e = .returned (.string ⟨(Lib.itoa n).toArray⟩) ∧ Ext w w' := by
  refine (Tryd.strconv_Itoa n h0 h1 w hT).mono ?_
  rintro e w' ⟨rfl, k, os, rfl⟩
  exact ⟨rfl, (Ext.drewN (Ext.refl w) k).trans (ext_grow _ os)⟩
theorem info_u8 : (Tryd.prog.info? 5).map (fun i => (i.zero, i.size, i.bytes)) = some (some (.int .u8 0), 1, 1) := by kernel_rfl
theorem fold_push (l : List UInt8) : ∀ s : ByteArray, (l.map fun b => (b.toNat : Int)).foldl (fun r n => r.push (UInt8.ofNat n.toNat)) s = ⟨s.data ++ l.toArray⟩ := by
  induction l with
  | nil => intro s; simp
  | cons b l ih =>
    intro s
    rw [List.map_cons, List.foldl_cons, ih]
    simp [ByteArray.push]
/-- A row of bytes, as a string. -/
theorem run_text {w : World} {a : Option Addr} {n c : Nat} {l : List UInt8} (h : Rd w 1 a n c (bvs l)) (hn : 0 < n) :
    (convert 33 9 (.slice a n c)).run Tryd.prog w = .ok (.string ⟨l.toArray⟩) w := by
  obtain ⟨b, off, rfl, -, hc⟩ := h.at_ hn
  rw [run_convert_bytes_string w _ _ _ _ _ _ Tryd.underlying33 Tryd.underlying5 Tryd.underlying9]
  have hl : l.length = n := by have := h.len; simpa using this
  have hload := run_loadCells_list (P := Tryd.prog) (w := w) ⟨b, off, none⟩ (bvs l) h.news
  rw [List.length_map, hl] at hload
  have e : (bvs l).toArray = ((l.map fun b => (b.toNat : Int)).map (Value.int .u8)).toArray := by simp [bvs, Function.comp_def]
  rw [e] at hload
  rw [run_bytesToString w ⟨b, off, none⟩ n c _ hload, fold_push]
  simp [ByteArray.empty, ByteArray.emptyWithCapacity]
  rfl
end Go.Proofs.YtpjkhnkbijpmnaaDoor
