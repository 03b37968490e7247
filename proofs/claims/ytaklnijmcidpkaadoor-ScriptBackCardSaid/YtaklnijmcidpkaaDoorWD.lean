/- Proof text: what the walks ask of the world (listed variables, one number of the library's); the library's contracts in one form. By an AI agent. No condition beyond what each theorem states. -/
import Derived.Test.YtaklnijmcidpkaaDoorC
import Derived.Test.YtaklnijmcidpkaaDoorSH
import Derived.Test.YtaklnijmcidpkaaDoorNU
import Derived.Lib.LaidTab
import Derived.Lib.AtoiErrMem
import Derived.Lib.ItoaLen
set_option linter.unusedVariables false
set_option linter.unusedSimpArgs false
namespace Go.Proofs.YtaklnijmcidpkaaDoor
open Go.RowKit
/-- The table of powers of ten reads as it was laid. -/
def Tb (w : World) : Prop := Lib.TabIs Tryd.prog w "internal/strconv.uint64pow10" .u64 Lib.pow10Tab
theorem Tb.ext {w w' : World} (h : Tb w) (e : Ext w w') : Tb w' := by
  unfold Tb Lib.TabIs World.var? at h ⊢
  cases hg : Tryd.prog.globalNamed "internal/strconv.uint64pow10" with
  | none => rw [hg] at h; cases h
  | some g =>
    rw [hg] at h
    simp only [Option.bind_some] at h ⊢
    by_cases hlt : g < w.heap.size
    · rw [e.block hlt]; exact h
    · rw [Array.getElem?_eq_none (by omega)] at h; cases h
/-- What a walk asks of the world it begins in. -/
structure Wd (w : World) : Prop where
  glob : Glob w
  tab : Tb w
  err : ∃ te pe, w.cell? ⟨5, 0, none⟩ = some (.iface te pe)
  len : ∃ m, w.cell? ⟨0, 0, none⟩ = some (.int .i64 m)
theorem Wd.ext {w w' : World} (h : Wd w) (e : Ext w w') : Wd w' := by
  obtain ⟨a, b, ⟨te, pe, c⟩, ⟨m, d⟩⟩ := h
  exact ⟨a.ext e, b.ext e, ⟨te, pe, e.cell_some c⟩, ⟨m, e.cell_some d⟩⟩
theorem ext_grow (w : World) (os : Array Obj) : Ext w (Sort.grow w os) :=
  ⟨rfl, rfl, rfl, by simp [Sort.grow], fun k hk => by simp [Sort.grow, Array.getElem?_append_left hk]⟩
theorem itoa_any (n : Int) (h0 : -9223372036854775808 ≤ n) (h1 : n ≤ 9223372036854775807) (w : World) (hT : Wd w) :
    Calls Tryd.prog 25 #[.int .i64 n] w fun e w' => e = .returned (.string ⟨(Lib.itoa n).toArray⟩) ∧ Ext w w' := by
  refine (Tryd.strconv_Itoa n h0 h1 w hT.tab).mono ?_
  rintro e w' ⟨rfl, k, os, rfl⟩
  exact ⟨rfl, (Ext.drewN (Ext.refl w) k).trans (ext_grow _ os)⟩
theorem cut_any (s sep : ByteArray) (c : UInt8) (w : World) (hs : s.size ≤ 1000000) (hc : sep.data.toList = [c]) (hW : Wd w) :
    Calls Tryd.prog 18 #[.string s, .string sep] w fun e w' => e = .returned (.tuple #[.string ⟨(cut1 c s.data.toList).1.toArray⟩, .string ⟨(cut1 c s.data.toList).2.1.toArray⟩, .bool (cut1 c s.data.toList).2.2]) ∧ Ext w w' := by
  obtain ⟨m, hm⟩ := hW.len
  refine (Tryd.strings_Cut s sep m w (by omega) hm).mono ?_
  rintro e w' ⟨rfl, n, rfl⟩
  rw [hc, cut_is]
  exact ⟨rfl, Ext.drewN (Ext.refl w) n⟩
theorem strip_is (l : List UInt8) : Lib.hasPrefix l [45] = (strip l).1 ∧ Lib.trimPrefix l [45] = (strip l).2 := by
  have e : Lib.hasPrefix l [45] = (strip l).1 := by
    unfold Lib.hasPrefix strip
    cases l with
    | nil => rfl
    | cons b l =>
      by_cases h : b = 45
      · subst h; simp [List.isPrefixOf]
      · have h2 : ¬ (45 : UInt8) = b := fun e => h e.symm
        simp [List.isPrefixOf, h, h2]
  refine ⟨e, ?_⟩
  unfold Lib.trimPrefix
  rw [e]
  unfold strip
  split <;> rfl
theorem prefix_any (s p : ByteArray) (w : World) (hp : p.data.toList = [45]) :
    Calls Tryd.prog 39 #[.string s, .string p] w fun e w' => e = .returned (.tuple #[.string ⟨(strip s.data.toList).2.toArray⟩, .bool (strip s.data.toList).1]) ∧ Ext w w' := by
  refine (Tryd.strings_CutPrefix s p w).mono ?_
  rintro e w' ⟨rfl, rfl⟩
  rw [hp, (strip_is _).1, (strip_is _).2]
  exact ⟨rfl, Ext.refl _⟩
theorem atoi_ok (s : ByteArray) (hs : s.size ≤ 1000000) (v : Int) (h : Lib.atoiAll s.data.toList = .ok v) (w : World) :
    Calls Tryd.prog 41 #[.string s] w fun e w' => e = .returned (.tuple #[.int .i64 v, .nilIface]) ∧ Ext w w' := by
  refine (Tryd.strconv_Atoi_ok s (by omega) v h w).mono ?_
  rintro e w' ⟨rfl, h⟩
  refine ⟨rfl, ?_⟩
  rcases h with rfl | ⟨t, rfl⟩
  · exact Ext.refl _
  · exact Lib.bytesWorld_below _ _ _
theorem atoi_range (s : ByteArray) (hs : s.size ≤ 1000000) (h : Lib.atoiAll s.data.toList = .range) (w : World) (hW : Wd w) :
    Calls Tryd.prog 41 #[.string s] w fun e w' => ∃ v N, e = .returned (.tuple #[.int .i64 v, .iface 95 (.pointer (some ⟨N, 0, none⟩))]) ∧ Ext w w' := by
  obtain ⟨te, pe, he⟩ := hW.err
  refine (Tryd.strconv_Atoi_range s (by omega) h _ w he (.inr ⟨te, pe, rfl⟩)).mono ?_
  rintro e w' ⟨N, rfl, -, -, hb⟩
  exact ⟨_, N, rfl, hb⟩
end Go.Proofs.YtaklnijmcidpkaaDoor
