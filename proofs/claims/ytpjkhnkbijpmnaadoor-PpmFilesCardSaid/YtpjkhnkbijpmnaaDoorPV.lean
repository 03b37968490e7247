/- From the row's premises to what the walks ask: the three listed variables; an argument's image. No condition. By an AI agent. -/
import Derived.Test.YtpjkhnkbijpmnaaDoorRows
import Derived.Test.YtpjkhnkbijpmnaaDoorPU
import Derived.ProofKit
import Derived.OpenShut
import Derived.Carry
import Derived.ChangeSame
import Derived.ChangeVars
import Derived.JoinedOf
import Derived.RowKit
import Derived.RowKitTokens
import Derived.LaidLaws
import Derived.LaidHandle
import Derived.Lib.LaidTab
import Derived.Lib.LaidU8
import Derived.Lib.SmallJoins
import Derived.Stop.Joined
import Derived.Below
import Derived.Lay
import Derived.MakeChecks
set_option linter.unusedVariables false
set_option linter.unusedSimpArgs false
set_option maxRecDepth 100000
namespace Go.Proofs.YtpjkhnkbijpmnaaDoor
open Go.ChangeShapes Go.WideShapes Go.ChangeAt Go.RowKit Go.Joins
theorem own : ownKnob Tryd.prog.godebug = none := by kernel_rfl
theorem laidOut : laidOutB Tryd.prog = true := by kernel_rfl
theorem c3 : Tryd.prog.cellsOf 3 = 1 := by kernel_rfl
theorem cIm : Tryd.prog.cellsOf 24 = 4 := by kernel_rfl
theorem cu64 : Tryd.prog.cellsOf 55 = 1 := by kernel_rfl
theorem c20 : Tryd.prog.cellsOf 62 = 20 := by kernel_rfl
/-- The rows' list. -/
abbrev laidL : List (String × DataW Unit) := [("math/bits.deBruijn32tab", Rows.laid_math_bits_deBruijn32tab), ("math/bits.deBruijn64tab", Rows.laid_math_bits_deBruijn64tab), ("internal/strconv.uint64pow10", Rows.laid_internal_strconv_uint64pow10)]
theorem pow_tab : (Rows.laid_internal_strconv_uint64pow10 : DataW Unit) = Lib.tabData .u64 Lib.pow10Tab := by kernel_rfl
theorem tb_of_laid {W : World} (h : laidMetH Tryd.prog laidL W) : Tb W := by
  rw [MakeChecks.laidMetH_plain _ _ _ (by kernel_rfl)] at h
  obtain ⟨g, t, cs, fuel, p, hg, ht, hv, hd⟩ := Lib.laidMet.reads h (n := "internal/strconv.uint64pow10") (d := Rows.laid_internal_strconv_uint64pow10) (.tail _ (.tail _ (.head _)))
  obtain rfl := Option.some.inj ((show Tryd.prog.globalNamed "internal/strconv.uint64pow10" = some 0 by kernel_rfl).symm.trans hg)
  obtain rfl := Option.some.inj ((show (Tryd.prog.globals[0]?).map (·.type) = some 62 by kernel_rfl).symm.trans ht)
  unfold Tb Lib.TabIs
  rw [pow_tab] at hd
  rw [hv, ← Lib.cells_of_tab Tryd.underlying62 Tryd.underlying55 cu64 c20 hd]
theorem laid_met (os : Os) (args : Array Value) : laidMetH Tryd.prog laidL ((World.laidAll Tryd.prog os laidL).forCall (fun _ _ => 0) ⟨#[], args, []⟩).memory := by
  rw [MakeChecks.laidMetH_plain _ _ _ (by kernel_rfl)]
  exact laidMet_laidAll _ (by kernel_rfl) (by kernel_rfl)
/-- A slice of ints that came in. -/
theorem ints_rd {H : Type} {enc : TypeId × Value → H} {W : World} {held : Bool} {fuel : Nat} {v : Value} {y : DataW H × List MemPlace} (h : DataW.trod enc Tryd.prog W 0 (fun _ => true) held fuel 22 [v] = some y) :
    ∃ a n cap A, v = .slice a n cap ∧ Rd W 1 a n cap (ivs A) := by
  rcases open_ints Tryd.underlying22 Tryd.underlying3 c3 h with ⟨hcs, _⟩ | ⟨x, l, c, zs, hcs, _, hl, hm, hz, _, hcell, hwz⟩
  · exact ⟨none, 0, 0, [], by simpa using hcs, Rd.empty W 1 none 0 (by unfold maxLen; omega)⟩
  · refine ⟨some x, l, c, zs.take l, by simpa using hcs, ?_⟩
    have hzc : zs.length = c := by simpa using hz
    refine ⟨by simp; omega, hl, hm, fun h0 => ?_⟩
    obtain ⟨b, off, spot⟩ := x
    have hc0 := hcell 0 (by omega)
    have hspot : spot = none := by simpa [Addr.add] using World.cell?_spot hc0
    subst hspot
    refine ⟨b, off, rfl, World.block_lt_of_cell? W _ hc0, fun j hj => ?_⟩
    have hj' := hcell j (by omega)
    have hadd : (⟨b, off, none⟩ : Addr).add j = ⟨b, off + j, none⟩ := by unfold Addr.add; split <;> simp_all
    rw [hadd] at hj'
    rw [hj']
    have : j < l := by omega
    have hjz : j < zs.length := by omega
    simp [this, hjz]
/-- An image that came in. -/
theorem open_im {H : Type} {enc : TypeId × Value → H} {W : World} {held : Bool} {r : Reach} {b0 : Nat} {v : Value} {d : DataW H} {p : List MemPlace} (hv : Value.okWide Tryd.prog W r b0 24 v) (h : DataW.Trod enc Tryd.prog W 0 (fun _ => true) held 24 v d p) : ∃ m : Im, ImR W v m := by
  obtain ⟨a0, a1, a2, a3, y0, y1, y2, y3, n, rfl, _, _, h0, h1, h2, h3⟩ := open_agg4 Tryd.underlying24 (by kernel_rfl) cIm hv h
  obtain ⟨w, e0, _, _⟩ := DataW.trod_int Tryd.underlying3 h0
  obtain rfl : a0 = .int .i64 w := by simpa using e0
  obtain ⟨x, e1, _, _⟩ := DataW.trod_int Tryd.underlying3 h1
  obtain rfl : a1 = .int .i64 x := by simpa using e1
  obtain ⟨sa, sn, sc, C, rfl, hC⟩ := ints_rd h2
  obtain ⟨ta, tn, tc, Z, rfl, hZ⟩ := ints_rd h3
  obtain rfl := rdl hC
  obtain rfl := rdl hZ
  exact ⟨⟨w, x, C, Z⟩, sa, ta, sc, tc, rfl, hC, hZ⟩
end Go.Proofs.YtpjkhnkbijpmnaaDoor
