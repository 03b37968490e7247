/- Proof text: math/bits.Div64, its short way. By an AI agent. No condition beyond what each theorem states. -/
import Derived.Test.YtibhfclkdbmmoaaXD
import Derived.Test.YtibhfclkdbmmoaaD64
set_option linter.unusedVariables false
set_option linter.unusedSimpArgs false
namespace Go.Proofs.Ytibhfclkdbmmoaa
open Go.RowKit

set_option maxHeartbeats 400000 in
theorem div64_low (l y : Int) (w : World) (e0 : (y == 0) = false) (e1 : decide (y ≤ 0) = false) (hl : 0 ≤ l) (hl2 : l < 18446744073709551616) (hy : 0 < y) :
    Calls Try.prog 55 #[.int .u64 0, .int .u64 l, .int .u64 y] w fun e w' => e = .returned (.tuple #[.int .u64 (l / y), .int .u64 (l % y)]) ∧ ∃ n, w' = w.drewN n := by
  have hq : l.tdiv y = l / y := Int.tdiv_eq_ediv_of_nonneg hl
  have hr : l.tmod y = l % y := Int.tmod_eq_emod_of_nonneg hl
  have hy0 : y ≠ 0 := by omega
  have hw : IntKind.u64.wrap (l / y) = l / y := by
    have h1 : 0 ≤ l / y := Int.ediv_nonneg hl (by omega)
    have h2 : l / y ≤ l := Int.ediv_le_self _ hl
    rw [IntKind.wrap_u64]; omega
  go_enter Try.func55, Try.ntmps55
  go_wp2
  go_quiet (fail)
  all_goals (try go_wp2)
  all_goals go_ret2
  all_goals exact ⟨by first | rfl | (simp only [hq, hr]; rfl) | (rw [hq, hr]; rfl), _, rfl⟩
end Go.Proofs.Ytibhfclkdbmmoaa
