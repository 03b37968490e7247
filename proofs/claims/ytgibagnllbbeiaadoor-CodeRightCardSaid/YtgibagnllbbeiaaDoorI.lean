/- Proof text of the claims about the statements of layer 4 (code). By an AI agent. No condition beyond what each theorem states. -/
import Derived.Test.YtgibagnllbbeiaaDoorH
import Derived.Test.YtgibagnllbbeiaaDoorE
set_option linter.unusedVariables false
namespace Go.Proofs.YtgibagnllbbeiaaDoor
open Go.RowKit
set_option maxHeartbeats 1000000 in
theorem law_right (op : Int) (a : Option Addr) (n cap : Nat) (A : List Int) (w : World) (h : Glob w) (hA : Rd w 1 a n cap (ivs A)) :
    Calls Tryd.prog 3 #[.agg #[.int .i64 op, .slice a n cap]] w fun e w' => e = .returned (.bool true) ∧ Ext w w' := by
  have Hg := Lib.hid (h.ext ((Ext.refl w).alloc (.cells #[.int .i64 op, .slice a n cap] 24)))
  have HA := Lib.hid (hA.ext ((Ext.refl w).alloc (.cells #[.int .i64 op, .slice a n cap] 24)))
  have hn := hA.nat_le
  clear h hA
  by_cases h40 : 40 < n
  · have hd : decide ((n : Int) > 40) = true := by simp; omega
    go_enter Tryd.func3, Tryd.ntmps3
    go_wp2_with fail
    refine wp_region_later (by kernel_rfl) (by kernel_rfl) ?_
    repeat (go_big_quiet_step ((go_at_call 10; exact Calls.later _ (awake_any _ (Hg.out.ext (Later.ext _))))))
    refine wpQuiet_nil ?_
    intro x
    go_wp2
    go_ret
    exact ⟨rfl, ((Ext.refl w).alloc _).later x⟩
  · have hd : decide ((n : Int) > 40) = false := by simp; omega
    have e0 := Lib.hid (ask_bounds op)
    go_enter Tryd.func3, Tryd.ntmps3
    go_wp2_with fail
    refine wp_region_later (by kernel_rfl) (by kernel_rfl) ?_
    repeat (go_big_quiet_step ((first | (go_at_call 10; exact Calls.later _ (awake_any _ (Hg.out.ext (Later.ext _)))) | (go_at_call 11; exact Calls.later _ (right_any op a n cap A _ (Hg.out.ext (Later.ext _)) (HA.out.ext (Later.ext _)))) | (go_at_call 12; exact Calls.later _ (rright_any op a n cap A _ (HA.out.ext (Later.ext _)))))))
    refine wpQuiet_nil ?_
    intro x
    go_wp2
    go_ret
    exact ⟨by rw [e0.out]; simp, ((Ext.refl w).alloc _).later x⟩
end Go.Proofs.YtgibagnllbbeiaaDoor
