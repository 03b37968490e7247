/- Proof text: the law SideTells. By an AI agent. No condition beyond what each theorem states. -/
import Derived.Test.YtmpkimcegckloaaSM
set_option linter.unusedVariables false
set_option linter.unusedSimpArgs false
namespace Go.Proofs.Ytmpkimcegckloaa
open Go.RowKit
set_option maxHeartbeats 2000000 in
theorem tells_walk (s : Sd) (v : Vx) (w : World) (r f : Bool) (D : Int)
    (c1 : ∀ W, Calls Try.prog 14 #[s.v] W fun e w' => e = .returned (.bool r) ∧ Ext W w')
    (c2 : ∀ W, Calls Try.prog 15 #[s.v] W fun e w' => e = .returned (.bool r) ∧ Ext W w')
    (c3 : ∀ W, Calls Try.prog 16 #[v.v] W fun e w' => e = .returned (.bool f) ∧ Ext W w')
    (c4 : ∀ W, Calls Try.prog 17 #[v.v] W fun e w' => e = .returned (.bool f) ∧ Ext W w')
    (c5 : r = true ∧ f = true → ∀ W, Calls Try.prog 19 #[s.v, v.v] W fun e w' => e = .returned (.int .i64 D) ∧ Ext W w')
    (c6 : r = true ∧ f = true → ∀ W, Calls Try.prog 20 #[s.v, v.v] W fun e w' => e = .returned (.int .i64 D) ∧ Ext W w') :
    Calls Try.prog 3 #[s.v, v.v] w fun e w' => e = .returned (.bool true) ∧ Ext w w' := by
  have C1 := Lib.hid c1; clear c1
  have C2 := Lib.hid c2; clear c2
  have C3 := Lib.hid c3; clear c3
  have C4 := Lib.hid c4; clear c4
  have C5 := Lib.hid c5; clear c5
  have C6 := Lib.hid c6; clear c6
  have dd : (D == D) = true := by simp
  cases r <;> cases f
  all_goals
    go_enter Try.func3, Try.ntmps3
    go_wp2_with fail
    refine wp_region_later (by kernel_rfl) (by kernel_rfl) ?_
    repeat (go_big_quiet_step ((first | (go_at_call 14; exact Calls.later _ (C1.out _)) | (go_at_call 15; exact Calls.later _ (C2.out _)) | (go_at_call 16; exact Calls.later _ (C3.out _)) | (go_at_call 17; exact Calls.later _ (C4.out _)))))
    refine wpQuiet_nil ?_
    intro x
    obtain ⟨p0, p1, p2, p3, p4⟩ := cells5 (s := s) ((Blk.alloc (Blk.new w 24 s.row.toArray) (.cells v.row 27)).later x)
    obtain ⟨q0, q1, q2, q3, q4, q5, q6, q7⟩ := cells8 (v := v) ((Blk.new' (w.alloc (.cells s.row.toArray 24)) 27 v.row (g := w.heap.size + 1) (by simp)).later x)
    go_wp2_with fail
    refine wp_region_later (by kernel_rfl) (by kernel_rfl) ?_
    repeat (go_big_quiet_step ((first | (go_at_call 18; exact Calls.later _ (awake8 _)) | (go_at_call 15; exact Calls.later _ (C2.out _)) | (go_at_call 17; exact Calls.later _ (C4.out _)) | (go_at_call 19; exact Calls.later _ (C5.out ⟨trivial, trivial⟩ _)) | (go_at_call 20; exact Calls.later _ (C6.out ⟨trivial, trivial⟩ _)))))
    refine wpQuiet_nil ?_
    intro y
    go_wp2_with fail
    go_ret
    exact ⟨rfl, by (repeat (first | with_reducible exact Ext.refl _ | with_reducible assumption | with_reducible refine Ext.alloc ?_ _ | with_reducible refine Ext.drew ?_ | with_reducible refine Ext.drewN ?_ _ | with_reducible refine Ext.later ?_ _ | (with_reducible refine Ext.setCell ?_ _ ?hp; case hp => first | (simp; done) | (simp; omega) | omega)))⟩
theorem law_tells (s : Sd) (v : Vx) (w : World) : Calls Try.prog 3 #[s.v, v.v] w fun e w' => e = .returned (.bool true) ∧ Ext w w' := by
  by_cases hs : s.Ok
  · by_cases hv : v.Fit
    · exact tells_walk s v w true true (dist s v) (fun W => right_yes s W hs) (fun W => rright_yes s W hs) (fun W => fits_yes v W hv) (fun W => rfits_yes v W hv) (fun _ W => dist_any s v W hs hv) (fun _ W => rdist_any s v W hs hv)
    · exact tells_walk s v w true false 0 (fun W => right_yes s W hs) (fun W => rright_yes s W hs) (fun W => fits_no v W hv) (fun W => rfits_no v W hv) (fun h => by simp at h) (fun h => by simp at h)
  · by_cases hv : v.Fit
    · exact tells_walk s v w false true 0 (fun W => right_no s W hs) (fun W => rright_no s W hs) (fun W => fits_yes v W hv) (fun W => rfits_yes v W hv) (fun h => by simp at h) (fun h => by simp at h)
    · exact tells_walk s v w false false 0 (fun W => right_no s W hs) (fun W => rright_no s W hs) (fun W => fits_no v W hv) (fun W => rfits_no v W hv) (fun h => by simp at h) (fun h => by simp at h)
end Go.Proofs.Ytmpkimcegckloaa
