/- Proof text: the law CarveRolls, all its cases. By an AI agent. No condition beyond what each theorem states. -/
import Derived.Test.YtmpkimcegckloaaKD
set_option linter.unusedVariables false
set_option linter.unusedSimpArgs false
namespace Go.Proofs.Ytmpkimcegckloaa
open Go.RowKit
theorem cutAll_len2 (s : List Sd) : ∀ z : List (Vx × Bool), (cutAll cutF s z).length ≤ z.length * 2 ^ s.length := by
  induction s with
  | nil => intro z; simp [cutAll]
  | cons d s ih =>
    intro z
    have h1 := ih (cutBy (cutF d) z)
    have h2 := cutBy_len2 d z
    have h3 : (cutBy (cutF d) z).length * 2 ^ s.length ≤ 2 * z.length * 2 ^ s.length := Nat.mul_le_mul_right _ h2
    have e : z.length * 2 ^ (d :: s).length = 2 * z.length * 2 ^ s.length := by rw [List.length_cons, Nat.pow_succ, Nat.mul_comm (2 ^ s.length) 2, ← Nat.mul_assoc, Nat.mul_comm z.length 2]
    rw [e]
    exact Nat.le_trans h1 h3
theorem carved_len {l : List Vx} {e : List Bool} {s : List Sd} (h : MayC l e s) : (carved l e s).length ≤ 131072 := by
  have h1 := cutAll_len2 s (l.zip e)
  have h2 : (l.zip e).length ≤ 256 := by rw [List.length_zip]; have := h.2.1; omega
  have h3 : 2 ^ s.length ≤ 2 ^ 9 := Nat.pow_le_pow_right (by omega) h.2.2.2.1
  exact Nat.le_trans h1 (Nat.mul_le_mul h2 h3)
theorem zip_rolled {lt : List Vx} {v0 : Vx} {et : List Bool} {x0 : Bool} (h : lt.length = et.length) : Rolled ((v0 :: lt).zip (x0 :: et)) ((lt ++ [v0]).zip (et ++ [x0])) := by
  refine ⟨[(v0, x0)], lt.zip et, by simp, ?_⟩
  rw [List.zip_append h]
  rfl
theorem rolls_in (lt : List Vx) (v0 : Vx) (et : List Bool) (x0 : Bool) (s : List Sd) (A B C : Option Addr) (n k ca cb cc : Nat) (w : World) (hA : Rd w 8 A n ca (vrows (v0 :: lt))) (hl : lt.length + 1 = n) (hB : Rd w 1 B n cb (brows (x0 :: et))) (he : et.length + 1 = n)
    (hC : Rd w 5 C k cc (srow s)) (hs : s.length = k) (hsm : n ≤ 40 ∧ k ≤ 12) :
    Calls Try.prog 13 #[.slice A n ca, .slice B n cb, .slice C k cc] w fun x w' => x = .returned (.bool true) ∧ Ext w w' := by
  by_cases hm : MayC (v0 :: lt) (x0 :: et) s
  · have hr : Rolled (carved (v0 :: lt) (x0 :: et) s) (carved (lt ++ [v0]) (et ++ [x0]) s) := (zip_rolled (by omega)).cutAll cutF s
    refine rolls_core lt v0 et x0 A B C n k ca cb cc w hA hl hB he hsm _ _ _ 0 hr rfl (carved_len hm) ?_ ?_
    · intro W hW
      exact carve_yes (v0 :: lt) (x0 :: et) s A B C n n k ca cb cc W (hA.ext hW) hl (hB.ext hW) he (hC.ext hW) hs hm
    · intro W hW a3 c3 a4 c4 h1 h2
      have h := carve_yes (lt ++ [v0]) (et ++ [x0]) s a3 a4 C _ _ k c3 c4 cc W (by rw [vrows_append]; exact h1) (by simp) (by rw [brows_append]; exact h2) (by simp) (hC.ext hW) hs (rolled_may.1 hm)
      refine h.mono fun x w' h => ?_
      unfold CarveYes at h
      rw [hr.length] at h
      exact h
  · refine rolls_core lt v0 et x0 A B C n k ca cb cc w hA hl hB he hsm [] [] 0 1 (.refl []) rfl (by omega) ?_ ?_
    · intro W hW
      refine (carve_no (v0 :: lt) (x0 :: et) s A B C n n k ca cb cc W (hA.ext hW) hl he (hC.ext hW) hs hm).mono ?_
      rintro x w' ⟨rfl, hE⟩
      exact ⟨none, 0, none, 0, rfl, Rd.empty w' 8 none 0 (by unfold maxLen; omega), Rd.empty w' 1 none 0 (by unfold maxLen; omega), hE⟩
    · intro W hW a3 c3 a4 c4 h1 h2
      refine (carve_no (lt ++ [v0]) (et ++ [x0]) s a3 a4 C _ _ k c3 c4 cc W (by rw [vrows_append]; exact h1) (by simp) (by simp) (hC.ext hW) hs (fun h => hm (rolled_may.2 h))).mono ?_
      rintro x w' ⟨rfl, hE⟩
      exact ⟨none, 0, none, 0, rfl, Rd.empty w' 8 none 0 (by unfold maxLen; omega), Rd.empty w' 1 none 0 (by unfold maxLen; omega), hE⟩
set_option maxHeartbeats 1000000 in
theorem rolls_out (A B C : Option Addr) (n m k ca cb cc : Nat) (w : World) (h : ¬ (n ≤ 40 ∧ m ≤ 40 ∧ k ≤ 12) ∨ ((n ≤ 40 ∧ m ≤ 40 ∧ k ≤ 12) ∧ (n ≠ m ∨ (n = m ∧ n = 0)))) :
    Calls Try.prog 13 #[.slice A n ca, .slice B m cb, .slice C k cc] w fun x w' => x = .returned (.bool true) ∧ Ext w w' := by
  rcases h with h | ⟨h, h2⟩
  · have CS := Lib.hid (small_no A B C n m k ca cb cc w h)
    clear h
    go_enter Try.func13, Try.ntmps13
    go_wp2_with fail
    refine CS.out.mono ?_
    rintro x w1 ⟨rfl, hE⟩
    obtain ⟨x1, rfl⟩ := Later.mk' hE
    clear hE
    go_wp2_with fail
    refine (awake10 _).mono ?_
    rintro x w1 ⟨rfl, hE⟩
    have HE := Lib.hid (x1.ext.trans hE)
    clear hE
    go_wp2_with fail
    go_ret
    exact ⟨rfl, HE.out⟩
  · have CS := Lib.hid (small_yes A B C n m k ca cb cc w h.1 h.2.1 h.2.2)
    rcases h2 with h2 | ⟨rfl, rfl⟩
    · have t1 : (!((n : Int) == (m : Int))) = true := by simp; omega
      have t2 : ((n : Int) == (m : Int)) = false := by simp; omega
      clear h h2
      go_enter Try.func13, Try.ntmps13
      go_wp2_with fail
      refine CS.out.mono ?_
      rintro x w1 ⟨rfl, hE⟩
      obtain ⟨x1, rfl⟩ := Later.mk' hE
      clear hE
      go_wp2_with fail
      refine (awake10 _).mono ?_
      rintro x w1 ⟨rfl, hE⟩
      have HE := Lib.hid (x1.ext.trans hE)
      clear hE
      go_wp2_with fail
      go_ret
      exact ⟨rfl, HE.out⟩
    · clear h
      go_enter Try.func13, Try.ntmps13
      go_wp2_with fail
      refine CS.out.mono ?_
      rintro x w1 ⟨rfl, hE⟩
      obtain ⟨x1, rfl⟩ := Later.mk' hE
      clear hE
      go_wp2_with fail
      refine (awake10 _).mono ?_
      rintro x w1 ⟨rfl, hE⟩
      have HE := Lib.hid (x1.ext.trans hE)
      clear hE
      go_wp2_with fail
      go_ret
      exact ⟨rfl, HE.out⟩
theorem rolls_any (l : List Vx) (e : List Bool) (s : List Sd) (A B C : Option Addr) (n m k ca cb cc : Nat) (w : World) (hA : Rd w 8 A n ca (vrows l)) (hl : l.length = n) (hB : Rd w 1 B m cb (brows e)) (he : e.length = m)
    (hC : Rd w 5 C k cc (srow s)) (hs : s.length = k) :
    Calls Try.prog 13 #[.slice A n ca, .slice B m cb, .slice C k cc] w fun x w' => x = .returned (.bool true) ∧ Ext w w' := by
  by_cases h1 : n ≤ 40 ∧ m ≤ 40 ∧ k ≤ 12
  · by_cases h2 : n = m
    · subst h2
      cases l with
      | nil => simp at hl; exact rolls_out A B C n n k ca cb cc w (.inr ⟨h1, .inr ⟨rfl, hl.symm⟩⟩)
      | cons v0 lt =>
        cases e with
        | nil => simp at he; exact rolls_out A B C n n k ca cb cc w (.inr ⟨h1, .inr ⟨rfl, he.symm⟩⟩)
        | cons x0 et => exact rolls_in lt v0 et x0 s A B C n k ca cb cc w hA hl hB he hC hs ⟨h1.1, h1.2.2⟩
    · exact rolls_out A B C n m k ca cb cc w (.inr ⟨h1, .inl h2⟩)
  · exact rolls_out A B C n m k ca cb cc w (.inl h1)
end Go.Proofs.Ytmpkimcegckloaa
