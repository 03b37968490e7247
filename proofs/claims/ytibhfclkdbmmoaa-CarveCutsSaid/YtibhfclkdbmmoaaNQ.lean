/- Proof text: what holds between any two operations of the region of rastrumref02.Floor that brings one bit down. By an AI agent. No condition beyond what each theorem states. -/
import Derived.Test.YtibhfclkdbmmoaaNO
set_option linter.unusedVariables false
set_option linter.unusedSimpArgs false
namespace Go.Proofs.Ytibhfclkdbmmoaa
open Go.RowKit
theorem wp_of_skip {P : Program} {Q : Exit → Act → World → Prop} {o : Oper} {K : Act → World → Prop} {a : Act} {w w' : World} (h : (execOp a.eval o).run P w = .ok .skip w') (hk : K (a.put o.dst undef) w') : o.wp P a w K Q := by
  unfold Oper.wp
  rw [h]
  exact hk
def DF : List Nat := [20, 21, 22, 23, 24, 25, 26, 27, 28, 29, 30]
/-- A row of its own, of bits. -/
def OwnB (wr x : World) (v : Value) (l : List Bool) : Prop := x.ownsRow wr.heap.size 5 1 v l.length (brw l)
structure RF (wr : World) (pA vA ix pB pR : Value) (xb : Bool) (rb : List Bool) (ar : Option Addr) (nr cr : Nat) (G : Nat) (Post : World → Prop) (st : Nat → Bool) (u : Nat → Value) (x : World) : Prop where
  ext : st 11 = false → Ext wr x
  e20 : st 0 = true → u 20 = pA
  e21 : st 1 = true → u 21 = vA
  e22 : st 2 = true → u 22 = ix
  e23 : st 3 = true → u 23 = pB
  e24 : st 4 = true → u 24 = .int .u8 (bN xb)
  o25 : st 5 = true → st 8 = false → OwnB wr x (u 25) [xb]
  e26 : st 6 = true → u 26 = pR
  e27 : st 7 = true → u 27 = .slice ar nr cr
  o28 : st 8 = true → st 11 = false → ∃ a c, u 28 = .slice a (1 + nr) c ∧ Rd x 1 a (1 + nr) c (brw (xb :: rb))
  e29 : st 9 = true → u 29 = .agg #[.bool false, u 28]
  o30 : st 10 = true → st 11 = false → NumF x G (u 30) (sg false (bval (xb :: rb)))
  post : st 11 = true → Post x
section
variable {wr x x' : World} {pA vA ix pB pR : Value} {xb : Bool} {rb : List Bool} {ar : Option Addr} {nr cr G : Nat} {Post : World → Prop} {st : Nat → Bool} {u : Nat → Value}
theorem RF.begin (h : Ext wr x) : RF wr pA vA ix pB pR xb rb ar nr cr G Post (fun _ => false) u x := by
  constructor <;> first | exact fun _ => h | (intro h; cases h)
theorem RF.later (h : RF wr pA vA ix pB pR xb rb ar nr cr G Post st u x) (hE : Ext x x') (hp : st 11 = false) : RF wr pA vA ix pB pR xb rb ar nr cr G Post st u x' :=
  { h with
    ext := fun a => (h.ext a).trans hE
    o25 := fun a b => ownsRow_ext (h.o25 a b) hE
    o28 := fun a b => let ⟨a1, c1, h1, h2⟩ := h.o28 a b; ⟨a1, c1, h1, h2.ext hE⟩
    o30 := fun a b => (h.o30 a b).ext hE
    post := fun a => by rw [hp] at a; cases a }
theorem RF.s0 (h : RF wr pA vA ix pB pR xb rb ar nr cr G Post st u x) : RF wr pA vA ix pB pR xb rb ar nr cr G Post (ups st 0) (upu u 20 pA) x := { h with e20 := fun _ => rfl }
theorem RF.s1 (h : RF wr pA vA ix pB pR xb rb ar nr cr G Post st u x) : RF wr pA vA ix pB pR xb rb ar nr cr G Post (ups st 1) (upu u 21 vA) x := { h with e21 := fun _ => rfl }
theorem RF.s2 (h : RF wr pA vA ix pB pR xb rb ar nr cr G Post st u x) : RF wr pA vA ix pB pR xb rb ar nr cr G Post (ups st 2) (upu u 22 ix) x := { h with e22 := fun _ => rfl }
theorem RF.s3 (h : RF wr pA vA ix pB pR xb rb ar nr cr G Post st u x) : RF wr pA vA ix pB pR xb rb ar nr cr G Post (ups st 3) (upu u 23 pB) x := { h with e23 := fun _ => rfl }
theorem RF.s4 (h : RF wr pA vA ix pB pR xb rb ar nr cr G Post st u x) : RF wr pA vA ix pB pR xb rb ar nr cr G Post (ups st 4) (upu u 24 (.int .u8 (bN xb))) x := { h with e24 := fun _ => rfl }
theorem RF.s6 (h : RF wr pA vA ix pB pR xb rb ar nr cr G Post st u x) : RF wr pA vA ix pB pR xb rb ar nr cr G Post (ups st 6) (upu u 26 pR) x := { h with e26 := fun _ => rfl }
theorem RF.s7 (h : RF wr pA vA ix pB pR xb rb ar nr cr G Post st u x) : RF wr pA vA ix pB pR xb rb ar nr cr G Post (ups st 7) (upu u 27 (.slice ar nr cr)) x := { h with e27 := fun _ => rfl }
theorem RF.s5 (h : RF wr pA vA ix pB pR xb rb ar nr cr G Post st u x) (hp : st 11 = false) {v : Value} (hE : Ext x x') (ho : OwnB wr x' v [xb]) : RF wr pA vA ix pB pR xb rb ar nr cr G Post (ups st 5) (upu u 25 v) x' :=
  { h.later hE hp with o25 := fun _ _ => ho }
theorem RF.s8 (h : RF wr pA vA ix pB pR xb rb ar nr cr G Post st u x) (n9 : st 9 = false) (n10 : st 10 = false) (hp : st 11 = false) {a : Option Addr} {c : Nat} (hE : Ext wr x') (hr : Rd x' 1 a (1 + nr) c (brw (xb :: rb))) : RF wr pA vA ix pB pR xb rb ar nr cr G Post (ups st 8) (upu u 28 (.slice a (1 + nr) c)) x' :=
  { h with
    ext := fun _ => hE
    o25 := fun _ b => by cases b
    o28 := fun _ _ => ⟨a, c, rfl, hr⟩
    e29 := fun a => by have a' : st 9 = true := a; rw [n9] at a'; cases a'
    o30 := fun a _ => by have a' : st 10 = true := a; rw [n10] at a'; cases a'
    post := fun a => by have a' : st 11 = true := a; rw [hp] at a'; cases a' }
theorem RF.s9 (h : RF wr pA vA ix pB pR xb rb ar nr cr G Post st u x) : RF wr pA vA ix pB pR xb rb ar nr cr G Post (ups st 9) (upu u 29 (.agg #[.bool false, u 28])) x := { h with e29 := fun _ => rfl }
theorem RF.s10 (h : RF wr pA vA ix pB pR xb rb ar nr cr G Post st u x) (hp : st 11 = false) {v : Value} (hE : Ext x x') (hn : NumF x' G v (sg false (bval (xb :: rb)))) : RF wr pA vA ix pB pR xb rb ar nr cr G Post (ups st 10) (upu u 30 v) x' :=
  { h.later hE hp with o30 := fun _ _ => hn }
theorem RF.s11 (h : RF wr pA vA ix pB pR xb rb ar nr cr G Post st u x) {x' : World} (h8 : st 8 = true) (hp : Post x') : RF wr pA vA ix pB pR xb rb ar nr cr G Post (ups st 11) u x' :=
  { h with
    ext := fun a => by cases a
    o25 := fun _ b => by have b' : st 8 = false := b; rw [h8] at b'; cases b'
    o28 := fun _ b => by cases b
    o30 := fun _ b => by cases b
    post := fun _ => hp }
end
end Go.Proofs.Ytibhfclkdbmmoaa
