/- Proof text: what holds between any two operations of the region of CarveRolls that rolls a polygon by one and carves it. By an AI agent. No condition beyond what each theorem states. -/
import Derived.Test.YtmpkimcegckloaaKA
import Derived.Test.YtmpkimcegckloaaLI
set_option linter.unusedVariables false
set_option linter.unusedSimpArgs false
namespace Go.Proofs.Ytmpkimcegckloaa
open Go.RowKit
theorem own_keep {w w' : World} {base : Nat} {e : TypeId} {size : Nat} {v : Value} {n : Nat} {xs : List Value} {row : Option Nat} (h : w.ownsRow base e size v n xs) (hg : w.grownBy w' row) (hne : ∀ g, v.ownBlock = some g → row ≠ some g) : w'.ownsRow base e size v n xs :=
  h.kept (row := row) hg (by
    cases hv : v.ownBlock with
    | none => exact .inl rfl
    | some g => exact .inr fun h => hne g hv h.symm)
theorem own_types {w : World} {base base' : Nat} {e e' : TypeId} {size size' : Nat} {v v' : Value} {n n' : Nat} {xs xs' : List Value} (h : w.ownsRow base e size v n xs) (h' : w.ownsRow base' e' size' v' n' xs') (he : e ≠ e') : ∀ g, v.ownBlock = some g → v'.ownBlock ≠ some g := by
  intro g h1 h2
  obtain ⟨cur, hb⟩ := ownsRow_block h h1
  obtain ⟨cur', hb'⟩ := ownsRow_block h' h2
  rw [hb] at hb'
  injection hb' with hb'
  injection hb' with _ ht
  exact he ht
/-- A part of a result of several values. -/
def comp (v : Value) (k : Nat) : Value := match v with
  | .tuple xs => xs.getD k undef
  | _ => undef
/-- What holds between any two of the operations. -/
structure RJ (w0 : World) (lt : List Vx) (et : List Bool) (vA vA1 pA vE vE1 pE vS : Value) (v0 : Vx) (x0 : Bool) (Post : Value → World → Prop) (st : Nat → Bool) (u : Nat → Value) (w : World) : Prop where
  ext : Ext w0 w
  c1 : st 8 = true → st 3 = true
  c2 : st 12 = true → st 8 = true
  c3 : st 17 = true → st 12 = true
  c4 : st 19 = true → st 17 = true
  c5 : st 20 = true → st 19 = true
  e44 : st 1 = true → u 44 = vA
  e45 : st 2 = true → u 45 = vA1
  e47 : st 4 = true → u 47 = vA
  e48 : st 5 = true → u 48 = pA
  e49 : st 6 = true → u 49 = v0.v
  e53 : st 10 = true → u 53 = vE
  e54 : st 11 = true → u 54 = vE1
  e56 : st 13 = true → u 56 = vE
  e57 : st 14 = true → u 57 = pE
  e58 : st 15 = true → u 58 = .bool x0
  e61 : st 18 = true → u 61 = vS
  o43 : st 0 = true → st 3 = false → w.ownsRow w0.heap.size 27 8 (u 43) 0 []
  o46 : st 3 = true → st 8 = false → w.ownsRow w0.heap.size 27 8 (u 46) lt.length (vrows lt)
  o50 : st 7 = true → st 8 = false → w.ownsRow w0.heap.size 27 8 (u 50) 1 (vrows [v0])
  o51 : st 8 = true → st 19 = false → w.ownsRow w0.heap.size 27 8 (u 51) (lt.length + 1) (vrows lt ++ vrows [v0])
  o52 : st 9 = true → st 12 = false → w.ownsRow w0.heap.size 4 1 (u 52) 0 []
  o55 : st 12 = true → st 17 = false → w.ownsRow w0.heap.size 4 1 (u 55) et.length (brows et)
  o59 : st 16 = true → st 17 = false → w.ownsRow w0.heap.size 4 1 (u 59) 1 (brows [x0])
  o60 : st 17 = true → st 19 = false → w.ownsRow w0.heap.size 4 1 (u 60) (et.length + 1) (brows et ++ brows [x0])
  d1 : st 0 = true → st 3 = false → st 7 = true → ∀ g, (u 50).ownBlock = some g → (u 43).ownBlock ≠ some g
  d2 : st 9 = true → st 12 = false → st 16 = true → ∀ g, (u 59).ownBlock = some g → (u 52).ownBlock ≠ some g
  post : st 19 = true → Post (u 62) w
  t42 : st 20 = true → u 42 = u 62
  t63 : st 21 = true → u 63 = comp (u 62) 0
  t64 : st 22 = true → u 64 = comp (u 62) 1
  t65 : st 23 = true → u 65 = comp (u 62) 2
  t10 : st 24 = true → u 10 = comp (u 62) 0
  t11 : st 25 = true → u 11 = comp (u 62) 1
  t12 : st 26 = true → u 12 = comp (u 62) 2
section
variable {w0 w w' : World} {lt : List Vx} {et : List Bool} {vA vA1 pA vE vE1 pE vS : Value} {v0 : Vx} {x0 : Bool} {Post : Value → World → Prop} {st : Nat → Bool} {u : Nat → Value}
theorem RJ.begin (h : Ext w0 w) : RJ w0 lt et vA vA1 pA vE vE1 pE vS v0 x0 Post (fun _ => false) u w := by
  constructor <;> first | exact h | (intro h; cases h)
theorem RJ.later (h : RJ w0 lt et vA vA1 pA vE vE1 pE vS v0 x0 Post st u w) (hE : Ext w w') (hp : st 19 = false) : RJ w0 lt et vA vA1 pA vE vE1 pE vS v0 x0 Post st u w' :=
  { h with
    ext := h.ext.trans hE
    o43 := fun a b => ownsRow_ext (h.o43 a b) hE
    o46 := fun a b => ownsRow_ext (h.o46 a b) hE
    o50 := fun a b => ownsRow_ext (h.o50 a b) hE
    o51 := fun a b => ownsRow_ext (h.o51 a b) hE
    o52 := fun a b => ownsRow_ext (h.o52 a b) hE
    o55 := fun a b => ownsRow_ext (h.o55 a b) hE
    o59 := fun a b => ownsRow_ext (h.o59 a b) hE
    o60 := fun a b => ownsRow_ext (h.o60 a b) hE
    post := fun a => by rw [hp] at a; cases a }
theorem RJ.s1 (h : RJ w0 lt et vA vA1 pA vE vE1 pE vS v0 x0 Post st u w) : RJ w0 lt et vA vA1 pA vE vE1 pE vS v0 x0 Post (ups st 1) (upu u 44 vA) w := { h with e44 := fun _ => rfl }
theorem RJ.s2 (h : RJ w0 lt et vA vA1 pA vE vE1 pE vS v0 x0 Post st u w) : RJ w0 lt et vA vA1 pA vE vE1 pE vS v0 x0 Post (ups st 2) (upu u 45 vA1) w := { h with e45 := fun _ => rfl }
theorem RJ.s4 (h : RJ w0 lt et vA vA1 pA vE vE1 pE vS v0 x0 Post st u w) : RJ w0 lt et vA vA1 pA vE vE1 pE vS v0 x0 Post (ups st 4) (upu u 47 vA) w := { h with e47 := fun _ => rfl }
theorem RJ.s5 (h : RJ w0 lt et vA vA1 pA vE vE1 pE vS v0 x0 Post st u w) : RJ w0 lt et vA vA1 pA vE vE1 pE vS v0 x0 Post (ups st 5) (upu u 48 pA) w := { h with e48 := fun _ => rfl }
theorem RJ.s6 (h : RJ w0 lt et vA vA1 pA vE vE1 pE vS v0 x0 Post st u w) : RJ w0 lt et vA vA1 pA vE vE1 pE vS v0 x0 Post (ups st 6) (upu u 49 v0.v) w := { h with e49 := fun _ => rfl }
theorem RJ.s10 (h : RJ w0 lt et vA vA1 pA vE vE1 pE vS v0 x0 Post st u w) : RJ w0 lt et vA vA1 pA vE vE1 pE vS v0 x0 Post (ups st 10) (upu u 53 vE) w := { h with e53 := fun _ => rfl }
theorem RJ.s11 (h : RJ w0 lt et vA vA1 pA vE vE1 pE vS v0 x0 Post st u w) : RJ w0 lt et vA vA1 pA vE vE1 pE vS v0 x0 Post (ups st 11) (upu u 54 vE1) w := { h with e54 := fun _ => rfl }
theorem RJ.s13 (h : RJ w0 lt et vA vA1 pA vE vE1 pE vS v0 x0 Post st u w) : RJ w0 lt et vA vA1 pA vE vE1 pE vS v0 x0 Post (ups st 13) (upu u 56 vE) w := { h with e56 := fun _ => rfl }
theorem RJ.s14 (h : RJ w0 lt et vA vA1 pA vE vE1 pE vS v0 x0 Post st u w) : RJ w0 lt et vA vA1 pA vE vE1 pE vS v0 x0 Post (ups st 14) (upu u 57 pE) w := { h with e57 := fun _ => rfl }
theorem RJ.s15 (h : RJ w0 lt et vA vA1 pA vE vE1 pE vS v0 x0 Post st u w) : RJ w0 lt et vA vA1 pA vE vE1 pE vS v0 x0 Post (ups st 15) (upu u 58 (.bool x0)) w := { h with e58 := fun _ => rfl }
theorem RJ.s18 (h : RJ w0 lt et vA vA1 pA vE vE1 pE vS v0 x0 Post st u w) : RJ w0 lt et vA vA1 pA vE vE1 pE vS v0 x0 Post (ups st 18) (upu u 61 vS) w := { h with e61 := fun _ => rfl }
theorem RJ.s21 (h : RJ w0 lt et vA vA1 pA vE vE1 pE vS v0 x0 Post st u w) : RJ w0 lt et vA vA1 pA vE vE1 pE vS v0 x0 Post (ups st 21) (upu u 63 (comp (u 62) 0)) w := { h with t63 := fun _ => rfl }
theorem RJ.s22 (h : RJ w0 lt et vA vA1 pA vE vE1 pE vS v0 x0 Post st u w) : RJ w0 lt et vA vA1 pA vE vE1 pE vS v0 x0 Post (ups st 22) (upu u 64 (comp (u 62) 1)) w := { h with t64 := fun _ => rfl }
theorem RJ.s23 (h : RJ w0 lt et vA vA1 pA vE vE1 pE vS v0 x0 Post st u w) : RJ w0 lt et vA vA1 pA vE vE1 pE vS v0 x0 Post (ups st 23) (upu u 65 (comp (u 62) 2)) w := { h with t65 := fun _ => rfl }
theorem RJ.s24 (h : RJ w0 lt et vA vA1 pA vE vE1 pE vS v0 x0 Post st u w) : RJ w0 lt et vA vA1 pA vE vE1 pE vS v0 x0 Post (ups st 24) (upu u 10 (comp (u 62) 0)) w := { h with t10 := fun _ => rfl }
theorem RJ.s25 (h : RJ w0 lt et vA vA1 pA vE vE1 pE vS v0 x0 Post st u w) : RJ w0 lt et vA vA1 pA vE vE1 pE vS v0 x0 Post (ups st 25) (upu u 11 (comp (u 62) 1)) w := { h with t11 := fun _ => rfl }
theorem RJ.s26 (h : RJ w0 lt et vA vA1 pA vE vE1 pE vS v0 x0 Post st u w) : RJ w0 lt et vA vA1 pA vE vE1 pE vS v0 x0 Post (ups st 26) (upu u 12 (comp (u 62) 2)) w := { h with t12 := fun _ => rfl }
theorem RJ.s20 (h : RJ w0 lt et vA vA1 pA vE vE1 pE vS v0 x0 Post st u w) (h19 : st 19 = true) : RJ w0 lt et vA vA1 pA vE vE1 pE vS v0 x0 Post (ups st 20) (upu u 42 (u 62)) w := { h with c5 := fun _ => h19, t42 := fun _ => rfl }
theorem RJ.s0 (h : RJ w0 lt et vA vA1 pA vE vE1 pE vS v0 x0 Post st u w) (hun : st 0 = false) (hp : st 19 = false) (o : Obj) (v : Value) (ho : (w.alloc o).ownsRow w0.heap.size 27 8 v 0 []) (hv : ∀ g, v.ownBlock = some g → w.heap.size ≤ g) :
    RJ w0 lt et vA vA1 pA vE vE1 pE vS v0 x0 Post (ups st 0) (upu u 43 v) (w.alloc o) :=
  have k := h.later ((Ext.refl w).alloc o) hp
  { k with
    o43 := fun _ _ => ho
    d1 := fun _ b c g h1 h2 => by
      by_cases h8 : st 8 = true
      · have := h.c1 h8; have b' : st 3 = false := b; rw [this] at b'; cases b'
      · have := ((h.o50 c (by simpa using h8)).lt g h1).2
        have := hv g h2
        omega }
theorem RJ.s7 (h : RJ w0 lt et vA vA1 pA vE vE1 pE vS v0 x0 Post st u w) (hun : st 7 = false) (hp : st 19 = false) (o : Obj) (v : Value) (ho : (w.alloc o).ownsRow w0.heap.size 27 8 v 1 (vrows [v0])) (hv : ∀ g, v.ownBlock = some g → w.heap.size ≤ g) :
    RJ w0 lt et vA vA1 pA vE vE1 pE vS v0 x0 Post (ups st 7) (upu u 50 v) (w.alloc o) :=
  have k := h.later ((Ext.refl w).alloc o) hp
  { k with
    o50 := fun _ _ => ho
    d1 := fun a b _ g h1 h2 => by
      have := ((h.o43 a b).lt g h2).2
      have := hv g h1
      omega }
theorem RJ.s9 (h : RJ w0 lt et vA vA1 pA vE vE1 pE vS v0 x0 Post st u w) (hun : st 9 = false) (hp : st 19 = false) (o : Obj) (v : Value) (ho : (w.alloc o).ownsRow w0.heap.size 4 1 v 0 []) (hv : ∀ g, v.ownBlock = some g → w.heap.size ≤ g) :
    RJ w0 lt et vA vA1 pA vE vE1 pE vS v0 x0 Post (ups st 9) (upu u 52 v) (w.alloc o) :=
  have k := h.later ((Ext.refl w).alloc o) hp
  { k with
    o52 := fun _ _ => ho
    d2 := fun _ b c g h1 h2 => by
      by_cases h8 : st 17 = true
      · have := h.c3 h8; have b' : st 12 = false := b; rw [this] at b'; cases b'
      · have := ((h.o59 c (by simpa using h8)).lt g h1).2
        have := hv g h2
        omega }
theorem RJ.s16 (h : RJ w0 lt et vA vA1 pA vE vE1 pE vS v0 x0 Post st u w) (hun : st 16 = false) (hp : st 19 = false) (o : Obj) (v : Value) (ho : (w.alloc o).ownsRow w0.heap.size 4 1 v 1 (brows [x0])) (hv : ∀ g, v.ownBlock = some g → w.heap.size ≤ g) :
    RJ w0 lt et vA vA1 pA vE vE1 pE vS v0 x0 Post (ups st 16) (upu u 59 v) (w.alloc o) :=
  have k := h.later ((Ext.refl w).alloc o) hp
  { k with
    o59 := fun _ _ => ho
    d2 := fun a b _ g h1 h2 => by
      have := ((h.o52 a b).lt g h2).2
      have := hv g h1
      omega }
theorem not_both {b : Bool} (h : b = true) (h' : b = false) {p : Prop} : p := by rw [h] at h'; cases h'
theorem RJ.s3 (h : RJ w0 lt et vA vA1 pA vE vE1 pE vS v0 x0 Post st u w) (h0 : st 0 = true) (hun : st 3 = false) (v : Value) (ho : w'.ownsRow w0.heap.size 27 8 v lt.length (vrows lt)) (hg : w.grownBy w' (u 43).ownBlock) :
    RJ w0 lt et vA vA1 pA vE vE1 pE vS v0 x0 Post (ups st 3) (upu u 46 v) w' :=
  { h with
    ext := h.ext.grown hg (fun k hk => ((h.o43 h0 hun).lt k hk).1)
    c1 := fun _ => rfl
    o43 := fun _ b => by cases b
    o46 := fun _ _ => ho
    o50 := fun a b => own_keep (h.o50 a b) hg (h.d1 h0 hun a)
    o51 := fun a _ => not_both (h.c1 a) hun
    o52 := fun a b => own_keep (h.o52 a b) hg (own_types (h.o52 a b) (h.o43 h0 hun) (by decide))
    o55 := fun a _ => not_both (h.c1 (h.c2 a)) hun
    o59 := fun a b => own_keep (h.o59 a b) hg (own_types (h.o59 a b) (h.o43 h0 hun) (by decide))
    o60 := fun a _ => not_both (h.c1 (h.c2 (h.c3 a))) hun
    d1 := fun _ b => by cases b
    post := fun a => not_both (h.c1 (h.c2 (h.c3 (h.c4 a)))) hun }
theorem RJ.s8 (h : RJ w0 lt et vA vA1 pA vE vE1 pE vS v0 x0 Post st u w) (h3 : st 3 = true) (h7 : st 7 = true) (hun : st 8 = false) (v : Value) (ho : w'.ownsRow w0.heap.size 27 8 v (lt.length + 1) (vrows lt ++ vrows [v0])) (hg : w.grownBy w' (u 46).ownBlock) :
    RJ w0 lt et vA vA1 pA vE vE1 pE vS v0 x0 Post (ups st 8) (upu u 51 v) w' :=
  { h with
    ext := h.ext.grown hg (fun k hk => ((h.o46 h3 hun).lt k hk).1)
    c1 := fun _ => h3
    c2 := fun _ => rfl
    o43 := fun _ b => not_both h3 b
    o46 := fun _ b => by cases b
    o50 := fun _ b => by cases b
    o51 := fun _ _ => ho
    o52 := fun a b => own_keep (h.o52 a b) hg (own_types (h.o52 a b) (h.o46 h3 hun) (by decide))
    o55 := fun a _ => not_both (h.c2 a) hun
    o59 := fun a b => own_keep (h.o59 a b) hg (own_types (h.o59 a b) (h.o46 h3 hun) (by decide))
    o60 := fun a _ => not_both (h.c2 (h.c3 a)) hun
    d1 := fun _ b => not_both h3 b
    post := fun a => not_both (h.c2 (h.c3 (h.c4 a))) hun }
theorem RJ.s12 (h : RJ w0 lt et vA vA1 pA vE vE1 pE vS v0 x0 Post st u w) (h8 : st 8 = true) (h9 : st 9 = true) (hun : st 12 = false) (v : Value) (ho : w'.ownsRow w0.heap.size 4 1 v et.length (brows et)) (hg : w.grownBy w' (u 52).ownBlock) :
    RJ w0 lt et vA vA1 pA vE vE1 pE vS v0 x0 Post (ups st 12) (upu u 55 v) w' :=
  { h with
    ext := h.ext.grown hg (fun k hk => ((h.o52 h9 hun).lt k hk).1)
    c2 := fun _ => h8
    c3 := fun _ => rfl
    o43 := fun _ b => not_both (h.c1 h8) b
    o46 := fun _ b => not_both h8 b
    o50 := fun _ b => not_both h8 b
    o51 := fun a b => own_keep (h.o51 a b) hg (own_types (h.o51 a b) (h.o52 h9 hun) (by decide))
    o52 := fun _ b => by cases b
    o55 := fun _ _ => ho
    o59 := fun a b => own_keep (h.o59 a b) hg (h.d2 h9 hun a)
    o60 := fun a _ => not_both (h.c3 a) hun
    d1 := fun _ b => not_both (h.c1 h8) b
    d2 := fun _ b => by cases b
    post := fun a => not_both (h.c3 (h.c4 a)) hun }
theorem RJ.s17 (h : RJ w0 lt et vA vA1 pA vE vE1 pE vS v0 x0 Post st u w) (h12 : st 12 = true) (h16 : st 16 = true) (hun : st 17 = false) (v : Value) (ho : w'.ownsRow w0.heap.size 4 1 v (et.length + 1) (brows et ++ brows [x0])) (hg : w.grownBy w' (u 55).ownBlock) :
    RJ w0 lt et vA vA1 pA vE vE1 pE vS v0 x0 Post (ups st 17) (upu u 60 v) w' :=
  { h with
    ext := h.ext.grown hg (fun k hk => ((h.o55 h12 hun).lt k hk).1)
    c3 := fun _ => h12
    c4 := fun _ => rfl
    o43 := fun _ b => not_both (h.c1 (h.c2 h12)) b
    o46 := fun _ b => not_both (h.c2 h12) b
    o50 := fun _ b => not_both (h.c2 h12) b
    o51 := fun a b => own_keep (h.o51 a b) hg (own_types (h.o51 a b) (h.o55 h12 hun) (by decide))
    o52 := fun _ b => not_both h12 b
    o55 := fun _ b => by cases b
    o59 := fun _ b => by cases b
    o60 := fun _ _ => ho
    d1 := fun _ b => not_both (h.c1 (h.c2 h12)) b
    d2 := fun _ b => not_both h12 b
    post := fun a => not_both (h.c4 a) hun }
theorem RJ.s19 (h : RJ w0 lt et vA vA1 pA vE vE1 pE vS v0 x0 Post st u w) (h17 : st 17 = true) (hun : st 19 = false) (n20 : st 20 = false) (n21 : st 21 = false) (n22 : st 22 = false) (n23 : st 23 = false) (n24 : st 24 = false) (n25 : st 25 = false) (n26 : st 26 = false) (v : Value) (hE : Ext w w') (hp : Post v w') :
    RJ w0 lt et vA vA1 pA vE vE1 pE vS v0 x0 Post (ups st 19) (upu u 62 v) w' :=
  have k := h.later hE hun
  { k with
    c4 := fun _ => h17
    c5 := fun _ => rfl
    o51 := fun _ b => by cases b
    o60 := fun _ b => by cases b
    post := fun _ => hp
    t42 := fun a => not_both a n20
    t63 := fun a => not_both a n21
    t64 := fun a => not_both a n22
    t65 := fun a => not_both a n23
    t10 := fun a => not_both a n24
    t11 := fun a => not_both a n25
    t12 := fun a => not_both a n26 }
end
end Go.Proofs.Ytmpkimcegckloaa
