/- Proof text: a fragment of a wide line (wide.Line$1). By an AI agent. No condition beyond what each theorem states. -/
import Derived.Test.YtplljnfjkkloeaaGreatDoorWF
import Derived.Test.YtplljnfjkkloeaaGreatDoorLR
import Derived.Deep.AppendLies
import Derived.Test.YtplljnfjkkloeaaGreatDoorLI
import Derived.Test.YtplljnfjkkloeaaGreatDoorChecked
import Derived.Lib.Strings
import Derived.Handy
import Derived.Test.YtplljnfjkkloeaaGreatDoorSH
set_option linter.unusedVariables false
set_option linter.unusedSimpArgs false
set_option maxHeartbeats 4000000
namespace Go.Proofs.YtplljnfjkkloeaaGreatDoor
attribute [local go_sem] Go.Oper.semAt_some
open Go.RowKit
structure Fr where
 x : Int
 y : Int
 z : Int
 c0 : Int
 c1 : Int
 c2 : Int
 c3 : Int
 m : Int
@[reducible] def Fr.v (f : Fr) : Value := .agg #[.int .i64 f.x, .int .i64 f.y, .int .i64 f.z, .int .i64 f.c0, .int .i64 f.c1, .int .i64 f.c2, .int .i64 f.c3, .int .i64 f.m]
def Fr.cells (f : Fr) : List Value := [.int .i64 f.x, .int .i64 f.y, .int .i64 f.z, .int .i64 f.c0, .int .i64 f.c1, .int .i64 f.c2, .int .i64 f.c3, .int .i64 f.m]
structure Kept (base B : Nat) (te : TypeId) (w w' : World) : Prop where
 blk : ∀ g t cs, Blk w g t cs → t ≠ te → g ≠ B → Blk w' g t cs
 ext : ∀ w0 : World, w0.heap.size ≤ base → w0.heap.size ≤ B → Ext w0 w → Ext w0 w'
 size : w.heap.size ≤ w'.heap.size
theorem Kept.of_ext {base B : Nat} {te : TypeId} {w w' : World} (h : Ext w w') : Kept base B te w w' := ⟨fun _ _ _ hb _ _ => hb.ext h, fun _ _ _ e => e.trans h, h.size⟩
theorem Kept.trans {base B : Nat} {te : TypeId} {a b c : World} (h : Kept base B te a b) (k : Kept base B te b c) : Kept base B te a c :=
 ⟨fun g t cs hb h1 h2 => k.blk g t cs (h.blk g t cs hb h1 h2) h1 h2, fun w0 h1 h2 e => k.ext w0 h1 h2 (h.ext w0 h1 h2 e), Nat.le_trans h.size k.size⟩
theorem Kept.push {α : Type} {base : Nat} {ts te : TypeId} {size : Nat} {f : α → List Value} {B : Nat} {L : List α} {v v' : Value} {w w1 : World} (h : SBox base ts te size f B L v w) (hg : w.grownBy w1 v.ownBlock) : Kept base B te w (w1.setCell ⟨B, 0, none⟩ v') := by
 refine ⟨fun g t cs hb ht hB => (hb.grown' hg (own_ne_blk h.own hb ht)).far (by simpa using hB) _, fun w0 h1 h2 e => ?_, ?_⟩
 ·have hk : Kp (fun k => k < w0.heap.size) w (w1.setCell ⟨B, 0, none⟩ v') := kp_push h (Kp.refl _ _) hg (by simp; omega) (fun g hb => by simp; omega)
  exact hk.ext e (fun k hk => hk)
 ·have hk : Kp (fun k => False) w (w1.setCell ⟨B, 0, none⟩ v') := kp_push h (Kp.refl _ _) hg (by simp) (fun g hb => by simp)
  exact hk.size
theorem info_frag : (Tryz.prog.info? 68).map (fun i => (i.zero, i.size, i.bytes)) = some (some (.agg #[.int .i64 0, .int .i64 0, .int .i64 0, .int .i64 0, .int .i64 0, .int .i64 0, .int .i64 0, .int .i64 0]), 8, 64) := by kernel_rfl
set_option maxRecDepth 100000 in
theorem wput_any (f : Fr) (r : Rc) (C B base : Nat) (L : List Fr) (v : Value) (w : World) (hr : r.Ok) (hC : Blk w C 48 r.row) (hS : SBox base 63 68 8 Fr.cells B L v w) (hb : base ≤ w.heap.size) (hL : L.length < 1000000000000) :
  Calls Tryz.prog 185 #[f.v, .pointer (some ⟨C, 0, none⟩), .pointer (some ⟨B, 0, none⟩)] w fun e w' =>
   e = .returned (.tuple #[]) ∧ (∃ v', SBox base 63 68 8 Fr.cells B (if r.Has f.x f.y then L ++ [f] else L) v' w' ∧ ∀ E cs, v.ownBlock ≠ some E → E ≠ B → Blk w E 68 cs → Blk w' E 68 cs ∧ v'.ownBlock ≠ some E) ∧ Kept base B 68 w w' := by
 have HH := Lib.hid (fun w => has_any r f.x f.y w hr)
 have HC := Lib.hid hC
 have HS := Lib.hid hS
 have HL := Lib.hid hL
 have HBS := Lib.hid hb
 have cc := hC.c4
 clear hC hS hL hr hb
 go_enter Tryz.func185, Tryz.ntmps185
 go_wp2_with fail
 refine (HH.out _).mono ?_
 rintro e w1 ⟨rfl, hE⟩
 obtain ⟨z, rfl⟩ := Later.mk' hE
 clear hE
 by_cases hh : r.Has f.x f.y
 ·have hd : decide (r.Has f.x f.y) = true := decide_eq_true hh
  rw [hd]
  have HHH := Lib.hid hh
  clear hd cc hh
  have HV := Lib.hid (HS.out.ext (((Ext.refl w).alloc (.cells #[.int .i64 f.x, .int .i64 f.y, .int .i64 f.z, .int .i64 f.c0, .int .i64 f.c1, .int .i64 f.c2, .int .i64 f.c3, .int .i64 f.m] 68)).trans z.ext))
  have HF : Hid (Blk z.w w.heap.size 68 #[.int .i64 f.x, .int .i64 f.y, .int .i64 f.z, .int .i64 f.c0, .int .i64 f.c1, .int .i64 f.c2, .int .i64 f.c3, .int .i64 f.m]) := Lib.hid (by (repeat (first | with_reducible exact Hid.out (by assumption) | (with_reducible refine Blk.new' _ _ _ ?_; (simp; done)) | with_reducible (first | refine Blk.alloc ?_ _ | refine Blk.drew ?_ | refine Blk.drewN ?_ _ | refine Blk.later ?_ _) | (with_reducible refine Blk.far ?_ ?hp _; case hp => first | (simp; done) | (simp; omega) | omega))))
  have HE : Hid (Ext w z.w) := Lib.hid (by (repeat (first | with_reducible (first | exact eR_ _ | assumption | refine eA_ ?_ _ | refine eD_ ?_ | refine eN_ ?_ _ | refine eL_ ?_ _) | (with_reducible refine eS_ ?_ _ ?hp; case hp => first | (simp; done) | (simp; omega) | omega))))
  have o0 := HV.out.blk.c1
  have oz := HV.out.blk.frozen 0
  have cf := HF.out.c8
  generalize z.w = w2 at *
  obtain ⟨i0, hi0, hz0, hz1, hz2⟩ := info_parts info_frag
  go_wp2_with (refine wpList_append_lies _ rfl (.tmp 10) (.tmp 12) 63 rfl base 68 i0 _ 8 64 Tryz.underlying63 hi0 hz0 hz1 hz2 rfl (by decide) v L.length (L.flatMap Fr.cells) rfl (HV.out.own.alloc _) ⟨_, 0, none⟩ 1 1 f.cells rfl rfl (news_at _ _ _) (by simp [Fr.cells, Value.oneCell']) (by decide) ?c3 ?c4 ?c6 _ rfl ?_)
  case c3 => have := HL.out; unfold maxLen; omega
  case c4 => have := HL.out; omega
  case c6 => have := HBS.out; have := HE.out.size; simp; omega
  intro gn cap w4 ho hg hlie _
  have HV1 := HV.out.ext ((Ext.refl w2).alloc (.cells f.cells.toArray 68))
  have HB4 := Lib.hid (HV1.push (x := f) (by decide) ho hg)
  have HK4 := Lib.hid (Kept.push (v' := .slice (some ⟨gn, 0, none⟩) (L.length + 1) cap) HV1 hg)
  have HF4 : Hid (∀ E cs, v.ownBlock ≠ some E → E ≠ B → Blk w E 68 cs → Blk (w4.setCell ⟨B, 0, none⟩ (.slice (some ⟨gn, 0, none⟩) (L.length + 1) cap)) E 68 cs ∧ (Value.slice (some ⟨gn, 0, none⟩) (L.length + 1) cap).ownBlock ≠ some E) := Lib.hid (by
   intro E cs h1 h2 h3
   refine ⟨((h3.ext (HE.out.alloc (.cells f.cells.toArray 68))).grown' hg h1).far (by simpa using h2) _, ?_⟩
   intro h4
   simp [Value.ownBlock] at h4
   subst h4
   rcases hlie with h5 | h5
   ·exact h1 h5
   ·have h7 := h3.lt
    have h6 := HE.out.size
    have h8 : (w2.alloc (.cells f.cells.toArray 68)).heap.size = w2.heap.size + 1 := by simp
    omega)
  clear ho hg HV1 o0 oz cf hlie hi0 hz0 hz1 hz2
  have o0 := HB4.out.1.c1
  have oz := HB4.out.1.frozen 0
  have HE4 := HE.out
  go_wp2_with fail
  refine bodyPost_end (results_none rfl _ _ _) rfl ⟨rfl, ⟨.slice (some ⟨gn, 0, none⟩) (L.length + 1) cap, ?_, HF4.out⟩, ?_⟩
  ·first | exact HB4.out.2 | (rw [if_pos HHH.out]; exact HB4.out.2)
  ·exact (Kept.of_ext (HE4.alloc _)).trans HK4.out
 ·have hd : decide (r.Has f.x f.y) = false := decide_eq_false hh
  rw [hd]
  have HHH := Lib.hid hh
  clear hd hh
  go_wp2_with fail
  have HEX : Ext w z.w := by (repeat (first | with_reducible (first | exact eR_ _ | assumption | refine eA_ ?_ _ | refine eD_ ?_ | refine eN_ ?_ _ | refine eL_ ?_ _) | (with_reducible refine eS_ ?_ _ ?hp; case hp => first | (simp; done) | (simp; omega) | omega)))
  refine bodyPost_end (results_none rfl _ _ _) rfl ⟨rfl, ⟨v, ?_, fun E cs h1 _ h3 => ⟨h3.ext HEX, h1⟩⟩, Kept.of_ext HEX⟩
  first | exact HS.out.ext (by (repeat (first | with_reducible (first | exact eR_ _ | assumption | refine eA_ ?_ _ | refine eD_ ?_ | refine eN_ ?_ _ | refine eL_ ?_ _) | (with_reducible refine eS_ ?_ _ ?hp; case hp => first | (simp; done) | (simp; omega) | omega)))) | (rw [if_neg HHH.out]; exact HS.out.ext (by (repeat (first | with_reducible (first | exact eR_ _ | assumption | refine eA_ ?_ _ | refine eD_ ?_ | refine eN_ ?_ _ | refine eL_ ?_ _) | (with_reducible refine eS_ ?_ _ ?hp; case hp => first | (simp; done) | (simp; omega) | omega)))))
end Go.Proofs.YtplljnfjkkloeaaGreatDoor
set_option linter.unusedVariables false
set_option linter.unusedSimpArgs false
namespace Go.Proofs.YtplljnfjkkloeaaGreatDoor
open Go.RowKit
section
variable {P : Int → Int → Prop} [∀ x y, Decidable (P x y)]
theorem numbered_mem {l : List (Int × Int)} {k : Nat} {s : Int × Int × Int} (h : s ∈ numbered P l k) : (k : Int) ≤ s.1 ∧ s.1 < k + l.length ∧ P s.2.1 s.2.2 := by
 unfold numbered at h
 rw [List.mem_flatMap] at h
 obtain ⟨⟨p, i⟩, hp, hs⟩ := h
 have hb := List.mem_zipIdx hp
 split at hs
 ·rename_i hP
  simp only [List.mem_singleton] at hs
  subst hs
  exact ⟨by simp only; omega, by simp only; omega, hP⟩
 ·simp at hs
theorem numbered_len (l : List (Int × Int)) : ∀ k : Nat, (numbered P l k).length ≤ l.length := by
 induction l with
 | nil => intro k; simp [numbered]
 | cons p l ih =>
  intro k
  have e : numbered P (p :: l) k = numbered P [p] k ++ numbered P l (k + 1) := numbered_append [p] l k
  have h1 := ih (k + 1)
  have h2 : (numbered P [p] k).length ≤ 1 := by
   simp only [numbered, List.zipIdx_cons, List.zipIdx_nil, List.flatMap_cons, List.flatMap_nil, List.append_nil]
   split <;> simp
  rw [e, List.length_append, List.length_cons]
  omega
end
theorem flatMap_len {α β : Type} {f : α → List β} {m : Nat} : ∀ {l : List α}, (∀ x ∈ l, (f x).length ≤ m) → (l.flatMap f).length ≤ l.length * m
 | [], _ => by simp
 | x :: l, h => by
  have h1 := h x (by simp)
  have h2 := flatMap_len (l := l) (fun y hy => h y (by simp [hy]))
  rw [List.flatMap_cons, List.length_append, List.length_cons, Nat.add_mul, Nat.one_mul]
  omega
theorem lpix_short {ax ay bx by_ : Int} (h1 : Pl ax) (h2 : Pl ay) (h3 : Pl bx) (h4 : Pl by_) : (lpix ax ay bx by_).length ≤ 3000000 := by
 rw [lpix_len]
 unfold lcount
 split
 ·omega
 ·have hi := wayOf_in h1 h2 h3 h4
  generalize wayOf ax ay bx by_ = W at *
  have k1 := hi.au
  have k2 := hi.bu
  unfold Pl at k1 k2
  have hx : (if W.extra = true then 1 else 0) ≤ 1 := by split <;> omega
  have hs : W.size ≤ 2999990 := by
   unfold Way.size Way.first Way.last lst
   split <;> omega
  unfold Way.count Way.many
  generalize (if W.extra = true then 1 else 0) = e at *
  split <;> omega
def wfrag (a b : Wv) (x y x' y' : Int) : Fr :=
 ⟨x', y', lmid a.z b.z (along a b x y).1 (along a b x y).2, lmid a.c0 b.c0 (along a b x y).1 (along a b x y).2, lmid a.c1 b.c1 (along a b x y).1 (along a b x y).2, lmid a.c2 b.c2 (along a b x y).1 (along a b x y).2, lmid a.c3 b.c3 (along a b x y).1 (along a b x y).2, 64⟩
def wone (a b : Wv) (flat : Bool) (r : Rc) (x y : Int) (k : Nat) : List Fr :=
 if flat = true then (if r.Has x (y + k) then [wfrag a b x y x (y + k)] else []) else (if r.Has (x + k) y then [wfrag a b x y (x + k) y] else [])
def wstep (a b : Wv) (n : Nat) (dashed : Bool) (d : Da) (r : Rc) (s : Int × Int × Int) : List Fr :=
 if dashed = true ∧ d.lit s.1 = false then [] else (List.range n).flatMap (wone a b (coreOf a b n).flat r s.2.1 s.2.2)
def wsteps (a b : Wv) (n : Nat) (r : Rc) : List (Int × Int × Int) := stepL (coreOf a b n).ax (coreOf a b n).ay (coreOf a b n).bx (coreOf a b n).by_ ((coreOf a b n).reach r n)
def wlist (a b : Wv) (n : Nat) (dashed : Bool) (d : Da) (r : Rc) : List Fr := (wsteps a b n r).flatMap (wstep a b n dashed d r)
def wcount (a b : Wv) (n : Nat) : Nat := (lpix (coreOf a b n).ax (coreOf a b n).ay (coreOf a b n).bx (coreOf a b n).by_).length
theorem wone_len (a b : Wv) (flat : Bool) (r : Rc) (x y : Int) (k : Nat) : (wone a b flat r x y k).length ≤ 1 := by
 unfold wone
 split <;> split <;> simp
theorem wstep_len (a b : Wv) (n : Nat) (dashed : Bool) (d : Da) (r : Rc) (s : Int × Int × Int) : (wstep a b n dashed d r s).length ≤ n := by
 unfold wstep
 split
 ·simp
 ·have := flatMap_len (l := List.range n) (f := wone a b (coreOf a b n).flat r s.2.1 s.2.2) (m := 1) (fun k _ => wone_len a b _ r _ _ k)
  simpa using this
theorem Co.pl {a b : Wv} {n : Int} (ha : a.Fits) (hb : b.Fits) (n0 : 1 ≤ n) (n1 : n ≤ 64) : Pl (coreOf a b n).ax ∧ Pl (coreOf a b n).ay ∧ Pl (coreOf a b n).bx ∧ Pl (coreOf a b n).by_ := by
 obtain ⟨a1, a2⟩ := ha.x
 obtain ⟨a3, a4⟩ := ha.y
 obtain ⟨b1, b2⟩ := hb.x
 obtain ⟨b3, b4⟩ := hb.y
 unfold coreOf Pl
 split <;> (simp only; omega)
theorem Co.reach_ok (c : Co) {r : Rc} {n : Int} (hr : r.Ok) (n0 : 1 ≤ n) (n1 : n ≤ 64) : (c.reach r n).Ok := by
 obtain ⟨h1, h2, h3, h4, h5, h6⟩ := hr
 unfold Co.reach Rc.Ok
 split <;> (simp only; omega)
theorem wsteps_mem {a b : Wv} {n : Nat} {r : Rc} (ha : a.Fits) (hb : b.Fits) (n0 : 1 ≤ n) (n1 : n ≤ 64) (hr : r.Ok) {s : Int × Int × Int} (h : s ∈ wsteps a b n r) :
  0 ≤ s.1 ∧ s.1 < 3000000 ∧ -4194304 ≤ s.2.1 ∧ s.2.1 ≤ 4194304 ∧ -4194304 ≤ s.2.2 ∧ s.2.2 ≤ 4194304 := by
 obtain ⟨p1, p2, p3, p4⟩ := Co.pl (n := n) ha hb (by omega) (by omega)
 have hl := lpix_short p1 p2 p3 p4
 have ho := Co.reach_ok (coreOf a b n) (n := n) hr (by omega) (by omega)
 obtain ⟨m1, m2, m3⟩ := numbered_mem h
 generalize (coreOf a b n).reach r n = q at *
 obtain ⟨h1, h2, h3, h4, h5, h6⟩ := ho
 obtain ⟨g1, g2, g3, g4⟩ := m3
 omega
theorem wsteps_len {a b : Wv} {n : Nat} {r : Rc} (ha : a.Fits) (hb : b.Fits) (n0 : 1 ≤ n) (n1 : n ≤ 64) : (wsteps a b n r).length ≤ 3000000 := by
 obtain ⟨p1, p2, p3, p4⟩ := Co.pl (n := n) ha hb (by omega) (by omega)
 exact Nat.le_trans (numbered_len _ _) (lpix_short p1 p2 p3 p4)
theorem ownsRow_blk {w : World} {base : Nat} {e : TypeId} {size : Nat} {v : Value} {n : Nat} {xs : List Value} (h : w.ownsRow base e size v n xs) :
  (v = .slice none 0 0 ∧ n * size = 0) ∨ ∃ g cap cur, v = .slice (some ⟨g, 0, none⟩) n cap ∧ base ≤ g ∧ Blk w g e cur ∧ n ≤ cap ∧ ∀ j, j < n * size → cur[j]? = xs[j]? := by
 obtain ⟨hl, hr⟩ := h
 rcases hr with ⟨rfl, rfl⟩ | ⟨g, cap, cur, rfl, hb, hg, hnc, hcm, hcs, ht⟩
 ·exact .inl ⟨rfl, by simp⟩
 ·refine .inr ⟨g, cap, cur, rfl, hb, hg, hnc, fun j hj => ?_⟩
  rw [← ht, List.getElem?_take, if_pos hj]
  simp
end Go.Proofs.YtplljnfjkkloeaaGreatDoor
set_option linter.unusedVariables false
set_option linter.unusedSimpArgs false
namespace Go.Proofs.YtplljnfjkkloeaaGreatDoor
open Go.RowKit
theorem bytes_eq {s t : ByteArray} (h : s.toList = t.toList) : s = t := by
 rw [Lib.toList_data, Lib.toList_data] at h
 exact ByteArray.ext (Array.ext' h)
end Go.Proofs.YtplljnfjkkloeaaGreatDoor
set_option linter.unusedVariables false
set_option linter.unusedSimpArgs false
namespace Go.Proofs.YtplljnfjkkloeaaGreatDoor
open Go.RowKit
end Go.Proofs.YtplljnfjkkloeaaGreatDoor
set_option linter.unusedVariables false
set_option linter.unusedSimpArgs false
namespace Go.Proofs.YtplljnfjkkloeaaGreatDoor
open Go.RowKit
end Go.Proofs.YtplljnfjkkloeaaGreatDoor
set_option linter.unusedVariables false
set_option linter.unusedSimpArgs false
namespace Go.Proofs.YtplljnfjkkloeaaGreatDoor
open Go.RowKit
def pk (a b c d : Int) : Int := ((a * 256 + b) * 256 + c) * 256 + d
theorem or_i64_nat (a b : Nat) (ha : a < 4611686018427387904) (hb : b < 4611686018427387904) : bits .or .i64 (a : Int) (b : Int) = ((a ||| b : Nat) : Int) := by
 have hx : a ||| b < 2 ^ 62 := Nat.or_lt_two_pow (by omega) (by omega)
 have h1 : (BitVec.ofInt 64 (a : Int)).toNat = a := by
  rw [BitVec.ofInt_natCast, BitVec.toNat_ofNat]; exact Nat.mod_eq_of_lt (by omega)
 have h2 : (BitVec.ofInt 64 (b : Int)).toNat = b := by
  rw [BitVec.ofInt_natCast, BitVec.toNat_ofNat]; exact Nat.mod_eq_of_lt (by omega)
 show IntKind.i64.wrap ((BitVec.ofInt 64 (a : Int) ||| BitVec.ofInt 64 (b : Int)).toNat : Int) = _
 rw [BitVec.toNat_or, h1, h2, IntKind.wrap_i64]
 omega
theorem or_add (k x b : Nat) (hb : b < 2 ^ k) (hx : 2 ^ k * x < 4611686018427387904) (hk : 2 ^ k ≤ 4611686018427387904) (A B : Int) (hA : A = ((2 ^ k * x : Nat) : Int)) (hB : B = (b : Int)) : bits .or .i64 A B = A + B := by
 rw [hA, hB, or_i64_nat _ _ hx (by omega), ← Nat.two_pow_add_eq_or_of_lt hb]
 omega
theorem or_pack (a b c d : Nat) (ha : a ≤ 255) (hb : b ≤ 255) (hc : c ≤ 255) (hd : d ≤ 255) :
  bits .or .i64 (bits .or .i64 (bits .or .i64 ((a : Int) * 16777216) ((b : Int) * 65536)) ((c : Int) * 256)) (d : Int) = pk a b c d := by
 have e1 := or_add 24 a (b * 65536) (by omega) (by omega) (by decide) ((a : Int) * 16777216) ((b : Int) * 65536) (by omega) (by omega)
 have e2 := or_add 16 (a * 256 + b) (c * 256) (by omega) (by omega) (by decide) ((a : Int) * 16777216 + (b : Int) * 65536) ((c : Int) * 256) (by omega) (by omega)
 have e3 := or_add 8 (a * 65536 + b * 256 + c) d (by omega) (by omega) (by decide) ((a : Int) * 16777216 + (b : Int) * 65536 + (c : Int) * 256) (d : Int) (by omega) rfl
 rw [e1, e2, e3]
 unfold pk
 omega
theorem pack_any (a b c d : Nat) (w : World) (ha : a ≤ 255) (hb : b ≤ 255) (hc : c ≤ 255) (hd : d ≤ 255) :
  Calls Tryz.prog 155 #[.agg #[.int .i64 a, .int .i64 b, .int .i64 c, .int .i64 d]] w fun e w' => e = .returned (.int .i64 (pk a b c d)) ∧ Ext w w' := by
 have HP := Lib.hid (or_pack a b c d ha hb hc hd)
 go_enter Tryz.func155, Tryz.ntmps155
 go_wp2_with fail
 go_returns
 refine ⟨?_, by (repeat (first | with_reducible (first | exact eR_ _ | assumption | refine eA_ ?_ _ | refine eD_ ?_ | refine eN_ ?_ _ | refine eL_ ?_ _) | (with_reducible refine eS_ ?_ _ ?hp; case hp => first | (simp; done) | (simp; omega) | omega)))⟩
 rw [← HP.out]
 rfl
structure Im where
 W : Int
 H : Int
 C : List Int
 Z : List Int
def ImR (w : World) (v : Value) (m : Im) : Prop :=
 ∃ a b c d, v = .agg #[.int .i64 m.W, .int .i64 m.H, .slice a m.C.length c, .slice b m.Z.length d] ∧ Rd w 1 a m.C.length c (ivs m.C) ∧ Rd w 1 b m.Z.length d (ivs m.Z)
theorem ImR.ext {w w' : World} {v : Value} {m : Im} (h : ImR w v m) (e : Ext w w') : ImR w' v m := by
 obtain ⟨a, b, c, d, h1, h2, h3⟩ := h
 exact ⟨a, b, c, d, h1, h2.ext e, h3.ext e⟩
def Im.Ok (m : Im) : Prop := 1 ≤ m.W ∧ m.W ≤ 1024 ∧ 1 ≤ m.H ∧ m.H ≤ 1024 ∧ (m.C.length : Int) = m.W * m.H ∧ (m.Z.length : Int) = m.W * m.H ∧ ∀ i, i < m.C.length → (0 ≤ m.C.getD i 0 ∧ m.C.getD i 0 ≤ 4294967295) ∧ 0 ≤ m.Z.getD i 0 ∧ m.Z.getD i 0 ≤ 16777215
end Go.Proofs.YtplljnfjkkloeaaGreatDoor
set_option linter.unusedVariables false
set_option linter.unusedSimpArgs false
namespace Go.Proofs.YtplljnfjkkloeaaGreatDoor
open Go.RowKit
theorem Blk.set4 {w : World} {g : Nat} {t : TypeId} {x y z u : Value} (h : Blk w g t #[x, y, z, u]) (a b c d : Value) : Blk ((((w.setCell ⟨g, 0, none⟩ a).setCell ⟨g, 1, none⟩ b).setCell ⟨g, 2, none⟩ c).setCell ⟨g, 3, none⟩ d) g t #[a, b, c, d] := by
 have h4 := (((h.set_ 0 a).set_ 1 b).set_ 2 c).set_ 3 d
 simpa using h4
theorem Ext.set4 {w W : World} (h : Ext w W) {g : Nat} (hg : w.heap.size ≤ g) (a b c d : Value) : Ext w ((((W.setCell ⟨g, 0, none⟩ a).setCell ⟨g, 1, none⟩ b).setCell ⟨g, 2, none⟩ c).setCell ⟨g, 3, none⟩ d) :=
 (((h.setCell (p := ⟨g, 0, none⟩) a hg).setCell (p := ⟨g, 1, none⟩) b hg).setCell (p := ⟨g, 2, none⟩) c hg).setCell (p := ⟨g, 3, none⟩) d hg
end Go.Proofs.YtplljnfjkkloeaaGreatDoor
set_option linter.unusedVariables false
set_option linter.unusedSimpArgs false
namespace Go.Proofs.YtplljnfjkkloeaaGreatDoor
open Go.RowKit
def Im.Small (m : Im) : Prop := m.C.length ≤ 400 ∧ m.Z.length ≤ 400 ∧ m.Ok
end Go.Proofs.YtplljnfjkkloeaaGreatDoor
