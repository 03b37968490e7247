/- Proof text: a new image (store.New). By an AI agent. No condition beyond what each theorem states. -/
import Derived.Test.YtplljnfjkkloeaaGreatDoorQO
import Derived.Test.YtplljnfjkkloeaaGreatDoorSH
import Derived.Test.YtplljnfjkkloeaaGreatDoorQC
set_option linter.unusedVariables false
set_option linter.unusedSimpArgs false
set_option maxHeartbeats 4000000
namespace Go.Proofs.YtplljnfjkkloeaaGreatDoor
open Go.RowKit
theorem info_int : (Tryz.prog.info? 3).map (fun i => (i.zero, i.size, i.bytes)) = some (some (.int .i64 0), 1, 8) := by kernel_rfl
theorem make_ints (n : Nat) (hn : n ≤ 1048576) : ∃ cur : Array Value, ∀ w : World, (Instr.makeSlice 26 (.int .i64 (n : Int)) (.int .i64 (n : Int))).run Tryz.prog w = .ok (.slice (some ⟨w.heap.size, 0, none⟩) n n) (w.alloc (.cells cur 3)) ∧
   ∀ base, base ≤ w.heap.size → (w.alloc (.cells cur 3)).ownsRow base 3 1 (.slice (some ⟨w.heap.size, 0, none⟩) n n) n (ivs (List.replicate n 0)) := by
 have := make_own (P := Tryz.prog) (f := fun x : Int => [Value.int .i64 x]) (K := 1) (bytes := 8) (fun _ => rfl) (by omega) 0 26 3 (.int .i64 0) Tryz.underlying26 info_int rfl n (by omega) (by unfold maxLen; omega)
 rw [flat_ivs] at this
 exact this
structure Made (w wr : World) (W H : Int) (n X Y P : Nat) (C Z : List Int) : Prop where
 box : Blk wr P 28 #[.int .i64 W, .int .i64 H, .slice (some ⟨X, 0, none⟩) n n, .slice (some ⟨Y, 0, none⟩) n n]
 c : wr.ownsRow w.heap.size 3 1 (.slice (some ⟨X, 0, none⟩) n n) n (ivs C)
 z : wr.ownsRow w.heap.size 3 1 (.slice (some ⟨Y, 0, none⟩) n n) n (ivs Z)
 xy : X ≠ Y
 px : P ≠ X
 py : P ≠ Y
 ext : Ext w wr
theorem own_apart {w w' : World} {base : Nat} {e : TypeId} {size : Nat} {v : Value} {n : Nat} {xs : List Value} {g : Nat} (h : w.ownsRow base e size v n xs) (hg : w.grownBy w' (some g)) (hne : v.ownBlock ≠ some g) : w'.ownsRow base e size v n xs :=
 h.kept hg (.inr hne)
theorem Made.putZ {w wr w' : World} {W H : Int} {n X Y P : Nat} {C Z Z' : List Int} (h : Made w wr W H n X Y P C Z) (hg : wr.grownBy w' (some Y)) (ho : w'.ownsRow w.heap.size 3 1 (.slice (some ⟨Y, 0, none⟩) n n) n (ivs Z')) : Made w w' W H n X Y P C Z' :=
 ⟨h.box.grown' hg (fun e => h.py (by injection e with e; exact e.symm)), own_apart h.c hg (fun e => h.xy (by simpa [Value.ownBlock] using e)), ho, h.xy, h.px, h.py, h.ext.grown hg (fun k hk => Option.some.inj hk ▸ (h.z.lt Y rfl).1)⟩
theorem set_rep (n j : Nat) (hj : j < n) (a b : Int) : (List.replicate j a ++ List.replicate (n - j) b).set j a = List.replicate (j + 1) a ++ List.replicate (n - (j + 1)) b := by
 rw [List.set_append_right _ _ (by simp), List.length_replicate, Nat.sub_self]
 rw [show n - j = n - (j + 1) + 1 by omega, List.replicate_succ, List.set_cons_zero, List.replicate_succ', List.append_assoc]
 rfl
theorem ivs_put {l : List Int} {j : Nat} (hj : j < l.length) (x : Int) : (ivs l).take j ++ [Value.int .i64 x] ++ (ivs l).drop (j + 1) = ivs (l.set j x) := by
 rw [ivs, ← List.map_take, ← List.map_drop]
 rw [List.set_eq_take_append_cons_drop, if_pos hj]
 simp
theorem mul_le (W H : Nat) (h2 : W ≤ 1024) (h4 : H ≤ 1024) : W * H ≤ 1048576 := by
 have : W * H ≤ 1024 * 1024 := Nat.mul_le_mul h2 h4
 omega
def NewP (w : World) (W H : Nat) (e : Ending) (w' : World) : Prop :=
 ∃ X Y : Nat, e = .returned (.tuple #[.agg #[.int .i64 W, .int .i64 H, .slice (some ⟨X, 0, none⟩) (W * H) (W * H), .slice (some ⟨Y, 0, none⟩) (W * H) (W * H)], .int .i64 0]) ∧
  w'.ownsRow w.heap.size 3 1 (.slice (some ⟨X, 0, none⟩) (W * H) (W * H)) (W * H) (ivs (List.replicate (W * H) 0)) ∧ w'.ownsRow w.heap.size 3 1 (.slice (some ⟨Y, 0, none⟩) (W * H) (W * H)) (W * H) (ivs (List.replicate (W * H) 16777215)) ∧ X ≠ Y ∧ Ext w w'
theorem row_new {cur : Array Value} {n : Nat} (M : ∀ W : World, ∀ base, base ≤ W.heap.size → (W.alloc (.cells cur 3)).ownsRow base 3 1 (.slice (some ⟨W.heap.size, 0, none⟩) n n) n (ivs (List.replicate n 0))) (W : World) (X base : Nat) (hX : X = W.heap.size) (hb : base ≤ W.heap.size) :
  (W.alloc (.cells cur 3)).ownsRow base 3 1 (.slice (some ⟨X, 0, none⟩) n n) n (ivs (List.replicate n 0)) := hX ▸ M W base hb
set_option maxRecDepth 10000 in
theorem new_yes (W H : Nat) (w : World) (h1 : 1 ≤ W) (h2 : W ≤ 1024) (h3 : 1 ≤ H) (h4 : H ≤ 1024) :
  Calls Tryz.prog 152 #[.int .i64 W, .int .i64 H] w (NewP w W H) := by
 have hn := mul_le W H h2 h4
 obtain ⟨cur, hcur⟩ := make_ints (W * H) hn
 have m1 := fun W => (hcur W).1
 have M1 := Lib.hid (fun W => (hcur W).2)
 clear hcur
 have hcast : ((W * H : Nat) : Int) = (W : Int) * H := by simp
 have hm1 : 0 ≤ (W : Int) * H := by omega
 have hm2 : (W : Int) * H ≤ 1048576 := by omega
 obtain ⟨n, hnn⟩ : ∃ n, n = W * H := ⟨_, rfl⟩
 rw [← hnn] at m1 M1 hcast hn
 have HN := Lib.hid hnn
 have hni : (n : Int) ≤ 1048576 := by omega
 have m1' : ∀ w : World, (Instr.makeSlice 26 (.int .i64 ((W : Int) * H)) (.int .i64 ((W : Int) * H))).run Tryz.prog w = .ok (.slice (some ⟨w.heap.size, 0, none⟩) n n) (w.alloc (.cells cur 3)) := by
  rw [← hcast]; exact m1
 clear m1 hnn hcast
 have d1 : decide ((W : Int) < 1) = false := by simp; omega
 have d2 : decide ((W : Int) > 1024) = false := by simp; omega
 have d3 : decide ((H : Int) < 1) = false := by simp; omega
 have d4 : decide ((H : Int) > 1024) = false := by simp; omega
 have w1 : IntKind.i64.wrap ((W : Int) * H) = (W : Int) * H := by rw [IntKind.wrap_i64]; omega
 have B0 := Lib.hid (Blk.new w 28 #[.int .i64 0, .int .i64 0, .slice none 0 0, .slice none 0 0])
 go_enter Tryz.func152, Tryz.ntmps152
 go_upto_region 3 with fail
 go_cut [6] from 23 to 33 (fun s6 wx => ∃ X Y P : Nat, s6 = .pointer (some ⟨P, 0, none⟩) ∧ Hid (w.heap.size < X ∧ w.heap.size < Y ∧ w.heap.size < P ∧ Made w wx W H n X Y P (List.replicate n 0) (List.replicate n 0)) ∧ Hid (Blk wx w.heap.size 28 #[.int .i64 0, .int .i64 0, .slice none 0 0, .slice none 0 0]))
 case first =>
  go_region
  all_goals
   go_wp2_with fail
   go_meet
   first
    | refine ⟨w.heap.size + 1, w.heap.size + 1 + 1, w.heap.size + 1 + 1 + 1, rfl, Lib.hid ⟨by omega, by omega, by omega, ⟨?_, ?_, ?_, by omega, by omega, by omega, by (repeat (first | with_reducible (first | exact eR_ _ | assumption | refine eA_ ?_ _ | refine eD_ ?_ | refine eN_ ?_ _ | refine eL_ ?_ _) | (with_reducible refine eS_ ?_ _ ?hp; case hp => first | (simp; done) | (simp; omega) | omega)))⟩⟩, Lib.hid ?_⟩ <;> (repeat (first | with_reducible refine Blk.drew ?_ | (with_reducible refine Blk.new' _ _ _ ?_; (simp; done)) | with_reducible refine Blk.alloc ?_ _ | with_reducible refine World.ownsRow.drew ?_ | (refine row_new M1.out _ _ _ ?_ ?_ <;> first | (simp; done) | (simp; omega)) | with_reducible refine World.ownsRow.alloc ?_ _)) <;> done
    | refine ⟨w.heap.size + 1, w.heap.size + 1 + 1 + 1, w.heap.size + 1 + 1, rfl, Lib.hid ⟨by omega, by omega, by omega, ⟨?_, ?_, ?_, by omega, by omega, by omega, by (repeat (first | with_reducible (first | exact eR_ _ | assumption | refine eA_ ?_ _ | refine eD_ ?_ | refine eN_ ?_ _ | refine eL_ ?_ _) | (with_reducible refine eS_ ?_ _ ?hp; case hp => first | (simp; done) | (simp; omega) | omega)))⟩⟩, Lib.hid ?_⟩ <;> (repeat (first | with_reducible refine Blk.drew ?_ | (with_reducible refine Blk.new' _ _ _ ?_; (simp; done)) | with_reducible refine Blk.alloc ?_ _ | with_reducible refine World.ownsRow.drew ?_ | (refine row_new M1.out _ _ _ ?_ ?_ <;> first | (simp; done) | (simp; omega)) | with_reducible refine World.ownsRow.alloc ?_ _)) <;> done
    | refine ⟨w.heap.size + 1 + 1, w.heap.size + 1, w.heap.size + 1 + 1 + 1, rfl, Lib.hid ⟨by omega, by omega, by omega, ⟨?_, ?_, ?_, by omega, by omega, by omega, by (repeat (first | with_reducible (first | exact eR_ _ | assumption | refine eA_ ?_ _ | refine eD_ ?_ | refine eN_ ?_ _ | refine eL_ ?_ _) | (with_reducible refine eS_ ?_ _ ?hp; case hp => first | (simp; done) | (simp; omega) | omega)))⟩⟩, Lib.hid ?_⟩ <;> (repeat (first | with_reducible refine Blk.drew ?_ | (with_reducible refine Blk.new' _ _ _ ?_; (simp; done)) | with_reducible refine Blk.alloc ?_ _ | with_reducible refine World.ownsRow.drew ?_ | (refine row_new M1.out _ _ _ ?_ ?_ <;> first | (simp; done) | (simp; omega)) | with_reducible refine World.ownsRow.alloc ?_ _)) <;> done
    | refine ⟨w.heap.size + 1 + 1, w.heap.size + 1 + 1 + 1, w.heap.size + 1, rfl, Lib.hid ⟨by omega, by omega, by omega, ⟨?_, ?_, ?_, by omega, by omega, by omega, by (repeat (first | with_reducible (first | exact eR_ _ | assumption | refine eA_ ?_ _ | refine eD_ ?_ | refine eN_ ?_ _ | refine eL_ ?_ _) | (with_reducible refine eS_ ?_ _ ?hp; case hp => first | (simp; done) | (simp; omega) | omega)))⟩⟩, Lib.hid ?_⟩ <;> (repeat (first | with_reducible refine Blk.drew ?_ | (with_reducible refine Blk.new' _ _ _ ?_; (simp; done)) | with_reducible refine Blk.alloc ?_ _ | with_reducible refine World.ownsRow.drew ?_ | (refine row_new M1.out _ _ _ ?_ ?_ <;> first | (simp; done) | (simp; omega)) | with_reducible refine World.ownsRow.alloc ?_ _)) <;> done
    | refine ⟨w.heap.size + 1 + 1 + 1, w.heap.size + 1, w.heap.size + 1 + 1, rfl, Lib.hid ⟨by omega, by omega, by omega, ⟨?_, ?_, ?_, by omega, by omega, by omega, by (repeat (first | with_reducible (first | exact eR_ _ | assumption | refine eA_ ?_ _ | refine eD_ ?_ | refine eN_ ?_ _ | refine eL_ ?_ _) | (with_reducible refine eS_ ?_ _ ?hp; case hp => first | (simp; done) | (simp; omega) | omega)))⟩⟩, Lib.hid ?_⟩ <;> (repeat (first | with_reducible refine Blk.drew ?_ | (with_reducible refine Blk.new' _ _ _ ?_; (simp; done)) | with_reducible refine Blk.alloc ?_ _ | with_reducible refine World.ownsRow.drew ?_ | (refine row_new M1.out _ _ _ ?_ ?_ <;> first | (simp; done) | (simp; omega)) | with_reducible refine World.ownsRow.alloc ?_ _)) <;> done
    | refine ⟨w.heap.size + 1 + 1 + 1, w.heap.size + 1 + 1, w.heap.size + 1, rfl, Lib.hid ⟨by omega, by omega, by omega, ⟨?_, ?_, ?_, by omega, by omega, by omega, by (repeat (first | with_reducible (first | exact eR_ _ | assumption | refine eA_ ?_ _ | refine eD_ ?_ | refine eN_ ?_ _ | refine eL_ ?_ _) | (with_reducible refine eS_ ?_ _ ?hp; case hp => first | (simp; done) | (simp; omega) | omega)))⟩⟩, Lib.hid ?_⟩ <;> (repeat (first | with_reducible refine Blk.drew ?_ | (with_reducible refine Blk.new' _ _ _ ?_; (simp; done)) | with_reducible refine Blk.alloc ?_ _ | with_reducible refine World.ownsRow.drew ?_ | (refine row_new M1.out _ _ _ ?_ ?_ <;> first | (simp; done) | (simp; omega)) | with_reducible refine World.ownsRow.alloc ?_ _)) <;> done
 case rest =>
  obtain ⟨X, Y, P, rfl, HM0, HR0⟩ := hcut
  clear m1' M1
  have h0 := HM0.out
  have hp := Lib.hid (And.intro h0.1 (And.intro h0.2.1 h0.2.2.1))
  have HM := Lib.hid h0.2.2.2
  clear h0 HM0
  obtain ⟨W1, rfl⟩ : ∃ W1 : World, W1 = wc := ⟨_, rfl⟩
  obtain ⟨-, -, -, p3⟩ := HM.out.box.four
  go_wp2_with fail
  clear p3
  go_loopw [7, 37] (fun _ i wr => ∃ j : Nat, j ≤ n ∧ i = .int .i64 j ∧ Hid (Made w wr W H n X Y P (List.replicate n 0) (List.replicate j 16777215 ++ List.replicate (n - j) 0)) ∧ Hid (Blk wr w.heap.size 28 #[.int .i64 0, .int .i64 0, .slice none 0 0, .slice none 0 0])) (fun _ i _ => n - (intOf i).toNat)
  case atStart => exact ⟨0, Nat.zero_le _, rfl, Lib.hid (by have := HM.out; simpa using this), HR0⟩
  case round =>
   clear HM HR0
   obtain ⟨j, hj, rfl, HM, HR⟩ := hrel
   obtain ⟨-, -, -, p3⟩ := HM.out.box.four
   by_cases hlt : j < n
   ·obtain ⟨xs, hxs⟩ : ∃ xs : List Value, xs = ivs (List.replicate j 16777215 ++ List.replicate (n - j) 0) := ⟨_, rfl⟩
    have hz := HM.out.z
    rw [← hxs] at hz
    have HXS := Lib.hid hxs
    have HZ := Lib.hid hz
    clear hxs hz
    go_wp2_with (refine wpList_store_own rfl (.tmp 43) (.const (.int .i64 16777215)) 3 rfl w.heap.size 3 1 Y n n xs j rfl (.int .i64 16777215) rfl HZ.out size_int (by simp [Value.cells]; rfl) (by simp [Value.cells]; omega) ?_)
    intro w2 ho2 hg2
    have ho3 : w2.ownsRow w.heap.size 3 1 (.slice (some ⟨Y, 0, none⟩) n n) n (ivs (List.replicate (j + 1) 16777215 ++ List.replicate (n - (j + 1)) 0)) := by
     rw [← set_rep n j hlt, ← ivs_put (by simp; omega), ← HXS.out, List.append_assoc]; exact ho2
    have HM2 := Lib.hid (HM.out.putZ hg2 ho3)
    have HR2 := Lib.hid (HR.out.grown' hg2 (fun e => by have := hp.out.2.1; injection e with e; omega))
    clear ho2 ho3 hg2 p3 HM HR
    go_wp2_with fail
    go_roundw
    case rel => first | exact ⟨j + 1, by omega, by go_num, HM2, HR2⟩ | ((repeat apply Exists.intro); exact ⟨⟨j + 1, by omega, by go_num, HM2, HR2⟩, rfl⟩)
    case measure => simp [intOf]; omega
   ·obtain rfl : j = n := by omega
    have HM2 : Hid (Made w wr W H j X Y P (List.replicate j 0) (List.replicate j 16777215)) := Lib.hid (by have := HM.out; simpa using this)
    clear HM
    clear p3
    obtain ⟨q0, q1, q2, q3⟩ := HM2.out.box.four
    obtain ⟨r0, r1, r2, r3⟩ := HR.out.four
    obtain ⟨f0, f1, f2, f3⟩ := HR.out.frees4
    obtain ⟨W2, rfl⟩ : ∃ W2 : World, W2 = wr := ⟨_, rfl⟩
    go_wp2_with fail
    try simp only [Exit.inBlock, Exit.then]
    obtain ⟨s0, s1, s2, s3⟩ := (HR.out.set4 (.int .i64 W) (.int .i64 H) (.slice (some ⟨X, 0, none⟩) j j) (.slice (some ⟨Y, 0, none⟩) j j)).four
    refine bodyPost_ret (v := .tuple #[.agg #[.int .i64 W, .int .i64 H, .slice (some ⟨X, 0, none⟩) j j, .slice (some ⟨Y, 0, none⟩) j j], .int .i64 0]) (by simp [results, Tryz.results152, go_sem, s0, s1, s2, s3]) rfl ?_
    have hx : ((Value.slice (some ⟨X, 0, none⟩) j j).ownBlock ≠ some w.heap.size) := fun e => by have := hp.out.1; simp [Value.ownBlock] at e; omega
    have hy : ((Value.slice (some ⟨Y, 0, none⟩) j j).ownBlock ≠ some w.heap.size) := fun e => by have := hp.out.2.1; simp [Value.ownBlock] at e; omega
    have hg : W2.grownBy ((((W2.setCell ⟨w.heap.size, 0, none⟩ (.int .i64 W)).setCell ⟨w.heap.size, 1, none⟩ (.int .i64 H)).setCell ⟨w.heap.size, 2, none⟩ (.slice (some ⟨X, 0, none⟩) j j)).setCell ⟨w.heap.size, 3, none⟩ (.slice (some ⟨Y, 0, none⟩) j j)) (some w.heap.size) :=
     grown_trans (grown_trans (grown_trans (grown_set _ _ _ _) (grown_set _ _ _ _)) (grown_set _ _ _ _)) (grown_set _ _ _ _)
    have hc := own_apart HM2.out.c hg hx
    have hz := own_apart HM2.out.z hg hy
    have he := HM2.out.ext.grown hg (fun k hk => Option.some.inj hk ▸ Nat.le_refl _)
    rw [HN.out] at hc hz he ⊢
    exact ⟨X, Y, rfl, hc, hz, HM2.out.xy, he⟩
end Go.Proofs.YtplljnfjkkloeaaGreatDoor
set_option linter.unusedVariables false
set_option linter.unusedSimpArgs false
namespace Go.Proofs.YtplljnfjkkloeaaGreatDoor
def fac (k si di s3 : Int) : Int := if k % 2 = 1 then 255 - (if k / 2 = 0 then 0 else if k / 2 = 1 then si else if k / 2 = 2 then di else s3) else (if k / 2 = 0 then 0 else if k / 2 = 1 then si else if k / 2 = 2 then di else s3)
def bl1 (sf df si di s3 : Int) : Int := min ((si * fac sf si di s3 + di * fac df si di s3) / 255) 255
def fcol (mix : Bool) (sf df : Int) (old : Int) (f : Fr) : Int :=
 if mix = true then pk (bl1 sf df f.c0 (old / 16777216 % 256) (f.c3 * f.m / 64)) (bl1 sf df f.c1 (old / 65536 % 256) (f.c3 * f.m / 64)) (bl1 sf df f.c2 (old / 256 % 256) (f.c3 * f.m / 64)) (bl1 sf df (f.c3 * f.m / 64) (old % 256) (f.c3 * f.m / 64))
 else pk f.c0 f.c1 f.c2 (f.c3 * f.m / 64)
def fput (W : Int) (mix : Bool) (sf df : Int) (C : List Int) (f : Fr) : List Int := C.set (f.y * W + f.x).toNat (fcol mix sf df (C.getD (f.y * W + f.x).toNat 0) f)
def fall (W : Int) (mix : Bool) (sf df : Int) (C : List Int) (L : List Fr) : List Int := L.foldl (fput W mix sf df) C
structure Fr.Fits (f : Fr) : Prop where
 c0 : byte f.c0
 c1 : byte f.c1
 c2 : byte f.c2
 c3 : byte f.c3
 z : 0 ≤ f.z ∧ f.z ≤ 16777215
 m : 0 < f.m ∧ f.m ≤ 64
end Go.Proofs.YtplljnfjkkloeaaGreatDoor
set_option linter.unusedVariables false
set_option linter.unusedSimpArgs false
namespace Go.Proofs.YtplljnfjkkloeaaGreatDoor
attribute [local go_sem] Go.Oper.semAt_some
open Go.RowKit
structure C4 where
 a : Int
 b : Int
 c : Int
 d : Int
@[reducible] def C4.v (c : C4) : Value := .agg #[.int .i64 c.a, .int .i64 c.b, .int .i64 c.c, .int .i64 c.d]
def C4.n (c : C4) : Nat → Int
 | 0 => c.a
 | 1 => c.b
 | 2 => c.c
 | _ => c.d
structure C4.Ok (c : C4) : Prop where
 ha : byte c.a
 hb : byte c.b
 hc : byte c.c
 hd : byte c.d
theorem idx_b (x y z u : Bool) (w : World) : (Instr.index 49 (.agg #[.bool x, .bool y, .bool z, .bool u]) (.int .i64 0)).run Tryz.prog w = .ok (.bool x) w ∧
  (Instr.index 49 (.agg #[.bool x, .bool y, .bool z, .bool u]) (.int .i64 1)).run Tryz.prog w = .ok (.bool y) w ∧
  (Instr.index 49 (.agg #[.bool x, .bool y, .bool z, .bool u]) (.int .i64 2)).run Tryz.prog w = .ok (.bool z) w ∧
  (Instr.index 49 (.agg #[.bool x, .bool y, .bool z, .bool u]) (.int .i64 3)).run Tryz.prog w = .ok (.bool u) w := ⟨by kernel_rfl, by kernel_rfl, by kernel_rfl, by kernel_rfl⟩
set_option maxRecDepth 100000 in
theorem bits_all (w : World) : Calls Tryz.prog 154 #[.agg #[.bool true, .bool true, .bool true, .bool true]] w fun e w' => e = .returned (.int .i64 4294967295) ∧ Ext w w' := by
 have i0 := fun w => (idx_b true true true true w).1
 have i1 := fun w => (idx_b true true true true w).2.1
 have i2 := fun w => (idx_b true true true true w).2.2.1
 have i3 := fun w => (idx_b true true true true w).2.2.2
 go_enter Tryz.func154, Tryz.ntmps154
 go_wp2_with fail
 refine wp_loop_rounds 5 ?_
 rw [rounds_succ]
 go_wp2_with fail
 rw [rounds_succ]
 go_wp2_with fail
 rw [rounds_succ]
 go_wp2_with fail
 rw [rounds_succ]
 go_wp2_with fail
 rw [rounds_succ]
 go_wp2_with fail
 go_ret
 exact ⟨rfl, by (repeat (first | with_reducible (first | exact eR_ _ | assumption | refine eA_ ?_ _ | refine eD_ ?_ | refine eN_ ?_ _ | refine eL_ ?_ _) | (with_reducible refine eS_ ?_ _ ?hp; case hp => first | (simp; done) | (simp; omega) | omega)))⟩
structure Bd (s d o : C4) (w wx : World) : Prop where
 s : Blk wx w.heap.size 30 #[.int .i64 s.a, .int .i64 s.b, .int .i64 s.c, .int .i64 s.d]
 d : Blk wx (w.heap.size + 1) 30 #[.int .i64 d.a, .int .i64 d.b, .int .i64 d.c, .int .i64 d.d]
 r : Blk wx (w.heap.size + 1 + 1) 30 #[.int .i64 0, .int .i64 0, .int .i64 0, .int .i64 0]
 o : Blk wx (w.heap.size + 1 + 1 + 1) 30 #[.int .i64 o.a, .int .i64 o.b, .int .i64 o.c, .int .i64 o.d]
 e : Ext w wx
theorem Bd.set {s d o : C4} {w wx : World} (h : Bd s d o w wx) (y : Later wx) (i : Nat) (u : Value) (o' : C4) (ho : (#[.int .i64 o.a, .int .i64 o.b, .int .i64 o.c, .int .i64 o.d] : Array Value).setIfInBounds i u = #[.int .i64 o'.a, .int .i64 o'.b, .int .i64 o'.c, .int .i64 o'.d]) : Bd s d o' w (y.w.setCell ⟨w.heap.size + 1 + 1 + 1, i, none⟩ u) :=
 ⟨(h.s.ext y.ext).far (by first | (simp; done) | (simp; omega) | omega) _, (h.d.ext y.ext).far (by first | (simp; done) | (simp; omega) | omega) _, (h.r.ext y.ext).far (by first | (simp; done) | (simp; omega) | omega) _, ho ▸ (h.o.ext y.ext).set_ i u, (h.e.trans y.ext).setCell _ (by first | (simp; done) | (simp; omega) | omega)⟩
end Go.Proofs.YtplljnfjkkloeaaGreatDoor
