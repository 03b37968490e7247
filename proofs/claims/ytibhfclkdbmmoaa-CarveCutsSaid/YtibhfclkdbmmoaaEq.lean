/- Proof text: when two arrays of four numbers, two sides, two vertices are the same, to the machine. By an AI agent. No condition beyond what each theorem states. -/
import Derived.Test.YtibhfclkdbmmoaaSA
import Derived.Laws.StructEq
import Derived.ChangeKeysEq
set_option linter.unusedVariables false
set_option linter.unusedSimpArgs false
namespace Go.Proofs.Ytibhfclkdbmmoaa
open Go.RowKit
theorem eqIn_int {P : Program} {t : TypeId} (ht : P.underlying t = some (.int .i64)) (d : Nat) (a b : Int) (w : World) : (Op.equalIn (d + 1) t (.int .i64 a) (.int .i64 b)).run P w = .ok (a == b) w := by
  simp [Op.equalIn, run_underlying ht]
theorem part_int {P : Program} {e : TypeId} (he : P.underlying e = some (.int .i64)) {xs : Array Value} {off : Nat} {v : Value} (hx : xs[off]? = some v) (w : World) : (part e xs off).run P w = .ok v w := by
  simp [part, isAgg, run_underlying he, hx]
theorem eqIn_arr4 {P : Program} {t e : TypeId} (ht : P.underlying t = some (.array 4 e)) (he : P.underlying e = some (.int .i64)) (hs : (P.info? e).map (fun i => (i.size)) = some 1) (D : Nat) (a0 a1 a2 a3 b0 b1 b2 b3 : Int) (w : World) :
    (Op.equalIn (D + 1 + 1) t (.agg #[.int .i64 a0, .int .i64 a1, .int .i64 a2, .int .i64 a3]) (.agg #[.int .i64 b0, .int .i64 b1, .int .i64 b2, .int .i64 b3])).run P w = .ok (a0 == b0 && (a1 == b1 && (a2 == b2 && a3 == b3))) w := by
  obtain ⟨i, hi, hz⟩ := Option.map_eq_some_iff.1 hs
  have E := fun a b w => eqIn_int he D a b w
  generalize D + 1 = F at *
  have p0 := fun (x0 x1 x2 x3 : Value) w => part_int he (xs := #[x0, x1, x2, x3]) (off := 0) (v := x0) rfl w
  have p1 := fun (x0 x1 x2 x3 : Value) w => part_int he (xs := #[x0, x1, x2, x3]) (off := 1) (v := x1) rfl w
  have p2 := fun (x0 x1 x2 x3 : Value) w => part_int he (xs := #[x0, x1, x2, x3]) (off := 2) (v := x2) rfl w
  have p3 := fun (x0 x1 x2 x3 : Value) w => part_int he (xs := #[x0, x1, x2, x3]) (off := 3) (v := x3) rfl w
  simp [Op.equalIn, run_underlying ht, sizeOf, typeInfo, hi, hz, Std.Legacy.Range.forIn_eq_forIn_range', Std.Legacy.Range.size, List.range', p0, p1, p2, p3, E]
  cases h0 : (a0 == b0) <;> cases h1 : (a1 == b1) <;> cases h2 : (a2 == b2) <;> cases h3 : (a3 == b3) <;> simp_all
theorem fieldsOf_of {P : Program} {t : TypeId} {fs : Array Field} (h : P.underlying t = some (.struct fs)) : P.fieldsOf t = fs := by unfold Program.fieldsOf; rw [h]
theorem size_int : (Try.prog.info? 3).map (fun i => (i.size)) = some 1 := by kernel_rfl
theorem eq_arr (a0 a1 a2 a3 b0 b1 b2 b3 : Int) (w : World) :
    (Op.equalIn 10000 22 (.agg #[.int .i64 a0, .int .i64 a1, .int .i64 a2, .int .i64 a3]) (.agg #[.int .i64 b0, .int .i64 b1, .int .i64 b2, .int .i64 b3])).run Try.prog w = .ok (a0 == b0 && (a1 == b1 && (a2 == b2 && a3 == b3))) w :=
  eqIn_arr4 Try.underlying22 Try.underlying3 size_int 9998 a0 a1 a2 a3 b0 b1 b2 b3 w
theorem part_p (x0 x1 x2 x3 x4 : Value) (w : World) : (part 22 #[x0, x1, x2, x3, x4] 1).run Try.prog w = .ok (.agg #[x1, x2, x3, x4]) w := by kernel_rfl
theorem part_c (x0 x1 x2 x3 x4 x5 x6 x7 : Value) (w : World) : (part 23 #[x0, x1, x2, x3, x4, x5, x6, x7] 4).run Try.prog w = .ok (.agg #[x4, x5, x6, x7]) w := by kernel_rfl
theorem stood_s : Try.prog.stoodInHeld 45 = false := by kernel_rfl
theorem stood_v : Try.prog.stoodInHeld 25 = false := by kernel_rfl
def Sd.same (s t : Sd) : Bool := s.k == t.k && (s.p0 == t.p0 && (s.p1 == t.p1 && (s.p2 == t.p2 && s.p3 == t.p3)))
def Vx.same (v u : Vx) : Bool := v.x == u.x && (v.y == u.y && (v.z == u.z && (v.w == u.w && (v.c0 == u.c0 && (v.c1 == u.c1 && (v.c2 == u.c2 && v.c3 == u.c3))))))
theorem Vx.same_iff (v u : Vx) : v.same u = true ↔ v = u := by
  cases v; cases u; simp [Vx.same]
theorem Vx.same_refl (v : Vx) : v.same v = true := (Vx.same_iff v v).2 rfl
theorem Vx.same_not {v u : Vx} (h : v ≠ u) : v.same u = false := by
  cases hs : v.same u
  · rfl
  · exact absurd ((Vx.same_iff v u).1 hs) h
theorem Sd.same_iff (v u : Sd) : v.same u = true ↔ v = u := by
  cases v; cases u; simp [Sd.same]
theorem Sd.same_refl (v : Sd) : v.same v = true := (Sd.same_iff v v).2 rfl
theorem eq_sd (s u : Sd) (w : World) : (Op.equalIn 10000 45 s.v u.v).run Try.prog w = .ok (s.same u) w := by
  have hf := fieldsOf_of Try.underlying45
  have ht : Try.prog.underlying 45 = some (.struct (Try.prog.fieldsOf 45)) := by rw [hf]; exact Try.underlying45
  have E0 := fun a b w => eqIn_int (P := Try.prog) Try.underlying3 9998 a b w
  have E1 := fun a0 a1 a2 a3 b0 b1 b2 b3 w => eqIn_arr4 (P := Try.prog) Try.underlying22 Try.underlying3 size_int 9997 a0 a1 a2 a3 b0 b1 b2 b3 w
  rw [show (10000 : Nat) = 9999 + 1 from rfl, run_equalIn_struct w 9999 _ _ _ ht stood_s, hf]
  have p0 := fun (x0 x1 x2 x3 x4 : Value) w => part_int (P := Try.prog) Try.underlying3 (xs := #[x0, x1, x2, x3, x4]) (off := 0) (v := x0) rfl w
  have p1 := part_p
  simp only [Op.eqFields, Sem.run_bind, p0, p1, E0, E1, Result.andThen_ok, Nat.reduceAdd, ne_eq, String.reduceEq, not_false_eq_true, if_true, Sem.run_ite, Sem.run_pure, Sd.same, reduceIte, Bool.not_eq_eq_eq_not, Bool.not_true]
  cases h0 : (s.k == u.k) <;> cases h1 : (s.p0 == u.p0 && (s.p1 == u.p1 && (s.p2 == u.p2 && s.p3 == u.p3))) <;> simp
theorem eq_vx (s u : Vx) (w : World) : (Op.equalIn 10000 25 s.v u.v).run Try.prog w = .ok (s.same u) w := by
  have hf := fieldsOf_of Try.underlying25
  have ht : Try.prog.underlying 25 = some (.struct (Try.prog.fieldsOf 25)) := by rw [hf]; exact Try.underlying25
  have E0 := fun a b w => eqIn_int (P := Try.prog) Try.underlying3 9998 a b w
  have E1 := fun a0 a1 a2 a3 b0 b1 b2 b3 w => eqIn_arr4 (P := Try.prog) Try.underlying23 Try.underlying3 size_int 9997 a0 a1 a2 a3 b0 b1 b2 b3 w
  rw [show (10000 : Nat) = 9999 + 1 from rfl, run_equalIn_struct w 9999 _ _ _ ht stood_v, hf]
  have p0 := fun (x0 x1 x2 x3 x4 x5 x6 x7 : Value) w => part_int (P := Try.prog) Try.underlying3 (xs := #[x0, x1, x2, x3, x4, x5, x6, x7]) (off := 0) (v := x0) rfl w
  have p1 := fun (x0 x1 x2 x3 x4 x5 x6 x7 : Value) w => part_int (P := Try.prog) Try.underlying3 (xs := #[x0, x1, x2, x3, x4, x5, x6, x7]) (off := 1) (v := x1) rfl w
  have p2 := fun (x0 x1 x2 x3 x4 x5 x6 x7 : Value) w => part_int (P := Try.prog) Try.underlying3 (xs := #[x0, x1, x2, x3, x4, x5, x6, x7]) (off := 2) (v := x2) rfl w
  have p3 := fun (x0 x1 x2 x3 x4 x5 x6 x7 : Value) w => part_int (P := Try.prog) Try.underlying3 (xs := #[x0, x1, x2, x3, x4, x5, x6, x7]) (off := 3) (v := x3) rfl w
  have p4 := part_c
  simp only [Op.eqFields, Sem.run_bind, p0, p1, p2, p3, p4, E0, E1, Result.andThen_ok, Nat.reduceAdd, ne_eq, String.reduceEq, not_false_eq_true, if_true, Sem.run_ite, Sem.run_pure, Vx.same, reduceIte, Bool.not_eq_eq_eq_not, Bool.not_true]
  cases h0 : (s.x == u.x) <;> cases h1 : (s.y == u.y) <;> cases h2 : (s.z == u.z) <;> cases h3 : (s.w == u.w) <;> cases h4 : (s.c0 == u.c0 && (s.c1 == u.c1 && (s.c2 == u.c2 && s.c3 == u.c3))) <;> simp
end Go.Proofs.Ytibhfclkdbmmoaa
