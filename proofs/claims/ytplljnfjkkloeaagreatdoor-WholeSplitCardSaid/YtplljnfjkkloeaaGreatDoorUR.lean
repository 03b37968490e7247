/- Proof text: how a ray that comes in reads. No condition. By an AI agent. -/
import Derived.Test.YtplljnfjkkloeaaGreatDoorMC
import Derived.Test.YtplljnfjkkloeaaGreatDoorUF
set_option linter.unusedVariables false
set_option linter.unusedSimpArgs false
set_option maxRecDepth 100000
namespace Go.Proofs.YtplljnfjkkloeaaGreatDoor
open Go.ChangeShapes Go.WideShapes Go.ChangeAt Go.RowKit Go.Joins Go.Deep
theorem ls8 {α : Type} {l : List α} (h : l.length = 8) : ∃ a b c d e f g i, l = [a, b, c, d, e, f, g, i] := by
  match l, h with
  | [a, b, c, d, e, f, g, i], _ => exact ⟨a, b, c, d, e, f, g, i, rfl⟩
theorem cray : Tryz.prog.cellsOf 86 = 8 := by kernel_rfl
theorem cp8 : Tryz.prog.cellsOf 24 = 2 := by kernel_rfl
theorem ci8 : Tryz.prog.cellsOf 23 = 1 := by kernel_rfl
theorem cu8 : Tryz.prog.cellsOf 5 = 1 := by kernel_rfl
theorem cu16 : Tryz.prog.cellsOf 84 = 1 := by kernel_rfl
theorem cu8s : Tryz.prog.cellsOf 83 = 1 := by kernel_rfl
theorem wf8 {z : Int} (h : (Lit.int .i8 z).wf = true) : -128 ≤ z ∧ z < 128 := by
  simp [Lit.wf] at h
  have e1 : IntKind.i8.min = -128 := by rfl
  have e2 : IntKind.i8.max = 127 := by rfl
  omega
theorem wfu16 {z : Int} (h : (Lit.int .u16 z).wf = true) : 0 ≤ z ∧ z < 65536 := by
  simp [Lit.wf] at h
  have e1 : IntKind.u16.min = 0 := by rfl
  have e2 : IntKind.u16.max = 65535 := by rfl
  omega
section
variable {H : Type} {enc : TypeId × Value → H} {W : World} {held : Bool}
def U8 := { z : Int // 0 ≤ z ∧ z < 256 }
theorem u8_of {w : World} {base : Nat} {spare : Nat → Bool} {m : Nat} {cs : List Value} {x : DataW H × List MemPlace} (h : DataW.trod enc Tryz.prog w base spare held m 5 cs = some x) : ∃ s : U8, cs = [.int .u8 s.1] := by
  obtain ⟨z, hz, _, hw⟩ := DataW.trod_int Tryz.underlying5 h
  exact ⟨⟨z, wfu8 hw⟩, hz⟩
theorem u8s_rd {fuel : Nat} {v : Value} {y : DataW H × List MemPlace} (h : DataW.trod enc Tryz.prog W 0 (fun _ => true) held fuel 83 [v] = some y) :
    ∃ a n cap, ∃ l : List Int, v = .slice a n cap ∧ Rd W 1 a n cap (u8s l) ∧ l.length = n ∧ ∀ m ∈ l, 0 ≤ m ∧ m < 256 := by
  obtain ⟨a, n, cap, l, h1, h2, h3⟩ := rows_rd (f := fun s : U8 => [Value.int .u8 s.1]) (fun _ => rfl) (by decide) Tryz.underlying83 cu8 (fun _ _ _ h => u8_of h) h
  refine ⟨a, n, cap, l.map (·.1), h1, ?_, by simp [h3], fun p hp => ?_⟩
  · have e : ∀ l : List U8, l.flatMap (fun s : U8 => [Value.int .u8 s.1]) = u8s (l.map (·.1)) := by
      intro l
      induction l with
      | nil => rfl
      | cons s l ih => rw [List.flatMap_cons, ih]; rfl
    rw [← e l]
    exact h2
  · obtain ⟨s, -, rfl⟩ := List.mem_map.1 hp
    exact s.2
theorem p8_of {w : World} {base : Nat} {spare : Nat → Bool} {m : Nat} {c0 c1 : Value} {o : Option (DataW H × List MemPlace)} (h : DataW.trod enc Tryz.prog w base spare held m 24 [c0, c1] = o) (ho : o.isSome = true) : ∃ z0 z1 : Int, c0 = .int .i8 z0 ∧ c1 = .int .i8 z1 ∧ (-128 ≤ z0 ∧ z0 < 128) ∧ (-128 ≤ z1 ∧ z1 < 128) := by
  obtain ⟨y, hy⟩ := Option.isSome_iff_exists.1 ho
  obtain ⟨xs, m', _, _, hl, hxl, hi⟩ := DataW.trod_array Tryz.underlying24 (h.trans hy)
  have i0 := hi 0 (by omega); have i1 := hi 1 (by omega)
  rw [ci8] at i0 i1
  obtain ⟨z0, rfl, w0⟩ := int_ofk Tryz.underlying23 i0 (by simp [hxl])
  obtain ⟨z1, rfl, w1⟩ := int_ofk Tryz.underlying23 i1 (by simp [hxl])
  exact ⟨z0, z1, rfl, rfl, wf8 w0, wf8 w1⟩
theorem open_ray {b0 : Nat} {r : Reach} {v : Value} {d : DataW H} {p : List MemPlace} (hv : Value.okWide Tryz.prog W r b0 86 v) (h : DataW.Trod enc Tryz.prog W 0 (fun _ => true) held 86 v d p) :
    ∃ (a1 a2 dx dy : Int) (A : Option Addr) (n c : Nat) (L : List Int) (wd rp pt : Int), v = .agg (rayC a1 a2 dx dy A n c wd rp pt) ∧ Rd W 1 A n c (u8s L) ∧ L.length = n ∧ (-32768 ≤ a1 ∧ a1 < 32768) ∧ (-32768 ≤ a2 ∧ a2 < 32768) ∧ (-128 ≤ dx ∧ dx < 128) ∧ (-128 ≤ dy ∧ dy < 128) ∧ (∀ m ∈ L, 0 ≤ m ∧ m < 256) ∧ (0 ≤ wd ∧ wd < 256) ∧ (0 ≤ rp ∧ rp < 256) ∧ (0 ≤ pt ∧ pt < 65536) := by
  obtain ⟨cs, rfl, hsz⟩ := okWide_struct Tryz.underlying86 hv
  obtain ⟨m, hm⟩ := h
  obtain ⟨xs, m', _, _, hl, hxl, hf⟩ := DataW.trod_struct Tryz.underlying86 hm
  obtain ⟨c0, c1, c2, c3, c4, c5, c6, c7, hcs⟩ := ls8 (hl.trans cray)
  have hcs' : cs = #[c0, c1, c2, c3, c4, c5, c6, c7] := by
    have : cs.toList = [c0, c1, c2, c3, c4, c5, c6, c7] := hcs
    cases cs; simp_all
  subst hcs'
  have hx : xs.length = 6 := hxl
  have f0 : DataW.trod enc Tryz.prog W 0 (fun _ => true) held m' 82 (([c0, c1, c2, c3, c4, c5, c6, c7].drop 0).take (Tryz.prog.cellsOf 82)) = xs[0]? := hf 0 _ rfl
  have f1 : DataW.trod enc Tryz.prog W 0 (fun _ => true) held m' 24 (([c0, c1, c2, c3, c4, c5, c6, c7].drop 2).take (Tryz.prog.cellsOf 24)) = xs[1]? := hf 1 _ rfl
  have f2 : DataW.trod enc Tryz.prog W 0 (fun _ => true) held m' 83 (([c0, c1, c2, c3, c4, c5, c6, c7].drop 4).take (Tryz.prog.cellsOf 83)) = xs[2]? := hf 2 _ rfl
  have f3 : DataW.trod enc Tryz.prog W 0 (fun _ => true) held m' 5 (([c0, c1, c2, c3, c4, c5, c6, c7].drop 5).take (Tryz.prog.cellsOf 5)) = xs[3]? := hf 3 _ rfl
  have f4 : DataW.trod enc Tryz.prog W 0 (fun _ => true) held m' 5 (([c0, c1, c2, c3, c4, c5, c6, c7].drop 6).take (Tryz.prog.cellsOf 5)) = xs[4]? := hf 4 _ rfl
  have f5 : DataW.trod enc Tryz.prog W 0 (fun _ => true) held m' 84 (([c0, c1, c2, c3, c4, c5, c6, c7].drop 7).take (Tryz.prog.cellsOf 84)) = xs[5]? := hf 5 _ rfl
  rw [cp16] at f0
  rw [cp8] at f1
  rw [cu8s] at f2
  rw [cu8] at f3 f4
  rw [cu16] at f5
  obtain ⟨y0, hy0⟩ : ∃ y, xs[0]? = some y := ⟨_, List.getElem?_eq_getElem (by omega)⟩
  obtain ⟨y2, hy2⟩ : ∃ y, xs[2]? = some y := ⟨_, List.getElem?_eq_getElem (by omega)⟩
  obtain ⟨⟨s, s1, s2⟩, e0⟩ := p16_of (f0.trans hy0)
  have e0' : [c0, c1] = [Value.int .i16 s.1, Value.int .i16 s.2] := e0
  obtain ⟨rfl, rfl⟩ : c0 = .int .i16 s.1 ∧ c1 = .int .i16 s.2 := by simpa using e0'
  obtain ⟨dx, dy, rfl, rfl, hx1, hy1⟩ := p8_of f1 (by simp [hx])
  obtain ⟨A, n, c, L, rfl, hr, hL, h8⟩ := u8s_rd (f2.trans hy2)
  obtain ⟨wd, rfl, w3⟩ := int_ofk Tryz.underlying5 f3 (by simp [hx])
  obtain ⟨rp, rfl, w4⟩ := int_ofk Tryz.underlying5 f4 (by simp [hx])
  obtain ⟨pt, rfl, w5⟩ := int_ofk Tryz.underlying84 f5 (by simp [hx])
  exact ⟨s.1, s.2, dx, dy, A, n, c, L, wd, rp, pt, rfl, hr, hL, s1, s2, hx1, hy1, h8, wfu8 w3, wfu8 w4, wfu16 w5⟩
end
end Go.Proofs.YtplljnfjkkloeaaGreatDoor
