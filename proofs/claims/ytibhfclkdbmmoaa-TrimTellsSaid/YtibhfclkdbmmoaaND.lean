/- Proof text: differences of rows of bits (rastrumref02). By an AI agent. No condition beyond what each theorem states. -/
import Derived.Test.YtibhfclkdbmmoaaNC
set_option linter.unusedVariables false
set_option linter.unusedSimpArgs false
namespace Go.Proofs.Ytibhfclkdbmmoaa
open Go.RowKit
/-- Two bits taken away. -/
theorem three_less (a b c : Bool) : ∃ d e : Bool, a.toNat + 2 * e.toNat = d.toNat + b.toNat + c.toNat ∧ (2 + bN a - bN b - bN c).tmod 2 = bN d ∧ (1 - (2 + bN a - bN b - bN c).tdiv 2 % 256) % 256 = bN e ∧ (1 - (2 + bN a - bN b - bN c).tdiv 2) % 256 = bN e ∧ (2 + bN a - bN b - bN c) % 2 = bN d := by
  cases a <;> cases b <;> cases c
  · exact ⟨false, false, by decide, by decide, by decide, by decide, by decide⟩
  · exact ⟨true, true, by decide, by decide, by decide, by decide, by decide⟩
  · exact ⟨true, true, by decide, by decide, by decide, by decide, by decide⟩
  · exact ⟨false, true, by decide, by decide, by decide, by decide, by decide⟩
  · exact ⟨true, false, by decide, by decide, by decide, by decide, by decide⟩
  · exact ⟨false, false, by decide, by decide, by decide, by decide, by decide⟩
  · exact ⟨false, false, by decide, by decide, by decide, by decide, by decide⟩
  · exact ⟨true, true, by decide, by decide, by decide, by decide, by decide⟩
theorem bit_ext (l : List Bool) (a : Option Addr) (n cap j : Nat) (z : Int) (w : World) (h : Rd w 1 a n cap (brw l)) (hz : bN (bt l j) = z) : Calls Try.prog 67 #[.slice a n cap, .int .i64 j] w fun x w' => x = .returned (.int .u8 z) ∧ Ext w w' :=
  (bit_any l a n cap j z w h hz).mono fun _ _ ⟨h1, h2⟩ => ⟨h1, h2 ▸ Ext.refl _⟩
def LessP (l m : List Bool) (w : World) (x : Ending) (w' : World) : Prop :=
  ∃ v out, x = .returned v ∧ w'.ownsRow w.heap.size 5 1 v out.length (brw out) ∧ bval out + bval m = bval l ∧ out.length = l.length ∧ Ext w w'
set_option maxRecDepth 10000 in
set_option maxHeartbeats 2000000 in
theorem nless_any (l m : List Bool) (a c : Option Addr) (n ca k cc : Nat) (w : World) (h1 : Rd w 1 a n ca (brw l)) (h2 : Rd w 1 c k cc (brw m)) (hn : n ≤ 1000) (hv : bval m ≤ bval l) :
    Calls Try.prog 61 #[.slice a n ca, .slice c k cc] w (LessP l m w) := by
  have l1 := rd_len h1
  have H1 := Lib.hid h1; have H2 := Lib.hid h2
  have L1 := Lib.hid l1
  have HVV := Lib.hid hv
  have n1 : (n : Int) ≤ 1000 := by omega
  clear h1 h2 l1 hn hv
  go_enter Try.func61, Try.ntmps61
  go_wp2_with fail
  go_loopw [5, 6, 7, 8] (fun ov cv iv _ wr => ∃ (j : Nat) (cb : Bool) (out : List Bool) (v : Value), j ≤ n ∧ v = ov ∧ cv = .int .u8 (bN cb) ∧ iv = .int .i64 j ∧ out.length = j ∧ wr.ownsRow w.heap.size 5 1 v j (brw out) ∧ Hid (low l j + 2 ^ j * cb.toNat = bval out + low m j) ∧ Ext w wr) (fun _ _ iv _ _ => n - (intOf iv).toNat)
  case atStart => exact ⟨0, false, [], _, Nat.zero_le _, rfl, rfl, rfl, rfl, World.ownsRow_nil _ _ _ _, Lib.hid (by simp [bval, low_zero]), Ext.refl _⟩
  case round =>
    obtain ⟨j, cb, out, v, hj, rfl, rfl, rfl, hl, ho, HV, hE⟩ := hrel
    have HO := Lib.hid ho; have HL := Lib.hid hl; have HE := Lib.hid hE
    have hj1 : (j : Int) ≤ 1000 := by omega
    have hz := hE.size
    have HZ := Lib.hid hz
    clear ho hl hE hz
    by_cases hgo : j < n
    · obtain ⟨b, off, rfl, -, -⟩ := H1.out.at_ (by omega)
      obtain ⟨x, hx⟩ : ∃ x, l[j]? = some x := ⟨_, List.getElem?_eq_getElem (by have := L1.out; omega)⟩
      have hbx : bt l j = x := bt_of hx
      have c0 := bit_at (H1.out.ext HE.out) hx
      obtain ⟨d, e, x1, x2, x3, x4, x5⟩ := three_less (bt l j) (bt m j) cb
      obtain ⟨z1, hz1⟩ : ∃ z, z = bN (bt l j) := ⟨_, rfl⟩
      obtain ⟨z2, hz2⟩ : ∃ z, z = bN (bt m j) := ⟨_, rfl⟩
      obtain ⟨z3, hz3⟩ : ∃ z, z = bN cb := ⟨_, rfl⟩
      have r1 := bN_range (bt l j)
      have r2 := bN_range (bt m j)
      have r3 := bN_range cb
      have B2 := Lib.hid (fun W hW => bit_ext m c k cc j z2 W hW hz2.symm)
      rw [← hbx] at c0
      rw [← hz1, ← hz2, ← hz3] at x2 x3 x4 x5
      rw [← hz1] at r1 c0
      rw [← hz2] at r2
      rw [← hz3] at r3 ⊢
      have f1 : IntKind.u8.wrap (2 + z1) = 2 + z1 := u8_small (by omega) (by omega)
      have f2 : IntKind.u8.wrap (2 + z1 - z2) = 2 + z1 - z2 := u8_small (by omega) (by omega)
      have f3 : IntKind.u8.wrap (2 + z1 - z2 - z3) = 2 + z1 - z2 - z3 := u8_small (by omega) (by omega)
      have hs : low l (j + 1) + 2 ^ (j + 1) * e.toNat = bval (out ++ [d]) + low m (j + 1) := less_step HL.out HV.out x1
      have HS := Lib.hid hs
      have hgi : (j : Int) < n := by omega
      have HQ := Lib.hid hgo
      clear hs x1 hz1 hz2 hz3 hgo HV r1 r2 r3 hx hbx
      go_upto_region 6 with fail
      refine wp_region_later (by kernel_rfl) (by kernel_rfl) ?_
      repeat (go_big_quiet_step ((go_at_call 67; with_reducible exact Calls.later _ (B2.out _ (H2.out.ext (HE.out.later _))))))
      refine wpQuiet_nil ?_
      intro y
      have HE2 := Lib.hid (HE.out.later y)
      have HO2 := Lib.hid (ownsRow_ext HO.out y.ext)
      have HZ2 := Lib.hid (Nat.le_trans HZ.out y.le)
      go_wp2_with (refine wpList_append_src rfl (.tmp 26) (.tmp 29) 76 rfl w.heap.size 5 _ 1 1 Try.underlying76 info_u8 rfl (by decide) v j (brw out) rfl (ownsRow_ext HO2.out (Ext.alloc (Ext.refl _) _)) ⟨_, 0, none⟩ 1 1 (brw [d]) rfl rfl ?c1 ?c2 ?c3 (by decide) ?c5 ?_)
      case c1 => exact news_at y.w (brw [d]) 5
      case c2 => exact brw_one [d]
      case c3 => omega
      case c5 => exact Nat.le_trans HZ2.out (by simp)
      intro v' w' ho' hg' _
      have hE' : Ext w w' := Ext.grown (HE2.out.alloc _) hg' (fun k hk => (HO2.out.lt _ hk).1)
      have HE' := Lib.hid hE'
      have HO' := Lib.hid ho'
      clear ho' hg' hE'
      go_wp2_with fail
      go_roundw
      case rel => exact ⟨j + 1, e, out ++ [d], v', by have := HQ.out; omega, rfl, by first | exact congrArg (Value.int .u8) x3 | exact congrArg (Value.int .u8) x4, by trivial, by simp [HL.out], by have := HO'.out; rw [← brw_append] at this; exact this, HS, HE'.out⟩
      case measure => have := HQ.out; simp [intOf]; omega
    · have g1 : ¬ (j : Int) < n := by omega
      have hd := less_done (by have := L1.out; omega : l.length = j) HL.out HVV.out HV.out
      have HD := Lib.hid hd
      have hle : out.length = l.length := by rw [HL.out, L1.out]; omega
      have HLE := Lib.hid hle
      clear hd HV hgo hle
      go_wp2_with fail
      go_ret
      refine ⟨_, out, rfl, ?_, HD.out, HLE.out, HE.out⟩
      rw [HL.out]; exact HO.out
end Go.Proofs.Ytibhfclkdbmmoaa
