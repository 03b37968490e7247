/- Proof text: what comes of a polygon at a side, the document's answer (rastrumref10.Cut). By an AI agent. No condition beyond what each theorem states. -/
import Derived.Test.YtibhfclkdbmmoaaCD
import Derived.Test.YtibhfclkdbmmoaaNT
set_option linter.unusedVariables false
set_option linter.unusedSimpArgs false
namespace Go.Proofs.Ytibhfclkdbmmoaa
open Go.RowKit
theorem own_stay2 {w w' : World} {base : Nat} {e : TypeId} {size : Nat} {v : Value} {n : Nat} {xs : List Value} {row : Option Nat} (h : w.ownsRow base e size v n xs) (hg : w.grownBy w' row) (hne : ∀ g, v.ownBlock = some g → row ≠ some g) : w'.ownsRow base e size v n xs :=
  h.kept (row := row) hg (by
    cases hv : v.ownBlock with
    | none => exact .inl rfl
    | some g => exact .inr fun h => hne g hv h.symm)
theorem own_block2 {w : World} {base : Nat} {e : TypeId} {size : Nat} {v : Value} {n : Nat} {xs : List Value} (h : w.ownsRow base e size v n xs) {g : Nat} (hg : v.ownBlock = some g) : ∃ cur, w.heap[g]? = some (.cells cur e (0, 0)) := by
  rcases h.2 with ⟨rfl, _⟩ | ⟨g', cap, cur, rfl, _, hb, _⟩
  · cases hg
  · simp [Value.ownBlock] at hg
    subst hg
    exact ⟨cur, hb⟩
theorem own_types2 {w : World} {base base' : Nat} {e e' : TypeId} {size size' : Nat} {v v' : Value} {n n' : Nat} {xs xs' : List Value} (h : w.ownsRow base e size v n xs) (h' : w.ownsRow base' e' size' v' n' xs') (he : e ≠ e') : ∀ g, v.ownBlock = some g → v'.ownBlock ≠ some g := by
  intro g h1 h2
  obtain ⟨cur, hb⟩ := own_block2 h h1
  obtain ⟨cur', hb'⟩ := own_block2 h' h2
  rw [hb] at hb'
  injection hb' with hb'
  injection hb' with _ ht
  exact he ht
/-- Two rows that grow side by side: vertices, flags. -/
structure CW (s : Sd) (w wr : World) (OV : List Vx) (ON : List Bool) (vo vn : Value) : Prop where
  b : Blk wr w.heap.size 45 s.row.toArray
  ov : wr.ownsRow (w.heap.size + 1) 25 8 vo OV.length (vrows OV)
  on : wr.ownsRow (w.heap.size + 1) 4 1 vn ON.length (brows ON)
  ex : Ext w wr
section
variable {s : Sd} {w wr w' : World} {OV : List Vx} {ON : List Bool} {vo vn v' : Value}
theorem CW.ext (h : CW s w wr OV ON vo vn) (e : Ext wr w') : CW s w w' OV ON vo vn := ⟨h.b.ext e, ownsRow_ext h.ov e, ownsRow_ext h.on e, h.ex.trans e⟩
theorem CW.growV (h : CW s w wr OV ON vo vn) {x : Vx} (ho : w'.ownsRow (w.heap.size + 1) 25 8 v' (OV.length + 1) (vrows OV ++ vrows [x])) (hg : wr.grownBy w' vo.ownBlock) : CW s w w' (OV ++ [x]) ON v' vn := by
  refine ⟨h.b.grown' hg fun e => by have := (h.ov.lt _ e).1; omega, ?_, own_stay2 h.on hg fun g h1 h2 => own_types2 h.on h.ov (by decide) g h1 h2, h.ex.grown hg fun k hk => by have := (h.ov.lt k hk).1; omega⟩
  rw [vrows_append, List.length_append]; exact ho
theorem CW.growB (h : CW s w wr OV ON vo vn) {x : Bool} (ho : w'.ownsRow (w.heap.size + 1) 4 1 v' (ON.length + 1) (brows ON ++ brows [x])) (hg : wr.grownBy w' vn.ownBlock) : CW s w w' OV (ON ++ [x]) vo v' := by
  refine ⟨h.b.grown' hg fun e => by have := (h.on.lt _ e).1; omega, own_stay2 h.ov hg fun g h1 h2 => own_types2 h.ov h.on (by decide) g h1 h2, ?_, h.ex.grown hg fun k hk => by have := (h.on.lt k hk).1; omega⟩
  rw [brows_append, List.length_append]; exact ho
theorem CW.farV (h : CW s w wr OV ON vo vn) (hg : wr.grownBy w' vo.ownBlock) {P : Nat} {cs : Array Value} {t : TypeId} (hP : Blk wr P t cs) (hne : ∀ g, vo.ownBlock = some g → g < P) : Blk w' P t cs := hP.grown' hg fun e => by have := hne _ e; omega
end
theorem vrow2 {w : World} {b off n cap j r : Nat} {l : List Vx} {p q : Vx} (h : Rd w 8 (some ⟨b, off, none⟩) n cap (vrows l)) (hp : l[j]? = some p) (hq : l[r]? = some q) :
    w.cell? ⟨b, off + j * 8, none⟩ = some (.int .i64 p.x) ∧ w.cell? ⟨b, off + j * 8 + 1, none⟩ = some (.int .i64 p.y) ∧ w.cell? ⟨b, off + j * 8 + 2, none⟩ = some (.int .i64 p.z) ∧ w.cell? ⟨b, off + j * 8 + 3, none⟩ = some (.int .i64 p.w) ∧ w.cell? ⟨b, off + j * 8 + 4, none⟩ = some (.int .i64 p.c0) ∧ w.cell? ⟨b, off + j * 8 + 5, none⟩ = some (.int .i64 p.c1) ∧ w.cell? ⟨b, off + j * 8 + 6, none⟩ = some (.int .i64 p.c2) ∧ w.cell? ⟨b, off + j * 8 + 7, none⟩ = some (.int .i64 p.c3) ∧ w.cell? ⟨b, off + r * 8, none⟩ = some (.int .i64 q.x) ∧ w.cell? ⟨b, off + r * 8 + 1, none⟩ = some (.int .i64 q.y) ∧ w.cell? ⟨b, off + r * 8 + 2, none⟩ = some (.int .i64 q.z) ∧ w.cell? ⟨b, off + r * 8 + 3, none⟩ = some (.int .i64 q.w) ∧ w.cell? ⟨b, off + r * 8 + 4, none⟩ = some (.int .i64 q.c0) ∧ w.cell? ⟨b, off + r * 8 + 5, none⟩ = some (.int .i64 q.c1) ∧ w.cell? ⟨b, off + r * 8 + 6, none⟩ = some (.int .i64 q.c2) ∧ w.cell? ⟨b, off + r * 8 + 7, none⟩ = some (.int .i64 q.c3) := by
  obtain ⟨a0, a1, a2, a3, a4, a5, a6, a7⟩ := vert_at h hp
  obtain ⟨b0, b1, b2, b3, b4, b5, b6, b7⟩ := vert_at h hq
  exact ⟨a0, a1, a2, a3, a4, a5, a6, a7, b0, b1, b2, b3, b4, b5, b6, b7⟩
theorem rnext {O X : List (Vx × Bool)} {l : List (Vx × Bool)} {k : Nat} {p q : Vx × Bool} {s : Sd} (h : O = ((ring l).take k).flatMap (fun c => cutF s c.1 c.2)) (hr : (ring l)[k]? = some (p, q)) (hx : X = cutF s p q) : O ++ X = ((ring l).take (k + 1)).flatMap (fun c => cutF s c.1 c.2) := by
  rw [take_flat hr, h, hx]
/-- What comes of a polygon at a side. -/
def RCut (l : List Vx) (e : List Bool) (s : Sd) (w : World) (x : Ending) (w' : World) : Prop :=
  ∃ a c b d, x = .returned (.tuple #[.slice a (cutBy (cutF s) (l.zip e)).length c, .slice b (cutBy (cutF s) (l.zip e)).length d]) ∧ Rd w' 8 a (cutBy (cutF s) (l.zip e)).length c (vrows ((cutBy (cutF s) (l.zip e)).map (·.1))) ∧ Rd w' 1 b (cutBy (cutF s) (l.zip e)).length d (brows ((cutBy (cutF s) (l.zip e)).map (·.2))) ∧ Ext w w'
set_option maxRecDepth 100000 in
set_option maxHeartbeats 4000000 in
theorem rcut_any (l : List Vx) (e : List Bool) (s : Sd) (A E : Option Addr) (n ca ce : Nat) (w : World) (hA : Rd w 8 A n ca (vrows l)) (hl : l.length = n) (hE : Rd w 1 E n ce (brows e)) (he : e.length = n) (hn : n ≤ 131072) (hs : s.Ok) (hf : ∀ v ∈ l, v.Fit) :
    Calls Try.prog 20 #[.slice A n ca, .slice E n ce, s.v] w (RCut l e s w) := by
  have hn1 : (n : Int) ≤ 131072 := by omega
  have HN := Lib.hid hn
  have HA := Lib.hid hA; have HEr := Lib.hid hE
  have HL := Lib.hid hl; have HLE := Lib.hid he
  have HS := Lib.hid hs; have HF := Lib.hid hf
  clear hA hE hl he hs hf hn
  go_enter Try.func20, Try.ntmps20
  go_wp2_with fail
  go_loopg [8, 9, 10, 11, 12, 13, 14, 15, 16, 17, 18] n (fun gh so sn i _ _ _ _ _ _ _ _ wr => ∃ (j : Nat) (vo vn : Value) (O : List (Vx × Bool)), j ≤ n ∧ gh = n - j ∧ vo = so ∧ vn = sn ∧ i = .int .i64 j ∧ Hid (CW s w wr (O.map (·.1)) (O.map (·.2)) vo vn) ∧ Hid (O = ((ring (l.zip e)).take j).flatMap (fun c => cutF s c.1 c.2)) ∧ Hid (O.length ≤ 2 * j))
  case atStart => exact ⟨0, _, _, [], Nat.zero_le _, rfl, rfl, rfl, rfl, Lib.hid ⟨Blk.new _ _ _, World.ownsRow_nil _ _ _ _, World.ownsRow_nil _ _ _ _, (Ext.refl _).alloc _⟩, Lib.hid (by simp), Lib.hid (by simp)⟩
  case round =>
    obtain ⟨j, vo, vn, O, hj, rfl, rfl, rfl, rfl, HT, HO, HOl⟩ := hrel
    by_cases hlt : j < n
    · obtain ⟨p, hp⟩ : ∃ p, l[j]? = some p := ⟨_, List.getElem?_eq_getElem (by rw [HL.out]; exact hlt)⟩
      obtain ⟨x, hx⟩ : ∃ x, e[j]? = some x := ⟨_, List.getElem?_eq_getElem (by rw [HLE.out]; exact hlt)⟩
      obtain ⟨r, hr⟩ : ∃ r, r = if j + 1 < n then j + 1 else 0 := ⟨_, rfl⟩
      have hrn : r < n := by rw [hr]; split <;> omega
      obtain ⟨q, hq⟩ : ∃ q, l[r]? = some q := ⟨_, List.getElem?_eq_getElem (by rw [HL.out]; exact hrn)⟩
      obtain ⟨y, hy⟩ : ∃ y, e[r]? = some y := ⟨_, List.getElem?_eq_getElem (by rw [HLE.out]; exact hrn)⟩
      have hz1 : (l.zip e)[j]? = some (p, x) := List.getElem?_zip_eq_some.2 ⟨hp, hx⟩
      have hz2 : (l.zip e)[r]? = some (q, y) := List.getElem?_zip_eq_some.2 ⟨hq, hy⟩
      have HRG : Hid ((ring (l.zip e))[j]? = some ((p, x), (q, y))) := Lib.hid (ring_get (n := n) (by rw [List.length_zip, HL.out, HLE.out, Nat.min_self]) hz1 (by
        rw [← hz2, hr]
        by_cases h : j + 1 < n
        · rw [if_pos h, if_pos h]
        · rw [if_neg h, if_neg h]))
      have HFP : Hid (p.Fit ∧ q.Fit) := Lib.hid ⟨HF.out p (List.mem_of_getElem? hp), HF.out q (List.mem_of_getElem? hq)⟩
      have hm : ((j : Int) + 1).tmod n = r := by
        rw [hr]
        by_cases h : j + 1 < n
        · rw [if_pos h, Int.tmod_eq_emod_of_nonneg (by omega), Int.emod_eq_of_lt (by omega) (by omega)]; omega
        · rw [if_neg h, show (j : Int) + 1 = n by omega, Int.tmod_self]; rfl
      have hw : IntKind.i64.wrap ((j : Int) + 1) = (j : Int) + 1 := by rw [IntKind.wrap_i64]; omega
      obtain ⟨bA, oA, rfl, -, -⟩ := HA.out.at_ (by omega)
      obtain ⟨bE, oE, rfl, -, -⟩ := HEr.out.at_ (by omega)
      have HP := Lib.hid hp; have HX := Lib.hid hx; have HQ := Lib.hid hq
      have HAr := Lib.hid (HA.out.ext HT.out.ex)
      have hnz : ¬ n = 0 := by omega
      have hj1 : (j : Int) < n := by omega
      have hr1 : (r : Int) < n := by omega
      have hr0 : (0 : Int) ≤ r := by omega
      clear hp hx hq hy hz1 hz2 hr hrn
      go_upto_region 6 with fail
      go_cut [11, 12] from 25 to 36 (fun sp sq wx => ∃ P Q : Nat, sp = .pointer (some ⟨P, 0, none⟩) ∧ sq = .pointer (some ⟨Q, 0, none⟩) ∧ Hid (Blk wx P 25 p.row ∧ Blk wx Q 25 q.row) ∧ Hid (wr.heap.size ≤ P ∧ wr.heap.size ≤ Q) ∧ Hid (Ext wr wx))
      case first =>
        have cells := vrow2 HAr.out HP.out HQ.out
        go_region_held3 (fun w' => w'.cell? ⟨bA, oA + j * 8, none⟩ = some (.int .i64 p.x) ∧ w'.cell? ⟨bA, oA + j * 8 + 1, none⟩ = some (.int .i64 p.y) ∧ w'.cell? ⟨bA, oA + j * 8 + 2, none⟩ = some (.int .i64 p.z) ∧ w'.cell? ⟨bA, oA + j * 8 + 3, none⟩ = some (.int .i64 p.w) ∧ w'.cell? ⟨bA, oA + j * 8 + 4, none⟩ = some (.int .i64 p.c0) ∧ w'.cell? ⟨bA, oA + j * 8 + 5, none⟩ = some (.int .i64 p.c1) ∧ w'.cell? ⟨bA, oA + j * 8 + 6, none⟩ = some (.int .i64 p.c2) ∧ w'.cell? ⟨bA, oA + j * 8 + 7, none⟩ = some (.int .i64 p.c3) ∧ w'.cell? ⟨bA, oA + r * 8, none⟩ = some (.int .i64 q.x) ∧ w'.cell? ⟨bA, oA + r * 8 + 1, none⟩ = some (.int .i64 q.y) ∧ w'.cell? ⟨bA, oA + r * 8 + 2, none⟩ = some (.int .i64 q.z) ∧ w'.cell? ⟨bA, oA + r * 8 + 3, none⟩ = some (.int .i64 q.w) ∧ w'.cell? ⟨bA, oA + r * 8 + 4, none⟩ = some (.int .i64 q.c0) ∧ w'.cell? ⟨bA, oA + r * 8 + 5, none⟩ = some (.int .i64 q.c1) ∧ w'.cell? ⟨bA, oA + r * 8 + 6, none⟩ = some (.int .i64 q.c2) ∧ w'.cell? ⟨bA, oA + r * 8 + 7, none⟩ = some (.int .i64 q.c3)) ((refine vrow2 (l := l) (n := n) (cap := ca) ?_ HP.out HQ.out; refine Rd.ext HAr.out ?_; (repeat (first | with_reducible exact Ext.refl _ | with_reducible assumption | with_reducible refine Ext.alloc ?_ _ | with_reducible refine Ext.drew ?_ | with_reducible refine Ext.drewN ?_ _ | with_reducible refine Ext.later ?_ _ | (with_reducible refine Ext.setCell ?_ _ ?hp; case hp => first | (simp; done) | (simp; omega) | omega))))) (fail)
        all_goals
          go_wp2_with fail
          go_meet
          refine ⟨_, _, rfl, rfl, Lib.hid ⟨?_, ?_⟩, Lib.hid ⟨?_, ?_⟩, Lib.hid (by (repeat (first | with_reducible exact Ext.refl _ | with_reducible assumption | with_reducible refine Ext.alloc ?_ _ | with_reducible refine Ext.drew ?_ | with_reducible refine Ext.drewN ?_ _ | with_reducible refine Ext.later ?_ _ | (with_reducible refine Ext.setCell ?_ _ ?hp; case hp => first | (simp; done) | (simp; omega) | omega))))⟩
          · (repeat (first | with_reducible refine Blk.drew ?_ | (with_reducible refine Blk.new' _ _ _ ?_; (simp; done)) | with_reducible refine Blk.alloc ?_ _))
          · (repeat (first | with_reducible refine Blk.drew ?_ | (with_reducible refine Blk.new' _ _ _ ?_; (simp; done)) | with_reducible refine Blk.alloc ?_ _))
          · omega
          · omega
      case rest =>
        obtain ⟨P, Q, rfl, rfl, HPQ, HPQl, HE1⟩ := hcut
        obtain ⟨W1, rfl⟩ : ∃ W1 : World, W1 = wc := ⟨_, rfl⟩
        have HT1 := Lib.hid (HT.out.ext HE1.out)
        have HOV := Lib.hid HT.out.ov.lt
        have HON := Lib.hid HT.out.on.lt
        obtain ⟨p0, p1, p2, p3, p4, p5, p6, p7⟩ := cells8 HPQ.out.1
        obtain ⟨q0, q1, q2, q3, q4, q5, q6, q7⟩ := cells8 HPQ.out.2
        obtain ⟨s0, s1, s2, s3, s4⟩ := cells5 (s := s) HT1.out.b
        clear HT hm hr1 hr0
        go_upto_region 7 with fail
        refine wp_region_later (by kernel_rfl) (by kernel_rfl) ?_
        repeat (go_big_quiet_step ((first | (go_at_call 37; with_reducible exact Calls.later _ (rdist_any s p _ HS.out HFP.out.1)) | (go_at_call 37; with_reducible exact Calls.later _ (rdist_any s q _ HS.out HFP.out.2)))))
        refine wpQuiet_nil ?_
        intro z
        have HT2 := Lib.hid (HT1.out.ext z.ext)
        have HPQ2 := Lib.hid (And.intro (HPQ.out.1.ext z.ext) (HPQ.out.2.ext z.ext))
        clear p0 p1 p2 p3 p4 p5 p6 p7 q0 q1 q2 q3 q4 q5 q6 q7 s0 s1 s2 s3 s4 HPQ HT1
        have HB1 := Lib.hid (dist_bound HS.out HFP.out.1)
        have HB2 := Lib.hid (dist_bound HS.out HFP.out.2)
        obtain ⟨W2, hW2⟩ : ∃ W2, W2 = z.w := ⟨_, rfl⟩
        rw [← hW2] at HT2 HPQ2 ⊢
        clear hW2
        clear z
        obtain ⟨p0, p1, p2, p3, p4, p5, p6, p7⟩ := cells8 HPQ2.out.1
        obtain ⟨da, hda⟩ : ∃ d, d = dist s p := ⟨_, rfl⟩
        obtain ⟨db, hdb⟩ : ∃ d, d = dist s q := ⟨_, rfl⟩
        rw [← hda] at HB1
        rw [← hdb] at HB2
        rw [← hda, ← hdb]
        have HDA := Lib.hid hda
        have HDB := Lib.hid hdb
        clear hda hdb
        by_cases hp : 0 ≤ da
        · have t1 : decide (da ≥ 0) = true := by simpa using hp
          have t3 : decide (da < 0) = false := by simpa using hp
          by_cases hq : 0 ≤ db
          · have t2 : decide (db < 0) = false := by simpa using hq
            have t4 : decide (db ≥ 0) = true := by simpa using hq
            have HCF : Hid ([(p, x)] = cutF s (p, x) (q, y)) := Lib.hid (by unfold cutF; simp only [← HDA.out, ← HDB.out, if_pos hp, if_pos hq])
            clear hp hq
            go_wp2_with (refine wpList_append_src rfl (.tmp 45) (.tmp 47) 36 rfl (w.heap.size + 1) 25 (.agg #[.int .i64 0, .int .i64 0, .int .i64 0, .int .i64 0, .int .i64 0, .int .i64 0, .int .i64 0, .int .i64 0]) 8 64 ?d4 ?c8 ?c9 ?c10 vo ?d5 ?d6 ?d7 ?c11 ?d8 1 1 (vrows [p]) ?d9 ?c12 ?c1 ?c2 ?c3 ?c4 ?c5 ?_)
            case d7 => rfl
            case d5 => exact (O.map (·.1)).length
            case d6 => exact vrows (O.map (·.1))
            case d8 => exact ⟨W2.heap.size, 0, none⟩
            case d4 => exact Try.underlying36
            case c8 => exact info_vert
            case c9 => rfl
            case c10 => decide
            case d9 => rfl
            case c12 => rfl
            case c11 => exact ownsRow_ext HT2.out.ov (Ext.alloc (Ext.refl _) _)
            case c1 => exact news_at _ (vrows [p]) 25
            case c2 => exact vrows_one _
            case c3 => have h1 := HOl.out; have h2 := HN.out; simp only [List.length_append, List.length_map, List.length_cons, List.length_nil]; omega
            case c4 => decide
            case c5 => have := HT2.out.b.lt; simp; omega
            intro v1 w1 ho' hg' _
            have HT3 := Lib.hid ((HT2.out.ext (Ext.alloc (Ext.refl _) (.cells p.row 25))).growV ho' hg')
            have HPQ3 := Lib.hid (And.intro ((HPQ2.out.1.alloc (.cells p.row 25)).grown' hg' fun e => by have h1 := (HOV.out _ e).2; have h2 := HPQl.out; omega) ((HPQ2.out.2.alloc (.cells p.row 25)).grown' hg' fun e => by have h1 := (HOV.out _ e).2; have h2 := HPQl.out; omega))
            clear ho' hg' p0 p1 p2 p3 p4 p5 p6 p7
            have f0 := flag_at (HEr.out.ext HT3.out.ex) HX.out
            go_wp2_with (refine wpList_append_src rfl (.tmp 49) (.tmp 54) 37 rfl (w.heap.size + 1) 4 (.bool false) 1 1 ?d4 ?c8 ?c9 ?c10 vn ?d5 ?d6 ?d7 ?c11 ?d8 1 1 (brows [x]) ?d9 ?c12 ?c1 ?c2 ?c3 ?c4 ?c5 ?_)
            case d7 => rfl
            case d5 => exact (O.map (·.2)).length
            case d6 => exact brows (O.map (·.2))
            case d8 => exact ⟨w1.heap.size, 0, none⟩
            case d4 => exact Try.underlying37
            case c8 => exact info_bool
            case c9 => rfl
            case c10 => decide
            case d9 => rfl
            case c12 => rfl
            case c11 => exact ownsRow_ext HT3.out.on (Ext.alloc (Ext.refl _) _)
            case c1 => exact news_at _ (brows [x]) 4
            case c2 => exact brows_one _
            case c3 => have h1 := HOl.out; have h2 := HN.out; simp only [List.length_append, List.length_map, List.length_cons, List.length_nil]; omega
            case c4 => decide
            case c5 => have := HT3.out.b.lt; simp; omega
            intro v2 w2 ho' hg' _
            have HT4 := Lib.hid ((HT3.out.ext (Ext.alloc (Ext.refl _) (.cells #[.bool x] 4))).growB ho' hg')
            have HPQ4 := Lib.hid (And.intro ((HPQ3.out.1.alloc (.cells #[.bool x] 4)).grown' hg' fun e => by have h1 := (HON.out _ e).2; have h2 := HPQl.out; omega) ((HPQ3.out.2.alloc (.cells #[.bool x] 4)).grown' hg' fun e => by have h1 := (HON.out _ e).2; have h2 := HPQl.out; omega))
            clear f0
            clear ho' hg'
            go_wp2_with fail
            go_roundg (n - (j + 1))
            case measure => omega
            case rel =>
              refine ⟨j + 1, v1, v2, O ++ [(p, x)], by omega, rfl, rfl, rfl, by go_num, Lib.hid ?_, Lib.hid (rnext HO.out HRG.out HCF.out), Lib.hid (by have := HOl.out; simp only [List.length_append, List.length_cons, List.length_nil]; omega)⟩
              have h := HT4.out
              simp only [List.append_assoc, List.map_append, List.map_cons, List.map_nil, List.cons_append, List.nil_append] at h ⊢
              exact h
          · have hq' : db < 0 := by omega
            have t2 : decide (db < 0) = true := by simpa using hq'
            have t4 : decide (db ≥ 0) = false := by simpa using hq'
            obtain ⟨u, hu⟩ : ∃ u, u = at_ p q da (da - db) := ⟨_, rfl⟩
            have HCF : Hid ([(p, x), (u, true)] = cutF s (p, x) (q, y)) := Lib.hid (by unfold cutF; simp only [← HDA.out, ← HDB.out, if_pos hp, if_neg hq]; rw [hu])
            have HU : Hid (∀ W, Calls Try.prog 8 #[p.v, q.v, .int .i64 da, .int .i64 (da - db)] W fun e w' => e = .returned (.tuple #[u.v, .int .i64 0]) ∧ Ext W w') := Lib.hid (fun W => by
              rw [hu]
              have h1 := HB1.out.2
              have h2 := HB2.out.1
              exact rat_may p q da (da - db) W ⟨HFP.out.1, HFP.out.2, by omega, by omega, by omega⟩ (by omega))
            have hw2 : IntKind.i64.wrap (da - db) = da - db := by
              have h1 := HB1.out
              have h2 := HB2.out
              unfold inMost at h1 h2
              rw [IntKind.wrap_i64]; omega
            clear hp hq hq' hu
            go_wp2_with (refine wpList_append_src rfl (.tmp 45) (.tmp 47) 36 rfl (w.heap.size + 1) 25 (.agg #[.int .i64 0, .int .i64 0, .int .i64 0, .int .i64 0, .int .i64 0, .int .i64 0, .int .i64 0, .int .i64 0]) 8 64 ?d4 ?c8 ?c9 ?c10 vo ?d5 ?d6 ?d7 ?c11 ?d8 1 1 (vrows [p]) ?d9 ?c12 ?c1 ?c2 ?c3 ?c4 ?c5 ?_)
            case d7 => rfl
            case d5 => exact (O.map (·.1)).length
            case d6 => exact vrows (O.map (·.1))
            case d8 => exact ⟨W2.heap.size, 0, none⟩
            case d4 => exact Try.underlying36
            case c8 => exact info_vert
            case c9 => rfl
            case c10 => decide
            case d9 => rfl
            case c12 => rfl
            case c11 => exact ownsRow_ext HT2.out.ov (Ext.alloc (Ext.refl _) _)
            case c1 => exact news_at _ (vrows [p]) 25
            case c2 => exact vrows_one _
            case c3 => have h1 := HOl.out; have h2 := HN.out; simp only [List.length_append, List.length_map, List.length_cons, List.length_nil]; omega
            case c4 => decide
            case c5 => have := HT2.out.b.lt; simp; omega
            intro v1 w1 ho' hg' _
            have HT3 := Lib.hid ((HT2.out.ext (Ext.alloc (Ext.refl _) (.cells p.row 25))).growV ho' hg')
            have HPQ3 := Lib.hid (And.intro ((HPQ2.out.1.alloc (.cells p.row 25)).grown' hg' fun e => by have h1 := (HOV.out _ e).2; have h2 := HPQl.out; omega) ((HPQ2.out.2.alloc (.cells p.row 25)).grown' hg' fun e => by have h1 := (HOV.out _ e).2; have h2 := HPQl.out; omega))
            clear ho' hg' p0 p1 p2 p3 p4 p5 p6 p7
            have f0 := flag_at (HEr.out.ext HT3.out.ex) HX.out
            go_wp2_with (refine wpList_append_src rfl (.tmp 49) (.tmp 54) 37 rfl (w.heap.size + 1) 4 (.bool false) 1 1 ?d4 ?c8 ?c9 ?c10 vn ?d5 ?d6 ?d7 ?c11 ?d8 1 1 (brows [x]) ?d9 ?c12 ?c1 ?c2 ?c3 ?c4 ?c5 ?_)
            case d7 => rfl
            case d5 => exact (O.map (·.2)).length
            case d6 => exact brows (O.map (·.2))
            case d8 => exact ⟨w1.heap.size, 0, none⟩
            case d4 => exact Try.underlying37
            case c8 => exact info_bool
            case c9 => rfl
            case c10 => decide
            case d9 => rfl
            case c12 => rfl
            case c11 => exact ownsRow_ext HT3.out.on (Ext.alloc (Ext.refl _) _)
            case c1 => exact news_at _ (brows [x]) 4
            case c2 => exact brows_one _
            case c3 => have h1 := HOl.out; have h2 := HN.out; simp only [List.length_append, List.length_map, List.length_cons, List.length_nil]; omega
            case c4 => decide
            case c5 => have := HT3.out.b.lt; simp; omega
            intro v2 w2 ho' hg' _
            have HT4 := Lib.hid ((HT3.out.ext (Ext.alloc (Ext.refl _) (.cells #[.bool x] 4))).growB ho' hg')
            have HPQ4 := Lib.hid (And.intro ((HPQ3.out.1.alloc (.cells #[.bool x] 4)).grown' hg' fun e => by have h1 := (HON.out _ e).2; have h2 := HPQl.out; omega) ((HPQ3.out.2.alloc (.cells #[.bool x] 4)).grown' hg' fun e => by have h1 := (HON.out _ e).2; have h2 := HPQl.out; omega))
            clear ho' hg' f0
            obtain ⟨p0, p1, p2, p3, p4, p5, p6, p7⟩ := cells8 HPQ4.out.1
            obtain ⟨q0, q1, q2, q3, q4, q5, q6, q7⟩ := cells8 HPQ4.out.2
            go_wp2_with fail
            refine (HU.out _).mono ?_
            rintro e5 w5 ⟨rfl, hE5⟩
            have HT5 := Lib.hid (HT4.out.ext hE5)
            clear p0 p1 p2 p3 p4 p5 p6 p7 q0 q1 q2 q3 q4 q5 q6 q7 hE5 HPQ4 HPQ3 HPQ2
            have HT6 := Lib.hid (HT5.out.ext (Ext.alloc (Ext.refl _) (.cells u.row 25)))
            obtain ⟨u0, u1, u2, u3, u4, u5, u6, u7⟩ := cells8 (Blk.new w5 25 u.row)
            have hz5 : (w5.alloc (.cells u.row 25)).heap.size = w5.heap.size + 1 := by simp
            go_wp2_with (refine wpList_append_src rfl (.tmp 72) (.tmp 74) 36 rfl (w.heap.size + 1) 25 (.agg #[.int .i64 0, .int .i64 0, .int .i64 0, .int .i64 0, .int .i64 0, .int .i64 0, .int .i64 0, .int .i64 0]) 8 64 ?d4 ?c8 ?c9 ?c10 v1 ?d5 ?d6 ?d7 ?c11 ?d8 1 1 (vrows [u]) ?d9 ?c12 ?c1 ?c2 ?c3 ?c4 ?c5 ?_)
            case d7 => rfl
            case d5 => exact (O.map (·.1) ++ [p]).length
            case d6 => exact vrows (O.map (·.1) ++ [p])
            case d8 => exact ⟨w5.heap.size + 1, 0, none⟩
            case d4 => exact Try.underlying36
            case c8 => exact info_vert
            case c9 => rfl
            case c10 => decide
            case d9 => rfl
            case c12 => rfl
            case c11 => exact ownsRow_ext HT6.out.ov (Ext.alloc (Ext.refl _) _)
            case c1 => (have h := news_at (w5.alloc (.cells u.row 25)) (vrows [u]) 25; rw [hz5] at h; exact h)
            case c2 => exact vrows_one _
            case c3 => have h1 := HOl.out; have h2 := HN.out; simp only [List.length_append, List.length_map, List.length_cons, List.length_nil]; omega
            case c4 => decide
            case c5 => have := HT6.out.b.lt; simp; omega
            intro v3 w3 ho' hg' _
            have HT7 := Lib.hid ((HT6.out.ext (Ext.alloc (Ext.refl _) (.cells u.row 25))).growV ho' hg')
            clear ho' hg' u0 u1 u2 u3 u4 u5 u6 u7
            go_wp2_with (refine wpList_append_src rfl (.tmp 76) (.tmp 77) 37 rfl (w.heap.size + 1) 4 (.bool false) 1 1 ?d4 ?c8 ?c9 ?c10 v2 ?d5 ?d6 ?d7 ?c11 ?d8 1 1 (brows [true]) ?d9 ?c12 ?c1 ?c2 ?c3 ?c4 ?c5 ?_)
            case d7 => rfl
            case d5 => exact (O.map (·.2) ++ [x]).length
            case d6 => exact brows (O.map (·.2) ++ [x])
            case d8 => exact ⟨w3.heap.size, 0, none⟩
            case d4 => exact Try.underlying37
            case c8 => exact info_bool
            case c9 => rfl
            case c10 => decide
            case d9 => rfl
            case c12 => rfl
            case c11 => exact ownsRow_ext HT7.out.on (Ext.alloc (Ext.refl _) _)
            case c1 => exact news_at _ (brows [true]) 4
            case c2 => exact brows_one _
            case c3 => have h1 := HOl.out; have h2 := HN.out; simp only [List.length_append, List.length_map, List.length_cons, List.length_nil]; omega
            case c4 => decide
            case c5 => have := HT7.out.b.lt; simp; omega
            intro v4 w4 ho' hg' _
            have HT8 := Lib.hid ((HT7.out.ext (Ext.alloc (Ext.refl _) (.cells #[.bool true] 4))).growB ho' hg')
            clear ho' hg'
            go_wp2_with fail
            go_roundg (n - (j + 1))
            case measure => omega
            case rel =>
              refine ⟨j + 1, v3, v4, O ++ [(p, x), (u, true)], by omega, rfl, rfl, rfl, by go_num, Lib.hid ?_, Lib.hid (rnext HO.out HRG.out HCF.out), Lib.hid (by have := HOl.out; simp only [List.length_append, List.length_cons, List.length_nil]; omega)⟩
              have h := HT8.out
              simp only [List.append_assoc, List.map_append, List.map_cons, List.map_nil, List.cons_append, List.nil_append] at h ⊢
              exact h
        · have hp' : da < 0 := by omega
          have t1 : decide (da ≥ 0) = false := by simpa using hp'
          have t3 : decide (da < 0) = true := by simpa using hp'
          by_cases hq : 0 ≤ db
          · have t2 : decide (db < 0) = false := by simpa using hq
            have t4 : decide (db ≥ 0) = true := by simpa using hq
            obtain ⟨u, hu⟩ : ∃ u, u = at_ q p db (db - da) := ⟨_, rfl⟩
            have HCF : Hid ([(u, x)] = cutF s (p, x) (q, y)) := Lib.hid (by unfold cutF; simp only [← HDA.out, ← HDB.out, if_neg hp, if_pos hq]; rw [hu])
            have HU : Hid (∀ W, Calls Try.prog 8 #[q.v, p.v, .int .i64 db, .int .i64 (db - da)] W fun e w' => e = .returned (.tuple #[u.v, .int .i64 0]) ∧ Ext W w') := Lib.hid (fun W => by
              rw [hu]
              have h1 := HB2.out.2
              have h2 := HB1.out.1
              exact rat_may q p db (db - da) W ⟨HFP.out.2, HFP.out.1, by omega, by omega, by omega⟩ (by omega))
            have hw2 : IntKind.i64.wrap (db - da) = db - da := by
              have h1 := HB2.out
              have h2 := HB1.out
              unfold inMost at h1 h2
              rw [IntKind.wrap_i64]; omega
            clear hp hq hp' hu
            obtain ⟨q0, q1, q2, q3, q4, q5, q6, q7⟩ := cells8 HPQ2.out.2
            go_wp2_with fail
            refine (HU.out _).mono ?_
            rintro e5 w5 ⟨rfl, hE5⟩
            have HT5 := Lib.hid (HT2.out.ext hE5)
            clear p0 p1 p2 p3 p4 p5 p6 p7 q0 q1 q2 q3 q4 q5 q6 q7 hE5 HPQ2
            have HT6 := Lib.hid (HT5.out.ext (Ext.alloc (Ext.refl _) (.cells u.row 25)))
            obtain ⟨u0, u1, u2, u3, u4, u5, u6, u7⟩ := cells8 (Blk.new w5 25 u.row)
            have hz5 : (w5.alloc (.cells u.row 25)).heap.size = w5.heap.size + 1 := by simp
            go_wp2_with (refine wpList_append_src rfl (.tmp 95) (.tmp 97) 36 rfl (w.heap.size + 1) 25 (.agg #[.int .i64 0, .int .i64 0, .int .i64 0, .int .i64 0, .int .i64 0, .int .i64 0, .int .i64 0, .int .i64 0]) 8 64 ?d4 ?c8 ?c9 ?c10 vo ?d5 ?d6 ?d7 ?c11 ?d8 1 1 (vrows [u]) ?d9 ?c12 ?c1 ?c2 ?c3 ?c4 ?c5 ?_)
            case d7 => rfl
            case d5 => exact (O.map (·.1)).length
            case d6 => exact vrows (O.map (·.1))
            case d8 => exact ⟨w5.heap.size + 1, 0, none⟩
            case d4 => exact Try.underlying36
            case c8 => exact info_vert
            case c9 => rfl
            case c10 => decide
            case d9 => rfl
            case c12 => rfl
            case c11 => exact ownsRow_ext HT6.out.ov (Ext.alloc (Ext.refl _) _)
            case c1 => (have h := news_at (w5.alloc (.cells u.row 25)) (vrows [u]) 25; rw [hz5] at h; exact h)
            case c2 => exact vrows_one _
            case c3 => have h1 := HOl.out; have h2 := HN.out; simp only [List.length_append, List.length_map, List.length_cons, List.length_nil]; omega
            case c4 => decide
            case c5 => have := HT6.out.b.lt; simp; omega
            intro v3 w3 ho' hg' _
            have HT7 := Lib.hid ((HT6.out.ext (Ext.alloc (Ext.refl _) (.cells u.row 25))).growV ho' hg')
            clear ho' hg' u0 u1 u2 u3 u4 u5 u6 u7
            have f0 := flag_at (HEr.out.ext HT7.out.ex) HX.out
            go_wp2_with (refine wpList_append_src rfl (.tmp 99) (.tmp 104) 37 rfl (w.heap.size + 1) 4 (.bool false) 1 1 ?d4 ?c8 ?c9 ?c10 vn ?d5 ?d6 ?d7 ?c11 ?d8 1 1 (brows [x]) ?d9 ?c12 ?c1 ?c2 ?c3 ?c4 ?c5 ?_)
            case d7 => rfl
            case d5 => exact (O.map (·.2)).length
            case d6 => exact brows (O.map (·.2))
            case d8 => exact ⟨w3.heap.size, 0, none⟩
            case d4 => exact Try.underlying37
            case c8 => exact info_bool
            case c9 => rfl
            case c10 => decide
            case d9 => rfl
            case c12 => rfl
            case c11 => exact ownsRow_ext HT7.out.on (Ext.alloc (Ext.refl _) _)
            case c1 => exact news_at _ (brows [x]) 4
            case c2 => exact brows_one _
            case c3 => have h1 := HOl.out; have h2 := HN.out; simp only [List.length_append, List.length_map, List.length_cons, List.length_nil]; omega
            case c4 => decide
            case c5 => have := HT7.out.b.lt; simp; omega
            intro v4 w4 ho' hg' _
            have HT8 := Lib.hid ((HT7.out.ext (Ext.alloc (Ext.refl _) (.cells #[.bool x] 4))).growB ho' hg')
            clear f0
            clear ho' hg'
            go_wp2_with fail
            go_roundg (n - (j + 1))
            case measure => omega
            case rel =>
              refine ⟨j + 1, v3, v4, O ++ [(u, x)], by omega, rfl, rfl, rfl, by go_num, Lib.hid ?_, Lib.hid (rnext HO.out HRG.out HCF.out), Lib.hid (by have := HOl.out; simp only [List.length_append, List.length_cons, List.length_nil]; omega)⟩
              have h := HT8.out
              simp only [List.append_assoc, List.map_append, List.map_cons, List.map_nil, List.cons_append, List.nil_append] at h ⊢
              exact h
          · have hq' : db < 0 := by omega
            have t2 : decide (db < 0) = true := by simpa using hq'
            have t4 : decide (db ≥ 0) = false := by simpa using hq'
            have HCF : Hid ([] = cutF s (p, x) (q, y)) := Lib.hid (by unfold cutF; simp only [← HDA.out, ← HDB.out, if_neg hp, if_neg hq])
            clear hp hq hp' hq'
            go_wp2_with fail
            go_roundg (n - (j + 1))
            case measure => omega
            case rel =>
              refine ⟨j + 1, vo, vn, O, by omega, rfl, rfl, rfl, by go_num, HT2, Lib.hid ?_, Lib.hid (by have := HOl.out; omega)⟩
              have h := rnext HO.out HRG.out HCF.out
              rw [List.append_nil] at h
              exact h
    · obtain rfl : n = j := by omega
      have hall : (ring (l.zip e)).take n = ring (l.zip e) := List.take_of_length_le (by rw [ring_length, List.length_zip, HL.out, HLE.out, Nat.min_self]; exact Nat.le_refl _)
      have HO2 : Hid (O = (ring (l.zip e)).flatMap (fun c => cutF s c.1 c.2)) := Lib.hid (by have := HO.out; rw [hall] at this; exact this)
      clear hall HO
      obtain ⟨k, hk⟩ : ∃ k, k = O.length := ⟨_, rfl⟩
      have HK := Lib.hid hk
      obtain ⟨aV, cV, rfl, hRV⟩ := ownsRow_rd HT.out.ov
      obtain ⟨aB, cB, rfl, hRB⟩ := ownsRow_rd HT.out.on
      have HRV := Lib.hid hRV
      have HRB := Lib.hid hRB
      rw [List.length_map] at HRV HRB ⊢
      rw [List.length_map]
      rw [← hk] at HRV HRB ⊢
      clear hRV hRB hk
      have HE := Lib.hid HT.out.ex
      clear HT
      by_cases h3 : k < 3
      · have t1 : decide ((k : Int) < 3) = true := by simp; omega
        have HC : Hid (cutBy (cutF s) (l.zip e) = []) := Lib.hid (by unfold cutBy; simp only; rw [← HO2.out, if_pos (by rw [← HK.out]; exact h3)])
        clear h3
        go_wp2_with fail
        go_ret2
        refine ⟨none, 0, none, 0, by rw [HC.out]; rfl, ?_, ?_, HE.out⟩
        · rw [HC.out]; exact Rd.empty _ _ _ _ (by decide)
        · rw [HC.out]; exact Rd.empty _ _ _ _ (by decide)
      · have t1 : decide ((k : Int) < 3) = false := by simp; omega
        have HC : Hid (cutBy (cutF s) (l.zip e) = O) := Lib.hid (by unfold cutBy; simp only; rw [← HO2.out, if_neg (by rw [← HK.out]; exact h3)])
        clear h3
        go_wp2_with fail
        go_ret2
        refine ⟨aV, cV, aB, cB, by rw [HC.out, HK.out]; rfl, ?_, ?_, HE.out⟩
        · rw [HC.out, ← HK.out]; exact HRV.out
        · rw [HC.out, ← HK.out]; exact HRB.out
end Go.Proofs.Ytibhfclkdbmmoaa
