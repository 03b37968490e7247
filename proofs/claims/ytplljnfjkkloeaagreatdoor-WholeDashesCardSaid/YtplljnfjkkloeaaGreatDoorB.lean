/- The cases of code.state and code.draw, each walked. No condition but what each theorem states. -/
import Derived.Test.YtplljnfjkkloeaaGreatDoorLI
import Derived.Deep.RegionWith
import Derived.Deep.RegionHeld3
set_option linter.unusedVariables false
set_option linter.unusedSimpArgs false
set_option maxHeartbeats 1000000
namespace Go.Proofs.YtplljnfjkkloeaaGreatDoor
open Go.RowKit
def Gives (w:World) (o:Option (List (Int×Int))) (e:Ending) (w':World):Prop:=
 ∃v,e=.returned (.tuple #[v,.bool o.isSome])∧w'.ownsRow w.heap.size 162 2 v (o.getD []).length (prs (o.getD []))∧Ext w w'
theorem state_1 (w:World) (h:Glob w):Calls Tryz.prog 150 #[.int .i64 1] w (Gives w (some (List.replicate 2 (1,1024)))):=by
 obtain⟨g00,g01,g10,g11⟩:=h
 go_enter Tryz.func150,Tryz.ntmps150
 go_wp2_with (go_at_call 204;refine(numbers_any 2 1 1024 _ (by omega)).mono ?_;rintro e w1 ⟨g1,rfl,ho,hE⟩)
 go_ret2
 exact⟨_,rfl,ho,hE⟩
theorem state_2 (w:World) (h:Glob w):Calls Tryz.prog 150 #[.int .i64 2] w (Gives w (some (List.replicate 4 (0,255)))):=by
 obtain⟨g00,g01,g10,g11⟩:=h
 go_enter Tryz.func150,Tryz.ntmps150
 go_wp2_with (go_at_call 204;refine(numbers_any 4 0 255 _ (by omega)).mono ?_;rintro e w1 ⟨g1,rfl,ho,hE⟩)
 go_ret2
 exact⟨_,rfl,ho,hE⟩
theorem state_14 (w:World) (h:Glob w):Calls Tryz.prog 150 #[.int .i64 14] w (Gives w (some (List.replicate 4 (0,255)))):=by
 obtain⟨g00,g01,g10,g11⟩:=h
 go_enter Tryz.func150,Tryz.ntmps150
 go_wp2_with (go_at_call 204;refine(numbers_any 4 0 255 _ (by omega)).mono ?_;rintro e w1 ⟨g1,rfl,ho,hE⟩)
 go_ret2
 exact⟨_,rfl,ho,hE⟩
theorem state_3 (w:World) (h:Glob w):Calls Tryz.prog 150 #[.int .i64 3] w (Gives w (some ([(0,16777215)]))):=by
 obtain⟨g00,g01,g10,g11⟩:=h
 go_enter Tryz.func150,Tryz.ntmps150
 go_wp2
 go_ret2
 exact⟨_,rfl,World.ownsRow_lit w _ _ (Nat.le_refl _) (by unfold maxLen;simp) rfl,(Ext.refl w).alloc _⟩
theorem state_4 (w:World) (h:Glob w):Calls Tryz.prog 150 #[.int .i64 4] w (Gives w (some ([(0,3)]))):=by
 obtain⟨g00,g01,g10,g11⟩:=h
 go_enter Tryz.func150,Tryz.ntmps150
 go_wp2
 go_ret2
 exact⟨_,rfl,World.ownsRow_lit w _ _ (Nat.le_refl _) (by unfold maxLen;simp) rfl,(Ext.refl w).alloc _⟩
theorem state_8 (w:World) (h:Glob w):Calls Tryz.prog 150 #[.int .i64 8] w (Gives w (some (List.replicate 16 ((-268435456),268435456)))):=by
 obtain⟨g00,g01,g10,g11⟩:=h
 go_enter Tryz.func150,Tryz.ntmps150
 go_wp2_with (go_at_call 204;refine(numbers_any 16 (-268435456) 268435456 _ (by omega)).mono ?_;rintro e w1 ⟨g1,rfl,ho,hE⟩)
 go_ret2
 exact⟨_,rfl,ho,hE⟩
theorem state_9 (w:World) (h:Glob w):Calls Tryz.prog 150 #[.int .i64 9] w (Gives w (some (List.replicate 16 ((-268435456),268435456)))):=by
 obtain⟨g00,g01,g10,g11⟩:=h
 go_enter Tryz.func150,Tryz.ntmps150
 go_wp2_with (go_at_call 204;refine(numbers_any 16 (-268435456) 268435456 _ (by omega)).mono ?_;rintro e w1 ⟨g1,rfl,ho,hE⟩)
 go_ret2
 exact⟨_,rfl,ho,hE⟩
theorem state_7 (w:World) (h:Glob w):Calls Tryz.prog 150 #[.int .i64 7] w (Gives w (some ([(0,1)]))):=by
 obtain⟨g00,g01,g10,g11⟩:=h
 go_enter Tryz.func150,Tryz.ntmps150
 go_wp2
 go_ret2
 exact⟨_,rfl,World.ownsRow_lit w _ _ (Nat.le_refl _) (by unfold maxLen;simp) rfl,(Ext.refl w).alloc _⟩
theorem state_15 (w:World) (h:Glob w):Calls Tryz.prog 150 #[.int .i64 15] w (Gives w (some ([(0,1)]))):=by
 obtain⟨g00,g01,g10,g11⟩:=h
 go_enter Tryz.func150,Tryz.ntmps150
 go_wp2
 go_ret2
 exact⟨_,rfl,World.ownsRow_lit w _ _ (Nat.le_refl _) (by unfold maxLen;simp) rfl,(Ext.refl w).alloc _⟩
theorem state_22 (w:World) (h:Glob w):Calls Tryz.prog 150 #[.int .i64 22] w (Gives w (some ([(0,1)]))):=by
 obtain⟨g00,g01,g10,g11⟩:=h
 go_enter Tryz.func150,Tryz.ntmps150
 go_wp2
 go_ret2
 exact⟨_,rfl,World.ownsRow_lit w _ _ (Nat.le_refl _) (by unfold maxLen;simp) rfl,(Ext.refl w).alloc _⟩
theorem state_10 (w:World) (h:Glob w):Calls Tryz.prog 150 #[.int .i64 10] w (Gives w (some ([]))):=by
 obtain⟨g00,g01,g10,g11⟩:=h
 go_enter Tryz.func150,Tryz.ntmps150
 go_wp2
 go_ret2
 exact⟨_,rfl,World.ownsRow_nil w _ _ _,Ext.refl w⟩
theorem state_11 (w:World) (h:Glob w):Calls Tryz.prog 150 #[.int .i64 11] w (Gives w (some ([]))):=by
 obtain⟨g00,g01,g10,g11⟩:=h
 go_enter Tryz.func150,Tryz.ntmps150
 go_wp2
 go_ret2
 exact⟨_,rfl,World.ownsRow_nil w _ _ _,Ext.refl w⟩
theorem state_12 (w:World) (h:Glob w):Calls Tryz.prog 150 #[.int .i64 12] w (Gives w (some ([]))):=by
 obtain⟨g00,g01,g10,g11⟩:=h
 go_enter Tryz.func150,Tryz.ntmps150
 go_wp2
 go_ret2
 exact⟨_,rfl,World.ownsRow_nil w _ _ _,Ext.refl w⟩
theorem state_18 (w:World) (h:Glob w):Calls Tryz.prog 150 #[.int .i64 18] w (Gives w (some ([]))):=by
 obtain⟨g00,g01,g10,g11⟩:=h
 go_enter Tryz.func150,Tryz.ntmps150
 go_wp2
 go_ret2
 exact⟨_,rfl,World.ownsRow_nil w _ _ _,Ext.refl w⟩
theorem state_no (op:Int) (w:World) (h1: ¬op=1) (h2: ¬op=2) (h14: ¬op=14) (h3: ¬op=3) (h4: ¬op=4) (h5: ¬op=5) (h6: ¬op=6) (h8: ¬op=8) (h9: ¬op=9) (h13: ¬op=13) (h7: ¬op=7) (h15: ¬op=15) (h22: ¬op=22) (h10: ¬op=10) (h11: ¬op=11) (h12: ¬op=12) (h18: ¬op=18):Calls Tryz.prog 150 #[.int .i64 op] w (Gives w none):=by
 go_enter Tryz.func150,Tryz.ntmps150
 go_wp2
 go_ret2
 exact⟨_,rfl,World.ownsRow_nil w _ _ _,Ext.refl w⟩
theorem draw_16 (w:World) (h:Glob w):Calls Tryz.prog 151 #[.int .i64 16] w (Gives w (some ([(0,9)]))):=by
 obtain⟨g00,g01,g10,g11⟩:=h
 go_enter Tryz.func151,Tryz.ntmps151
 go_wp2
 go_ret2
 exact⟨_,rfl,World.ownsRow_lit w _ _ (Nat.le_refl _) (by unfold maxLen;simp) rfl,(Ext.refl w).alloc _⟩
theorem draw_17 (w:World) (h:Glob w):Calls Tryz.prog 151 #[.int .i64 17] w (Gives w (some (List.replicate 4 ((-1048576),1048576)))):=by
 obtain⟨g00,g01,g10,g11⟩:=h
 go_enter Tryz.func151,Tryz.ntmps151
 go_wp2_with (go_at_call 204;refine(numbers_any 4 (-1048576) 1048576 _ (by omega)).mono ?_;rintro e w1 ⟨g1,rfl,ho,hE⟩)
 go_ret2
 exact⟨_,rfl,ho,hE⟩
theorem draw_19 (w:World) (h:Glob w):Calls Tryz.prog 151 #[.int .i64 19] w (Gives w (some ([(1,64)]))):=by
 obtain⟨g00,g01,g10,g11⟩:=h
 go_enter Tryz.func151,Tryz.ntmps151
 go_wp2
 go_ret2
 exact⟨_,rfl,World.ownsRow_lit w _ _ (Nat.le_refl _) (by unfold maxLen;simp) rfl,(Ext.refl w).alloc _⟩
theorem draw_20 (w:World) (h:Glob w):Calls Tryz.prog 151 #[.int .i64 20] w (Gives w (some ([(0,1),(1,256),(0,65535)]))):=by
 obtain⟨g00,g01,g10,g11⟩:=h
 go_enter Tryz.func151,Tryz.ntmps151
 go_wp2
 go_ret2
 exact⟨_,rfl,World.ownsRow_lit w _ _ (Nat.le_refl _) (by unfold maxLen;simp) rfl,(Ext.refl w).alloc _⟩
theorem draw_21 (w:World) (h:Glob w):Calls Tryz.prog 151 #[.int .i64 21] w (Gives w (some ([(1,64),(0,2)]))):=by
 obtain⟨g00,g01,g10,g11⟩:=h
 go_enter Tryz.func151,Tryz.ntmps151
 go_wp2
 go_ret2
 exact⟨_,rfl,World.ownsRow_lit w _ _ (Nat.le_refl _) (by unfold maxLen;simp) rfl,(Ext.refl w).alloc _⟩
theorem draw_23 (w:World) (h:Glob w):Calls Tryz.prog 151 #[.int .i64 23] w (Gives w (some (List.replicate 2 (0,2)))):=by
 obtain⟨g00,g01,g10,g11⟩:=h
 go_enter Tryz.func151,Tryz.ntmps151
 go_wp2_with (go_at_call 204;refine(numbers_any 2 0 2 _ (by omega)).mono ?_;rintro e w1 ⟨g1,rfl,ho,hE⟩)
 go_ret2
 exact⟨_,rfl,ho,hE⟩
theorem draw_24 (w:World) (h:Glob w):Calls Tryz.prog 151 #[.int .i64 24] w (Gives w (some ([(0,1),(0,3)]))):=by
 obtain⟨g00,g01,g10,g11⟩:=h
 go_enter Tryz.func151,Tryz.ntmps151
 go_wp2
 go_ret2
 exact⟨_,rfl,World.ownsRow_lit w _ _ (Nat.le_refl _) (by unfold maxLen;simp) rfl,(Ext.refl w).alloc _⟩
theorem draw_25 (w:World) (h:Glob w):Calls Tryz.prog 151 #[.int .i64 25] w (Gives w (some ([(0,1),(-65536,65536),(-16777216,16777216)]))):=by
 obtain⟨g00,g01,g10,g11⟩:=h
 go_enter Tryz.func151,Tryz.ntmps151
 go_wp2
 go_ret2
 exact⟨_,rfl,World.ownsRow_lit w _ _ (Nat.le_refl _) (by unfold maxLen;simp) rfl,(Ext.refl w).alloc _⟩
theorem draw_26 (w:World) (h:Glob w):Calls Tryz.prog 151 #[.int .i64 26] w (Gives w (some ([(0,1),(0,7),(0,1)]))):=by
 obtain⟨g00,g01,g10,g11⟩:=h
 go_enter Tryz.func151,Tryz.ntmps151
 go_wp2
 go_ret2
 exact⟨_,rfl,World.ownsRow_lit w _ _ (Nat.le_refl _) (by unfold maxLen;simp) rfl,(Ext.refl w).alloc _⟩
theorem draw_27 (w:World) (h:Glob w):Calls Tryz.prog 151 #[.int .i64 27] w (Gives w (some ([(0,1),(0,7),(0,7)]))):=by
 obtain⟨g00,g01,g10,g11⟩:=h
 go_enter Tryz.func151,Tryz.ntmps151
 go_wp2
 go_ret2
 exact⟨_,rfl,World.ownsRow_lit w _ _ (Nat.le_refl _) (by unfold maxLen;simp) rfl,(Ext.refl w).alloc _⟩
theorem draw_28 (w:World) (h:Glob w):Calls Tryz.prog 151 #[.int .i64 28] w (Gives w (some (List.replicate 4 (0,1)))):=by
 obtain⟨g00,g01,g10,g11⟩:=h
 go_enter Tryz.func151,Tryz.ntmps151
 go_wp2_with (go_at_call 204;refine(numbers_any 4 0 1 _ (by omega)).mono ?_;rintro e w1 ⟨g1,rfl,ho,hE⟩)
 go_ret2
 exact⟨_,rfl,ho,hE⟩
theorem draw_29 (w:World) (h:Glob w):Calls Tryz.prog 151 #[.int .i64 29] w (Gives w (some (List.replicate 2 (0,1)))):=by
 obtain⟨g00,g01,g10,g11⟩:=h
 go_enter Tryz.func151,Tryz.ntmps151
 go_wp2_with (go_at_call 204;refine(numbers_any 2 0 1 _ (by omega)).mono ?_;rintro e w1 ⟨g1,rfl,ho,hE⟩)
 go_ret2
 exact⟨_,rfl,ho,hE⟩
theorem draw_30 (w:World) (h:Glob w):Calls Tryz.prog 151 #[.int .i64 30] w (Gives w (some (List.replicate 4 ((-9223372036854775808),9223372036854775807)))):=by
 obtain⟨g00,g01,g10,g11⟩:=h
 go_enter Tryz.func151,Tryz.ntmps151
 go_wp2_with (go_at_call 204;refine(numbers_any 4 (-9223372036854775808) 9223372036854775807 _ (by omega)).mono ?_;rintro e w1 ⟨g1,rfl,ho,hE⟩)
 go_ret2
 exact⟨_,rfl,ho,hE⟩
theorem draw_31 (w:World) (h:Glob w):Calls Tryz.prog 151 #[.int .i64 31] w (Gives w (some (List.replicate 16 ((-9223372036854775808),9223372036854775807)))):=by
 obtain⟨g00,g01,g10,g11⟩:=h
 go_enter Tryz.func151,Tryz.ntmps151
 go_wp2_with (go_at_call 204;refine(numbers_any 16 (-9223372036854775808) 9223372036854775807 _ (by omega)).mono ?_;rintro e w1 ⟨g1,rfl,ho,hE⟩)
 go_ret2
 exact⟨_,rfl,ho,hE⟩
theorem draw_32 (w:World) (h:Glob w):Calls Tryz.prog 151 #[.int .i64 32] w (Gives w (some ([(-9223372036854775808,9223372036854775807)]))):=by
 obtain⟨g00,g01,g10,g11⟩:=h
 go_enter Tryz.func151,Tryz.ntmps151
 go_wp2
 go_ret2
 exact⟨_,rfl,World.ownsRow_lit w _ _ (Nat.le_refl _) (by unfold maxLen;simp) rfl,(Ext.refl w).alloc _⟩
theorem draw_no (op:Int) (w:World) (h16: ¬op=16) (h17: ¬op=17) (h19: ¬op=19) (h20: ¬op=20) (h21: ¬op=21) (h23: ¬op=23) (h24: ¬op=24) (h25: ¬op=25) (h26: ¬op=26) (h27: ¬op=27) (h28: ¬op=28) (h29: ¬op=29) (h30: ¬op=30) (h31: ¬op=31) (h32: ¬op=32):Calls Tryz.prog 151 #[.int .i64 op] w (Gives w none):=by
 go_enter Tryz.func151,Tryz.ntmps151
 go_wp2
 go_ret2
 exact⟨_,rfl,World.ownsRow_nil w _ _ _,Ext.refl w⟩
theorem prs_one (l:List (Int×Int)): ∀u∈prs l,u.oneCell'=true:=by
 induction l with
 |nil=>intro u hu;cases hu
 |cons p r ih=>intro u hu;simp only[prs,List.mem_cons]at hu;rcases hu with rfl|rfl|hu;rfl;rfl;exact ih u hu
theorem state_5 (w:World) (_h:Glob w):Calls Tryz.prog 150 #[.int .i64 5] w (Gives w (some [(-8192,8192),(-8192,8192),(0,4096),(0,4096)])):=by
 go_enter Tryz.func150,Tryz.ntmps150
 go_wp2_with fail
 refine(numbers_any 2 (-8192) 8192 _ (by omega)).mono ?_
 rintro e w1 ⟨g1,rfl,ho1,hE1⟩
 go_wp2_with fail
 refine(numbers_any 2 0 4096 _ (by omega)).mono ?_
 rintro e w2 ⟨g2,rfl,ho2,hE2⟩
 have ho1':=ownsRow_ext ho1 hE2
 clear ho1
 go_wp2_with (refine wpList_append_src rfl (.tmp 25) (.tmp 27) 159 rfl w.heap.size 162 _ 2 16 Tryz.underlying159 info47 rfl (by decide) _ 2 _ rfl ho1' ⟨g2,0,none⟩ 2 2 _ rfl (prs_length _) (ho2.cells rfl) (prs_one _) (by decide) (by decide) ?_ ?_)
 ·have:=hE1.size;have:=hE2.size;omega
 intro v' w3 ho3 hg3 _
 go_wp2
 go_ret2
 exact⟨_,rfl,ho3,(hE1.trans hE2).grown hg3 (fun k hk=>(ho1'.lt k hk).1)⟩
set_option maxRecDepth 100000 in
theorem state_6 (w:World) (h:Glob w):Calls Tryz.prog 150 #[.int .i64 6] w (Gives w (some [(0,1),(-8192,8192),(-8192,8192),(0,8192),(0,8192)])):=by
 obtain⟨g00,g01,g10,g11⟩:=h
 have hlt:2<w.heap.size:=World.block_lt_of_cell? w _ g10
 go_enter Tryz.func150,Tryz.ntmps150
 go_wp2_with fail
 go_region_held3 (fun w'=>w'.cell? ⟨2,0,none⟩=some (.int .i64 0)∧w'.cell? ⟨2,1,none⟩=some (.int .i64 1)) (first|exact⟨g10,g11⟩|exact⟨k0,k1⟩|exact⟨l0,l1⟩|exact⟨n0,n1⟩|exact⟨m0,m1⟩|go_keep)
  ((first
   |(go_at_call 204;have tk:=hE1;refine(numbers_any 2 0 8192 _ (by omega)).mono ?_;rintro e w2 ⟨g2,rfl,ho2,hE2⟩;have n0:w2.cell? ⟨2,0,none⟩=some (.int .i64 0):=hE2.cell_some (by first|assumption|(simp[go_sem,g10]));have n1:w2.cell? ⟨2,1,none⟩=some (.int .i64 1):=hE2.cell_some (by first|assumption|(simp[go_sem,g11])))
   |(refine step_append_src rfl (.tmp 32) (.tmp 34) 159 rfl w.heap.size 162 _ 2 16 Tryz.underlying159 info47 rfl (by decide) (.slice (some ⟨w.heap.size,0,none⟩) 1 1) 1 [.int .i64 0,.int .i64 1] rfl ?_ ⟨g1,0,none⟩ 2 2 (prs (List.replicate 2 (-8192,8192))) rfl (prs_length _) ?_ (prs_one _) (by decide) (by decide) ?_ ?_;exact ownsRow_ext (World.ownsRow_lit w #[.int .i64 0,.int .i64 1] 1 (Nat.le_refl _) (by unfold maxLen;omega) rfl).drew hE1;exact ho1.cells rfl;exact Nat.le_trans (by simp) hE1.size;intro v3 w3 ho3 hg3 _;have l0:w3.cell? ⟨2,0,none⟩=some (.int .i64 0):=hg3.cell (by first|exact k0|simp[go_sem,k0]) (by simp[Value.ownBlock];omega);have l1:w3.cell? ⟨2,1,none⟩=some (.int .i64 1):=hg3.cell (by first|exact k1|simp[go_sem,k1]) (by simp[Value.ownBlock];omega);have hb3:w.heap.size≤w3.heap.size:=Nat.le_trans (Nat.le_trans (by simp) hE1.size) hg3.size)
   |(refine step_append_src rfl (.tmp 32) (.tmp 34) 159 rfl w.heap.size 162 _ 2 16 Tryz.underlying159 info47 rfl (by decide) (.slice (some ⟨w1.heap.size,0,none⟩) 1 1) 1 [.int .i64 0,.int .i64 1] rfl ?_ ⟨g1,0,none⟩ 2 2 (prs (List.replicate 2 (-8192,8192))) rfl (prs_length _) ?_ (prs_one _) (by decide) (by decide) ?_ ?_;exact World.ownsRow_lit w1 #[.int .i64 0,.int .i64 1] 1 (Nat.le_trans (by simp) hE1.size) (by unfold maxLen;omega) rfl;exact(ho1.alloc _).cells rfl;exact Nat.le_trans (Nat.le_trans (by simp) hE1.size) (by simp);intro v3 w3 ho3 hg3 _;have l0:w3.cell? ⟨2,0,none⟩=some (.int .i64 0):=hg3.cell (by first|exact k0|simp[go_sem,k0]) (by have hz:=hE1.size;simp[Value.ownBlock]at hz ⊢;omega);have l1:w3.cell? ⟨2,1,none⟩=some (.int .i64 1):=hg3.cell (by first|exact k1|simp[go_sem,k1]) (by have hz:=hE1.size;simp[Value.ownBlock]at hz ⊢;omega);have hb3:w.heap.size≤w3.heap.size:=Nat.le_trans (Nat.le_trans (Nat.le_trans (by simp) hE1.size) (by simp)) hg3.size)
   |(go_at_call 204;refine(numbers_any 2 (-8192) 8192 _ (by omega)).mono ?_;rintro e w1 ⟨g1,rfl,ho1,hE1⟩;have k0:w1.cell? ⟨2,0,none⟩=some (.int .i64 0):=hE1.cell_some (by first|assumption|(simp[go_sem,g10]));have k1:w1.cell? ⟨2,1,none⟩=some (.int .i64 1):=hE1.cell_some (by first|assumption|(simp[go_sem,g11])))
   |(refine step_append_src rfl (.tmp 35) (.tmp 37) 159 rfl w.heap.size 162 _ 2 16 Tryz.underlying159 info47 rfl (by decide) v3 3 ([.int .i64 0,.int .i64 1]++(prs (List.replicate 2 (-8192,8192)))) rfl ?_ ⟨g2,0,none⟩ 2 2 (prs (List.replicate 2 (0,8192))) rfl (prs_length _) ?_ (prs_one _) (by decide) (by decide) ?_ ?_;exact ownsRow_ext ho3 hE2;exact ho2.cells rfl;exact Nat.le_trans (hb3) hE2.size;intro v4 w4 ho4 hg4 _;have m0:w4.cell? ⟨2,0,none⟩=some (.int .i64 0):=hg4.cell (by first|exact n0|simp[go_sem,n0]) (by intro hc;have h9:w.heap.size≤2:=(ho3.lt _ hc.symm).1;omega);have m1:w4.cell? ⟨2,1,none⟩=some (.int .i64 1):=hg4.cell (by first|exact n1|simp[go_sem,n1]) (by intro hc;have h9:w.heap.size≤2:=(ho3.lt _ hc.symm).1;omega))))
 all_goals go_wp2
 ·go_ret2
  exact⟨_,rfl,ho4,((((((Ext.refl w).alloc _).drew).trans hE1).grown hg3 (by simp[Value.ownBlock])).trans hE2).grown hg4 (fun k hk=>(ho3.lt k hk).1)⟩
 ·go_ret2
  have hz:w.heap.size≤w1.heap.size:=hE1.size
  exact⟨_,rfl,ho4,((((((Ext.refl w).drew).trans hE1).alloc _).grown hg3 (by simp[Value.ownBlock];exact hz)).trans hE2).grown hg4 (fun k hk=>(ho3.lt k hk).1)⟩
set_option maxRecDepth 100000 in
theorem state_13 (w:World) (h:Glob w):Calls Tryz.prog 150 #[.int .i64 13] w (Gives w (some [(0,5),(0,1),(-32768,32768),(-32768,32768),(-32768,32768),(-32768,32768)])):=by
 obtain⟨g00,g01,g10,g11⟩:=h
 have hlt:2<w.heap.size:=World.block_lt_of_cell? w _ g10
 go_enter Tryz.func150,Tryz.ntmps150
 go_wp2_with fail
 go_region_held3 (fun w'=>w'.cell? ⟨2,0,none⟩=some (.int .i64 0)∧w'.cell? ⟨2,1,none⟩=some (.int .i64 1)) (first|exact⟨g10,g11⟩|exact⟨k0,k1⟩|exact⟨l0,l1⟩|go_keep)
  ((first
   |(go_at_call 204;refine(numbers_any 4 (-32768) 32768 _ (by omega)).mono ?_;rintro e w1 ⟨g1,rfl,ho1,hE1⟩;have k0:w1.cell? ⟨2,0,none⟩=some (.int .i64 0):=hE1.cell_some (by first|exact g10|(simp[go_sem,g10]));have k1:w1.cell? ⟨2,1,none⟩=some (.int .i64 1):=hE1.cell_some (by first|exact g11|(simp[go_sem,g11])))
   |(refine step_append_src rfl (.tmp 48) (.tmp 50) 159 rfl w.heap.size 162 _ 2 16 Tryz.underlying159 info47 rfl (by decide) (.slice (some ⟨w.heap.size,0,none⟩) 2 2) 2 [.int .i64 0,.int .i64 5,.int .i64 0,.int .i64 1] rfl ?_ ⟨g1,0,none⟩ 4 4 (prs (List.replicate 4 (-32768,32768))) rfl (prs_length _) ?_ (prs_one _) (by decide) (by decide) ?_ ?_;exact(ownsRow_ext (World.ownsRow_lit w #[.int .i64 0,.int .i64 5,.int .i64 0,.int .i64 1] 2 (Nat.le_refl _) (by unfold maxLen;omega) rfl).drew hE1);exact ho1.cells rfl;exact(Nat.le_trans (by simp) hE1.size);intro v' w3 ho3 hg3 _;have l0:w3.cell? ⟨2,0,none⟩=some (.int .i64 0):=hg3.cell (by first|exact k0|simp[go_sem,k0]) (by simp[Value.ownBlock];omega);have l1:w3.cell? ⟨2,1,none⟩=some (.int .i64 1):=hg3.cell (by first|exact k1|simp[go_sem,k1]) (by simp[Value.ownBlock];omega))
   |(refine step_append_src rfl (.tmp 48) (.tmp 50) 159 rfl w.heap.size 162 _ 2 16 Tryz.underlying159 info47 rfl (by decide) (.slice (some ⟨w1.heap.size,0,none⟩) 2 2) 2 [.int .i64 0,.int .i64 5,.int .i64 0,.int .i64 1] rfl ?_ ⟨g1,0,none⟩ 4 4 (prs (List.replicate 4 (-32768,32768))) rfl (prs_length _) ?_ (prs_one _) (by decide) (by decide) ?_ ?_;exact(World.ownsRow_lit w1 #[.int .i64 0,.int .i64 5,.int .i64 0,.int .i64 1] 2 (Nat.le_trans (by simp) hE1.size) (by unfold maxLen;omega) rfl);exact(ho1.alloc _).cells rfl;exact(Nat.le_trans (Nat.le_trans (by simp) hE1.size) (by simp));intro v' w3 ho3 hg3 _;have l0:w3.cell? ⟨2,0,none⟩=some (.int .i64 0):=hg3.cell (by first|exact k0|simp[go_sem,k0]) (by have hz:=hE1.size;simp[Value.ownBlock]at hz ⊢;omega);have l1:w3.cell? ⟨2,1,none⟩=some (.int .i64 1):=hg3.cell (by first|exact k1|simp[go_sem,k1]) (by have hz:=hE1.size;simp[Value.ownBlock]at hz ⊢;omega))))
 all_goals go_wp2
 ·go_ret2
  exact⟨_,rfl,ho3,((((Ext.refl w).alloc _).drew).trans hE1).grown hg3 (by simp[Value.ownBlock])⟩
 ·go_ret2
  have hz:w.heap.size≤w1.heap.size:=hE1.size
  exact⟨_,rfl,ho3,((((Ext.refl w).drew).trans hE1).alloc _).grown hg3 (by simp[Value.ownBlock];exact hz)⟩
theorem state_any (op:Int) (w:World) (h:Glob w):Calls Tryz.prog 150 #[.int .i64 op] w (Gives w (lk op stateTab)):=by
 by_cases h1:op=1
 ·subst h1;exact state_1 w h
 by_cases h2:op=2
 ·subst h2;exact state_2 w h
 by_cases h14:op=14
 ·subst h14;exact state_14 w h
 by_cases h3:op=3
 ·subst h3;exact state_3 w h
 by_cases h4:op=4
 ·subst h4;exact state_4 w h
 by_cases h5:op=5
 ·subst h5;exact state_5 w h
 by_cases h6:op=6
 ·subst h6;exact state_6 w h
 by_cases h8:op=8
 ·subst h8;exact state_8 w h
 by_cases h9:op=9
 ·subst h9;exact state_9 w h
 by_cases h13:op=13
 ·subst h13;exact state_13 w h
 by_cases h7:op=7
 ·subst h7;exact state_7 w h
 by_cases h15:op=15
 ·subst h15;exact state_15 w h
 by_cases h22:op=22
 ·subst h22;exact state_22 w h
 by_cases h10:op=10
 ·subst h10;exact state_10 w h
 by_cases h11:op=11
 ·subst h11;exact state_11 w h
 by_cases h12:op=12
 ·subst h12;exact state_12 w h
 by_cases h18:op=18
 ·subst h18;exact state_18 w h
 have e:lk op stateTab=none:=by simp[lk,stateTab,Ne.symm h1,Ne.symm h2,Ne.symm h14,Ne.symm h3,Ne.symm h4,Ne.symm h5,Ne.symm h6,Ne.symm h8,Ne.symm h9,Ne.symm h13,Ne.symm h7,Ne.symm h15,Ne.symm h22,Ne.symm h10,Ne.symm h11,Ne.symm h12,Ne.symm h18]
 rw[e];exact state_no op w h1 h2 h14 h3 h4 h5 h6 h8 h9 h13 h7 h15 h22 h10 h11 h12 h18
theorem draw_any (op:Int) (w:World) (h:Glob w):Calls Tryz.prog 151 #[.int .i64 op] w (Gives w (lk op drawTab)):=by
 by_cases h16:op=16
 ·subst h16;exact draw_16 w h
 by_cases h17:op=17
 ·subst h17;exact draw_17 w h
 by_cases h19:op=19
 ·subst h19;exact draw_19 w h
 by_cases h20:op=20
 ·subst h20;exact draw_20 w h
 by_cases h21:op=21
 ·subst h21;exact draw_21 w h
 by_cases h23:op=23
 ·subst h23;exact draw_23 w h
 by_cases h24:op=24
 ·subst h24;exact draw_24 w h
 by_cases h25:op=25
 ·subst h25;exact draw_25 w h
 by_cases h26:op=26
 ·subst h26;exact draw_26 w h
 by_cases h27:op=27
 ·subst h27;exact draw_27 w h
 by_cases h28:op=28
 ·subst h28;exact draw_28 w h
 by_cases h29:op=29
 ·subst h29;exact draw_29 w h
 by_cases h30:op=30
 ·subst h30;exact draw_30 w h
 by_cases h31:op=31
 ·subst h31;exact draw_31 w h
 by_cases h32:op=32
 ·subst h32;exact draw_32 w h
 have e:lk op drawTab=none:=by simp[lk,drawTab,Ne.symm h16,Ne.symm h17,Ne.symm h19,Ne.symm h20,Ne.symm h21,Ne.symm h23,Ne.symm h24,Ne.symm h25,Ne.symm h26,Ne.symm h27,Ne.symm h28,Ne.symm h29,Ne.symm h30,Ne.symm h31,Ne.symm h32]
 rw[e];exact draw_no op w h16 h17 h19 h20 h21 h23 h24 h25 h26 h27 h28 h29 h30 h31 h32
end Go.Proofs.YtplljnfjkkloeaaGreatDoor
set_option linter.unusedVariables false
set_option linter.unusedSimpArgs false
namespace Go.Proofs.YtplljnfjkkloeaaGreatDoor
open Go.RowKit
theorem prs_get (l:List (Int×Int)) (k:Nat) (h:k<l.length):(prs l)[k*2]? =some (.int .i64 (l.getD k (0,0)).1)∧(prs l)[k*2+1]? =some (.int .i64 (l.getD k (0,0)).2):=by
 induction l generalizing k with
 |nil=>simp at h
 |cons p r ih=>
  cases k with
  |zero=>simp[prs]
  |succ k=>
   have:=ih k (by simpa using h)
   have e:(k+1)*2=k*2+1+1:=by omega
   rw[e]
   simpa[prs]using this
theorem ask_any (op:Int) (w:World) (h:Glob w):Calls Tryz.prog 99 #[.int .i64 op] w (Gives w (askT op)):=by
 cases hs:lk op stateTab with
 |some l=>
  have e0:askT op=some l:=by simp[askT,hs]
  have hst:=state_any op w h
  rw[hs]at hst
  rw[e0]
  have Hst:=Lib.hid hst
  clear hst hs e0
  go_enter Tryz.func99,Tryz.ntmps99
  go_wp2_with (go_at_call 150;refine Hst.out.mono ?_;rintro e w1 ⟨v,rfl,ho,hE⟩;simp only[Option.isSome_some])
  go_ret2
  exact⟨v,rfl,ho,hE⟩
 |none=>
  have e0:askT op=lk op drawTab:=by simp[askT,hs]
  have hst:=state_any op w h
  rw[hs]at hst
  rw[e0]
  have Hst:=Lib.hid hst
  clear hst hs e0
  go_enter Tryz.func99,Tryz.ntmps99
  go_wp2_with (go_at_call 150;refine Hst.out.mono ?_;rintro e w1 ⟨v,rfl,ho,hE⟩;simp only[Option.isSome_none])
  refine(draw_any op w1 (h.ext hE)).mono ?_
  rintro e w2 ⟨v2,rfl,ho2,hE2⟩
  go_wp2
  go_ret2
  exact⟨v2,rfl,⟨ho2.1,ho2.2.imp id fun⟨g,cap,cur,a,b,c⟩=>⟨g,cap,cur,a,Nat.le_trans hE.size b,c⟩⟩,hE.trans hE2⟩
theorem ask_rd (op:Int) (w:World) (h:Glob w):Calls Tryz.prog 99 #[.int .i64 op] w fun e w'=> ∃a cap,e=.returned (.tuple #[.slice a ((askT op).getD []).length cap,.bool (askT op).isSome])∧
  Rd w' 2 a ((askT op).getD []).length cap (prs ((askT op).getD []))∧Ext w w':=
 (ask_any op w h).mono fun e w' ⟨v,he,ho,hE⟩=>by
  obtain⟨a,cap,rfl,hr⟩:=ownsRow_rd ho
  exact⟨a,cap,he,hr,hE⟩
theorem arity_any (op:Int) (w:World) (h:Glob w):Calls Tryz.prog 75 #[.int .i64 op] w fun e w'=>e=.returned (.tuple #[.int .i64 ((askT op).getD []).length,.bool (askT op).isSome])∧Ext w w':=by
 have H:=Lib.hid (ask_rd op w h)
 go_enter Tryz.func75,Tryz.ntmps75
 go_wp2_with (go_at_call 99;refine H.out.mono ?_;rintro e w1 ⟨a,cap,rfl,hr,hE⟩)
 go_ret2
 exact⟨rfl,hE⟩
end Go.Proofs.YtplljnfjkkloeaaGreatDoor
set_option linter.unusedVariables false
set_option linter.unusedSimpArgs false
namespace Go.Proofs.YtplljnfjkkloeaaGreatDoor
open Go.RowKit
theorem info3:(Tryz.prog.info? 3).map (fun i=>(i.zero,i.size,i.bytes))=some (some (.int .i64 0),1,8):=by kernel_rfl
theorem info24:(Tryz.prog.info? 88).map (fun i=>(i.zero,i.size,i.bytes))=some (some (.agg #[.int .i64 0,.slice none 0 0]),2,32):=by kernel_rfl
theorem size3:(Tryz.prog.info? 3).map (·.size)=some 1:=by kernel_rfl
end Go.Proofs.YtplljnfjkkloeaaGreatDoor
set_option linter.unusedVariables false
set_option linter.unusedSimpArgs false
namespace Go.Proofs.YtplljnfjkkloeaaGreatDoor
open Go.RowKit
end Go.Proofs.YtplljnfjkkloeaaGreatDoor
set_option linter.unusedVariables false
set_option linter.unusedSimpArgs false
namespace Go.Proofs.YtplljnfjkkloeaaGreatDoor
open Go.RowKit
end Go.Proofs.YtplljnfjkkloeaaGreatDoor
set_option linter.unusedVariables false
set_option linter.unusedSimpArgs false
namespace Go.Proofs.YtplljnfjkkloeaaGreatDoor
open Go.RowKit
end Go.Proofs.YtplljnfjkkloeaaGreatDoor
set_option linter.unusedVariables false
set_option linter.unusedSimpArgs false
namespace Go.Proofs.YtplljnfjkkloeaaGreatDoor
open Go.RowKit
def RdRecs (w:World) (a:Option Addr) (n cap:Nat) (l:List R):Prop:= ∃vs,Rd w 2 a n cap vs∧RecCells (Rd w 1) vs l
theorem RdRecs.ext {w w':World} {a:Option Addr} {n cap:Nat} {l:List R} (h:RdRecs w a n cap l) (e:Ext w w'):RdRecs w' a n cap l:=
 let⟨vs,h1,h2⟩:=h
 ⟨vs,h1.ext e,h2.mono fun _ _ _ _ hx=>hx.ext e⟩
theorem RdRecs.len {w:World} {a:Option Addr} {n cap:Nat} {l:List R} (h:RdRecs w a n cap l):l.length=n:=by
 obtain⟨vs,h1,h2⟩:=h
 have:=h1.len
 rw[h2.length]at this
 omega
theorem RdRecs.at_ {w:World} {a:Option Addr} {n cap:Nat} {l:List R} (h:RdRecs w a n cap l) (k:Nat) (hk:k<n): ∃b off ak ck,a=some ⟨b,off,none⟩∧
  w.cell? ⟨b,off+k*2,none⟩=some (.int .i64 (l.getD k (0,[])).1)∧w.cell? ⟨b,off+k*2+1,none⟩=some (.slice ak (l.getD k (0,[])).2.length ck)∧Rd w 1 ak (l.getD k (0,[])).2.length ck (ivs (l.getD k (0,[])).2):=by
 have hl:=h.len
 obtain⟨vs,h1,h2⟩:=h
 obtain⟨b,off,ha,hb,hc⟩:=h1.at_ (by omega)
 obtain⟨g1,ak,ck,g2,g3⟩:=h2.get k (by omega)
 exact⟨b,off,ak,ck,ha,(hc (k*2) (by omega)).trans g1,(hc (k*2+1) (by omega)).trans g2,g3⟩
end Go.Proofs.YtplljnfjkkloeaaGreatDoor
set_option linter.unusedVariables false
set_option linter.unusedSimpArgs false
namespace Go.Proofs.YtplljnfjkkloeaaGreatDoor
open Go.RowKit
theorem recs_of {w:World} {base:Nat} {v:Value} {l:List R} {vs:List Value} (ho:w.ownsRow base 88 2 v l.length vs) (hr:RecCells (RdT w 3 1) vs l): ∃a cap,v=.slice a l.length cap∧RdRecs w a l.length cap l:=by
 obtain⟨a,cap,rfl,h⟩:=ownsRow_rd ho
 exact⟨a,cap,rfl,vs,h,hr.mono fun _ _ _ _ hx=>hx.1⟩
end Go.Proofs.YtplljnfjkkloeaaGreatDoor
