/- Proof text: matrices (mat.Unit, far, Right, row). By an AI agent. No condition beyond what each theorem states. -/
import Derived.Test.YtplljnfjkkloeaaGreatDoorGH
set_option linter.unusedVariables false
set_option linter.unusedSimpArgs false
set_option maxHeartbeats 8000000
namespace Go.Proofs.YtplljnfjkkloeaaGreatDoor
attribute [local go_sem] Go.Oper.semAt_some
open Go.RowKit
def unitM:List Int:=[65536,0,0,0,0,65536,0,0,0,0,65536,0,0,0,0,65536]
theorem agg_mat (W:World):(isAgg 188).run Tryz.prog W=.ok true W:=by kernel_rfl
theorem size_mat:(Tryz.prog.info? 188).map (·.size)=some 16:=by kernel_rfl
theorem extract_mat {M:List Int} (h:M.length=16):(irow M).extract 0 (0+16)=irow M:=by
 have:=irow_size M
 rw[show 0+16=(irow M).size by omega,Array.extract_size]
theorem load_mat {w:World} {g:Nat} {M:List Int} (hb:Blk w g 188 (irow M)) (h:M.length=16):(loadVar 188 ⟨g,0,none⟩).run Tryz.prog w=.ok (.agg (irow M)) w:=by
 have:=run_load_blk (P:=Tryz.prog) hb 188 0 16 agg_mat size_mat (by rw[irow_size,h];exact Nat.le_refl _)
 rwa[extract_mat h]at this
set_option maxRecDepth 100000 in
theorem unit_any (w:World):Calls Tryz.prog 92 #[] w fun e w'=>e=.returned (.agg (irow unitM))∧Ext w w':=by
 go_enter Tryz.func92,Tryz.ntmps92
 go_wp2_with fail
 refine wp_loop_rounds 5 ?_
 rw[rounds_succ]
 go_wp2_with fail
 rw[rounds_succ]
 go_wp2_with fail
 rw[rounds_succ]
 go_wp2_with fail
 rw[rounds_succ]
 go_wp2_with fail
 rw[rounds_succ]
 go_wp2_with fail
 have hb:Blk ((w.alloc (.cells (irow unitM) 188)).alloc (.cells (irow unitM) 188)) w.heap.size 188 (irow unitM):=(Blk.new _ _ _).alloc _
 have hl:=load_mat hb rfl
 refine bodyPost_ret (v:=.agg (irow unitM)) ?_ rfl ⟨rfl,((Ext.refl w).alloc _).alloc _⟩
 simp only[results,Tryz.results92]
 simp[asAddr,Result.andThen]
 exact hl
theorem far_any (n m:Int) (w:World) (n0: -4611686018427387904≤n) (n1:n≤4611686018427387904) (m0:0≤m) (m1:m≤4611686018427387904) (h: -m≤n∧n≤m):Calls Tryz.prog 205 #[.int .i64 n,.int .i64 m] w fun e w'=>e=.returned (.bool false)∧w=w':=by
 obtain⟨h0,h1⟩:=h
 have d1:decide (n>m)=false:=by simp;omega
 have d2:decide (n< -m)=false:=by simp;omega
 go_enter Tryz.func205,Tryz.ntmps205
 go_wp2_with fail
 go_ret
 exact⟨rfl,rfl⟩
theorem run_index_mat (M:List Int) (hM:M.length=16) (w:World) {k:Nat} (hk:k<16):(Instr.index 188 (.agg (irow M)) (.int .i64 (k:Int))).run Tryz.prog w=.ok (.int .i64 (M.getD k 0)) w:=by
 have hg:=irow_get (C:=M) (i:=k) (by omega)
 have hk2:(k:Int)<16:=by omega
 simp[Instr.index,asIntOf,run_underlying Tryz.underlying188,hk2,part,go_sem,Tryz.sizeOf3,Tryz.isAgg3,hg]
 intro h
 omega
structure MatOk (M:List Int):Prop where
 len:M.length=16
 in_: ∀k,k<16→ -268435456≤M.getD k 0∧M.getD k 0≤268435456
set_option maxRecDepth 100000 in
theorem mright_any (M:List Int) (w:World) (h:MatOk M):Calls Tryz.prog 161 #[.agg (irow M)] w fun e w'=>e=.returned (.bool true)∧Ext w w':=by
 have HM:=Lib.hid h
 clear h
 go_enter Tryz.func161,Tryz.ntmps161
 go_upto_region 1 with fail
 have HB:Hid (Blk (w.alloc (.cells (irow M) 188)) w.heap.size 188 (irow M)):=Lib.hid (Blk.new _ _ _)
 have HE:Hid (Ext w (w.alloc (.cells (irow M) 188))):=Lib.hid ((Ext.refl w).alloc _)
 generalize w.alloc (.cells (irow M) 188)=W1 at*
 go_wp2_with (refine wpList_load_blk rfl (.tmp 1) 188 rfl 0 rfl HB.out 16 agg_mat size_mat (by rw[irow_size,HM.out.len];exact Nat.le_refl _) (irow M) (extract_mat HM.out.len) ?_)
 go_loopg [6] 16 (fun g i wx=> ∃k:Nat,k≤16∧g=16-k∧i=.int .i64 k∧Hid (wx=W1))
 case atStart=>exact⟨0,by omega,rfl,rfl,Lib.hid rfl⟩
 case round=>
  obtain⟨k,hk,rfl,rfl,HW⟩:=hrel
  have hw:=HW.out
  subst hw
  by_cases hlt:k<16
  ·have hx:=fun w=>run_index_mat M HM.out.len w hlt
   obtain⟨b0,b1⟩:=HM.out.in_ k hlt
   have hlt':(k:Int)<16:=by omega
   generalize M.getD k 0=x at hx b0 b1
   go_wp2_with (go_at_call 205;refine(far_any x 268435456 _ (by omega) (by omega) (by omega) (by omega) (by omega)).mono ?_;rintro e w1 ⟨rfl,rfl⟩)
   go_roundg (16-(k+1))
   case measure=>omega
   case rel=>exact⟨k+1,by omega,rfl,by go_num,Lib.hid rfl⟩
  ·obtain rfl:k=16:=by omega
   go_wp2_with fail
   go_ret
   exact⟨rfl,HE.out⟩
def rowT (M:List Int) (i:Nat) (v:C4):Int:=(M.getD (4*i) 0*v.a+M.getD (4*i+1) 0*v.b+M.getD (4*i+2) 0*v.c+M.getD (4*i+3) 0*v.d)/65536
def C4.In (v:C4):Prop:=(-268435456≤v.a∧v.a≤268435456)∧(-268435456≤v.b∧v.b≤268435456)∧(-268435456≤v.c∧v.c≤268435456)∧(-268435456≤v.d∧v.d≤268435456)
theorem mul28 {a b:Int} (h1: -268435456≤a) (h2:a≤268435456) (h3: -268435456≤b) (h4:b≤268435456): -72057594037927936≤a*b∧a*b≤72057594037927936:=by
 have:=mul_pl (m:=268435456) (n:=268435456) h1 h2 h3 h4 (by omega) (by omega)
 omega
set_option maxRecDepth 100000 in
theorem row_any (M:List Int) (i:Nat) (v:C4) (G E:Nat) (w:World) (h:MatOk M) (hv:v.In) (hi:i<4) (hg:Blk w G 188 (irow M)) (he:Blk w E 29 #[.int .i64 v.a,.int .i64 v.b,.int .i64 v.c,.int .i64 v.d]):
  Calls Tryz.prog 206 #[.pointer (some ⟨G,0,none⟩),.int .i64 (i:Int),.pointer (some ⟨E,0,none⟩)] w fun e w'=>e=.returned (.int .i64 (rowT M i v))∧Ext w w':=by
 have hl:=h.len
 have c0:=(hg.cell (4*i)).trans (irow_get (by omega))
 have c1:=(hg.cell (4*i+1)).trans (irow_get (by omega))
 have c2:=(hg.cell (4*i+2)).trans (irow_get (by omega))
 have c3:=(hg.cell (4*i+3)).trans (irow_get (by omega))
 have ce:=he.c4
 obtain⟨b0,b1⟩:=h.in_ (4*i) (by omega)
 obtain⟨b2,b3⟩:=h.in_ (4*i+1) (by omega)
 obtain⟨b4,b5⟩:=h.in_ (4*i+2) (by omega)
 obtain⟨b6,b7⟩:=h.in_ (4*i+3) (by omega)
 obtain⟨⟨a0,a1⟩,⟨a2,a3⟩,⟨a4,a5⟩,⟨a6,a7⟩⟩:=hv
 unfold rowT
 clear h hg he hl
 generalize M.getD (4*i) 0=m0 at*
 generalize M.getD (4*i+1) 0=m1 at*
 generalize M.getD (4*i+2) 0=m2 at*
 generalize M.getD (4*i+3) 0=m3 at*
 obtain⟨p0,p1⟩:=mul28 b0 b1 a0 a1
 obtain⟨p2,p3⟩:=mul28 b2 b3 a2 a3
 obtain⟨p4,p5⟩:=mul28 b4 b5 a4 a5
 obtain⟨p6,p7⟩:=mul28 b6 b7 a6 a7
 have hi2:i=0∨i=1∨i=2∨i=3:=by omega
 rcases hi2 with rfl|rfl|rfl|rfl
 all_goals
  simp only[Nat.mul_zero,Nat.mul_one,Nat.zero_add,Nat.reduceMul,Nat.reduceAdd]at c0 c1 c2 c3
  go_enter Tryz.func206,Tryz.ntmps206
  go_upto_region 1 with fail
  refine wp_region_later (by kernel_rfl) (by kernel_rfl) ?_
  repeat(go_big_quiet_step ((first|fail|fail)))
  refine wpQuiet_nil ?_
  intro y
  go_wp2_with fail
  go_ret
  exact⟨rfl,y.ext⟩
end Go.Proofs.YtplljnfjkkloeaaGreatDoor
set_option linter.unusedVariables false
set_option linter.unusedSimpArgs false
namespace Go.Proofs.YtplljnfjkkloeaaGreatDoor
attribute [local go_sem] Go.Oper.semAt_some
open Go.RowKit
def applyT (M:List Int) (v:C4):C4:=⟨rowT M 0 v,rowT M 1 v,rowT M 2 v,rowT M 3 v⟩
def C4.Within (v:C4) (m:Int):Prop:=(-m≤v.a∧v.a≤m)∧(-m≤v.b∧v.b≤m)∧(-m≤v.c∧v.c≤m)∧(-m≤v.d∧v.d≤m)
theorem idx_i4 (x y z u:Int) (w:World):(Instr.index 29 (.agg #[.int .i64 x,.int .i64 y,.int .i64 z,.int .i64 u]) (.int .i64 0)).run Tryz.prog w=.ok (.int .i64 x) w∧
  (Instr.index 29 (.agg #[.int .i64 x,.int .i64 y,.int .i64 z,.int .i64 u]) (.int .i64 1)).run Tryz.prog w=.ok (.int .i64 y) w∧
  (Instr.index 29 (.agg #[.int .i64 x,.int .i64 y,.int .i64 z,.int .i64 u]) (.int .i64 2)).run Tryz.prog w=.ok (.int .i64 z) w∧
  (Instr.index 29 (.agg #[.int .i64 x,.int .i64 y,.int .i64 z,.int .i64 u]) (.int .i64 3)).run Tryz.prog w=.ok (.int .i64 u) w:=⟨by kernel_rfl,by kernel_rfl,by kernel_rfl,by kernel_rfl⟩
structure Ap (M:List Int) (v o:C4) (w wx:World) (O:Nat):Prop where
 m:Blk wx w.heap.size 188 (irow M)
 v:Blk wx (w.heap.size+1) 29 #[.int .i64 v.a,.int .i64 v.b,.int .i64 v.c,.int .i64 v.d]
 r:Blk wx (w.heap.size+2) 29 #[.int .i64 0,.int .i64 0,.int .i64 0,.int .i64 0]
 o:Blk wx O 29 #[.int .i64 o.a,.int .i64 o.b,.int .i64 o.c,.int .i64 o.d]
 e:Ext w wx
 n:w.heap.size+2<O
theorem Ap.set {M:List Int} {v o:C4} {w wx:World} {O:Nat} (h:Ap M v o w wx O) (y:Later wx) (i:Nat) (u:Value) (o':C4) (ho:(#[.int .i64 o.a,.int .i64 o.b,.int .i64 o.c,.int .i64 o.d]:Array Value).setIfInBounds i u= #[.int .i64 o'.a,.int .i64 o'.b,.int .i64 o'.c,.int .i64 o'.d]):Ap M v o' w (y.w.setCell ⟨O,i,none⟩ u) O:=by
 have hn:=h.n
 exact⟨(h.m.ext y.ext).far (by simp;omega) _,(h.v.ext y.ext).far (by simp;omega) _,(h.r.ext y.ext).far (by simp;omega) _,ho▸(h.o.ext y.ext).set_ i u,(h.e.trans y.ext).setCell _ (by simp;omega),h.n⟩
set_option maxRecDepth 100000 in
theorem apply_any (M:List Int) (v:C4) (most:Int) (w:World) (h:MatOk M) (hv:v.In) (m0:0≤most) (m1:most≤68719476736) (ho:(applyT M v).Within most):
  Calls Tryz.prog 211 #[.agg (irow M),.agg #[.int .i64 v.a,.int .i64 v.b,.int .i64 v.c,.int .i64 v.d],.int .i64 most] w fun e w'=>e=.returned (.tuple #[(applyT M v).v,.int .i64 0])∧Ext w w':=by
 have HMR:=Lib.hid (fun w=>mright_any M w h)
 have HRW0:Hid (∀wz,Blk wz w.heap.size 188 (irow M)→Blk wz (w.heap.size+1) 29 #[.int .i64 v.a,.int .i64 v.b,.int .i64 v.c,.int .i64 v.d]→Calls Tryz.prog 206 #[.pointer (some ⟨w.heap.size,0,none⟩),.int .i64 0,.pointer (some ⟨w.heap.size+1,0,none⟩)] wz fun e w'=>e=.returned (.int .i64 (rowT M 0 v))∧Ext wz w'):=Lib.hid (fun wz hg he=>row_any M 0 v _ _ wz h hv (by omega) hg he)
 have HRW1:Hid (∀wz,Blk wz w.heap.size 188 (irow M)→Blk wz (w.heap.size+1) 29 #[.int .i64 v.a,.int .i64 v.b,.int .i64 v.c,.int .i64 v.d]→Calls Tryz.prog 206 #[.pointer (some ⟨w.heap.size,0,none⟩),.int .i64 1,.pointer (some ⟨w.heap.size+1,0,none⟩)] wz fun e w'=>e=.returned (.int .i64 (rowT M 1 v))∧Ext wz w'):=Lib.hid (fun wz hg he=>row_any M 1 v _ _ wz h hv (by omega) hg he)
 have HRW2:Hid (∀wz,Blk wz w.heap.size 188 (irow M)→Blk wz (w.heap.size+1) 29 #[.int .i64 v.a,.int .i64 v.b,.int .i64 v.c,.int .i64 v.d]→Calls Tryz.prog 206 #[.pointer (some ⟨w.heap.size,0,none⟩),.int .i64 2,.pointer (some ⟨w.heap.size+1,0,none⟩)] wz fun e w'=>e=.returned (.int .i64 (rowT M 2 v))∧Ext wz w'):=Lib.hid (fun wz hg he=>row_any M 2 v _ _ wz h hv (by omega) hg he)
 have HRW3:Hid (∀wz,Blk wz w.heap.size 188 (irow M)→Blk wz (w.heap.size+1) 29 #[.int .i64 v.a,.int .i64 v.b,.int .i64 v.c,.int .i64 v.d]→Calls Tryz.prog 206 #[.pointer (some ⟨w.heap.size,0,none⟩),.int .i64 3,.pointer (some ⟨w.heap.size+1,0,none⟩)] wz fun e w'=>e=.returned (.int .i64 (rowT M 3 v))∧Ext wz w'):=Lib.hid (fun wz hg he=>row_any M 3 v _ _ wz h hv (by omega) hg he)
 have HLM:=Lib.hid h.len
 obtain⟨⟨a0,a1⟩,⟨a2,a3⟩,⟨a4,a5⟩,⟨a6,a7⟩⟩:=hv
 unfold applyT at*
 unfold C4.Within at ho
 simp only at ho
 generalize rowT M 0 v=r0 at*
 generalize rowT M 1 v=r1 at*
 generalize rowT M 2 v=r2 at*
 generalize rowT M 3 v=r3 at*
 obtain⟨⟨b0,b1⟩,⟨b2,b3⟩,⟨b4,b5⟩,⟨b6,b7⟩⟩:=ho
 have i0:=fun w=>(idx_i4 v.a v.b v.c v.d w).1
 have i1:=fun w=>(idx_i4 v.a v.b v.c v.d w).2.1
 have i2:=fun w=>(idx_i4 v.a v.b v.c v.d w).2.2.1
 have i3:=fun w=>(idx_i4 v.a v.b v.c v.d w).2.2.2
 clear h
 go_enter Tryz.func211,Tryz.ntmps211
 go_upto_region 1 with fail
 have HA0:Hid (Ap M v ⟨0,0,0,0⟩ w ((((w.alloc (.cells (irow M) 188)).alloc (.cells #[.int .i64 v.a,.int .i64 v.b,.int .i64 v.c,.int .i64 v.d] 29)).alloc (.cells #[.int .i64 0,.int .i64 0,.int .i64 0,.int .i64 0] 29)).alloc (.cells #[.int .i64 0,.int .i64 0,.int .i64 0,.int .i64 0] 29)) (w.heap.size+3)):=Lib.hid ⟨by(repeat(first|with_reducible exact Hid.out (by assumption)|(with_reducible refine Blk.new' _ _ _ ?_;(simp;done))|with_reducible(first|refine Blk.alloc ?_ _|refine Blk.drew ?_|refine Blk.drewN ?_ _|refine Blk.later ?_ _)|(with_reducible refine Blk.far ?_ ?hp _;case hp=>first|(simp;done)|(simp;omega)|omega))),by(repeat(first|with_reducible exact Hid.out (by assumption)|(with_reducible refine Blk.new' _ _ _ ?_;(simp;done))|with_reducible(first|refine Blk.alloc ?_ _|refine Blk.drew ?_|refine Blk.drewN ?_ _|refine Blk.later ?_ _)|(with_reducible refine Blk.far ?_ ?hp _;case hp=>first|(simp;done)|(simp;omega)|omega))),by(repeat(first|with_reducible exact Hid.out (by assumption)|(with_reducible refine Blk.new' _ _ _ ?_;(simp;done))|with_reducible(first|refine Blk.alloc ?_ _|refine Blk.drew ?_|refine Blk.drewN ?_ _|refine Blk.later ?_ _)|(with_reducible refine Blk.far ?_ ?hp _;case hp=>first|(simp;done)|(simp;omega)|omega))),by(repeat(first|with_reducible exact Hid.out (by assumption)|(with_reducible refine Blk.new' _ _ _ ?_;(simp;done))|with_reducible(first|refine Blk.alloc ?_ _|refine Blk.drew ?_|refine Blk.drewN ?_ _|refine Blk.later ?_ _)|(with_reducible refine Blk.far ?_ ?hp _;case hp=>first|(simp;done)|(simp;omega)|omega))),by(repeat(first|with_reducible(first|exact eR_ _|assumption|refine eA_ ?_ _|refine eD_ ?_|refine eN_ ?_ _|refine eL_ ?_ _)|(with_reducible refine eS_ ?_ _ ?hp;case hp=>first|(simp;done)|(simp;omega)|omega))),by omega⟩
 have HM1:Hid (Blk (((w.alloc (.cells (irow M) 188)).alloc (.cells #[.int .i64 v.a,.int .i64 v.b,.int .i64 v.c,.int .i64 v.d] 29)).alloc (.cells #[.int .i64 0,.int .i64 0,.int .i64 0,.int .i64 0] 29)) w.heap.size 188 (irow M)):=Lib.hid (by(repeat(first|with_reducible exact Hid.out (by assumption)|(with_reducible refine Blk.new' _ _ _ ?_;(simp;done))|with_reducible(first|refine Blk.alloc ?_ _|refine Blk.drew ?_|refine Blk.drewN ?_ _|refine Blk.later ?_ _)|(with_reducible refine Blk.far ?_ ?hp _;case hp=>first|(simp;done)|(simp;omega)|omega))))
 have HV1:Hid (Blk (((w.alloc (.cells (irow M) 188)).alloc (.cells #[.int .i64 v.a,.int .i64 v.b,.int .i64 v.c,.int .i64 v.d] 29)).alloc (.cells #[.int .i64 0,.int .i64 0,.int .i64 0,.int .i64 0] 29)) (w.heap.size+1) 29 #[.int .i64 v.a,.int .i64 v.b,.int .i64 v.c,.int .i64 v.d]):=Lib.hid (by(repeat(first|with_reducible exact Hid.out (by assumption)|(with_reducible refine Blk.new' _ _ _ ?_;(simp;done))|with_reducible(first|refine Blk.alloc ?_ _|refine Blk.drew ?_|refine Blk.drewN ?_ _|refine Blk.later ?_ _)|(with_reducible refine Blk.far ?_ ?hp _;case hp=>first|(simp;done)|(simp;omega)|omega))))
 have HR1:Hid (Blk (((w.alloc (.cells (irow M) 188)).alloc (.cells #[.int .i64 v.a,.int .i64 v.b,.int .i64 v.c,.int .i64 v.d] 29)).alloc (.cells #[.int .i64 0,.int .i64 0,.int .i64 0,.int .i64 0] 29)) (w.heap.size+2) 29 #[.int .i64 0,.int .i64 0,.int .i64 0,.int .i64 0]):=Lib.hid (by(repeat(first|with_reducible exact Hid.out (by assumption)|(with_reducible refine Blk.new' _ _ _ ?_;(simp;done))|with_reducible(first|refine Blk.alloc ?_ _|refine Blk.drew ?_|refine Blk.drewN ?_ _|refine Blk.later ?_ _)|(with_reducible refine Blk.far ?_ ?hp _;case hp=>first|(simp;done)|(simp;omega)|omega))))
 have HE1:Hid (Ext w (((w.alloc (.cells (irow M) 188)).alloc (.cells #[.int .i64 v.a,.int .i64 v.b,.int .i64 v.c,.int .i64 v.d] 29)).alloc (.cells #[.int .i64 0,.int .i64 0,.int .i64 0,.int .i64 0] 29))):=Lib.hid (by(repeat(first|with_reducible(first|exact eR_ _|assumption|refine eA_ ?_ _|refine eD_ ?_|refine eN_ ?_ _|refine eL_ ?_ _)|(with_reducible refine eS_ ?_ _ ?hp;case hp=>first|(simp;done)|(simp;omega)|omega))))
 clear HA0
 generalize((w.alloc (.cells (irow M) 188)).alloc (.cells #[.int .i64 v.a,.int .i64 v.b,.int .i64 v.c,.int .i64 v.d] 29)).alloc (.cells #[.int .i64 0,.int .i64 0,.int .i64 0,.int .i64 0] 29)=W1 at*
 go_wp2_with (refine wpList_load_blk rfl (.tmp 3) 188 rfl 0 rfl HM1.out 16 agg_mat size_mat (by rw[irow_size,HLM.out];exact Nat.le_refl _) (irow M) (extract_mat HLM.out) ?_)
 go_wp2_with fail
 refine(HMR.out _).mono ?_
 rintro e w1 ⟨rfl,hE⟩
 obtain⟨x1,rfl⟩:=Later.mk' hE
 clear hE
 have HM2:=Lib.hid (HM1.out.ext x1.ext)
 have HV2:=Lib.hid (HV1.out.ext x1.ext)
 have HR2:=Lib.hid (HR1.out.ext x1.ext)
 have HE2:=Lib.hid (HE1.out.trans x1.ext)
 clear HM1 HV1 HR1 HE1 HMR
 generalize x1.w=W2 at*
 have cv:=HV2.out.c4
 go_wp2_with fail
 refine wp_loop_rounds 5 ?_
 rw[rounds_succ]
 go_wp2_with (go_at_call 205;refine(far_any v.a 268435456 _ (by omega) (by omega) (by omega) (by omega) (by omega)).mono ?_;rintro e w1 ⟨rfl,rfl⟩)
 rw[rounds_succ]
 go_wp2_with (go_at_call 205;refine(far_any v.b 268435456 _ (by omega) (by omega) (by omega) (by omega) (by omega)).mono ?_;rintro e w1 ⟨rfl,rfl⟩)
 rw[rounds_succ]
 go_wp2_with (go_at_call 205;refine(far_any v.c 268435456 _ (by omega) (by omega) (by omega) (by omega) (by omega)).mono ?_;rintro e w1 ⟨rfl,rfl⟩)
 rw[rounds_succ]
 go_wp2_with (go_at_call 205;refine(far_any v.d 268435456 _ (by omega) (by omega) (by omega) (by omega) (by omega)).mono ?_;rintro e w1 ⟨rfl,rfl⟩)
 rw[rounds_succ]
 go_upto_region 10 with fail
 have HA0:Hid (Ap M v ⟨0,0,0,0⟩ w (W2.alloc (.cells #[.int .i64 0,.int .i64 0,.int .i64 0,.int .i64 0] 29)) W2.heap.size):=Lib.hid ⟨HM2.out.alloc _,HV2.out.alloc _,HR2.out.alloc _,Blk.new _ _ _,HE2.out.alloc _,HR2.out.lt⟩
 clear HM2 HV2 HR2 HE2 cv i0 i1 i2 i3
 generalize W2.alloc (.cells #[.int .i64 0,.int .i64 0,.int .i64 0,.int .i64 0] 29)=V0 at*
 generalize W2.heap.size=O at*
 go_wp2_with fail
 refine wp_loop_rounds 5 ?_
 rw[rounds_succ]
 go_wp2_with fail
 refine(HRW0.out _ HA0.out.m HA0.out.v).mono ?_
 rintro e w1 ⟨rfl,hE⟩
 obtain⟨y0,rfl⟩:=Later.mk' hE
 clear hE
 have fo:=(HA0.out.o.ext y0.ext).f4
 have co:=(HA0.out.o.ext y0.ext).c4
 go_upto_region 14 with fail
 have HA1:=Lib.hid (HA0.out.set y0 0 (.int .i64 r0) ⟨r0,0,0,0⟩ rfl)
 clear HA0 fo co
 generalize y0.w.setCell ⟨O,0,none⟩ (.int .i64 r0)=V1 at*
 go_wp2_with fail
 rw[rounds_succ]
 go_wp2_with fail
 refine(HRW1.out _ HA1.out.m HA1.out.v).mono ?_
 rintro e w1 ⟨rfl,hE⟩
 obtain⟨y1,rfl⟩:=Later.mk' hE
 clear hE
 have fo:=(HA1.out.o.ext y1.ext).f4
 have co:=(HA1.out.o.ext y1.ext).c4
 go_upto_region 14 with fail
 have HA2:=Lib.hid (HA1.out.set y1 1 (.int .i64 r1) ⟨r0,r1,0,0⟩ rfl)
 clear HA1 fo co
 generalize y1.w.setCell ⟨O,1,none⟩ (.int .i64 r1)=V2 at*
 go_wp2_with fail
 rw[rounds_succ]
 go_wp2_with fail
 refine(HRW2.out _ HA2.out.m HA2.out.v).mono ?_
 rintro e w1 ⟨rfl,hE⟩
 obtain⟨y2,rfl⟩:=Later.mk' hE
 clear hE
 have fo:=(HA2.out.o.ext y2.ext).f4
 have co:=(HA2.out.o.ext y2.ext).c4
 go_upto_region 14 with fail
 have HA3:=Lib.hid (HA2.out.set y2 2 (.int .i64 r2) ⟨r0,r1,r2,0⟩ rfl)
 clear HA2 fo co
 generalize y2.w.setCell ⟨O,2,none⟩ (.int .i64 r2)=V3 at*
 go_wp2_with fail
 rw[rounds_succ]
 go_wp2_with fail
 refine(HRW3.out _ HA3.out.m HA3.out.v).mono ?_
 rintro e w1 ⟨rfl,hE⟩
 obtain⟨y3,rfl⟩:=Later.mk' hE
 clear hE
 have fo:=(HA3.out.o.ext y3.ext).f4
 have co:=(HA3.out.o.ext y3.ext).c4
 go_upto_region 14 with fail
 have HA4:=Lib.hid (HA3.out.set y3 3 (.int .i64 r3) ⟨r0,r1,r2,r3⟩ rfl)
 clear HA3 fo co
 generalize y3.w.setCell ⟨O,3,none⟩ (.int .i64 r3)=V4 at*
 go_wp2_with fail
 rw[rounds_succ]
 have co:=HA4.out.o.c4
 go_wp2_with fail
 have j0:=fun w=>(idx_i4 r0 r1 r2 r3 w).1
 have j1:=fun w=>(idx_i4 r0 r1 r2 r3 w).2.1
 have j2:=fun w=>(idx_i4 r0 r1 r2 r3 w).2.2.1
 have j3:=fun w=>(idx_i4 r0 r1 r2 r3 w).2.2.2
 refine wp_loop_rounds 5 ?_
 rw[rounds_succ]
 go_wp2_with (go_at_call 205;refine(far_any r0 most _ (by omega) (by omega) (by omega) (by omega) (by omega)).mono ?_;rintro e w1 ⟨rfl,rfl⟩)
 rw[rounds_succ]
 go_wp2_with (go_at_call 205;refine(far_any r1 most _ (by omega) (by omega) (by omega) (by omega) (by omega)).mono ?_;rintro e w1 ⟨rfl,rfl⟩)
 rw[rounds_succ]
 go_wp2_with (go_at_call 205;refine(far_any r2 most _ (by omega) (by omega) (by omega) (by omega) (by omega)).mono ?_;rintro e w1 ⟨rfl,rfl⟩)
 rw[rounds_succ]
 go_wp2_with (go_at_call 205;refine(far_any r3 most _ (by omega) (by omega) (by omega) (by omega) (by omega)).mono ?_;rintro e w1 ⟨rfl,rfl⟩)
 rw[rounds_succ]
 have cr:=HA4.out.r.c4
 have fr:=HA4.out.r.f4
 go_wp2_with fail
 have HS:=HA4.out.r.s4 (.int .i64 r0) (.int .i64 r1) (.int .i64 r2) (.int .i64 r3)
 obtain⟨s0,s1,s2,s3⟩:=HS.c4
 have HE:=HA4.out.e
 refine bodyPost_ret (v:=.tuple #[.agg #[.int .i64 r0,.int .i64 r1,.int .i64 r2,.int .i64 r3],.int .i64 0]) (by simp[results,Tryz.results211,go_sem,s0,s1,s2,s3]) rfl ⟨rfl,by(repeat(first|with_reducible(first|exact eR_ _|assumption|refine eA_ ?_ _|refine eD_ ?_|refine eN_ ?_ _|refine eL_ ?_ _)|(with_reducible refine eS_ ?_ _ ?hp;case hp=>first|(simp;done)|(simp;omega)|omega)))⟩
end Go.Proofs.YtplljnfjkkloeaaGreatDoor
set_option linter.unusedVariables false
set_option linter.unusedSimpArgs false
namespace Go.Proofs.YtplljnfjkkloeaaGreatDoor
attribute [local go_sem] Go.Oper.semAt_some
open Go.RowKit
theorem run_load_rd {P:Program} {w:World} {size:Nat} {b off n cap:Nat} {xs:List Value} (h:Rd w size (some ⟨b,off,none⟩) n cap xs) (t:TypeId) (lo k:Nat) (hagg: ∀W:World,(isAgg t).run P W=.ok true W) (hs:(P.info? t).map (·.size)=some k) (vs:List Value) (hv:(xs.drop lo).take k=vs) (hk:vs.length=k):
  (loadVar t ⟨b,off+lo,none⟩).run P w=.ok (.agg vs.toArray) w:=by
 cases hi:P.info? t with
 |none=>simp[hi]at hs
 |some i=>
  have hsi:i.size=k:=by simpa[hi]using hs
  have hl:=run_loadCells_list (P:=P) w ⟨b,off+lo,none⟩ vs (fun j v hj=>by
   have hadd:(⟨b,off+lo,none⟩:Addr).add j=⟨b,off+lo+j,none⟩:=by unfold Addr.add;split <;>simp_all
   rw[hadd,Nat.add_assoc]
   refine h.get rfl ?_
   rw[←hv,List.getElem?_take]at hj
   split at hj
   ·rw[List.getElem?_drop]at hj;exact hj
   ·cases hj)
  rw[hk]at hl
  simp[loadVar,hagg,sizeOf,typeInfo,hi,hsi,Sem.run_bind,hl]
theorem wpList_load_rd {P:Program} {w:World} {ops:Array Oper} {rest:List Oper} {o:Oper} {a:Act} {Q:Exit→Act→World→Prop} (hgd:o.guard=none) (x:Operand) (t:TypeId) (ho:o.op=.load t x) {size:Nat} {b off n cap:Nat} {xs:List Value} (h:Rd w size (some ⟨b,off,none⟩) n cap xs) (lo k:Nat) (hx:a.eval x=.pointer (some ⟨b,off+lo,none⟩))
  (hagg: ∀W:World,(isAgg t).run P W=.ok true W)(hs:(P.info? t).map (·.size)=some k)(vs:List Value)(hv:(xs.drop lo).take k=vs)(hk:vs.length=k)(hK:wpList P ops Q rest (a.put o.dst (.agg vs.toArray)) w):wpList P ops Q (o::rest) a w:=by
 refine wpList_plain hgd fun K hK'=>?_
 have hso:=run_load_rd (P:=P) h t lo k hagg hs vs hv hk
 unfold Oper.wp execOp
 simp only[ho,hx,Instr.loadAt,Instr.sureAddr,Sem.run_bind,Sem.run_pure,Result.andThen_ok,hso]
 exact hK' _ _ hK
def StackP (w:World) (e:Ending) (w':World):Prop:= ∃A B:Nat,e=.returned (.agg #[.int .i64 0,.slice (some ⟨A,0,none⟩) 1 1,.slice (some ⟨B,0,none⟩) 1 1])∧Blk w' A 188 (irow unitM)∧Blk w' B 188 (irow unitM)∧Ext w w'
set_option maxRecDepth 100000 in
theorem snew_any (w:World):Calls Tryz.prog 66 #[] w (StackP w):=by
 have HU:Hid (∀w,Calls Tryz.prog 92 #[] w fun e w'=>e=.returned (.agg #[.int .i64 65536,.int .i64 0,.int .i64 0,.int .i64 0,.int .i64 0,.int .i64 65536,.int .i64 0,.int .i64 0,.int .i64 0,.int .i64 0,.int .i64 65536,.int .i64 0,.int .i64 0,.int .i64 0,.int .i64 0,.int .i64 65536])∧Ext w w'):=Lib.hid unit_any
 go_enter Tryz.func66,Tryz.ntmps66
 go_wp2_with fail
 refine(HU.out _).mono ?_
 rintro e w1 ⟨rfl,hE⟩
 obtain⟨x1,rfl⟩:=Later.mk' hE
 clear hE
 have HR1:Hid (Blk x1.w w.heap.size 36 #[.int .i64 0,.slice none 0 0,.slice none 0 0]):=Lib.hid (by(repeat(first|with_reducible exact Hid.out (by assumption)|(with_reducible refine Blk.new' _ _ _ ?_;(simp;done))|with_reducible(first|refine Blk.alloc ?_ _|refine Blk.drew ?_|refine Blk.drewN ?_ _|refine Blk.later ?_ _)|(with_reducible refine Blk.far ?_ ?hp _;case hp=>first|(simp;done)|(simp;omega)|omega))))
 have HE1:Hid (Ext w x1.w):=Lib.hid (by(repeat(first|with_reducible(first|exact eR_ _|assumption|refine eA_ ?_ _|refine eD_ ?_|refine eN_ ?_ _|refine eL_ ?_ _)|(with_reducible refine eS_ ?_ _ ?hp;case hp=>first|(simp;done)|(simp;omega)|omega))))
 generalize x1.w=W1 at*
 go_wp2_with fail
 refine(HU.out _).mono ?_
 rintro e w1 ⟨rfl,hE⟩
 obtain⟨x2,rfl⟩:=Later.mk' hE
 clear hE
 have HA2:Hid (Blk x2.w W1.heap.size 188 #[.int .i64 65536,.int .i64 0,.int .i64 0,.int .i64 0,.int .i64 0,.int .i64 65536,.int .i64 0,.int .i64 0,.int .i64 0,.int .i64 0,.int .i64 65536,.int .i64 0,.int .i64 0,.int .i64 0,.int .i64 0,.int .i64 65536]):=Lib.hid (by(repeat(first|with_reducible exact Hid.out (by assumption)|(with_reducible refine Blk.new' _ _ _ ?_;(simp;done))|with_reducible(first|refine Blk.alloc ?_ _|refine Blk.drew ?_|refine Blk.drewN ?_ _|refine Blk.later ?_ _)|(with_reducible refine Blk.far ?_ ?hp _;case hp=>first|(simp;done)|(simp;omega)|omega))))
 have HR2:Hid (Blk x2.w w.heap.size 36 #[.int .i64 0,.slice none 0 0,.slice none 0 0]):=Lib.hid (by(repeat(first|with_reducible exact Hid.out (by assumption)|(with_reducible refine Blk.new' _ _ _ ?_;(simp;done))|with_reducible(first|refine Blk.alloc ?_ _|refine Blk.drew ?_|refine Blk.drewN ?_ _|refine Blk.later ?_ _)|(with_reducible refine Blk.far ?_ ?hp _;case hp=>first|(simp;done)|(simp;omega)|omega))))
 have HE2:Hid (Ext w x2.w):=Lib.hid (by have:=HE1.out;(repeat(first|with_reducible(first|exact eR_ _|assumption|refine eA_ ?_ _|refine eD_ ?_|refine eN_ ?_ _|refine eL_ ?_ _)|(with_reducible refine eS_ ?_ _ ?hp;case hp=>first|(simp;done)|(simp;omega)|omega))))
 generalize x2.w=W2 at*
 have cr:=HR2.out.c3
 have fr:=HR2.out.f3
 have hlt:=HA2.out.lt
 have hrt:=HR1.out.lt
 have hne: ¬(W1.heap.size=w.heap.size):=by omega
 go_wp2_with fail
 have HB3:Blk (W2.alloc (.cells #[.int .i64 65536,.int .i64 0,.int .i64 0,.int .i64 0,.int .i64 0,.int .i64 65536,.int .i64 0,.int .i64 0,.int .i64 0,.int .i64 0,.int .i64 65536,.int .i64 0,.int .i64 0,.int .i64 0,.int .i64 0,.int .i64 65536] 188)) W2.heap.size 188 #[.int .i64 65536,.int .i64 0,.int .i64 0,.int .i64 0,.int .i64 0,.int .i64 65536,.int .i64 0,.int .i64 0,.int .i64 0,.int .i64 0,.int .i64 65536,.int .i64 0,.int .i64 0,.int .i64 0,.int .i64 0,.int .i64 65536]:=Blk.new _ _ _
 have kk:Kp (·≠w.heap.size) (W2.alloc (.cells #[.int .i64 65536,.int .i64 0,.int .i64 0,.int .i64 0,.int .i64 0,.int .i64 65536,.int .i64 0,.int .i64 0,.int .i64 0,.int .i64 0,.int .i64 65536,.int .i64 0,.int .i64 0,.int .i64 0,.int .i64 0,.int .i64 65536] 188)) ((((W2.alloc (.cells #[.int .i64 65536,.int .i64 0,.int .i64 0,.int .i64 0,.int .i64 0,.int .i64 65536,.int .i64 0,.int .i64 0,.int .i64 0,.int .i64 0,.int .i64 65536,.int .i64 0,.int .i64 0,.int .i64 0,.int .i64 0,.int .i64 65536] 188)).setCell ⟨w.heap.size,0,none⟩ (.int .i64 0)).setCell ⟨w.heap.size,1,none⟩ (.slice (some ⟨W1.heap.size,0,none⟩) 1 1)).setCell ⟨w.heap.size,2,none⟩ (.slice (some ⟨W2.heap.size,0,none⟩) 1 1)):=
  (((Kp.refl _ _).setCell (p:=⟨w.heap.size,0,none⟩) _ (fun h=>h rfl)).setCell (p:=⟨w.heap.size,1,none⟩) _ (fun h=>h rfl)).setCell (p:=⟨w.heap.size,2,none⟩) _ (fun h=>h rfl)
 have HS:=(HR2.out.alloc (.cells #[.int .i64 65536,.int .i64 0,.int .i64 0,.int .i64 0,.int .i64 0,.int .i64 65536,.int .i64 0,.int .i64 0,.int .i64 0,.int .i64 0,.int .i64 65536,.int .i64 0,.int .i64 0,.int .i64 0,.int .i64 0,.int .i64 65536] 188)).s3 (.int .i64 0) (.slice (some ⟨W1.heap.size,0,none⟩) 1 1) (.slice (some ⟨W2.heap.size,0,none⟩) 1 1)
 obtain⟨s0,s1,s2⟩:=HS.c3
 refine bodyPost_ret (v:=.agg #[.int .i64 0,.slice (some ⟨W1.heap.size,0,none⟩) 1 1,.slice (some ⟨W2.heap.size,0,none⟩) 1 1]) (by simp[results,Tryz.results66,go_sem,s0,s1,s2]) rfl ⟨W1.heap.size,W2.heap.size,rfl,(HA2.out.alloc _).kp kk (by omega),HB3.kp kk (by omega),kk.ext (HE2.out.alloc _) (fun j hj=>by omega)⟩
theorem mat_rd {w:World} {A:Nat} {M:List Int} (h:Blk w A 188 (irow M)) (hM:M.length=16):Rd w 16 (some ⟨A,0,none⟩) 1 1 (ivs M):=by
 refine⟨by simp[hM],Nat.le_refl _,by unfold maxLen;omega,fun _=>⟨A,0,rfl,h.lt,fun j hj=>?_⟩⟩
 rw[Nat.zero_add,h.cell]
 unfold irow
 rw[List.getElem?_toArray]
structure Stk (w:World) (mode:Int) (A B:Option Addr) (ca cb:Nat) (M N:List Int):Prop where
 a:Rd w 16 A 1 ca (ivs M)
 b:Rd w 16 B 1 cb (ivs N)
 m:MatOk M
 n:MatOk N
 k:mode=0∨mode=1
theorem Stk.ext {w w':World} {mode:Int} {A B:Option Addr} {ca cb:Nat} {M N:List Int} (h:Stk w mode A B ca cb M N) (e:Ext w w'):Stk w' mode A B ca cb M N:=⟨h.a.ext e,h.b.ext e,h.m,h.n,h.k⟩
set_option maxRecDepth 100000 in
theorem sright_any (mode:Int) (A B:Option Addr) (ca cb:Nat) (M N:List Int) (w:World) (h:Stk w mode A B ca cb M N):Calls Tryz.prog 159 #[.agg #[.int .i64 mode,.slice A 1 ca,.slice B 1 cb]] w fun e w'=>e=.returned (.bool true)∧Ext w w':=by
 have HM:=Lib.hid (fun w=>mright_any M w h.m)
 have HN:=Lib.hid (fun w=>mright_any N w h.n)
 have HS:=Lib.hid h
 have hk:=h.k
 obtain⟨ba,oa,rfl, -, -⟩:=h.a.at_ (by omega)
 obtain⟨bb,ob,rfl, -, -⟩:=h.b.at_ (by omega)
 clear h
 rcases hk with rfl|rfl
 ·have HB0:Hid (Blk (w.alloc (.cells #[.int .i64 0,.slice (some ⟨ba,oa,none⟩) 1 ca,.slice (some ⟨bb,ob,none⟩) 1 cb] 36)) w.heap.size 36 #[.int .i64 0,.slice (some ⟨ba,oa,none⟩) 1 ca,.slice (some ⟨bb,ob,none⟩) 1 cb]):=Lib.hid (Blk.new _ _ _)
  have HE0:Hid (Ext w (w.alloc (.cells #[.int .i64 0,.slice (some ⟨ba,oa,none⟩) 1 ca,.slice (some ⟨bb,ob,none⟩) 1 cb] 36))):=Lib.hid ((Ext.refl w).alloc _)
  go_enter Tryz.func159,Tryz.ntmps159
  go_upto_region 1 with fail
  generalize w.alloc (.cells #[.int .i64 0,.slice (some ⟨ba,oa,none⟩) 1 ca,.slice (some ⟨bb,ob,none⟩) 1 cb] 36)=W0 at*
  have c0:=HB0.out.c3
  go_wp2_with fail
  refine wp_loop_rounds 3 ?_
  rw[rounds_succ]
  go_wp2_with fail
  have R1:=HS.out.a.ext HE0.out
  refine wp_loop_rounds 2 ?_
  rw[rounds_succ]
  go_wp2_with (refine wpList_load_rd rfl (.tmp 43) 188 rfl R1 0 16 rfl agg_mat size_mat (ivs M) (by rw[List.drop_zero,List.take_of_length_le (by simp[HS.out.m.len])]) (by simp[HS.out.m.len]) ?_)
  go_wp2_with fail
  refine(HM.out _).mono ?_
  rintro e w1 ⟨rfl,hE⟩
  obtain⟨x1,rfl⟩:=Later.mk' hE
  clear hE
  have HE1:=Lib.hid (HE0.out.trans x1.ext)
  have HB1:=Lib.hid (HB0.out.ext x1.ext)
  clear R1 c0 HE0 HB0
  generalize x1.w=W1 at*
  have c0:=HB1.out.c3
  go_wp2_with fail
  rw[rounds_succ]
  go_wp2_with fail
  rw[rounds_succ]
  go_wp2_with fail
  have R2:=HS.out.b.ext HE1.out
  refine wp_loop_rounds 2 ?_
  rw[rounds_succ]
  go_wp2_with (refine wpList_load_rd rfl (.tmp 43) 188 rfl R2 0 16 rfl agg_mat size_mat (ivs N) (by rw[List.drop_zero,List.take_of_length_le (by simp[HS.out.n.len])]) (by simp[HS.out.n.len]) ?_)
  go_wp2_with fail
  refine(HN.out _).mono ?_
  rintro e w1 ⟨rfl,hE⟩
  obtain⟨x2,rfl⟩:=Later.mk' hE
  clear hE
  have HE2:=Lib.hid (HE1.out.trans x2.ext)
  have HB2:=Lib.hid (HB1.out.ext x2.ext)
  clear R2 c0 HE1 HB1
  generalize x2.w=W2 at*
  have c0:=HB2.out.c3
  go_wp2_with fail
  rw[rounds_succ]
  go_wp2_with fail
  rw[rounds_succ]
  go_wp2_with fail
  go_ret
  exact⟨rfl,HE2.out⟩
 ·have HB0:Hid (Blk (w.alloc (.cells #[.int .i64 1,.slice (some ⟨ba,oa,none⟩) 1 ca,.slice (some ⟨bb,ob,none⟩) 1 cb] 36)) w.heap.size 36 #[.int .i64 1,.slice (some ⟨ba,oa,none⟩) 1 ca,.slice (some ⟨bb,ob,none⟩) 1 cb]):=Lib.hid (Blk.new _ _ _)
  have HE0:Hid (Ext w (w.alloc (.cells #[.int .i64 1,.slice (some ⟨ba,oa,none⟩) 1 ca,.slice (some ⟨bb,ob,none⟩) 1 cb] 36))):=Lib.hid ((Ext.refl w).alloc _)
  go_enter Tryz.func159,Tryz.ntmps159
  go_upto_region 1 with fail
  generalize w.alloc (.cells #[.int .i64 1,.slice (some ⟨ba,oa,none⟩) 1 ca,.slice (some ⟨bb,ob,none⟩) 1 cb] 36)=W0 at*
  have c0:=HB0.out.c3
  go_wp2_with fail
  refine wp_loop_rounds 3 ?_
  rw[rounds_succ]
  go_wp2_with fail
  have R1:=HS.out.a.ext HE0.out
  refine wp_loop_rounds 2 ?_
  rw[rounds_succ]
  go_wp2_with (refine wpList_load_rd rfl (.tmp 43) 188 rfl R1 0 16 rfl agg_mat size_mat (ivs M) (by rw[List.drop_zero,List.take_of_length_le (by simp[HS.out.m.len])]) (by simp[HS.out.m.len]) ?_)
  go_wp2_with fail
  refine(HM.out _).mono ?_
  rintro e w1 ⟨rfl,hE⟩
  obtain⟨x1,rfl⟩:=Later.mk' hE
  clear hE
  have HE1:=Lib.hid (HE0.out.trans x1.ext)
  have HB1:=Lib.hid (HB0.out.ext x1.ext)
  clear R1 c0 HE0 HB0
  generalize x1.w=W1 at*
  have c0:=HB1.out.c3
  go_wp2_with fail
  rw[rounds_succ]
  go_wp2_with fail
  rw[rounds_succ]
  go_wp2_with fail
  have R2:=HS.out.b.ext HE1.out
  refine wp_loop_rounds 2 ?_
  rw[rounds_succ]
  go_wp2_with (refine wpList_load_rd rfl (.tmp 43) 188 rfl R2 0 16 rfl agg_mat size_mat (ivs N) (by rw[List.drop_zero,List.take_of_length_le (by simp[HS.out.n.len])]) (by simp[HS.out.n.len]) ?_)
  go_wp2_with fail
  refine(HN.out _).mono ?_
  rintro e w1 ⟨rfl,hE⟩
  obtain⟨x2,rfl⟩:=Later.mk' hE
  clear hE
  have HE2:=Lib.hid (HE1.out.trans x2.ext)
  have HB2:=Lib.hid (HB1.out.ext x2.ext)
  clear R2 c0 HE1 HB1
  generalize x2.w=W2 at*
  have c0:=HB2.out.c3
  go_wp2_with fail
  rw[rounds_succ]
  go_wp2_with fail
  rw[rounds_succ]
  go_wp2_with fail
  go_ret
  exact⟨rfl,HE2.out⟩
end Go.Proofs.YtplljnfjkkloeaaGreatDoor
