/- Proof text: two colors together (blend.Factor, Cover, Blend), a mask's bits (store.bits). By an AI agent. No condition beyond what each theorem states. -/
import Derived.Test.YtplljnfjkkloeaaGreatDoorQM
import Derived.Test.YtplljnfjkkloeaaGreatDoorQP
set_option linter.unusedVariables false
set_option linter.unusedSimpArgs false
set_option maxHeartbeats 8000000
namespace Go.Proofs.YtplljnfjkkloeaaGreatDoor
attribute [local go_sem] Go.Oper.semAt_some
open Go.RowKit
structure C4 where
 a:Int
 b:Int
 c:Int
 d:Int
@[reducible] def C4.v (c:C4):Value:=.agg #[.int .i64 c.a,.int .i64 c.b,.int .i64 c.c,.int .i64 c.d]
def C4.n (c:C4):Nat→Int
 |0=>c.a
 |1=>c.b
 |2=>c.c
 |_=>c.d
structure C4.Ok (c:C4):Prop where
 ha:byte c.a
 hb:byte c.b
 hc:byte c.c
 hd:byte c.d
theorem idx_b (x y z u:Bool) (w:World):(Instr.index 49 (.agg #[.bool x,.bool y,.bool z,.bool u]) (.int .i64 0)).run Tryz.prog w=.ok (.bool x) w∧
  (Instr.index 49 (.agg #[.bool x,.bool y,.bool z,.bool u]) (.int .i64 1)).run Tryz.prog w=.ok (.bool y) w∧
  (Instr.index 49 (.agg #[.bool x,.bool y,.bool z,.bool u]) (.int .i64 2)).run Tryz.prog w=.ok (.bool z) w∧
  (Instr.index 49 (.agg #[.bool x,.bool y,.bool z,.bool u]) (.int .i64 3)).run Tryz.prog w=.ok (.bool u) w:=⟨by kernel_rfl,by kernel_rfl,by kernel_rfl,by kernel_rfl⟩
set_option maxRecDepth 100000 in
theorem bits_all (w:World):Calls Tryz.prog 154 #[.agg #[.bool true,.bool true,.bool true,.bool true]] w fun e w'=>e=.returned (.int .i64 4294967295)∧Ext w w':=by
 have i0:=fun w=>(idx_b true true true true w).1
 have i1:=fun w=>(idx_b true true true true w).2.1
 have i2:=fun w=>(idx_b true true true true w).2.2.1
 have i3:=fun w=>(idx_b true true true true w).2.2.2
 go_enter Tryz.func154,Tryz.ntmps154
 go_wp2_with fail
 refine wp_loop_rounds 5 ?_
 rw[rounds_succ]
 go_wp2_with fail
 rw[rounds_succ]
 go_wp2_with fail
 rw[rounds_succ]
 go_wp2_with fail
 rw[rounds_succ]
 go_wp2_with fail
 rw[rounds_succ]
 go_wp2_with fail
 go_ret
 exact⟨rfl,by(repeat(first|with_reducible(first|exact eR_ _|assumption|refine eA_ ?_ _|refine eD_ ?_|refine eN_ ?_ _|refine eL_ ?_ _)|(with_reducible refine eS_ ?_ _ ?hp;case hp=>first|(simp;done)|(simp;omega)|omega)))⟩
theorem factor_any (k:Int) (s d:C4) (w:World) (hs:s.Ok) (hd:d.Ok) (k0:0≤k) (k1:k<8):
  (Calls Tryz.prog 283 #[.int .i64 k,s.v,d.v,.int .i64 0] w fun e w'=>e=.returned (.int .i64 (fac k s.a d.a s.d))∧Ext w w')∧
  (Calls Tryz.prog 283 #[.int .i64 k,s.v,d.v,.int .i64 1] w fun e w'=>e=.returned (.int .i64 (fac k s.b d.b s.d))∧Ext w w')∧
  (Calls Tryz.prog 283 #[.int .i64 k,s.v,d.v,.int .i64 2] w fun e w'=>e=.returned (.int .i64 (fac k s.c d.c s.d))∧Ext w w')∧
  (Calls Tryz.prog 283 #[.int .i64 k,s.v,d.v,.int .i64 3] w fun e w'=>e=.returned (.int .i64 (fac k s.d d.d s.d))∧Ext w w'):=by
 have hk:k=0∨k=1∨k=2∨k=3∨k=4∨k=5∨k=6∨k=7:=by omega
 obtain⟨⟨a0,a1⟩,⟨a2,a3⟩,⟨a4,a5⟩,⟨a6,a7⟩⟩:=hs
 obtain⟨⟨b0,b1⟩,⟨b2,b3⟩,⟨b4,b5⟩,⟨b6,b7⟩⟩:=hd
 clear k0 k1
 refine⟨?_,?_,?_,?_⟩
 ·generalize hr:fac k s.a d.a s.d=r
  have HR:=Lib.hid hr
  clear hr
  rcases hk with rfl|rfl|rfl|rfl|rfl|rfl|rfl|rfl
  all_goals
   go_enter Tryz.func283,Tryz.ntmps283
   go_wp2_with fail
   go_ret
   exact⟨by rw[←HR.out];simp[fac],by(repeat(first|with_reducible(first|exact eR_ _|assumption|refine eA_ ?_ _|refine eD_ ?_|refine eN_ ?_ _|refine eL_ ?_ _)|(with_reducible refine eS_ ?_ _ ?hp;case hp=>first|(simp;done)|(simp;omega)|omega)))⟩
 ·generalize hr:fac k s.b d.b s.d=r
  have HR:=Lib.hid hr
  clear hr
  rcases hk with rfl|rfl|rfl|rfl|rfl|rfl|rfl|rfl
  all_goals
   go_enter Tryz.func283,Tryz.ntmps283
   go_wp2_with fail
   go_ret
   exact⟨by rw[←HR.out];simp[fac],by(repeat(first|with_reducible(first|exact eR_ _|assumption|refine eA_ ?_ _|refine eD_ ?_|refine eN_ ?_ _|refine eL_ ?_ _)|(with_reducible refine eS_ ?_ _ ?hp;case hp=>first|(simp;done)|(simp;omega)|omega)))⟩
 ·generalize hr:fac k s.c d.c s.d=r
  have HR:=Lib.hid hr
  clear hr
  rcases hk with rfl|rfl|rfl|rfl|rfl|rfl|rfl|rfl
  all_goals
   go_enter Tryz.func283,Tryz.ntmps283
   go_wp2_with fail
   go_ret
   exact⟨by rw[←HR.out];simp[fac],by(repeat(first|with_reducible(first|exact eR_ _|assumption|refine eA_ ?_ _|refine eD_ ?_|refine eN_ ?_ _|refine eL_ ?_ _)|(with_reducible refine eS_ ?_ _ ?hp;case hp=>first|(simp;done)|(simp;omega)|omega)))⟩
 ·generalize hr:fac k s.d d.d s.d=r
  have HR:=Lib.hid hr
  clear hr
  rcases hk with rfl|rfl|rfl|rfl|rfl|rfl|rfl|rfl
  all_goals
   go_enter Tryz.func283,Tryz.ntmps283
   go_wp2_with fail
   go_ret
   exact⟨by rw[←HR.out];simp[fac],by(repeat(first|with_reducible(first|exact eR_ _|assumption|refine eA_ ?_ _|refine eD_ ?_|refine eN_ ?_ _|refine eL_ ?_ _)|(with_reducible refine eS_ ?_ _ ?hp;case hp=>first|(simp;done)|(simp;omega)|omega)))⟩
theorem cover_any (c:C4) (m:Int) (w:World) (h:byte c.d) (m0:0<m) (m1:m≤64):
  Calls Tryz.prog 253 #[c.v,.int .i64 m] w fun e w'=>e=.returned (C4.v ⟨c.a,c.b,c.c,c.d*m/64⟩)∧Ext w w':=by
 obtain⟨h0,h1⟩:=h
 have p0:0≤c.d*m:=Int.mul_nonneg h0 (by omega)
 have p1:c.d*m≤255*64:=Int.mul_le_mul h1 m1 (by omega) (by omega)
 go_enter Tryz.func253,Tryz.ntmps253
 go_wp2_with fail
 refine bodyPost_ret (v:=.agg #[.int .i64 c.a,.int .i64 c.b,.int .i64 c.c,.int .i64 (c.d*m/64)]) (by simp[results,Tryz.results253,go_sem]) rfl ⟨rfl,by(repeat(first|with_reducible(first|exact eR_ _|assumption|refine eA_ ?_ _|refine eD_ ?_|refine eN_ ?_ _|refine eL_ ?_ _)|(with_reducible refine eS_ ?_ _ ?hp;case hp=>first|(simp;done)|(simp;omega)|omega)))⟩
def blend4 (sf df:Int) (s d:C4):C4:=⟨bl1 sf df s.a d.a s.d,bl1 sf df s.b d.b s.d,bl1 sf df s.c d.c s.d,bl1 sf df s.d d.d s.d⟩
theorem fac_byte {k si di s3:Int} (h1:byte si) (h2:byte di) (h3:byte s3):byte (fac k si di s3):=by
 unfold byte at*
 unfold fac
 split <;>split <;>(try split) <;>(try split) <;>omega
theorem byte_mul {a b:Int} (h1:byte a) (h2:byte b):0≤a*b∧a*b≤65025:=by
 unfold byte at*
 exact⟨Int.mul_nonneg h1.1 h2.1,by have:=Int.mul_le_mul h1.2 h2.2 h2.1 (by omega);omega⟩
structure Bd (s d o:C4) (w wx:World):Prop where
 s:Blk wx w.heap.size 30 #[.int .i64 s.a,.int .i64 s.b,.int .i64 s.c,.int .i64 s.d]
 d:Blk wx (w.heap.size+1) 30 #[.int .i64 d.a,.int .i64 d.b,.int .i64 d.c,.int .i64 d.d]
 r:Blk wx (w.heap.size+1+1) 30 #[.int .i64 0,.int .i64 0,.int .i64 0,.int .i64 0]
 o:Blk wx (w.heap.size+1+1+1) 30 #[.int .i64 o.a,.int .i64 o.b,.int .i64 o.c,.int .i64 o.d]
 e:Ext w wx
theorem Bd.set {s d o:C4} {w wx:World} (h:Bd s d o w wx) (y:Later wx) (i:Nat) (u:Value) (o':C4) (ho:(#[.int .i64 o.a,.int .i64 o.b,.int .i64 o.c,.int .i64 o.d]:Array Value).setIfInBounds i u= #[.int .i64 o'.a,.int .i64 o'.b,.int .i64 o'.c,.int .i64 o'.d]):Bd s d o' w (y.w.setCell ⟨w.heap.size+1+1+1,i,none⟩ u):=
 ⟨(h.s.ext y.ext).far (by first|(simp;done)|(simp;omega)|omega) _,(h.d.ext y.ext).far (by first|(simp;done)|(simp;omega)|omega) _,(h.r.ext y.ext).far (by first|(simp;done)|(simp;omega)|omega) _,ho▸(h.o.ext y.ext).set_ i u,(h.e.trans y.ext).setCell _ (by first|(simp;done)|(simp;omega)|omega)⟩
set_option maxRecDepth 100000 in
theorem blend_any (s d:C4) (sf df:Int) (w:World) (hs:s.Ok) (hd:d.Ok) (s0:0≤sf) (s1:sf<8) (d0:0≤df) (d1:df<8):
  Calls Tryz.prog 255 #[s.v,d.v,.int .i64 sf,.int .i64 df] w fun e w'=>e=.returned (blend4 sf df s d).v∧Ext w w':=by
 have FS0:Hid (∀w,Calls Tryz.prog 283 #[.int .i64 sf,s.v,d.v,.int .i64 0] w fun e w'=>e=.returned (.int .i64 (fac sf s.a d.a s.d))∧Ext w w'):=Lib.hid (fun w=>(factor_any sf s d w hs hd s0 s1).1)
 have FD0:Hid (∀w,Calls Tryz.prog 283 #[.int .i64 df,s.v,d.v,.int .i64 0] w fun e w'=>e=.returned (.int .i64 (fac df s.a d.a s.d))∧Ext w w'):=Lib.hid (fun w=>(factor_any df s d w hs hd d0 d1).1)
 have FS1:Hid (∀w,Calls Tryz.prog 283 #[.int .i64 sf,s.v,d.v,.int .i64 1] w fun e w'=>e=.returned (.int .i64 (fac sf s.b d.b s.d))∧Ext w w'):=Lib.hid (fun w=>(factor_any sf s d w hs hd s0 s1).2.1)
 have FD1:Hid (∀w,Calls Tryz.prog 283 #[.int .i64 df,s.v,d.v,.int .i64 1] w fun e w'=>e=.returned (.int .i64 (fac df s.b d.b s.d))∧Ext w w'):=Lib.hid (fun w=>(factor_any df s d w hs hd d0 d1).2.1)
 have FS2:Hid (∀w,Calls Tryz.prog 283 #[.int .i64 sf,s.v,d.v,.int .i64 2] w fun e w'=>e=.returned (.int .i64 (fac sf s.c d.c s.d))∧Ext w w'):=Lib.hid (fun w=>(factor_any sf s d w hs hd s0 s1).2.2.1)
 have FD2:Hid (∀w,Calls Tryz.prog 283 #[.int .i64 df,s.v,d.v,.int .i64 2] w fun e w'=>e=.returned (.int .i64 (fac df s.c d.c s.d))∧Ext w w'):=Lib.hid (fun w=>(factor_any df s d w hs hd d0 d1).2.2.1)
 have FS3:Hid (∀w,Calls Tryz.prog 283 #[.int .i64 sf,s.v,d.v,.int .i64 3] w fun e w'=>e=.returned (.int .i64 (fac sf s.d d.d s.d))∧Ext w w'):=Lib.hid (fun w=>(factor_any sf s d w hs hd s0 s1).2.2.2)
 have FD3:Hid (∀w,Calls Tryz.prog 283 #[.int .i64 df,s.v,d.v,.int .i64 3] w fun e w'=>e=.returned (.int .i64 (fac df s.d d.d s.d))∧Ext w w'):=Lib.hid (fun w=>(factor_any df s d w hs hd d0 d1).2.2.2)
 obtain⟨p0,q0⟩:=byte_mul hs.ha (fac_byte (k:=sf) hs.ha hd.ha hs.hd)
 obtain⟨p1,q1⟩:=byte_mul hd.ha (fac_byte (k:=df) hs.ha hd.ha hs.hd)
 obtain⟨p2,q2⟩:=byte_mul hs.hb (fac_byte (k:=sf) hs.hb hd.hb hs.hd)
 obtain⟨p3,q3⟩:=byte_mul hd.hb (fac_byte (k:=df) hs.hb hd.hb hs.hd)
 obtain⟨p4,q4⟩:=byte_mul hs.hc (fac_byte (k:=sf) hs.hc hd.hc hs.hd)
 obtain⟨p5,q5⟩:=byte_mul hd.hc (fac_byte (k:=df) hs.hc hd.hc hs.hd)
 obtain⟨p6,q6⟩:=byte_mul hs.hd (fac_byte (k:=sf) hs.hd hd.hd hs.hd)
 obtain⟨p7,q7⟩:=byte_mul hd.hd (fac_byte (k:=df) hs.hd hd.hd hs.hd)
 unfold blend4 bl1
 generalize fac sf s.a d.a s.d=fs0 at*
 generalize fac df s.a d.a s.d=fd0 at*
 generalize fac sf s.b d.b s.d=fs1 at*
 generalize fac df s.b d.b s.d=fd1 at*
 generalize fac sf s.c d.c s.d=fs2 at*
 generalize fac df s.c d.c s.d=fd2 at*
 generalize fac sf s.d d.d s.d=fs3 at*
 generalize fac df s.d d.d s.d=fd3 at*
 generalize hm0:min ((s.a*fs0+d.a*fd0)/255) 255=m0
 have HM0:=Lib.hid hm0
 clear hm0
 generalize hm1:min ((s.b*fs1+d.b*fd1)/255) 255=m1
 have HM1:=Lib.hid hm1
 clear hm1
 generalize hm2:min ((s.c*fs2+d.c*fd2)/255) 255=m2
 have HM2:=Lib.hid hm2
 clear hm2
 generalize hm3:min ((s.d*fs3+d.d*fd3)/255) 255=m3
 have HM3:=Lib.hid hm3
 clear hm3
 clear hs hd s0 s1 d0 d1
 go_enter Tryz.func255,Tryz.ntmps255
 go_upto_region 2 with fail
 have HB0:Hid (Bd s d ⟨0,0,0,0⟩ w ((((w.alloc (.cells #[.int .i64 s.a,.int .i64 s.b,.int .i64 s.c,.int .i64 s.d] 30)).alloc (.cells #[.int .i64 d.a,.int .i64 d.b,.int .i64 d.c,.int .i64 d.d] 30)).alloc (.cells #[.int .i64 0,.int .i64 0,.int .i64 0,.int .i64 0] 30)).alloc (.cells #[.int .i64 0,.int .i64 0,.int .i64 0,.int .i64 0] 30))):=Lib.hid ⟨by(repeat(first|with_reducible exact Hid.out (by assumption)|(with_reducible refine Blk.new' _ _ _ ?_;(simp;done))|with_reducible(first|refine Blk.alloc ?_ _|refine Blk.drew ?_|refine Blk.drewN ?_ _|refine Blk.later ?_ _)|(with_reducible refine Blk.far ?_ ?hp _;case hp=>first|(simp;done)|(simp;omega)|omega))),by(repeat(first|with_reducible exact Hid.out (by assumption)|(with_reducible refine Blk.new' _ _ _ ?_;(simp;done))|with_reducible(first|refine Blk.alloc ?_ _|refine Blk.drew ?_|refine Blk.drewN ?_ _|refine Blk.later ?_ _)|(with_reducible refine Blk.far ?_ ?hp _;case hp=>first|(simp;done)|(simp;omega)|omega))),by(repeat(first|with_reducible exact Hid.out (by assumption)|(with_reducible refine Blk.new' _ _ _ ?_;(simp;done))|with_reducible(first|refine Blk.alloc ?_ _|refine Blk.drew ?_|refine Blk.drewN ?_ _|refine Blk.later ?_ _)|(with_reducible refine Blk.far ?_ ?hp _;case hp=>first|(simp;done)|(simp;omega)|omega))),by(repeat(first|with_reducible exact Hid.out (by assumption)|(with_reducible refine Blk.new' _ _ _ ?_;(simp;done))|with_reducible(first|refine Blk.alloc ?_ _|refine Blk.drew ?_|refine Blk.drewN ?_ _|refine Blk.later ?_ _)|(with_reducible refine Blk.far ?_ ?hp _;case hp=>first|(simp;done)|(simp;omega)|omega))),by(repeat(first|with_reducible(first|exact eR_ _|assumption|refine eA_ ?_ _|refine eD_ ?_|refine eN_ ?_ _|refine eL_ ?_ _)|(with_reducible refine eS_ ?_ _ ?hp;case hp=>first|(simp;done)|(simp;omega)|omega)))⟩
 generalize(((w.alloc (.cells #[.int .i64 s.a,.int .i64 s.b,.int .i64 s.c,.int .i64 s.d] 30)).alloc (.cells #[.int .i64 d.a,.int .i64 d.b,.int .i64 d.c,.int .i64 d.d] 30)).alloc (.cells #[.int .i64 0,.int .i64 0,.int .i64 0,.int .i64 0] 30)).alloc (.cells #[.int .i64 0,.int .i64 0,.int .i64 0,.int .i64 0] 30)=W0 at*
 go_wp2_with fail
 refine wp_loop_rounds 5 ?_
 rw[rounds_succ]
 have cs:=HB0.out.s.c4
 have cd:=HB0.out.d.c4
 have co:=HB0.out.o.c4
 have fo:=HB0.out.o.f4
 go_upto_region 5 with fail
 refine wp_region_later (by kernel_rfl) (by kernel_rfl) ?_
 repeat(go_big_quiet_step ((first|(first|(go_at_call 283;with_reducible exact Calls.later _ (FS0.out _))|(go_at_call 283;with_reducible exact Calls.later _ (FD0.out _)))|fail)))
 refine wpQuiet_nil ?_
 intro y0
 go_upto_region 7 with fail
 rw[HM0.out]
 have HB1:=Lib.hid (HB0.out.set y0 0 (.int .i64 m0) ⟨m0,0,0,0⟩ rfl)
 clear cs cd co fo HB0
 generalize y0.w.setCell ⟨w.heap.size+1+1+1,0,none⟩ (.int .i64 m0)=W1 at*
 go_wp2_with fail
 rw[rounds_succ]
 have cs:=HB1.out.s.c4
 have cd:=HB1.out.d.c4
 have co:=HB1.out.o.c4
 have fo:=HB1.out.o.f4
 go_upto_region 5 with fail
 refine wp_region_later (by kernel_rfl) (by kernel_rfl) ?_
 repeat(go_big_quiet_step ((first|(first|(go_at_call 283;with_reducible exact Calls.later _ (FS1.out _))|(go_at_call 283;with_reducible exact Calls.later _ (FD1.out _)))|fail)))
 refine wpQuiet_nil ?_
 intro y1
 go_upto_region 7 with fail
 rw[HM1.out]
 have HB2:=Lib.hid (HB1.out.set y1 1 (.int .i64 m1) ⟨m0,m1,0,0⟩ rfl)
 clear cs cd co fo HB1
 generalize y1.w.setCell ⟨w.heap.size+1+1+1,1,none⟩ (.int .i64 m1)=W2 at*
 go_wp2_with fail
 rw[rounds_succ]
 have cs:=HB2.out.s.c4
 have cd:=HB2.out.d.c4
 have co:=HB2.out.o.c4
 have fo:=HB2.out.o.f4
 go_upto_region 5 with fail
 refine wp_region_later (by kernel_rfl) (by kernel_rfl) ?_
 repeat(go_big_quiet_step ((first|(first|(go_at_call 283;with_reducible exact Calls.later _ (FS2.out _))|(go_at_call 283;with_reducible exact Calls.later _ (FD2.out _)))|fail)))
 refine wpQuiet_nil ?_
 intro y2
 go_upto_region 7 with fail
 rw[HM2.out]
 have HB3:=Lib.hid (HB2.out.set y2 2 (.int .i64 m2) ⟨m0,m1,m2,0⟩ rfl)
 clear cs cd co fo HB2
 generalize y2.w.setCell ⟨w.heap.size+1+1+1,2,none⟩ (.int .i64 m2)=W3 at*
 go_wp2_with fail
 rw[rounds_succ]
 have cs:=HB3.out.s.c4
 have cd:=HB3.out.d.c4
 have co:=HB3.out.o.c4
 have fo:=HB3.out.o.f4
 go_upto_region 5 with fail
 refine wp_region_later (by kernel_rfl) (by kernel_rfl) ?_
 repeat(go_big_quiet_step ((first|(first|(go_at_call 283;with_reducible exact Calls.later _ (FS3.out _))|(go_at_call 283;with_reducible exact Calls.later _ (FD3.out _)))|fail)))
 refine wpQuiet_nil ?_
 intro y3
 go_upto_region 7 with fail
 rw[HM3.out]
 have HB4:=Lib.hid (HB3.out.set y3 3 (.int .i64 m3) ⟨m0,m1,m2,m3⟩ rfl)
 clear cs cd co fo HB3
 generalize y3.w.setCell ⟨w.heap.size+1+1+1,3,none⟩ (.int .i64 m3)=W4 at*
 go_wp2_with fail
 rw[rounds_succ]
 have cr:=HB4.out.r.c4
 have fr:=HB4.out.r.f4
 have co:=HB4.out.o.c4
 go_wp2_with fail
 have HZ:=HB4.out.r.s4 (.int .i64 m0) (.int .i64 m1) (.int .i64 m2) (.int .i64 m3)
 have HE:=HB4.out.e
 obtain⟨z0,z1,z2,z3⟩:=HZ.c4
 refine bodyPost_ret (v:=.agg #[.int .i64 m0,.int .i64 m1,.int .i64 m2,.int .i64 m3]) (by simp[results,Tryz.results255,go_sem,z0,z1,z2,z3]) rfl ⟨rfl,by(repeat(first|with_reducible(first|exact eR_ _|assumption|refine eA_ ?_ _|refine eD_ ?_|refine eN_ ?_ _|refine eL_ ?_ _)|(with_reducible refine eS_ ?_ _ ?hp;case hp=>first|(simp;done)|(simp;omega)|omega)))⟩
end Go.Proofs.YtplljnfjkkloeaaGreatDoor
