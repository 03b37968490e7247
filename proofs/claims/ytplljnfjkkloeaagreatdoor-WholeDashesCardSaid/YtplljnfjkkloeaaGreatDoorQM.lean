/- Proof text: wide.fits, wide.Right, wide.core.reach, wide.coreOf. By an AI agent. No condition beyond what each theorem states. -/
import Derived.Test.YtplljnfjkkloeaaGreatDoorQA
import Derived.Test.YtplljnfjkkloeaaGreatDoorWA
set_option linter.unusedVariables false
set_option linter.unusedSimpArgs false
set_option maxHeartbeats 4000000
namespace Go.Proofs.YtplljnfjkkloeaaGreatDoor
attribute [local go_sem] Go.Oper.semAt_some
open Go.RowKit
def byte (c:Int):Prop:=0≤c∧c≤255
structure Wv.Fits (v:Wv):Prop where
 x: -268435456≤v.x∧v.x≤268435456
 y: -268435456≤v.y∧v.y≤268435456
 z:0≤v.z∧v.z≤16777215
 c0:byte v.c0
 c1:byte v.c1
 c2:byte v.c2
 c3:byte v.c3
theorem Wv.Fits.ok {v:Wv} (h:v.Fits):v.Ok:=by
 obtain⟨-, -,⟨a,b⟩,⟨a0,b0⟩,⟨a1,b1⟩,⟨a2,b2⟩,⟨a3,b3⟩⟩:=h
 exact⟨by unfold okc;omega,by unfold okc;omega,by unfold okc;omega,by unfold okc;omega,by unfold okc;omega⟩
theorem idx_c (c0 c1 c2 c3:Int) (w:World):(Instr.index 30 (.agg #[.int .i64 c0,.int .i64 c1,.int .i64 c2,.int .i64 c3]) (.int .i64 0)).run Tryz.prog w=.ok (.int .i64 c0) w∧
  (Instr.index 30 (.agg #[.int .i64 c0,.int .i64 c1,.int .i64 c2,.int .i64 c3]) (.int .i64 1)).run Tryz.prog w=.ok (.int .i64 c1) w∧
  (Instr.index 30 (.agg #[.int .i64 c0,.int .i64 c1,.int .i64 c2,.int .i64 c3]) (.int .i64 2)).run Tryz.prog w=.ok (.int .i64 c2) w∧
  (Instr.index 30 (.agg #[.int .i64 c0,.int .i64 c1,.int .i64 c2,.int .i64 c3]) (.int .i64 3)).run Tryz.prog w=.ok (.int .i64 c3) w:=⟨by kernel_rfl,by kernel_rfl,by kernel_rfl,by kernel_rfl⟩
set_option maxRecDepth 100000 in
theorem fits_any (v:Wv) (w:World) (h:v.Fits):Calls Tryz.prog 213 #[v.v] w fun e w'=>e=.returned (.bool true)∧Ext w w':=by
 obtain⟨⟨x0,x1⟩,⟨y0,y1⟩,⟨z0,z1⟩,⟨c00,c01⟩,⟨c10,c11⟩,⟨c20,c21⟩,⟨c30,c31⟩⟩:=h
 have i0:=fun w=>(idx_c v.c0 v.c1 v.c2 v.c3 w).1
 have i1:=fun w=>(idx_c v.c0 v.c1 v.c2 v.c3 w).2.1
 have i2:=fun w=>(idx_c v.c0 v.c1 v.c2 v.c3 w).2.2.1
 have i3:=fun w=>(idx_c v.c0 v.c1 v.c2 v.c3 w).2.2.2
 go_enter Tryz.func213,Tryz.ntmps213
 go_wp2_with fail
 refine wp_loop_rounds 5 ?_
 rw[rounds_succ]
 go_wp2_with fail
 rw[rounds_succ]
 go_wp2_with fail
 rw[rounds_succ]
 go_wp2_with fail
 rw[rounds_succ]
 go_wp2_with fail
 rw[rounds_succ]
 go_wp2_with fail
 go_ret
 exact⟨rfl,by(repeat(first|with_reducible(first|exact eR_ _|assumption|refine eA_ ?_ _|refine eD_ ?_|refine eN_ ?_ _|refine eL_ ?_ _)|(with_reducible refine eS_ ?_ _ ?hp;case hp=>first|(simp;done)|(simp;omega)|omega)))⟩
theorem wright_any (a b:Wv) (n:Int) (d:Da) (w:World) (ha:a.Fits) (hb:b.Fits) (hd:d.Ok) (n0:1≤n) (n1:n≤64):Calls Tryz.prog 167 #[a.v,b.v,.int .i64 n,d.v] w fun e w'=>e=.returned (.bool true)∧Ext w w':=by
 have HA:=Lib.hid (fun w=>fits_any a w ha)
 have HB:=Lib.hid (fun w=>fits_any b w hb)
 have HD:=Lib.hid (fun w=>dright_any d w hd)
 clear ha hb hd
 go_enter Tryz.func167,Tryz.ntmps167
 go_wp2_with fail
 refine(HA.out _).mono ?_
 rintro e w1 ⟨rfl,hE⟩
 obtain⟨x1,rfl⟩:=Later.mk' hE
 clear hE
 go_wp2_with fail
 refine(HB.out _).mono ?_
 rintro e w1 ⟨rfl,hE⟩
 obtain⟨x2,rfl⟩:=Later.mk' hE
 clear hE
 have hd3:Blk x2.w (w.heap.size+1+1) 44 #[.int .i64 d.bits,.int .i64 d.every,.int .i64 d.done]:=by(repeat(first|with_reducible exact Hid.out (by assumption)|(with_reducible refine Blk.new' _ _ _ ?_;(simp;done))|with_reducible(first|refine Blk.alloc ?_ _|refine Blk.drew ?_|refine Blk.drewN ?_ _|refine Blk.later ?_ _)|(with_reducible refine Blk.far ?_ ?hp _;case hp=>first|(simp;done)|(simp;omega)|omega)))
 have cd:=hd3.c3
 clear hd3
 go_wp2_with fail
 refine(HD.out _).mono ?_
 rintro e w1 ⟨rfl,hE⟩
 obtain⟨x3,rfl⟩:=Later.mk' hE
 clear hE
 go_wp2_with fail
 go_ret
 exact⟨rfl,by(repeat(first|with_reducible(first|exact eR_ _|assumption|refine eA_ ?_ _|refine eD_ ?_|refine eN_ ?_ _|refine eL_ ?_ _)|(with_reducible refine eS_ ?_ _ ?hp;case hp=>first|(simp;done)|(simp;omega)|omega)))⟩
end Go.Proofs.YtplljnfjkkloeaaGreatDoor
set_option linter.unusedVariables false
set_option linter.unusedSimpArgs false
namespace Go.Proofs.YtplljnfjkkloeaaGreatDoor
attribute [local go_sem] Go.Oper.semAt_some
open Go.RowKit
theorem sunpack_any (c:Int) (w:World) (c0:0≤c) (c1:c<4294967296):Calls Tryz.prog 282 #[.int .i64 c] w fun e w'=>e=.returned (.agg #[.int .i64 (c/16777216%256),.int .i64 (c/65536%256),.int .i64 (c/256%256),.int .i64 (c%256)])∧Ext w w':=by
 go_enter Tryz.func282,Tryz.ntmps282
 go_wp2_with fail
 refine bodyPost_ret (v:=.agg #[.int .i64 (c/16777216%256),.int .i64 (c/65536%256),.int .i64 (c/256%256),.int .i64 (c%256)]) (by simp[results,Tryz.results282,go_sem]) rfl ⟨rfl,by(repeat(first|with_reducible(first|exact eR_ _|assumption|refine eA_ ?_ _|refine eD_ ?_|refine eN_ ?_ _|refine eL_ ?_ _)|(with_reducible refine eS_ ?_ _ ?hp;case hp=>first|(simp;done)|(simp;omega)|omega)))⟩
theorem sin_yes (g:Nat) (W H x y:Int) (w:World) (hw:w.cell? ⟨g,0,none⟩=some (.int .i64 W)) (hh:w.cell? ⟨g,1,none⟩=some (.int .i64 H)) (x0:0≤x) (x1:x<W) (y0:0≤y) (y1:y<H) (w1:W≤1099511627776) (h1:H≤1099511627776):
  Calls Tryz.prog 281 #[.pointer (some ⟨g,0,none⟩),.int .i64 x,.int .i64 y] w fun e w'=>e=.returned (.bool true)∧w=w':=by
 go_enter Tryz.func281,Tryz.ntmps281
 go_wp2_with fail
 go_ret
 exact⟨rfl,rfl⟩
end Go.Proofs.YtplljnfjkkloeaaGreatDoor
set_option linter.unusedVariables false
set_option linter.unusedSimpArgs false
namespace Go.Proofs.YtplljnfjkkloeaaGreatDoor
open Go.RowKit
def optV (o:Option (Int×Int)):Value:=.tuple #[.int .i64 (o.getD (0,0)).1,.int .i64 (o.getD (0,0)).2,.bool o.isSome]
theorem in_any (px py:Int) (w:World) (hx:Pl px) (hy:Pl py):Calls Tryz.prog 302 #[.agg #[.int .i64 px,.int .i64 py]] w fun e w'=>e=.returned (optV (dIn px py))∧Ext w w':=by
 obtain⟨x1,x2⟩:=hx
 obtain⟨y1,y2⟩:=hy
 have m1:0≤px%256∧px%256<256:=by omega
 have m2:0≤py%256∧py%256<256:=by omega
 obtain⟨m1,m3⟩:=m1
 obtain⟨m2,m4⟩:=m2
 have w1:IntKind.i64.wrap (px%256-128)=px%256-128:=by rw[IntKind.wrap_i64];omega
 have w2:IntKind.i64.wrap (py%256-128)=py%256-128:=by rw[IntKind.wrap_i64];omega
 obtain⟨u,hu⟩: ∃u,u=px%256-128:=⟨_,rfl⟩
 obtain⟨v,hv⟩: ∃v,v=py%256-128:=⟨_,rfl⟩
 have hc:((u== -128)=true∧(v==0)=true∧Hid (dIn px py=some (px/256-1,py/256)))∨
   (((u== -128)=false∨((u== -128)=true∧(v==0)=false))∧
    ((decide (max u (-u)+max v (-v)<128)=true∧Hid (dIn px py=some (px/256,py/256)))∨
    (decide (max u (-u)+max v (-v)<128)=false∧(max u (-u)+max v (-v)==128)=true∧decide (u>0)=true∧Hid (dIn px py=some (px/256,py/256)))∨
    (decide (max u (-u)+max v (-v)<128)=false∧(max u (-u)+max v (-v)==128)=true∧decide (u>0)=false∧Hid (dIn px py=none))∨
    (decide (max u (-u)+max v (-v)<128)=false∧(max u (-u)+max v (-v)==128)=false∧Hid (dIn px py=none)))):=by
  have hd:dIn px py=if u= -128∧v=0 then some (px/256-1,py/256)else if max u (-u)+max v (-v)<128∨(max u (-u)+max v (-v)=128∧0<u)then some (px/256,py/256)else none:=by
   rw[hu,hv];rfl
  clear hu hv w1 w2
  simp only[beq_iff_eq,beq_eq_false_iff_ne,decide_eq_true_eq,decide_eq_false_iff_not,ne_eq]
  by_cases c1:u= -128
  ·by_cases c2:v=0
   ·exact .inl ⟨c1,c2,Lib.hid (by rw[hd,if_pos ⟨c1,c2⟩])⟩
   ·refine .inr ⟨.inr ⟨c1,c2⟩,?_⟩
    rw[if_neg (fun h=>c2 h.2)]at hd
    by_cases c3:max u (-u)+max v (-v)<128
    ·exact .inl ⟨c3,Lib.hid (by rw[hd,if_pos (.inl c3)])⟩
    ·by_cases c4:max u (-u)+max v (-v)=128
     ·by_cases c5:u>0
      ·exact .inr (.inl ⟨c3,c4,c5,Lib.hid (by rw[hd,if_pos (.inr ⟨c4,c5⟩)])⟩)
      ·exact .inr (.inr (.inl ⟨c3,c4,c5,Lib.hid (by rw[hd,if_neg (fun h=>h.elim c3 (fun k=>c5 k.2))])⟩))
     ·exact .inr (.inr (.inr ⟨c3,c4,Lib.hid (by rw[hd,if_neg (fun h=>h.elim c3 (fun k=>c4 k.1))])⟩))
  ·refine .inr ⟨.inl c1,?_⟩
   rw[if_neg (fun h=>c1 h.1)]at hd
   by_cases c3:max u (-u)+max v (-v)<128
   ·exact .inl ⟨c3,Lib.hid (by rw[hd,if_pos (.inl c3)])⟩
   ·by_cases c4:max u (-u)+max v (-v)=128
    ·by_cases c5:u>0
     ·exact .inr (.inl ⟨c3,c4,c5,Lib.hid (by rw[hd,if_pos (.inr ⟨c4,c5⟩)])⟩)
     ·exact .inr (.inr (.inl ⟨c3,c4,c5,Lib.hid (by rw[hd,if_neg (fun h=>h.elim c3 (fun k=>c5 k.2))])⟩))
    ·exact .inr (.inr (.inr ⟨c3,c4,Lib.hid (by rw[hd,if_neg (fun h=>h.elim c3 (fun k=>c4 k.1))])⟩))
 have b1: -128≤u∧u≤127:=by omega
 have b2: -128≤v∧v≤127:=by omega
 obtain⟨b1,b3⟩:=b1
 obtain⟨b2,b4⟩:=b2
 have w3:IntKind.i64.wrap (px%256-128)=u:=w1.trans hu.symm
 have w4:IntKind.i64.wrap (py%256-128)=v:=w2.trans hv.symm
 clear w1 w2 m1 m2 m3 m4 hu hv
 have o1: -134217728≤px/256:=by omega
 have o2:px/256≤134217728:=by omega
 rcases hc with⟨c1,c2,HD⟩|⟨c1|⟨c1,c2⟩,⟨c3,HD⟩|⟨c3,c4,c5,HD⟩|⟨c3,c4,c5,HD⟩|⟨c3,c4,HD⟩⟩
 all_goals
  go_enter Tryz.func302,Tryz.ntmps302
  go_wp2_with fail
  go_quiet (fail)
  go_wp2_with fail
  go_quiet (fail)
  go_wp2_with fail
  go_ret3
  rw[HD.out]
  exact⟨rfl,by(repeat(first|with_reducible(first|exact eR_ _|assumption|refine eA_ ?_ _|refine eD_ ?_|refine eN_ ?_ _|refine eL_ ?_ _)|(with_reducible refine eS_ ?_ _ ?hp;case hp=>first|(simp;done)|(simp;omega)|omega)))⟩
end Go.Proofs.YtplljnfjkkloeaaGreatDoor
set_option linter.unusedVariables false
set_option linter.unusedSimpArgs false
namespace Go.Proofs.YtplljnfjkkloeaaGreatDoor
def Din (tn:Bool) (pu pv u v:Int):Prop:=
 -128<(pu-256*u-128)+(pv-256*v-128)∧(pu-256*u-128)+(pv-256*v-128)≤128∧
  (if tn=true then -128<(pv-256*v-128)-(pu-256*u-128)∧(pv-256*v-128)-(pu-256*u-128)≤128
   else -128<(pu-256*u-128)-(pv-256*v-128)∧(pu-256*u-128)-(pv-256*v-128)≤128)
theorem Way.inW_is (W:Way) (pu pv u v:Int):W.inW pu pv u v↔Din W.turned pu pv u v:=Iff.rfl
def Cr (p q u:Int):Prop:=min p q≤256*u+128∧256*u+128<max p q
theorem Way.crossed_cr (W:Way) (u:Int):W.crossed u↔Cr W.au W.bu u:=Iff.rfl
structure Tri (au av bu bv cu cv:Int):Prop where
 m:(au≤bu∧bu≤cu∧bv-av≤bu-au∧av-bv≤bu-au∧cv-bv≤cu-bu∧bv-cv≤cu-bu)∨(cu≤bu∧bu≤au∧bv-av≤au-bu∧av-bv≤au-bu∧cv-bv≤bu-cu∧bv-cv≤bu-cu)
section
variable {tn:Bool} {au av bu bv cu cv:Int} (T:Tri au av bu bv cu cv)
include T
theorem Tri.mid_in {u v:Int} (ha:Din tn au av u v) (hc:Din tn cu cv u v):Din tn bu bv u v:=by
 obtain⟨m⟩:=T
 unfold Din at*
 cases tn <;>simp only[if_true,Bool.false_eq_true,if_false]at* <;>omega
theorem Tri.out_next {u v u' v':Int} (ha:Din tn au av u v) (hn: ¬Cr au bu u) (hb: ¬Din tn bu bv u v) (hd:Din tn bu bv u' v') (hc: ¬Cr bu cu u') (hm: ∀x,¬Cr au bu x):Din tn cu cv u' v':=by
 have h1:=hm u'
 clear hm
 obtain⟨m⟩:=T
 unfold Din Cr at*
 cases tn <;>simp only[if_true,Bool.false_eq_true,if_false]at* <;>omega
theorem Tri.end_in {u v:Int} (hd:Din tn bu bv u v) (h1: ¬Cr au bu u) (h2: ¬Cr bu cu u):Din tn au av u v∨Din tn cu cv u v:=by
 obtain⟨m⟩:=T
 unfold Din Cr at*
 cases tn <;>simp only[if_true,Bool.false_eq_true,if_false]at* <;>omega
theorem Tri.both {u v x y:Int} (hd:Din tn bu bv u v) (h1:Cr au bu x) (h2:Cr bu cu y):Cr au bu u∨Cr bu cu u:=by
 obtain⟨m⟩:=T
 unfold Din Cr at*
 cases tn <;>simp only[if_true,Bool.false_eq_true,if_false]at* <;>omega
theorem Tri.fore {u v x:Int} (hd:Din tn bu bv u v) (h1:Cr au bu x):Cr au bu u∨Cr bu cu u∨Din tn cu cv u v:=by
 obtain⟨m⟩:=T
 unfold Din Cr at*
 cases tn <;>simp only[if_true,Bool.false_eq_true,if_false]at* <;>omega
theorem Tri.cr (u:Int):Cr au cu u↔Cr au bu u∨Cr bu cu u:=by
 obtain⟨m⟩:=T
 unfold Cr
 omega
theorem Tri.cr_not {u:Int} (h:Cr au bu u): ¬Cr bu cu u:=by
 obtain⟨m⟩:=T
 unfold Cr at*
 omega
end
theorem two_in {tn:Bool} {pu pv qu qv u v x:Int} (hp:Din tn pu pv u v) (hq:Din tn qu qv u v) (hx:Cr pu qu x):x=u:=by
 unfold Din Cr at*
 cases tn <;>simp only[if_true,Bool.false_eq_true,if_false]at* <;>omega
theorem Din.one {tn:Bool} {pu pv u v u' v':Int} (h:Din tn pu pv u v) (h':Din tn pu pv u' v'):u=u'∧v=v':=by
 unfold Din at*
 cases tn <;>simp only[if_true,Bool.false_eq_true,if_false]at* <;>omega
structure Parts (A B C:Way):Prop where
 au:B.au=A.au
 av:B.av=A.av
 bu:C.bu=A.bu
 bv:C.bv=A.bv
 mu:C.au=B.bu
 mv:C.av=B.bv
 tb:B.turned=A.turned
 tc:C.turned=A.turned
 kb:B.back=A.back
 kc:C.back=A.back
 oa:A.Ok
 ob:B.Ok
 oc:C.Ok
 lb: ∀u v,B.L u v↔A.L u v
 lc: ∀u v,C.L u v↔A.L u v
 dir:(B.au<B.bu∧C.au<C.bu)∨(B.bu<B.au∧C.bu<C.au)
namespace Parts
variable {A B C:Way} (S:Parts A B C)
include S
theorem tri:Tri A.au A.av B.bu B.bv A.bu A.bv:=by
 have h1:=S.ob.lo
 have h2:=S.ob.hi
 have h3:=S.oc.lo
 have h4:=S.oc.hi
 have hd:=S.dir
 unfold Way.du Way.dv at*
 rw[S.au,S.av]at h1 h2
 rw[S.mu,S.mv,S.bu,S.bv]at h3 h4
 rw[S.au,S.mu,S.bu]at hd
 constructor
 rcases hd with⟨d1,d2⟩|⟨d1,d2⟩
 ·rw[if_neg (by omega),if_neg (by omega)]at h1 h2 h3 h4
  omega
 ·rw[if_pos (by omega),if_pos (by omega)]at h1 h2 h3 h4
  omega
theorem ab (u:Int):B.across u=A.across u:=(Way.across_is S.ob.pos u _).2 ((S.lb u _).2 ((Way.across_is S.oa.pos u _).1 rfl))
theorem ac (u:Int):C.across u=A.across u:=(Way.across_is S.oc.pos u _).2 ((S.lc u _).2 ((Way.across_is S.oa.pos u _).1 rfl))
theorem sizes:A.size=B.size+C.size∧(∀n,n<B.size→A.mid n=B.mid n)∧(∀n,n<C.size→A.mid (B.size+n)=C.mid n):=by
 have hd:=S.dir
 have e1:=S.au
 have e2:=S.mu
 have e3:=S.bu
 unfold Way.mid Way.size Way.step Way.first Way.last lst
 rw[S.au,S.mu,S.bu]
 rw[S.au,S.mu,S.bu]at hd
 generalize A.au=a at*
 generalize B.bu=b at*
 generalize A.bu=c at*
 rcases hd with⟨d1,d2⟩|⟨d1,d2⟩
 ·have k1: ¬(c+127)/256<(a+127)/256:=by omega
  have k2: ¬(b+127)/256<(a+127)/256:=by omega
  have k3: ¬(c+127)/256<(b+127)/256:=by omega
  simp only[if_neg k1,if_neg k2,if_neg k3]
  refine⟨by omega,fun n hn=>by first|trivial|omega,fun n hn=>by omega⟩
 ·refine⟨?_,fun n hn=>?_,fun n hn=>?_⟩
  ·split <;>split <;>split <;>omega
  ·have k2:(b+127)/256<(a+127)/256:=by
    refine Classical.byContradiction fun k=>?_
    simp only[if_neg k]at hn
    omega
   have k1:(c+127)/256<(a+127)/256:=by omega
   simp only[if_pos k1,if_pos k2]
   rw[if_pos (by omega),if_pos (by omega)]
  ·have k3:(c+127)/256<(b+127)/256:=by
    refine Classical.byContradiction fun k=>?_
    simp only[if_neg k]at hn
    omega
   have k1:(c+127)/256<(a+127)/256:=by omega
   simp only[if_pos k1,if_pos k3]
   rw[if_pos (show(c+127)/256-1<(a+127)/256-1 by omega),if_pos (show(c+127)/256-1<(b+127)/256-1 by omega)]
   by_cases k2:(b+127)/256<(a+127)/256
   ·simp only[if_pos k2];omega
   ·simp only[if_neg k2];omega
end Parts
end Go.Proofs.YtplljnfjkkloeaaGreatDoor
set_option linter.unusedVariables false
set_option linter.unusedSimpArgs false
namespace Go.Proofs.YtplljnfjkkloeaaGreatDoor
theorem Tri.far {tn:Bool} {au av bu bv cu cv:Int} (T:Tri au av bu bv cu cv) {u v x:Int} (ha:Din tn au av u v) (h1:Cr au bu x) (h2:Cr bu cu u):False:=by
 obtain⟨m⟩:=T
 unfold Din Cr at*
 cases tn <;>simp only[if_true,Bool.false_eq_true,if_false]at* <;>omega
theorem small_ext {α:Type} {l m:List α} (hl:l.length≤1) (hm:m.length≤1) (h: ∀x,x∈l↔x∈m):l=m:=by
 match l,m,hl,hm with
 |[],[],_,_=>rfl
 |[],[y],_,_=>exact absurd ((h y).2 (List.mem_singleton.2 rfl)) (by simp)
 |[x],[],_,_=>exact absurd ((h x).1 (List.mem_singleton.2 rfl)) (by simp)
 |[x],[y],_,_=>rw[List.mem_singleton.1 ((h x).1 (List.mem_singleton.2 rfl))]
namespace Way
theorem head_le (W:Way):W.head.length≤1:=by rw[W.head_len];split <;>omega
def raw (W:Way):List (Int×Int):=(List.range W.size).map fun n=>(W.mid n,W.across (W.mid n))
theorem body_raw (W:Way):W.body=if W.open_=true then W.raw.dropLast else W.raw:=by
 unfold body raw many
 split
 ·rw[List.dropLast_eq_take,←List.map_take,List.take_range,List.length_map,List.length_range]
  congr 2
  omega
 ·rfl
theorem raw_last (W:Way) (h:0<W.size):W.raw.dropLast++[(W.last-W.step,W.across (W.last-W.step))]=W.raw:=by
 rw[W.last_is h]
 unfold raw
 obtain⟨k,hk⟩: ∃k,W.size=k+1:=⟨W.size-1,by omega⟩
 rw[hk,List.range_succ,List.map_append]
 simp
theorem size_cr (W:Way):0<W.size↔ ∃x,W.crossed x:=
 ⟨fun h=>⟨_,(W.crossed_is _).2 ⟨0,h,rfl⟩⟩,fun⟨x,hx⟩=>by obtain⟨n,hn,_⟩:=(W.crossed_is x).1 hx;omega⟩
theorem open_of {W:Way} (h:W.Ok) {u v:Int} (hi:W.inW W.bu W.bv u v) (hc:W.crossed u):W.open_=true∧u=W.last-W.step∧v=W.across (W.last-W.step):=by
 obtain⟨h1,h2⟩:=pb_last hi hc
 have hL:=(Way.across_is h.pos u v).2 (Way.in_meets h (.inr hi)).2.2
 refine⟨W.open_is.2 ⟨h1,?_⟩,h2,by rw[←h2,hL]⟩
 rw[←h2,hL]
 exact hi
end Way
namespace Parts
variable {A B C:Way} (S:Parts A B C)
include S
theorem raws:A.raw=B.raw++C.raw:=by
 obtain⟨h1,h2,h3⟩:=S.sizes
 unfold Way.raw
 rw[h1,List.range_add,List.map_append,List.map_map]
 congr 1
 ·apply List.map_congr_left
  intro n hn
  rw[h2 n (List.mem_range.1 hn),S.ab]
 ·apply List.map_congr_left
  intro n hn
  simp only[Function.comp_apply]
  rw[h3 n (List.mem_range.1 hn),S.ac]
omit S in
theorem inA (pu pv u v:Int):A.inW pu pv u v↔Din A.turned pu pv u v:=Iff.rfl
theorem inB (pu pv u v:Int):B.inW pu pv u v↔Din A.turned pu pv u v:=by rw[Way.inW_is,S.tb]
theorem inC (pu pv u v:Int):C.inW pu pv u v↔Din A.turned pu pv u v:=by rw[Way.inW_is,S.tc]
omit S in
theorem hA (u v:Int):(u,v)∈A.head↔ ¬Cr A.au A.bu u∧Din A.turned A.au A.av u v∧ ¬Din A.turned A.bu A.bv u v:=A.head_mem u v
theorem hB (u v:Int):(u,v)∈B.head↔ ¬Cr A.au B.bu u∧Din A.turned A.au A.av u v∧ ¬Din A.turned B.bu B.bv u v:=by
 rw[B.head_mem,S.inB,S.inB,Way.crossed_cr,S.au,S.av]
theorem hC (u v:Int):(u,v)∈C.head↔ ¬Cr B.bu A.bu u∧Din A.turned B.bu B.bv u v∧ ¬Din A.turned A.bu A.bv u v:=by
 rw[C.head_mem,S.inC,S.inC,Way.crossed_cr,S.mu,S.mv,S.bu,S.bv]
theorem crB (u:Int):B.crossed u↔Cr A.au B.bu u:=by rw[Way.crossed_cr,S.au]
theorem crC (u:Int):C.crossed u↔Cr B.bu A.bu u:=by rw[Way.crossed_cr,S.mu,S.bu]
theorem x1 {u v:Int} (ha:Din A.turned A.au A.av u v) (hc:Cr B.bu A.bu u):Din A.turned B.bu B.bv u v:=by
 have hL:A.L u v:=(Way.in_meets S.oa (.inl ha)).2.2
 have hm:=Way.cross_meets S.oc ((S.crC u).2 hc) ((S.lc u v).2 hL)
 obtain⟨m1,m2, -⟩:=hm
 rw[S.tc,S.mu,S.mv,S.bu,S.bv]at m2
 rw[S.mu,S.mv,S.bu,S.bv]at m1
 obtain⟨m⟩:=S.tri
 unfold Din Cr at*
 generalize A.turned=tn at*
 cases tn <;>simp only[if_true,Bool.false_eq_true,if_false]at* <;>omega
theorem x2 {u v:Int} (hb:Din A.turned A.bu A.bv u v) (hc:Cr A.au B.bu u):Din A.turned B.bu B.bv u v:=by
 have hL:A.L u v:=(Way.in_meets S.oa (.inr hb)).2.2
 have hm:=Way.cross_meets S.ob ((S.crB u).2 hc) ((S.lb u v).2 hL)
 obtain⟨m1,m2, -⟩:=hm
 rw[S.tb,S.au,S.av]at m2
 rw[S.au,S.av]at m1
 obtain⟨m⟩:=S.tri
 unfold Din Cr at*
 generalize A.turned=tn at*
 cases tn <;>simp only[if_true,Bool.false_eq_true,if_false]at* <;>omega
theorem head_some (hx:0<B.size):A.head=B.head:=by
 obtain⟨x,hx⟩:=B.size_cr.1 hx
 rw[S.crB]at hx
 refine small_ext A.head_le B.head_le fun⟨u,v⟩=>?_
 rw[hA,S.hB]
 constructor
 ·rintro⟨h1,h2,h3⟩
  rw[S.tri.cr]at h1
  refine⟨fun h=>h1 (.inl h),h2,fun h=>?_⟩
  have:=two_in h2 h hx
  subst this
  exact h1 (.inl hx)
 ·rintro⟨h1,h2,h3⟩
  refine⟨fun h=>?_,h2,fun h=>h3 (S.tri.mid_in h2 h)⟩
  rcases(S.tri.cr u).1 h with h|h
  ·exact h1 h
  ·exact S.tri.far h2 hx h
theorem head_none (hx:B.size=0):A.head=B.head++C.head:=by
 have hn: ∀x,¬Cr A.au B.bu x:=fun x h=>by
  have:=B.size_cr.2 ⟨x,(S.crB x).2 h⟩
  omega
 have hexc: ∀p q,p∈B.head→q∈C.head→False:=by
  rintro⟨u,v⟩ ⟨u',v'⟩ hp hq
  obtain⟨h1,h2,h3⟩:=(S.hB u v).1 hp
  obtain⟨k1,k2,k3⟩:=(S.hC u' v').1 hq
  exact k3 (S.tri.out_next h2 h1 h3 k2 k1 hn)
 refine small_ext A.head_le ?_ fun⟨u,v⟩=>?_
 ·rw[List.length_append]
  have h1:=B.head_le
  have h2:=C.head_le
  rcases hb:B.head with _|⟨p,l⟩
  ·simp only[List.length_nil];omega
  ·rcases hc:C.head with _|⟨q,m⟩
   ·rw[hb]at h1;simp only[List.length_nil];omega
   ·exact absurd (hexc p q (by rw[hb];simp) (by rw[hc];simp)) id
 ·rw[List.mem_append,hA,S.hB,S.hC]
  constructor
  ·rintro⟨h1,h2,h3⟩
   rw[S.tri.cr]at h1
   by_cases hb:Din A.turned B.bu B.bv u v
   ·exact .inr ⟨fun h=>h1 (.inr h),hb,h3⟩
   ·exact .inl ⟨fun h=>h1 (.inl h),h2,hb⟩
  ·rintro(⟨h1,h2,h3⟩|⟨h1,h2,h3⟩)
   ·refine⟨fun h=>?_,h2,fun h=>h3 (S.tri.mid_in h2 h)⟩
    rcases(S.tri.cr u).1 h with h|h
    ·exact h1 h
    ·exact h3 (S.x1 h2 h)
   ·refine⟨fun h=>?_,?_,h3⟩
    ·rcases(S.tri.cr u).1 h with h|h
     ·exact hn u h
     ·exact h1 h
    ·rcases S.tri.end_in h2 (hn u) h1 with h|h
     ·exact h
     ·exact absurd h h3
theorem openB_of {u v:Int} (h:(u,v)∈C.head) (hc:Cr A.au B.bu u):B.open_=true:=by
 obtain⟨h1,h2,h3⟩:=(S.hC u v).1 h
 exact(Way.open_of S.ob ((S.inB _ _ _ _).2 h2) ((S.crB u).2 hc)).1
theorem openB_in (h:B.open_=true):0<B.size∧Cr A.au B.bu (B.last-B.step)∧Din A.turned B.bu B.bv (B.last-B.step) (B.across (B.last-B.step)):=by
 obtain⟨h1,h2⟩:=B.open_is.1 h
 refine⟨h1,(S.crB _).1 ?_,(S.inB _ _ _ _).1 h2⟩
 rw[B.last_is h1]
 exact(B.crossed_is _).2 ⟨_,by omega,rfl⟩
theorem body_some (hb:0<B.size) (hc:0<C.size):B.raw=B.body++C.head:=by
 obtain⟨y,hy⟩:=C.size_cr.1 hc
 obtain⟨x,hx⟩:=B.size_cr.1 hb
 rw[S.crC]at hy
 rw[S.crB]at hx
 rw[B.body_raw]
 split
 ·rename_i ho
  obtain⟨-,k1,k2⟩:=S.openB_in ho
  have hh:C.head=[(B.last-B.step,B.across (B.last-B.step))]:=by
   refine small_ext C.head_le (by simp) fun⟨u,v⟩=>?_
   rw[S.hC,List.mem_singleton,Prod.mk.injEq]
   constructor
   ·rintro⟨h1,h2,h3⟩
    exact Din.one h2 k2
   ·rintro⟨rfl,rfl⟩
    refine⟨S.tri.cr_not k1,k2,fun h=>?_⟩
    have:=two_in k2 h hy
    subst this
    exact S.tri.cr_not k1 hy
  rw[hh,B.raw_last hb]
 ·rename_i ho
  have hh:C.head=[]:=by
   refine small_ext C.head_le (by simp) fun⟨u,v⟩=>⟨fun h=>?_,fun h=>by cases h⟩
   obtain⟨h1,h2,h3⟩:=(S.hC u v).1 h
   rcases S.tri.both h2 hx hy with k|k
   ·exact absurd (S.openB_of h k) ho
   ·exact absurd k h1
  rw[hh,List.append_nil]
theorem open_some (hc:0<C.size):A.open_=C.open_:=by
 obtain⟨h1,h2,h3⟩:=S.sizes
 rw[Bool.eq_iff_iff,A.open_is,C.open_is,S.inC,inA,S.bu,S.bv]
 have e:A.last-A.step=C.last-C.step:=by
  rw[A.last_is (by omega),C.last_is hc,←h3 (C.size-1) (by omega)]
  congr 1
  omega
 rw[e,S.ac]
 constructor
 ·rintro⟨_,k⟩;exact⟨hc,k⟩
 ·rintro⟨_,k⟩;exact⟨by omega,k⟩
theorem body_none (hb:0<B.size) (hc:C.size=0):A.body=B.body++C.head:=by
 obtain⟨h1,h2,h3⟩:=S.sizes
 have hn: ∀x,¬Cr B.bu A.bu x:=fun x h=>by
  have:=C.size_cr.2 ⟨x,(S.crC x).2 h⟩
  omega
 obtain⟨x,hx⟩:=B.size_cr.1 hb
 rw[S.crB]at hx
 have hrC:C.raw=[]:=by unfold Way.raw;rw[hc];rfl
 have hr:A.raw=B.raw:=by rw[S.raws,hrC,List.append_nil]
 have e:A.last-A.step=B.last-B.step:=by
  rw[A.last_is (by omega),B.last_is hb,←h2 (B.size-1) (by omega)]
  congr 1
  omega
 have oA:A.open_=true↔Din A.turned A.bu A.bv (B.last-B.step) (B.across (B.last-B.step)):=by
  rw[A.open_is,inA,e,S.ab]
  exact⟨fun h=>h.2,fun h=>⟨by omega,h⟩⟩
 rw[A.body_raw,B.body_raw,hr]
 by_cases ob:B.open_=true
 ·rw[if_pos ob]
  obtain⟨-,k1,k2⟩:=S.openB_in ob
  by_cases oa:A.open_=true
  ·rw[if_pos oa]
   have hh:C.head=[]:=by
    refine small_ext C.head_le (by simp) fun⟨u,v⟩=>⟨fun h=>?_,fun h=>by cases h⟩
    obtain⟨h1,h2,h3⟩:=(S.hC u v).1 h
    obtain⟨rfl,rfl⟩:=Din.one h2 k2
    exact absurd (oA.1 oa) h3
   rw[hh,List.append_nil]
  ·rw[if_neg oa]
   have hh:C.head=[(B.last-B.step,B.across (B.last-B.step))]:=by
    refine small_ext C.head_le (by simp) fun⟨u,v⟩=>?_
    rw[S.hC,List.mem_singleton,Prod.mk.injEq]
    constructor
    ·rintro⟨h1,h2,h3⟩
     exact Din.one h2 k2
    ·rintro⟨rfl,rfl⟩
     exact⟨hn _,k2,fun h=>oa (oA.2 h)⟩
   rw[hh,B.raw_last hb]
 ·rw[if_neg ob]
  by_cases oa:A.open_=true
  ·exfalso
   have k:=oA.1 oa
   have k1:Cr A.au B.bu (B.last-B.step):=(S.crB _).1 ((B.crossed_is _).2 ⟨B.size-1,by omega,B.last_is hb⟩)
   have:=S.x2 k k1
   exact ob (B.open_is.2 ⟨hb,(S.inB _ _ _ _).2 this⟩)
  ·rw[if_neg oa]
   have hh:C.head=[]:=by
    refine small_ext C.head_le (by simp) fun⟨u,v⟩=>⟨fun h=>?_,fun h=>by cases h⟩
    obtain⟨h1,h2,h3⟩:=(S.hC u v).1 h
    rcases S.tri.fore h2 hx with k|k|k
    ·exact absurd (S.openB_of h k) ob
    ·exact absurd k h1
    ·exact absurd k h3
   rw[hh,List.append_nil]
theorem pix:A.pix=B.pix++C.pix:=by
 unfold Way.pix
 rcases Nat.eq_zero_or_pos B.size with hb|hb
 ·have hrB:B.raw=[]:=by unfold Way.raw;rw[hb];rfl
  have hbB:B.body=[]:=by rw[B.body_raw,hrB];split <;>rfl
  have hbA:A.body=C.body:=by
   rw[A.body_raw,C.body_raw,S.raws,hrB,List.nil_append]
   rcases Nat.eq_zero_or_pos C.size with hc|hc
   ·have hrC:C.raw=[]:=by unfold Way.raw;rw[hc];rfl
    rw[hrC]
    split <;>split <;>rfl
   ·rw[S.open_some hc]
  rw[S.head_none hb,hbA,hbB]
  simp
 ·rw[S.head_some hb]
  rcases Nat.eq_zero_or_pos C.size with hc|hc
  ·have hrC:C.raw=[]:=by unfold Way.raw;rw[hc];rfl
   have hbC:C.body=[]:=by rw[C.body_raw,hrC];split <;>rfl
   rw[S.body_none hb hc,hbC]
   simp
  ·rw[A.body_raw,S.open_some hc,S.raws,S.body_some hb hc,C.body_raw]
   split
   ·have hne:C.raw≠[]:=by
     intro h
     have:=congrArg List.length h
     unfold Way.raw at this
     simp at this
     omega
    rw[List.dropLast_append_of_ne_nil hne]
    simp
   ·simp
end Parts
end Go.Proofs.YtplljnfjkkloeaaGreatDoor
