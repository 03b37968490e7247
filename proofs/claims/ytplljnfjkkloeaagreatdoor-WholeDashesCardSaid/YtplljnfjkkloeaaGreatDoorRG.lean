/- Proof text: a vertex placed (drawing.place). By an AI agent. No condition beyond what each theorem states. -/
import Derived.Test.YtplljnfjkkloeaaGreatDoorSL
import Derived.Test.YtplljnfjkkloeaaGreatDoorQR
import Derived.RegionTactic
import Derived.Deep.CutRange
set_option linter.unusedVariables false
set_option linter.unusedSimpArgs false
set_option maxHeartbeats 8000000
namespace Go.Proofs.YtplljnfjkkloeaaGreatDoor
attribute [local go_sem] Go.Oper.semAt_some
open Go.RowKit
set_option maxRecDepth 100000 in
theorem place_any {T:TypeId} {D:Nat} {ds:Array Value} (v:Vx) (p:Rc) (w:World) (hD:Blk w D T ds) (e0:ds[10]? =some (.int .i64 p.x0)) (e1:ds[11]? =some (.int .i64 p.y0)) (e2:ds[12]? =some (.int .i64 p.x1)) (e3:ds[13]? =some (.int .i64 p.y1))
  (hv:v.Seen)(hp:p.Port)(hx: -268435456≤(vmap v p).x∧(vmap v p).x≤268435456)(hy: -268435456≤(vmap v p).y∧(vmap v p).y≤268435456):
  Calls Tryz.prog 87 #[.pointer (some ⟨D,0,none⟩),v.v] w fun e w'=>e=.returned (vmap v p).v∧Ext w w':=by
 have HMA:=Lib.hid (fun wz=>map_any v p wz hv hp hx hy)
 generalize vmap v p=r at*
 have HPC:Hid (∀wz,Ext w wz→wz.cell? ⟨D,10,none⟩=some (.int .i64 p.x0)∧wz.cell? ⟨D,11,none⟩=some (.int .i64 p.y0)∧wz.cell? ⟨D,12,none⟩=some (.int .i64 p.x1)∧wz.cell? ⟨D,13,none⟩=some (.int .i64 p.y1)):=
  Lib.hid (fun wz e=>⟨((hD.ext e).cell 10).trans e0,((hD.ext e).cell 11).trans e1,((hD.ext e).cell 12).trans e2,((hD.ext e).cell 13).trans e3⟩)
 have HV0:Hid (Blk ((w.alloc (.cells #[.int .i64 v.x,.int .i64 v.y,.int .i64 v.z,.int .i64 v.w,.int .i64 v.c0,.int .i64 v.c1,.int .i64 v.c2,.int .i64 v.c3] 149)).alloc (.cells #[.int .i64 0,.int .i64 0,.int .i64 0,.int .i64 0,.int .i64 0,.int .i64 0,.int .i64 0] 177)) w.heap.size 149 #[.int .i64 v.x,.int .i64 v.y,.int .i64 v.z,.int .i64 v.w,.int .i64 v.c0,.int .i64 v.c1,.int .i64 v.c2,.int .i64 v.c3]):=Lib.hid (by(repeat(first|with_reducible exact Hid.out (by assumption)|(with_reducible refine Blk.new' _ _ _ ?_;(simp;done))|with_reducible(first|refine Blk.alloc ?_ _|refine Blk.drew ?_|refine Blk.drewN ?_ _|refine Blk.later ?_ _)|(with_reducible refine Blk.far ?_ ?hp _;case hp=>first|(simp;done)|(simp;omega)|omega))))
 have HR0:Hid (Blk ((w.alloc (.cells #[.int .i64 v.x,.int .i64 v.y,.int .i64 v.z,.int .i64 v.w,.int .i64 v.c0,.int .i64 v.c1,.int .i64 v.c2,.int .i64 v.c3] 149)).alloc (.cells #[.int .i64 0,.int .i64 0,.int .i64 0,.int .i64 0,.int .i64 0,.int .i64 0,.int .i64 0] 177)) (w.heap.size+1) 177 #[.int .i64 0,.int .i64 0,.int .i64 0,.int .i64 0,.int .i64 0,.int .i64 0,.int .i64 0]):=Lib.hid (by(repeat(first|with_reducible exact Hid.out (by assumption)|(with_reducible refine Blk.new' _ _ _ ?_;(simp;done))|with_reducible(first|refine Blk.alloc ?_ _|refine Blk.drew ?_|refine Blk.drewN ?_ _|refine Blk.later ?_ _)|(with_reducible refine Blk.far ?_ ?hp _;case hp=>first|(simp;done)|(simp;omega)|omega))))
 have HE0:Hid (Ext w ((w.alloc (.cells #[.int .i64 v.x,.int .i64 v.y,.int .i64 v.z,.int .i64 v.w,.int .i64 v.c0,.int .i64 v.c1,.int .i64 v.c2,.int .i64 v.c3] 149)).alloc (.cells #[.int .i64 0,.int .i64 0,.int .i64 0,.int .i64 0,.int .i64 0,.int .i64 0,.int .i64 0] 177))):=Lib.hid (by(repeat(first|with_reducible(first|exact eR_ _|assumption|refine eA_ ?_ _|refine eD_ ?_|refine eN_ ?_ _|refine eL_ ?_ _)|(with_reducible refine eS_ ?_ _ ?hp;case hp=>first|(simp;done)|(simp;omega)|omega))))
 clear hD e0 e1 e2 e3 hv hp hx hy
 go_enter Tryz.func87,Tryz.ntmps87
 go_upto_region 1 with fail
 generalize(w.alloc (.cells #[.int .i64 v.x,.int .i64 v.y,.int .i64 v.z,.int .i64 v.w,.int .i64 v.c0,.int .i64 v.c1,.int .i64 v.c2,.int .i64 v.c3] 149)).alloc (.cells #[.int .i64 0,.int .i64 0,.int .i64 0,.int .i64 0,.int .i64 0,.int .i64 0,.int .i64 0] 177)=W0 at*
 have HSS:Hid (∀w',Ext W0 w'→(w'.cell? ⟨w.heap.size,0,none⟩=some (.int .i64 v.x)∧w'.cell? ⟨w.heap.size,1,none⟩=some (.int .i64 v.y)∧w'.cell? ⟨w.heap.size,2,none⟩=some (.int .i64 v.z)∧w'.cell? ⟨w.heap.size,3,none⟩=some (.int .i64 v.w)∧w'.cell? ⟨w.heap.size,4,none⟩=some (.int .i64 v.c0)∧w'.cell? ⟨w.heap.size,5,none⟩=some (.int .i64 v.c1)∧w'.cell? ⟨w.heap.size,6,none⟩=some (.int .i64 v.c2)∧w'.cell? ⟨w.heap.size,7,none⟩=some (.int .i64 v.c3))∧
   w'.cell? ⟨D,10,none⟩=some (.int .i64 p.x0)∧w'.cell? ⟨D,11,none⟩=some (.int .i64 p.y0)∧w'.cell? ⟨D,12,none⟩=some (.int .i64 p.x1)∧w'.cell? ⟨D,13,none⟩=some (.int .i64 p.y1)):=Lib.hid (fun w' e=>⟨(HV0.out.ext e).c8,HPC.out _ (HE0.out.trans e)⟩)
 go_region_held3 (fun w'=>(w'.cell? ⟨w.heap.size,0,none⟩=some (.int .i64 v.x)∧w'.cell? ⟨w.heap.size,1,none⟩=some (.int .i64 v.y)∧w'.cell? ⟨w.heap.size,2,none⟩=some (.int .i64 v.z)∧w'.cell? ⟨w.heap.size,3,none⟩=some (.int .i64 v.w)∧w'.cell? ⟨w.heap.size,4,none⟩=some (.int .i64 v.c0)∧w'.cell? ⟨w.heap.size,5,none⟩=some (.int .i64 v.c1)∧w'.cell? ⟨w.heap.size,6,none⟩=some (.int .i64 v.c2)∧w'.cell? ⟨w.heap.size,7,none⟩=some (.int .i64 v.c3))∧
   w'.cell? ⟨D,10,none⟩=some (.int .i64 p.x0)∧w'.cell? ⟨D,11,none⟩=some (.int .i64 p.y0)∧w'.cell? ⟨D,12,none⟩=some (.int .i64 p.x1)∧w'.cell? ⟨D,13,none⟩=some (.int .i64 p.y1))
  (exact HSS.out _ (by(repeat(first|with_reducible(first|exact eR_ _|assumption|refine eA_ ?_ _|refine eD_ ?_|refine eN_ ?_ _|refine eL_ ?_ _)|(with_reducible refine eS_ ?_ _ ?hp;case hp=>first|(simp;done)|(simp;omega)|omega)))))
  (first
   |(go_at_call 126;refine(HMA.out _).mono ?_;rintro e w1 ⟨rfl,hE⟩;obtain⟨y1,rfl⟩:=Later.mk' hE;clear hE))
 ·have HYE:Hid (Ext W0 y1.w):=Lib.hid (by(repeat(first|with_reducible(first|exact eR_ _|assumption|refine eA_ ?_ _|refine eD_ ?_|refine eN_ ?_ _|refine eL_ ?_ _)|(with_reducible refine eS_ ?_ _ ?hp;case hp=>first|(simp;done)|(simp;omega)|omega))))
  have HF3:Hid (Blk (y1.w.alloc (.cells #[.int .i64 r.x,.int .i64 r.y,.int .i64 r.z,.int .i64 r.c0,.int .i64 r.c1,.int .i64 r.c2,.int .i64 r.c3] 177)) y1.w.heap.size 177 #[.int .i64 r.x,.int .i64 r.y,.int .i64 r.z,.int .i64 r.c0,.int .i64 r.c1,.int .i64 r.c2,.int .i64 r.c3]):=Lib.hid (Blk.new _ _ _)
  have HR3:Hid (Blk (y1.w.alloc (.cells #[.int .i64 r.x,.int .i64 r.y,.int .i64 r.z,.int .i64 r.c0,.int .i64 r.c1,.int .i64 r.c2,.int .i64 r.c3] 177)) (w.heap.size+1) 177 #[.int .i64 0,.int .i64 0,.int .i64 0,.int .i64 0,.int .i64 0,.int .i64 0,.int .i64 0]):=Lib.hid ((HR0.out.ext HYE.out).alloc _)
  have HE3:Hid (Ext w (y1.w.alloc (.cells #[.int .i64 r.x,.int .i64 r.y,.int .i64 r.z,.int .i64 r.c0,.int .i64 r.c1,.int .i64 r.c2,.int .i64 r.c3] 177))):=Lib.hid ((HE0.out.trans HYE.out).alloc _)
  clear HSS HMA HPC HV0 HR0 HE0 HYE
  generalize(y1.w.alloc (.cells #[.int .i64 r.x,.int .i64 r.y,.int .i64 r.z,.int .i64 r.c0,.int .i64 r.c1,.int .i64 r.c2,.int .i64 r.c3] 177))=W3 at*
  generalize y1.w.heap.size=E at*
  have cf:=HF3.out.c7
  have cr:=HR3.out.c7
  have fr:=HR3.out.f7
  go_wp2_with (go_at_call 77;refine(need_yes 9 _).mono ?_;rintro e w1 ⟨rfl,rfl⟩)
  have HZ:=HR3.out.s7 (.int .i64 r.x) (.int .i64 r.y) (.int .i64 r.z) (.int .i64 r.c0) (.int .i64 r.c1) (.int .i64 r.c2) (.int .i64 r.c3)
  have HE:=HE3.out
  obtain⟨z0,z1,z2,z3,z4,z5,z6⟩:=HZ.c7
  refine bodyPost_ret (v:=r.v) (by simp[results,Tryz.results87,go_sem,z0,z1,z2,z3,z4,z5,z6]) rfl ⟨rfl,by(repeat(first|with_reducible(first|exact eR_ _|assumption|refine eA_ ?_ _|refine eD_ ?_|refine eN_ ?_ _|refine eL_ ?_ _)|(with_reducible refine eS_ ?_ _ ?hp;case hp=>first|(simp;done)|(simp;omega)|omega)))⟩
 ·have HYE:Hid (Ext (W0.alloc (.cells #[.int .i64 0,.int .i64 0,.int .i64 0,.int .i64 0,.int .i64 0,.int .i64 0,.int .i64 0] 177)) y1.w):=Lib.hid (by(repeat(first|with_reducible(first|exact eR_ _|assumption|refine eA_ ?_ _|refine eD_ ?_|refine eN_ ?_ _|refine eL_ ?_ _)|(with_reducible refine eS_ ?_ _ ?hp;case hp=>first|(simp;done)|(simp;omega)|omega))))
  have HB1:=(Blk.new W0 177 #[.int .i64 0,.int .i64 0,.int .i64 0,.int .i64 0,.int .i64 0,.int .i64 0,.int .i64 0]).ext HYE.out
  have HF3:Hid (Blk (((((((y1.w.setCell ⟨W0.heap.size,0,none⟩ (.int .i64 r.x)).setCell ⟨W0.heap.size,1,none⟩ (.int .i64 r.y)).setCell ⟨W0.heap.size,2,none⟩ (.int .i64 r.z)).setCell ⟨W0.heap.size,3,none⟩ (.int .i64 r.c0)).setCell ⟨W0.heap.size,4,none⟩ (.int .i64 r.c1)).setCell ⟨W0.heap.size,5,none⟩ (.int .i64 r.c2)).setCell ⟨W0.heap.size,6,none⟩ (.int .i64 r.c3)) W0.heap.size 177 #[.int .i64 r.x,.int .i64 r.y,.int .i64 r.z,.int .i64 r.c0,.int .i64 r.c1,.int .i64 r.c2,.int .i64 r.c3]):=Lib.hid (HB1.s7 _ _ _ _ _ _ _)
  have hlt:=HR0.out.lt
  have HR2:=(HR0.out.alloc (.cells #[.int .i64 0,.int .i64 0,.int .i64 0,.int .i64 0,.int .i64 0,.int .i64 0,.int .i64 0] 177)).ext HYE.out
  have kk:Kp (·≠W0.heap.size) y1.w (((((((y1.w.setCell ⟨W0.heap.size,0,none⟩ (.int .i64 r.x)).setCell ⟨W0.heap.size,1,none⟩ (.int .i64 r.y)).setCell ⟨W0.heap.size,2,none⟩ (.int .i64 r.z)).setCell ⟨W0.heap.size,3,none⟩ (.int .i64 r.c0)).setCell ⟨W0.heap.size,4,none⟩ (.int .i64 r.c1)).setCell ⟨W0.heap.size,5,none⟩ (.int .i64 r.c2)).setCell ⟨W0.heap.size,6,none⟩ (.int .i64 r.c3)):=(((((((Kp.refl _ _).setCell (p:=⟨W0.heap.size,0,none⟩) _ (fun h=>h rfl)).setCell (p:=⟨W0.heap.size,1,none⟩) _ (fun h=>h rfl)).setCell (p:=⟨W0.heap.size,2,none⟩) _ (fun h=>h rfl)).setCell (p:=⟨W0.heap.size,3,none⟩) _ (fun h=>h rfl)).setCell (p:=⟨W0.heap.size,4,none⟩) _ (fun h=>h rfl)).setCell (p:=⟨W0.heap.size,5,none⟩) _ (fun h=>h rfl)).setCell (p:=⟨W0.heap.size,6,none⟩) _ (fun h=>h rfl)
  have HR3:Hid (Blk (((((((y1.w.setCell ⟨W0.heap.size,0,none⟩ (.int .i64 r.x)).setCell ⟨W0.heap.size,1,none⟩ (.int .i64 r.y)).setCell ⟨W0.heap.size,2,none⟩ (.int .i64 r.z)).setCell ⟨W0.heap.size,3,none⟩ (.int .i64 r.c0)).setCell ⟨W0.heap.size,4,none⟩ (.int .i64 r.c1)).setCell ⟨W0.heap.size,5,none⟩ (.int .i64 r.c2)).setCell ⟨W0.heap.size,6,none⟩ (.int .i64 r.c3)) (w.heap.size+1) 177 #[.int .i64 0,.int .i64 0,.int .i64 0,.int .i64 0,.int .i64 0,.int .i64 0,.int .i64 0]):=Lib.hid (HR2.kp kk (by omega))
  have hs0:=HE0.out.size
  have HE3:Hid (Ext w (((((((y1.w.setCell ⟨W0.heap.size,0,none⟩ (.int .i64 r.x)).setCell ⟨W0.heap.size,1,none⟩ (.int .i64 r.y)).setCell ⟨W0.heap.size,2,none⟩ (.int .i64 r.z)).setCell ⟨W0.heap.size,3,none⟩ (.int .i64 r.c0)).setCell ⟨W0.heap.size,4,none⟩ (.int .i64 r.c1)).setCell ⟨W0.heap.size,5,none⟩ (.int .i64 r.c2)).setCell ⟨W0.heap.size,6,none⟩ (.int .i64 r.c3))):=Lib.hid (kk.ext ((HE0.out.alloc _).trans HYE.out) (fun j hj=>by omega))
  clear HSS HMA HPC HV0 HR0 HE0 HYE HR2 HB1 kk
  generalize(((((((y1.w.setCell ⟨W0.heap.size,0,none⟩ (.int .i64 r.x)).setCell ⟨W0.heap.size,1,none⟩ (.int .i64 r.y)).setCell ⟨W0.heap.size,2,none⟩ (.int .i64 r.z)).setCell ⟨W0.heap.size,3,none⟩ (.int .i64 r.c0)).setCell ⟨W0.heap.size,4,none⟩ (.int .i64 r.c1)).setCell ⟨W0.heap.size,5,none⟩ (.int .i64 r.c2)).setCell ⟨W0.heap.size,6,none⟩ (.int .i64 r.c3))=W3 at*
  generalize W0.heap.size=E at*
  clear hlt hs0
  have cf:=HF3.out.c7
  have cr:=HR3.out.c7
  have fr:=HR3.out.f7
  go_wp2_with (go_at_call 77;refine(need_yes 9 _).mono ?_;rintro e w1 ⟨rfl,rfl⟩)
  have HZ:=HR3.out.s7 (.int .i64 r.x) (.int .i64 r.y) (.int .i64 r.z) (.int .i64 r.c0) (.int .i64 r.c1) (.int .i64 r.c2) (.int .i64 r.c3)
  have HE:=HE3.out
  obtain⟨z0,z1,z2,z3,z4,z5,z6⟩:=HZ.c7
  refine bodyPost_ret (v:=r.v) (by simp[results,Tryz.results87,go_sem,z0,z1,z2,z3,z4,z5,z6]) rfl ⟨rfl,by(repeat(first|with_reducible(first|exact eR_ _|assumption|refine eA_ ?_ _|refine eD_ ?_|refine eN_ ?_ _|refine eL_ ?_ _)|(with_reducible refine eS_ ?_ _ ?hp;case hp=>first|(simp;done)|(simp;omega)|omega)))⟩
end Go.Proofs.YtplljnfjkkloeaaGreatDoor
set_option linter.unusedVariables false
set_option linter.unusedSimpArgs false
namespace Go.Proofs.YtplljnfjkkloeaaGreatDoor
attribute [local go_sem] Go.Oper.semAt_some
open Go.RowKit
set_option maxRecDepth 100000 in
theorem fline_look (a b:Wv) (n:Nat) (dashed:Bool) (d:Da) (r:Rc) (ks:Array Value) (w:World) (ha:a.Fits) (hb:b.Fits) (hd:d.Ok) (hr:r.Ok) (n0:1≤n) (n1:n≤64) (k0:ks[0]? =some (.int .i64 (n:Int))) (k1:ks[1]? =some (.bool false)) (k2:ks[2]? =some (.bool dashed)):
  Calls Tryz.prog 89 #[a.v,b.v,.agg ks,d.v,r.v] w fun e w'=>
   ∃v,e=.returned (.tuple #[v,(wnext dashed d (wcount a b n)).v])∧w'.ownsRow w.heap.size 68 8 v (wlist a b n dashed d r).length ((wlist a b n dashed d r).flatMap Fr.cells)∧Ext w w':=by
 have HWL:=Lib.hid (fun w=>wline_any a b n dashed d r w ha hb hd hr n0 n1)
 have K0:=Lib.hid k0
 have K1:=Lib.hid k1
 have K2:=Lib.hid k2
 clear ha hb hd hr n0 n1 k0 k1 k2
 go_enter Tryz.func89,Tryz.ntmps89
 go_upto_region 1 with fail
 have HKB:Hid (Blk ((((((w.alloc (.cells a.row 177)).alloc (.cells b.row 177)).alloc (.cells ks 46)).alloc (.cells #[.int .i64 d.bits,.int .i64 d.every,.int .i64 d.done] 44)).alloc (.cells r.row 48)).alloc (.cells #[.int .i64 0,.int .i64 0,.int .i64 0] 44)) (w.heap.size+1+1) 46 ks):=Lib.hid (by(repeat(first|with_reducible exact Hid.out (by assumption)|(with_reducible refine Blk.new' _ _ _ ?_;(simp;done))|with_reducible(first|refine Blk.alloc ?_ _|refine Blk.drew ?_|refine Blk.drewN ?_ _|refine Blk.later ?_ _)|(with_reducible refine Blk.far ?_ ?hp _;case hp=>first|(simp;done)|(simp;omega)|omega))))
 have c0:=(HKB.out.cell 0).trans K0.out
 have c1:=(HKB.out.cell 1).trans K1.out
 have c2:=(HKB.out.cell 2).trans K2.out
 go_wp2_with fail
 refine(HWL.out _).mono ?_
 rintro e w1 ⟨v,rfl,ho,hE⟩
 obtain⟨x,rfl⟩:=Later.mk' hE
 clear hE c0 c1 c2
 have HEX:Hid (Ext w x.w):=Lib.hid (by(repeat(first|with_reducible(first|exact eR_ _|assumption|refine eA_ ?_ _|refine eD_ ?_|refine eN_ ?_ _|refine eL_ ?_ _)|(with_reducible refine eS_ ?_ _ ?hp;case hp=>first|(simp;done)|(simp;omega)|omega))))
 have HB:Hid (Blk x.w (w.heap.size+1+1+1+1+1) 44 #[.int .i64 0,.int .i64 0,.int .i64 0]):=Lib.hid (by(repeat(first|with_reducible exact Hid.out (by assumption)|(with_reducible refine Blk.new' _ _ _ ?_;(simp;done))|with_reducible(first|refine Blk.alloc ?_ _|refine Blk.drew ?_|refine Blk.drewN ?_ _|refine Blk.later ?_ _)|(with_reducible refine Blk.far ?_ ?hp _;case hp=>first|(simp;done)|(simp;omega)|omega))))
 have HO:=Lib.hid (ownsRow_base (base':=w.heap.size) ho (by simp;omega))
 obtain⟨sa,sc,rfl, -⟩:=ownsRow_rd ho
 clear ho
 have cz:=HB.out.c3
 have fz:=HB.out.f3
 generalize x.w=w2 at*
 generalize hq:wnext dashed d (wcount a b n)=q at*
 have HQ:=Lib.hid hq
 clear hq HKB
 go_wp2_with fail
 have HZ:=Lib.hid (HB.out.s3 (.int .i64 q.bits) (.int .i64 q.every) (.int .i64 q.done))
 have hOW:=own_kp HO.out ((((Kp.refl (·≠w.heap.size+1+1+1+1+1) w2).setCell (p:=⟨w.heap.size+1+1+1+1+1,0,none⟩) (.int .i64 q.bits) (fun h=>h rfl)).setCell (p:=⟨w.heap.size+1+1+1+1+1,1,none⟩) (.int .i64 q.every) (fun h=>h rfl)).setCell (p:=⟨w.heap.size+1+1+1+1+1,2,none⟩) (.int .i64 q.done) (fun h=>h rfl)) (fun k hk e=>own_ne_blk HO.out HB.out (by decide) (by rw[hk,e]))
 have HE:Ext w (((w2.setCell ⟨w.heap.size+1+1+1+1+1,0,none⟩ (.int .i64 q.bits)).setCell ⟨w.heap.size+1+1+1+1+1,1,none⟩ (.int .i64 q.every)).setCell ⟨w.heap.size+1+1+1+1+1,2,none⟩ (.int .i64 q.done)):=
  ((HEX.out.setCell _ (by simp;omega)).setCell _ (by simp;omega)).setCell _ (by simp;omega)
 refine bodyPost_ret (results_tmp_cell rfl _ _ _ (ad:=⟨w.heap.size+1+1+1+1+1,0,none⟩) rfl (run_load_blk HZ.out 44 0 3 agg_dash (by kernel_rfl) (by simp))) rfl ⟨.slice sa (wlist a b n dashed d r).length sc,?_,hOW,HE⟩
 first|rfl|(rw[HQ.out];rfl)
end Go.Proofs.YtplljnfjkkloeaaGreatDoor
set_option linter.unusedVariables false
set_option linter.unusedSimpArgs false
namespace Go.Proofs.YtplljnfjkkloeaaGreatDoor
attribute [local go_sem] Go.Oper.semAt_some
open Go.RowKit
theorem fcells_one (L:List Fr): ∀u∈L.flatMap Fr.cells,u.oneCell'=true:=by
 intro u hu
 obtain⟨f, -,hf⟩:=List.mem_flatMap.1 hu
 simp only[Fr.cells,List.mem_cons,List.not_mem_nil,or_false]at hf
 rcases hf with rfl|rfl|rfl|rfl|rfl|rfl|rfl|rfl <;>rfl
set_option maxRecDepth 100000 in
theorem add_any {T:TypeId} {D:Nat} {ds:Array Value} {base:Nat} {v:Value} (L M:List Fr) (a:Option Addr) (cap:Nat) (w:World) (hD:Blk w D T ds) (hT:T≠68) (e:ds[102]? =some v) (ho:w.ownsRow base 68 8 v L.length (L.flatMap Fr.cells)) (hb:base≤w.heap.size)
  (hr:Rd w 8 a M.length cap (M.flatMap Fr.cells))(hL:L.length+M.length≤1000000000000):
  Calls Tryz.prog 85 #[.pointer (some ⟨D,0,none⟩),.slice a M.length cap] w fun e w'=>
   e=.returned (.tuple #[])∧(∃v',Blk w' D T (ds.setIfInBounds 102 v')∧w'.ownsRow base 68 8 v' (L++M).length ((L++M).flatMap Fr.cells))∧Kept base D 68 w w':=by
 have HD:=Lib.hid hD
 have HO:=Lib.hid ho
 have HR:=Lib.hid hr
 have HT:=Lib.hid hT
 have c0:=(hD.cell 102).trans e
 obtain⟨va,vc,rfl, -⟩:=ownsRow_rd ho
 have HEQ:=Lib.hid e
 clear hD ho hr e hT
 go_enter Tryz.func85,Tryz.ntmps85
 go_wp2_with (refine wpList_append_rd rfl (.tmp 8) (.tmp 9) 63 rfl base 68 _ 8 64 Tryz.underlying63 info_frag rfl (by decide) (.slice va L.length vc) L.length (L.flatMap Fr.cells) rfl HO.out a M.length cap (M.flatMap Fr.cells) rfl HR.out (fcells_one M) (by omega) (by decide) hb ?_)
 intro v' w1 ho1 hg
 obtain⟨va',vc',rfl, -⟩:=ownsRow_rd ho1
 have hne:=own_ne_blk HO.out HD.out HT.out
 have HD1:=Lib.hid (HD.out.grown' hg hne)
 have HO1:=Lib.hid ho1
 have HG:=Lib.hid hg
 clear ho1 hg hne c0
 have c1:=(HD1.out.cell 102).trans HEQ.out
 have f1:=HD1.out.frozen 102
 go_wp2_with fail
 have kk:Kp (·≠D) w1 (w1.setCell ⟨D,102,none⟩ (.slice va' (L.length+M.length) vc')):=(Kp.refl _ _).setCell (p:=⟨D,102,none⟩) _ (fun h=>h rfl)
 refine bodyPost_end (results_none rfl _ _ _) rfl ⟨rfl,⟨.slice va' (L.length+M.length) vc',HD1.out.set_ 102 _,?_⟩,⟨fun g t cs hb ht hg=>?_,fun w0 h1 h2 he=>?_,?_⟩⟩
 ·have:=own_kp HO1.out kk (fun g hg h=>own_ne_blk HO1.out HD1.out HT.out (by rw[hg,h]))
  rw[List.length_append,List.flatMap_append]
  exact this
 ·exact(hb.grown' HG.out (own_ne_blk HO.out hb ht)).far (by simpa using hg) _
 ·refine(he.grown HG.out (fun k hk=>?_)).setCell _ (by simpa using h2)
  rcases HO.out.2 with⟨h0, -⟩|⟨g,cap',cur,h0,hb', -⟩
  ·rw[h0]at hk;simp[Value.ownBlock]at hk
  ·rw[h0]at hk
   simp[Value.ownBlock]at hk
   omega
 ·have:=HG.out.size
  simpa using this
end Go.Proofs.YtplljnfjkkloeaaGreatDoor
set_option linter.unusedVariables false
set_option linter.unusedSimpArgs false
namespace Go.Proofs.YtplljnfjkkloeaaGreatDoor
open Go.RowKit
end Go.Proofs.YtplljnfjkkloeaaGreatDoor
set_option linter.unusedVariables false
set_option linter.unusedSimpArgs false
namespace Go.Proofs.YtplljnfjkkloeaaGreatDoor
open Go.RowKit
theorem mid_in {p q n d m k:Int} (hn:0≤n) (hnd:n≤d) (hd:1≤d) (p1:m≤p) (p2:p≤k) (q1:m≤q) (q2:q≤k):m≤mid p q n d∧mid p q n d≤k:=by
 have:=mid_between (p:=p) (q:=q) hn hnd hd
 omega
theorem part_rest (X d:Int) (hd:1≤d): ∃f r,X/d=f∧X=f*d+r∧0≤r∧r<d:=
 ⟨X/d,X%d,rfl,by rw[Int.mul_comm];exact(Int.mul_ediv_add_emod X d).symm,Int.emod_nonneg _ (by omega),Int.emod_lt_of_pos _ (by omega)⟩
theorem two_floor {A B d p:Int} (hd:1≤d) (h:A+B= -d):A*p/d+B*p/d= -p∨A*p/d+B*p/d= -p-1:=by
 obtain⟨f,r,e1,e2,r0,r1⟩:=part_rest (A*p) d hd
 obtain⟨g,s,e3,e4,s0,s1⟩:=part_rest (B*p) d hd
 rw[e1,e3]
 have e5:A*p+B*p= -(d*p):=by rw[←Int.add_mul,h,Int.neg_mul]
 have e6:(f+g+p)*d+(r+s)=0:=by
  rw[Int.add_mul,Int.add_mul,Int.mul_comm p d];omega
 generalize hK:f+g+p=K at e6
 have hK0:K=0∨K= -1:=by
  rcases Int.lt_or_le K (-1)with h1|h1
  ·have:=Int.mul_le_mul_of_nonneg_right (show K≤ -2 by omega) (show 0≤d by omega);omega
  ·rcases Int.lt_or_le 0 K with h2|h2
   ·have:=Int.mul_le_mul_of_nonneg_right (show 1≤K by omega) (show 0≤d by omega);omega
   ·omega
 omega
theorem minus_floor {A B d p:Int} (hd:1≤d) (h:A-B= -d):A*p/d-B*p/d= -p:=by
 have e:A*p=B*p+(-p)*d:=by
  have:A=B-d:=by omega
  rw[this,Int.sub_mul,Int.neg_mul,Int.mul_comm p d];omega
 rw[e,Int.add_mul_ediv_right _ _ (by omega)];omega
theorem whole_floor {A d p:Int} (hd:1≤d) (h:A= -d):A*p/d= -p:=by
 subst h
 rw[Int.neg_mul,←Int.mul_neg,Int.mul_comm,Int.mul_ediv_cancel _ (by omega)]
def slackOf (s:Sd):Int:=max s.p0 (0-s.p0)+max s.p1 (0-s.p1)+max s.p2 (0-s.p2)+max s.p3 (0-s.p3)
theorem coef_rest (P r d:Int) (r0:0≤r) (r1:r<d):P*r≤max P (0-P)*d∧ -(max P (0-P)*d)≤P*r:=by
 rcases Int.le_total 0 P with h|h
 ·rw[show max P (0-P)=P by omega]
  have h1:=Int.mul_le_mul_of_nonneg_left (show r≤d by omega) h
  have h2:=Int.mul_nonneg h r0
  have h3:=Int.mul_nonneg h (show 0≤d by omega)
  omega
 ·rw[show max P (0-P)=0-P by omega,Int.sub_mul]
  have h1:=Int.mul_le_mul_of_nonneg_left (show r≤d by omega) (show 0≤ -P by omega)
  have h2:=Int.mul_nonneg (show 0≤ -P by omega) r0
  have h3:=Int.mul_nonneg (show 0≤ -P by omega) (show 0≤d by omega)
  rw[Int.neg_mul,Int.neg_mul]at h1
  rw[Int.neg_mul]at h2 h3
  omega
theorem four_floor {P0 P1 P2 P3 A0 A1 A2 A3 a0 a1 a2 a3 p d:Int} (hd:1≤d) (hp:P0*a0+P1*a1+P2*a2+P3*a3=p) (hq:P0*A0+P1*A1+P2*A2+P3*A3= -d):
  let x:=P0*(a0+A0*p/d)+P1*(a1+A1*p/d)+P2*(a2+A2*p/d)+P3*(a3+A3*p/d)
  let M:=max P0 (0-P0)+max P1 (0-P1)+max P2 (0-P2)+max P3 (0-P3)
  x≤M∧0-M≤x:=by
 intro x M
 obtain⟨f0,r0,e0,g0,l0,u0⟩:=part_rest (A0*p) d hd
 obtain⟨f1,r1,e1,g1,l1,u1⟩:=part_rest (A1*p) d hd
 obtain⟨f2,r2,e2,g2,l2,u2⟩:=part_rest (A2*p) d hd
 obtain⟨f3,r3,e3,g3,l3,u3⟩:=part_rest (A3*p) d hd
 have hx:x=P0*(a0+f0)+P1*(a1+f1)+P2*(a2+f2)+P3*(a3+f3):=by
  show P0*(a0+A0*p/d)+P1*(a1+A1*p/d)+P2*(a2+A2*p/d)+P3*(a3+A3*p/d)=_
  rw[e0,e1,e2,e3]
 have key: ∀P A f r:Int,A*p=f*d+r→P*f*d=P*A*p-P*r:=by
  intro P A f r h
  rw[Int.mul_assoc P A p,h,Int.mul_add,Int.mul_assoc];omega
 have k0:=key P0 A0 f0 r0 g0
 have k1:=key P1 A1 f1 r1 g1
 have k2:=key P2 A2 f2 r2 g2
 have k3:=key P3 A3 f3 r3 g3
 have hs:P0*A0*p+P1*A1*p+P2*A2*p+P3*A3*p= -(d*p):=by
  rw[←Int.add_mul,←Int.add_mul,←Int.add_mul,hq,Int.neg_mul]
 have hxd:x*d= -(P0*r0+P1*r1+P2*r2+P3*r3):=by
  have e:x=p+(P0*f0+P1*f1+P2*f2+P3*f3):=by
   rw[hx,Int.mul_add,Int.mul_add,Int.mul_add,Int.mul_add,←hp];omega
  rw[e,Int.add_mul,Int.add_mul,Int.add_mul,Int.add_mul,k0,k1,k2,k3,Int.mul_comm p d]
  omega
 have b0:=coef_rest P0 r0 d l0 u0
 have b1:=coef_rest P1 r1 d l1 u1
 have b2:=coef_rest P2 r2 d l2 u2
 have b3:=coef_rest P3 r3 d l3 u3
 have hM:M*d=max P0 (0-P0)*d+max P1 (0-P1)*d+max P2 (0-P2)*d+max P3 (0-P3)*d:=by
  show(max P0 (0-P0)+max P1 (0-P1)+max P2 (0-P2)+max P3 (0-P3))*d=_
  rw[Int.add_mul,Int.add_mul,Int.add_mul]
 have c1:x*d≤M*d:=by omega
 have c2:(0-M)*d≤x*d:=by rw[Int.sub_mul,Int.zero_mul];omega
 exact⟨Int.le_of_mul_le_mul_right c1 (by omega),Int.le_of_mul_le_mul_right c2 (by omega)⟩
theorem meets (s:Sd) (a b:Vx) (hp:0≤dist s a) (hq:dist s b<0) (hk:0≤s.k∧s.k≤3):
  let x:=dist s (at_ a b (dist s a) (dist s a-dist s b))
  (s.k=0→x=0)∧(s.k=1→x=0∨x= -1)∧(s.k=2→x=0)∧(s.k=3→x≤slackOf s∧0-slackOf s≤x):=by
 intro x
 have hd:1≤dist s a-dist s b:=by omega
 refine⟨fun h=>?_,fun h=>?_,fun h=>?_,fun h=>?_⟩
 ·have e: ∀v:Vx,dist s v=v.w-1:=fun v=>by unfold dist;rw[if_pos h]
  have:=whole_floor (A:=b.w-a.w) (p:=dist s a) hd (by rw[e,e];omega)
  show dist s (at_ a b (dist s a) (dist s a-dist s b))=0
  rw[e]
  show a.w+(b.w-a.w)*dist s a/(dist s a-dist s b)-1=0
  rw[this,e];omega
 ·have e: ∀v:Vx,dist s v=v.z+v.w:=fun v=>by unfold dist;rw[if_neg (by omega),if_pos h]
  have:=two_floor (A:=b.z-a.z) (B:=b.w-a.w) (p:=dist s a) hd (by rw[e,e];omega)
  have e2:x=a.z+(b.z-a.z)*dist s a/(dist s a-dist s b)+(a.w+(b.w-a.w)*dist s a/(dist s a-dist s b)):=e _
  have e3:=e a
  omega
 ·have e: ∀v:Vx,dist s v=v.w-v.z:=fun v=>by unfold dist;rw[if_neg (by omega),if_neg (by omega),if_pos h]
  have:=minus_floor (A:=b.w-a.w) (B:=b.z-a.z) (p:=dist s a) hd (by rw[e,e];omega)
  have e2:x=a.w+(b.w-a.w)*dist s a/(dist s a-dist s b)-(a.z+(b.z-a.z)*dist s a/(dist s a-dist s b)):=e _
  have e3:=e a
  omega
 ·have e: ∀v:Vx,dist s v=s.p0*v.x+s.p1*v.y+s.p2*v.z+s.p3*v.w:=fun v=>by unfold dist;rw[if_neg (by omega),if_neg (by omega),if_neg (by omega)]
  have:=four_floor (P0:=s.p0) (P1:=s.p1) (P2:=s.p2) (P3:=s.p3) (A0:=b.x-a.x) (A1:=b.y-a.y) (A2:=b.z-a.z) (A3:=b.w-a.w) (a0:=a.x) (a1:=a.y) (a2:=a.z) (a3:=a.w) hd (e a).symm
   (by rw[e,e,Int.mul_sub,Int.mul_sub,Int.mul_sub,Int.mul_sub];omega)
  show dist s (at_ a b (dist s a) (dist s a-dist s b))≤slackOf s∧0-slackOf s≤dist s (at_ a b (dist s a) (dist s a-dist s b))
  rw[e (at_ a b (dist s a) (dist s a-dist s b))]
  exact this
end Go.Proofs.YtplljnfjkkloeaaGreatDoor
set_option linter.unusedVariables false
set_option linter.unusedSimpArgs false
namespace Go.Proofs.YtplljnfjkkloeaaGreatDoor
open Go.RowKit
end Go.Proofs.YtplljnfjkkloeaaGreatDoor
set_option linter.unusedVariables false
set_option linter.unusedSimpArgs false
namespace Go.Proofs.YtplljnfjkkloeaaGreatDoor
def less (x y:Int×Int):Prop:=x.1*y.2<y.1*x.2
instance (x y:Int×Int):Decidable (less x y):=inferInstanceAs (Decidable (_<_))
def ins (c:Int×Int):Prop:=c.1<0∧0≤c.2
def outs (c:Int×Int):Prop:=0≤c.1∧c.2<0
def gone (c:Int×Int):Prop:=c.1<0∧c.2<0
instance (c:Int×Int):Decidable (ins c):=inferInstanceAs (Decidable (_∧_))
instance (c:Int×Int):Decidable (outs c):=inferInstanceAs (Decidable (_∧_))
instance (c:Int×Int):Decidable (gone c):=inferInstanceAs (Decidable (_∧_))
def inCut (c:Int×Int):Int×Int:=(-c.1,c.2-c.1)
def outCut (c:Int×Int):Int×Int:=(c.1,c.1-c.2)
theorem inCut_pos {c:Int×Int} (h:ins c):0<(inCut c).2:=by
 obtain⟨h1,h2⟩:=h;simp only[inCut];omega
theorem outCut_pos {c:Int×Int} (h:outs c):0<(outCut c).2:=by
 obtain⟨h1,h2⟩:=h;simp only[outCut];omega
def First (l:List (Int×Int)) (f:Int×Int):Prop:=
 (f=(0,0)∧ ∀c∈l,¬ins c)∨(∃c∈l,ins c∧f=inCut c∧ ∀c'∈l,ins c'→ ¬less f (inCut c'))
def Last (l:List (Int×Int)) (g:Int×Int):Prop:=
 (g=(0,0)∧ ∀c∈l,¬outs c)∨(∃c∈l,outs c∧g=outCut c∧ ∀c'∈l,outs c'→ ¬less (outCut c') g)
def Bad (l:List (Int×Int)):Prop:=
 (∃c∈l,gone c)∨ ∃c∈l,∃c'∈l,ins c∧outs c'∧less (outCut c') (inCut c)
theorem Bad.mono {l m:List (Int×Int)} (h:Bad l) (hs: ∀c∈l,c∈m):Bad m:=by
 rcases h with⟨c,hc,h⟩|⟨c,hc,c',hc',h⟩
 ·exact .inl ⟨c,hs c hc,h⟩
 ·exact .inr ⟨c,hs c hc,c',hs c' hc',h⟩
theorem First.zero {l:List (Int×Int)} {f:Int×Int} (h:First l f):f.2=0∨0<f.2:=by
 rcases h with⟨rfl,_⟩|⟨c,_,h,rfl,_⟩
 ·exact .inl rfl
 ·exact .inr (inCut_pos h)
theorem Last.zero {l:List (Int×Int)} {g:Int×Int} (h:Last l g):g.2=0∨0<g.2:=by
 rcases h with⟨rfl,_⟩|⟨c,_,h,rfl,_⟩
 ·exact .inl rfl
 ·exact .inr (outCut_pos h)
theorem First.same {l:List (Int×Int)} {f c:Int×Int} (h:First l f) (hc: ¬ins c):First (l++[c]) f:=by
 rcases h with⟨rfl,h⟩|⟨d,hd,h,rfl,hm⟩
 ·exact .inl ⟨rfl,by simp only[List.mem_append,List.mem_singleton];rintro x (hx|rfl);exact h x hx;exact hc⟩
 ·exact .inr ⟨d,by simp[hd],h,rfl,by simp only[List.mem_append,List.mem_singleton];rintro x (hx|rfl) hi;exact hm x hx hi;exact absurd hi hc⟩
theorem Last.same {l:List (Int×Int)} {g c:Int×Int} (h:Last l g) (hc: ¬outs c):Last (l++[c]) g:=by
 rcases h with⟨rfl,h⟩|⟨d,hd,h,rfl,hm⟩
 ·exact .inl ⟨rfl,by simp only[List.mem_append,List.mem_singleton];rintro x (hx|rfl);exact h x hx;exact hc⟩
 ·exact .inr ⟨d,by simp[hd],h,rfl,by simp only[List.mem_append,List.mem_singleton];rintro x (hx|rfl) hi;exact hm x hx hi;exact absurd hi hc⟩
def swap (c:Int×Int):Int×Int:=(c.2,c.1)
def rest (f:Int×Int):Int×Int:=(f.2-f.1,f.2)
theorem ins_swap (c:Int×Int):ins (swap c)↔outs c:=by simp only[ins,outs,swap];omega
theorem outs_swap (c:Int×Int):outs (swap c)↔ins c:=by simp only[ins,outs,swap];omega
theorem gone_swap (c:Int×Int):gone (swap c)↔gone c:=by simp only[gone,swap];omega
theorem inCut_swap (c:Int×Int):inCut (swap c)=rest (outCut c):=by
 refine Prod.ext ?_ ?_
 ·show -c.2=c.1-c.2-c.1;omega
 ·rfl
theorem outCut_swap (c:Int×Int):outCut (swap c)=rest (inCut c):=by
 refine Prod.ext ?_ ?_
 ·show c.2=c.2-c.1- -c.1;omega
 ·rfl
theorem less_rest (x y:Int×Int):less (rest x) (rest y)↔less y x:=by
 simp only[less,rest,Int.sub_mul,Int.mul_comm x.2 y.2]
 omega
theorem Last.turned {l:List (Int×Int)} {g:Int×Int} (h:Last l g):First (l.map swap) (rest g):=by
 rcases h with⟨rfl,h⟩|⟨c,hc,hi,rfl,h⟩
 ·refine .inl ⟨rfl,?_⟩
  simp only[List.mem_map];rintro _ ⟨c,hc,rfl⟩;rw[ins_swap];exact h c hc
 ·refine .inr ⟨swap c,List.mem_map_of_mem hc,(ins_swap c).2 hi,(inCut_swap c).symm,?_⟩
  simp only[List.mem_map];rintro _ ⟨c',hc',rfl⟩ hi'
  rw[inCut_swap,less_rest];exact h c' hc' ((ins_swap c').1 hi')
theorem First.turned {l:List (Int×Int)} {f:Int×Int} (h:First l f):Last (l.map swap) (rest f):=by
 rcases h with⟨rfl,h⟩|⟨c,hc,hi,rfl,h⟩
 ·refine .inl ⟨rfl,?_⟩
  simp only[List.mem_map];rintro _ ⟨c,hc,rfl⟩;rw[outs_swap];exact h c hc
 ·refine .inr ⟨swap c,List.mem_map_of_mem hc,(outs_swap c).2 hi,(outCut_swap c).symm,?_⟩
  simp only[List.mem_map];rintro _ ⟨c',hc',rfl⟩ hi'
  rw[outCut_swap,less_rest];exact h c' hc' ((outs_swap c').1 hi')
theorem Bad.turned {l:List (Int×Int)} (h:Bad l):Bad (l.map swap):=by
 rcases h with⟨c,hc,h⟩|⟨c,hc,c',hc',h1,h2,h3⟩
 ·exact .inl ⟨swap c,List.mem_map_of_mem hc,(gone_swap c).2 h⟩
 ·refine .inr ⟨swap c',List.mem_map_of_mem hc',swap c,List.mem_map_of_mem hc,(ins_swap c').2 h2,(outs_swap c).2 h1,?_⟩
  rw[inCut_swap,outCut_swap,less_rest];exact h3
end Go.Proofs.YtplljnfjkkloeaaGreatDoor
