/- Proof text: a fragment that comes (frag.One). By an AI agent. No condition beyond what each theorem states. -/
import Derived.Test.YtplljnfjkkloeaaGreatDoorGD
set_option linter.unusedVariables false
set_option linter.unusedSimpArgs false
set_option maxHeartbeats 8000000
namespace Go.Proofs.YtplljnfjkkloeaaGreatDoor
attribute [local go_sem] Go.Oper.semAt_some
open Go.RowKit
set_option maxRecDepth 100000 in
theorem one_true {T:TypeId} {J:Nat} {js:Array Value} {W H n X Y:Nat} {C Z:List Int} (b:Rc) (func:Int) (keep:Bool) (sf df:Int) (f:Fr) (w:World) (h:Img w T J js W H n X Y C Z) (ho:(Op3.mk b func keep true sf df).Ok) (hf:f.Fits) (x0:0≤f.x) (x1:f.x<W) (y0:0≤f.y) (y1:f.y<H):
  Calls Tryz.prog 212 #[.pointer (some ⟨J,1,none⟩),(Op3.mk b func keep true sf df).v,f.v] w fun e w'=>e=.returned (.bool true)∧Img w' T J js W H n X Y (fput W true sf df C f) Z∧Kp (·≠X) w w':=by
 have HFR:=Lib.hid (fun w=>fright_any _ w ho)
 have HFF:=Lib.hid (fun w=>ffits_any f w hf)
 have HRE:=Lib.hid (fun w (hi:Img w T J js W H n X Y C Z)=>refused_no (Op3.mk b func keep true sf df) f w hi x0 x1 y0 y1)
 have HCV:=Lib.hid (fun w=>cover_any ⟨f.c0,f.c1,f.c2,f.c3⟩ f.m w hf.c3 hf.m.1 hf.m.2)
 simp only[C4.v]at HCV
 have HCO:=Lib.hid (cov_ok hf)
 have HFC:=Lib.hid (fun old=>fcol_range hf true sf df old)
 have HFP:=Lib.hid (fput_range (W:=W) (mix:=true) (sf:=sf) (df:=df) hf h.r)
 have HOO:=Lib.hid ho
 have HI:=Lib.hid h
 have HX:=Lib.hid (And.intro x0 (And.intro x1 (And.intro y0 y1)))
 have HXL:=Lib.hid h.x.lt
 clear h x0 x1 y0 y1 ho hf
 go_enter Tryz.func212,Tryz.ntmps212
 go_upto_region 1 with fail
 have HO1:Hid (Blk ((w.alloc (.cells (Op3.mk b func keep true sf df).row 51)).alloc (.cells #[.int .i64 f.x,.int .i64 f.y,.int .i64 f.z,.int .i64 f.c0,.int .i64 f.c1,.int .i64 f.c2,.int .i64 f.c3,.int .i64 f.m] 68)) w.heap.size 51 (Op3.mk b func keep true sf df).row):=Lib.hid (by(repeat(first|with_reducible exact Hid.out (by assumption)|(with_reducible refine Blk.new' _ _ _ ?_;(simp;done))|with_reducible(first|refine Blk.alloc ?_ _|refine Blk.drew ?_|refine Blk.drewN ?_ _|refine Blk.later ?_ _)|(with_reducible refine Blk.far ?_ ?hp _;case hp=>first|(simp;done)|(simp;omega)|omega))))
 have HF1:Hid (Blk ((w.alloc (.cells (Op3.mk b func keep true sf df).row 51)).alloc (.cells #[.int .i64 f.x,.int .i64 f.y,.int .i64 f.z,.int .i64 f.c0,.int .i64 f.c1,.int .i64 f.c2,.int .i64 f.c3,.int .i64 f.m] 68)) (w.heap.size+1) 68 #[.int .i64 f.x,.int .i64 f.y,.int .i64 f.z,.int .i64 f.c0,.int .i64 f.c1,.int .i64 f.c2,.int .i64 f.c3,.int .i64 f.m]):=Lib.hid (by(repeat(first|with_reducible exact Hid.out (by assumption)|(with_reducible refine Blk.new' _ _ _ ?_;(simp;done))|with_reducible(first|refine Blk.alloc ?_ _|refine Blk.drew ?_|refine Blk.drewN ?_ _|refine Blk.later ?_ _)|(with_reducible refine Blk.far ?_ ?hp _;case hp=>first|(simp;done)|(simp;omega)|omega))))
 have HE1:Hid (Ext w ((w.alloc (.cells (Op3.mk b func keep true sf df).row 51)).alloc (.cells #[.int .i64 f.x,.int .i64 f.y,.int .i64 f.z,.int .i64 f.c0,.int .i64 f.c1,.int .i64 f.c2,.int .i64 f.c3,.int .i64 f.m] 68))):=Lib.hid (by(repeat(first|with_reducible(first|exact eR_ _|assumption|refine eA_ ?_ _|refine eD_ ?_|refine eN_ ?_ _|refine eL_ ?_ _)|(with_reducible refine eS_ ?_ _ ?hp;case hp=>first|(simp;done)|(simp;omega)|omega))))
 generalize(w.alloc (.cells (Op3.mk b func keep true sf df).row 51)).alloc (.cells #[.int .i64 f.x,.int .i64 f.y,.int .i64 f.z,.int .i64 f.c0,.int .i64 f.c1,.int .i64 f.c2,.int .i64 f.c3,.int .i64 f.m] 68)=W1 at*
 have c0:=HO1.out.c15
 go_wp2_with fail
 refine(HFR.out _).mono ?_
 rintro e w1 ⟨rfl,hE⟩
 obtain⟨a1,rfl⟩:=Later.mk' hE
 clear hE
 have cf:=(HF1.out.ext a1.ext).c8
 clear c0
 go_wp2_with fail
 refine(HFF.out _).mono ?_
 rintro e w1 ⟨rfl,hE⟩
 obtain⟨a2,rfl⟩:=Later.mk' hE
 clear hE
 have HE2:Hid (Ext W1 a2.w):=Lib.hid (by(repeat(first|with_reducible(first|exact eR_ _|assumption|refine eA_ ?_ _|refine eD_ ?_|refine eN_ ?_ _|refine eL_ ?_ _)|(with_reducible refine eS_ ?_ _ ?hp;case hp=>first|(simp;done)|(simp;omega)|omega))))
 have c0:=(HO1.out.ext HE2.out).c15
 have cf2:=(HF1.out.ext HE2.out).c8
 clear cf
 generalize a2.w=W2 at*
 go_wp2_with fail
 refine(HRE.out _ (HI.out.ext (HE1.out.trans HE2.out))).mono ?_
 rintro e w1 ⟨rfl,hE⟩
 obtain⟨a3,rfl⟩:=Later.mk' hE
 clear hE
 have HE3:Hid (Ext W1 a3.w):=Lib.hid (HE2.out.trans a3.ext)
 have cf:=(HF1.out.ext HE3.out).c8
 clear c0 cf2 HE2
 generalize a3.w=W3 at*
 go_wp2_with fail
 refine(HCV.out _).mono ?_
 rintro e w1 ⟨rfl,hE⟩
 obtain⟨a4,rfl⟩:=Later.mk' hE
 clear hE
 have HE4:Hid (Ext W1 a4.w):=Lib.hid (HE3.out.trans a4.ext)
 clear cf HE3
 generalize a4.w=W4 at*
 have c0:=(HO1.out.ext HE4.out).c15
 go_upto_region 5 with fail
 clear c0
 have HE5:Hid (Ext W1 (W4.alloc (.cells #[.int .i64 f.c0,.int .i64 f.c1,.int .i64 f.c2,.int .i64 (f.c3*f.m/64)] 30))):=Lib.hid (HE4.out.alloc _)
 have HCB:Hid (Blk (W4.alloc (.cells #[.int .i64 f.c0,.int .i64 f.c1,.int .i64 f.c2,.int .i64 (f.c3*f.m/64)] 30)) W4.heap.size 30 #[.int .i64 f.c0,.int .i64 f.c1,.int .i64 f.c2,.int .i64 (f.c3*f.m/64)]):=Lib.hid (Blk.new _ _ _)
 have HLT:Hid (W1.heap.size≤W4.heap.size):=Lib.hid HE4.out.size
 clear HE4 HFR HFF HRE HCV
 generalize W4.alloc (.cells #[.int .i64 f.c0,.int .i64 f.c1,.int .i64 f.c2,.int .i64 (f.c3*f.m/64)] 30)=W5 at*
 generalize W4.heap.size=D at*
 have hx:=HX.out
 obtain⟨old,hold⟩: ∃old,old=C.getD (f.y*W+f.x).toNat 0:=⟨_,rfl⟩
 obtain⟨oz,hoz⟩: ∃oz,oz=Z.getD (f.y*W+f.x).toNat 0:=⟨_,rfl⟩
 have HG:Hid (∀w1,Ext W5 w1→Calls Tryz.prog 254 #[.agg #[.int .i64 (W:Int),.int .i64 (H:Int),.slice (some ⟨X,0,none⟩) n n,.slice (some ⟨Y,0,none⟩) n n],.int .i64 f.x,.int .i64 f.y] w1 fun e w'=>
   e=.returned (.tuple #[.agg #[.int .i64 (old/16777216%256),.int .i64 (old/65536%256),.int .i64 (old/256%256),.int .i64 (old%256)],.int .i64 oz,.bool true])∧Ext w1 w'):=
  Lib.hid (fun w1 e=>by rw[hold,hoz];exact((HI.out.ext (HE1.out.trans HE5.out)).ext e).get hx.1 hx.2.1 hx.2.2.1 hx.2.2.2)
 have HOLD:=Lib.hid hold
 clear hold hoz
 have HSS:Hid (∀w',Ext W5 w'→(w'.cell? ⟨w.heap.size+1,0,none⟩=some (.int .i64 f.x)∧w'.cell? ⟨w.heap.size+1,1,none⟩=some (.int .i64 f.y))∧w'.cell? ⟨J,1,none⟩=some (.int .i64 (W:Int))∧w'.cell? ⟨J,2,none⟩=some (.int .i64 (H:Int))∧w'.cell? ⟨J,3,none⟩=some (.slice (some ⟨X,0,none⟩) n n)∧w'.cell? ⟨J,4,none⟩=some (.slice (some ⟨Y,0,none⟩) n n)):=
  Lib.hid fun w' e=>⟨⟨(HF1.out.ext (HE5.out.trans e)).c8.1,(HF1.out.ext (HE5.out.trans e)).c8.2.1⟩,((HI.out.ext (HE1.out.trans HE5.out)).ext e).cells⟩
 go_region_held3 (fun w'=>(w'.cell? ⟨w.heap.size+1,0,none⟩=some (.int .i64 f.x)∧w'.cell? ⟨w.heap.size+1,1,none⟩=some (.int .i64 f.y))∧w'.cell? ⟨J,1,none⟩=some (.int .i64 (W:Int))∧w'.cell? ⟨J,2,none⟩=some (.int .i64 (H:Int))∧w'.cell? ⟨J,3,none⟩=some (.slice (some ⟨X,0,none⟩) n n)∧w'.cell? ⟨J,4,none⟩=some (.slice (some ⟨Y,0,none⟩) n n))
  (exact HSS.out _ (by(repeat(first|with_reducible(first|exact eR_ _|assumption|refine eA_ ?_ _|refine eD_ ?_|refine eN_ ?_ _|refine eL_ ?_ _)|(with_reducible refine eS_ ?_ _ ?hp;case hp=>first|(simp;done)|(simp;omega)|omega)))))
  (first
   |(go_at_call 254;refine(HG.out _ (by(repeat(first|with_reducible(first|exact eR_ _|assumption|refine eA_ ?_ _|refine eD_ ?_|refine eN_ ?_ _|refine eL_ ?_ _)|(with_reducible refine eS_ ?_ _ ?hp;case hp=>first|(simp;done)|(simp;omega)|omega))))).mono ?_;rintro e w1 ⟨rfl,hE⟩;obtain⟨y1,rfl⟩:=Later.mk' hE;clear hE))
 all_goals
  have HBL:=Lib.hid (fun wz=>blend_any ⟨f.c0,f.c1,f.c2,f.c3*f.m/64⟩ ⟨old/16777216%256,old/65536%256,old/256%256,old%256⟩ sf df wz HCO.out (unp_ok _) HOO.out.s0 HOO.out.s1 HOO.out.d0 HOO.out.d1)
  simp only[C4.v]at HBL
  have HQO:Hid ((blend4 sf df ⟨f.c0,f.c1,f.c2,f.c3*f.m/64⟩ ⟨old/16777216%256,old/65536%256,old/256%256,old%256⟩).Ok):=Lib.hid (blend4_ok HCO.out (unp_ok _))
  have HQP:Hid (C.set (f.y*W+f.x).toNat (pk (blend4 sf df ⟨f.c0,f.c1,f.c2,f.c3*f.m/64⟩ ⟨old/16777216%256,old/65536%256,old/256%256,old%256⟩).a (blend4 sf df ⟨f.c0,f.c1,f.c2,f.c3*f.m/64⟩ ⟨old/16777216%256,old/65536%256,old/256%256,old%256⟩).b (blend4 sf df ⟨f.c0,f.c1,f.c2,f.c3*f.m/64⟩ ⟨old/16777216%256,old/65536%256,old/256%256,old%256⟩).c (blend4 sf df ⟨f.c0,f.c1,f.c2,f.c3*f.m/64⟩ ⟨old/16777216%256,old/65536%256,old/256%256,old%256⟩).d)=fput W true sf df C f):=Lib.hid (by rw[HOLD.out];rfl)
  generalize blend4 sf df ⟨f.c0,f.c1,f.c2,f.c3*f.m/64⟩ ⟨old/16777216%256,old/65536%256,old/256%256,old%256⟩=q at*
  have HYE:Hid (Ext W5 y1.w):=Lib.hid (by(repeat(first|with_reducible(first|exact eR_ _|assumption|refine eA_ ?_ _|refine eD_ ?_|refine eN_ ?_ _|refine eL_ ?_ _)|(with_reducible refine eS_ ?_ _ ?hp;case hp=>first|(simp;done)|(simp;omega)|omega))))
  have cc:=(HCB.out.ext HYE.out).c4
  have fc:=(HCB.out.ext HYE.out).f4
  have c0:=(HO1.out.ext (HE5.out.trans HYE.out)).c15
  have he5:=HE5.out
  have dl:=HCB.out.lt
  have hs5:=HE5.out.size
  have dn: ¬(D=W5.heap.size):=by omega
  have dn': ¬(W5.heap.size=D):=by omega
  go_wp2_with fail
  refine(HBL.out _).mono ?_
  rintro e w1 ⟨rfl,hE⟩
  obtain⟨a6,rfl⟩:=Later.mk' hE
  clear hE
  have HCB6:Hid (Blk a6.w D 30 #[.int .i64 f.c0,.int .i64 f.c1,.int .i64 f.c2,.int .i64 (f.c3*f.m/64)]):=Lib.hid (by(repeat(first|with_reducible exact Hid.out (by assumption)|(with_reducible refine Blk.new' _ _ _ ?_;(simp;done))|with_reducible(first|refine Blk.alloc ?_ _|refine Blk.drew ?_|refine Blk.drewN ?_ _|refine Blk.later ?_ _)|(with_reducible refine Blk.far ?_ ?hp _;case hp=>first|(simp;done)|(simp;omega)|omega))))
  have HE6:Hid (Ext W1 a6.w):=Lib.hid (by(repeat(first|with_reducible(first|exact eR_ _|assumption|refine eA_ ?_ _|refine eD_ ?_|refine eN_ ?_ _|refine eL_ ?_ _)|(with_reducible refine eS_ ?_ _ ?hp;case hp=>first|(simp;done)|(simp;omega)|omega))))
  clear HSS HG HBL cc fc c0 he5 HYE
  generalize a6.w=W6 at*
  have cc:=HCB6.out.c4
  have fc:=HCB6.out.f4
  go_upto_region 7 with fail
  clear cc fc
  have HCB7:=Lib.hid (HCB6.out.s4 (.int .i64 q.a) (.int .i64 q.b) (.int .i64 q.c) (.int .i64 q.d))
  have HE7:Hid (Ext W1 ((((W6.setCell ⟨D,0,none⟩ (.int .i64 q.a)).setCell ⟨D,1,none⟩ (.int .i64 q.b)).setCell ⟨D,2,none⟩ (.int .i64 q.c)).setCell ⟨D,3,none⟩ (.int .i64 q.d))):=Lib.hid (by have:=HE6.out;have:=HLT.out;(repeat(first|with_reducible(first|exact eR_ _|assumption|refine eA_ ?_ _|refine eD_ ?_|refine eN_ ?_ _|refine eL_ ?_ _)|(with_reducible refine eS_ ?_ _ ?hp;case hp=>first|(simp;done)|(simp;omega)|omega))))
  generalize((((W6.setCell ⟨D,0,none⟩ (.int .i64 q.a)).setCell ⟨D,1,none⟩ (.int .i64 q.b)).setCell ⟨D,2,none⟩ (.int .i64 q.c)).setCell ⟨D,3,none⟩ (.int .i64 q.d))=W7 at*
  have cc:=HCB7.out.c4
  have c0:=(HO1.out.ext HE7.out).c15
  have cf:=(HF1.out.ext HE7.out).c8
  have HI7:=Lib.hid (HI.out.ext (HE1.out.trans HE7.out))
  have HPT:=Lib.hid (put_yes f.x f.y q C W7 HI7.out.j HI7.out.p HI7.out.x HI7.out.lc HI7.out.jx hx.1 hx.2.1 hx.2.2.1 hx.2.2.2 HQO.out HI7.out.r)
  rw[HQP.out]at HPT
  simp only[C4.v]at HPT
  go_wp2_with fail
  refine HPT.out.mono ?_
  rintro e w8 ⟨rfl,hb,hk⟩
  have HB8:=Lib.hid hb
  have HK8:=Lib.hid hk
  have hxl:=HXL.out
  have c9:=((HO1.out.ext HE7.out).kp hk (by omega)).c15
  clear hb hk c0 cf cc
  go_wp2_with fail
  go_ret
  exact⟨rfl,HI7.out.put HK8.out _ HB8.out (fput_len _ _ _ _ _ _) HFP.out,(Kp.of_ext (HE1.out.trans HE7.out)).trans HK8.out⟩
set_option maxRecDepth 100000 in
theorem one_false {T:TypeId} {J:Nat} {js:Array Value} {W H n X Y:Nat} {C Z:List Int} (b:Rc) (func:Int) (keep:Bool) (sf df:Int) (f:Fr) (w:World) (h:Img w T J js W H n X Y C Z) (ho:(Op3.mk b func keep false sf df).Ok) (hf:f.Fits) (x0:0≤f.x) (x1:f.x<W) (y0:0≤f.y) (y1:f.y<H):
  Calls Tryz.prog 212 #[.pointer (some ⟨J,1,none⟩),(Op3.mk b func keep false sf df).v,f.v] w fun e w'=>e=.returned (.bool true)∧Img w' T J js W H n X Y (fput W false sf df C f) Z∧Kp (·≠X) w w':=by
 have HFR:=Lib.hid (fun w=>fright_any _ w ho)
 have HFF:=Lib.hid (fun w=>ffits_any f w hf)
 have HRE:=Lib.hid (fun w (hi:Img w T J js W H n X Y C Z)=>refused_no (Op3.mk b func keep false sf df) f w hi x0 x1 y0 y1)
 have HCV:=Lib.hid (fun w=>cover_any ⟨f.c0,f.c1,f.c2,f.c3⟩ f.m w hf.c3 hf.m.1 hf.m.2)
 simp only[C4.v]at HCV
 have HCO:=Lib.hid (cov_ok hf)
 have HFC:=Lib.hid (fun old=>fcol_range hf false sf df old)
 have HFP:=Lib.hid (fput_range (W:=W) (mix:=false) (sf:=sf) (df:=df) hf h.r)
 have HOO:=Lib.hid ho
 have HI:=Lib.hid h
 have HX:=Lib.hid (And.intro x0 (And.intro x1 (And.intro y0 y1)))
 have HXL:=Lib.hid h.x.lt
 clear h x0 x1 y0 y1 ho hf
 go_enter Tryz.func212,Tryz.ntmps212
 go_upto_region 1 with fail
 have HO1:Hid (Blk ((w.alloc (.cells (Op3.mk b func keep false sf df).row 51)).alloc (.cells #[.int .i64 f.x,.int .i64 f.y,.int .i64 f.z,.int .i64 f.c0,.int .i64 f.c1,.int .i64 f.c2,.int .i64 f.c3,.int .i64 f.m] 68)) w.heap.size 51 (Op3.mk b func keep false sf df).row):=Lib.hid (by(repeat(first|with_reducible exact Hid.out (by assumption)|(with_reducible refine Blk.new' _ _ _ ?_;(simp;done))|with_reducible(first|refine Blk.alloc ?_ _|refine Blk.drew ?_|refine Blk.drewN ?_ _|refine Blk.later ?_ _)|(with_reducible refine Blk.far ?_ ?hp _;case hp=>first|(simp;done)|(simp;omega)|omega))))
 have HF1:Hid (Blk ((w.alloc (.cells (Op3.mk b func keep false sf df).row 51)).alloc (.cells #[.int .i64 f.x,.int .i64 f.y,.int .i64 f.z,.int .i64 f.c0,.int .i64 f.c1,.int .i64 f.c2,.int .i64 f.c3,.int .i64 f.m] 68)) (w.heap.size+1) 68 #[.int .i64 f.x,.int .i64 f.y,.int .i64 f.z,.int .i64 f.c0,.int .i64 f.c1,.int .i64 f.c2,.int .i64 f.c3,.int .i64 f.m]):=Lib.hid (by(repeat(first|with_reducible exact Hid.out (by assumption)|(with_reducible refine Blk.new' _ _ _ ?_;(simp;done))|with_reducible(first|refine Blk.alloc ?_ _|refine Blk.drew ?_|refine Blk.drewN ?_ _|refine Blk.later ?_ _)|(with_reducible refine Blk.far ?_ ?hp _;case hp=>first|(simp;done)|(simp;omega)|omega))))
 have HE1:Hid (Ext w ((w.alloc (.cells (Op3.mk b func keep false sf df).row 51)).alloc (.cells #[.int .i64 f.x,.int .i64 f.y,.int .i64 f.z,.int .i64 f.c0,.int .i64 f.c1,.int .i64 f.c2,.int .i64 f.c3,.int .i64 f.m] 68))):=Lib.hid (by(repeat(first|with_reducible(first|exact eR_ _|assumption|refine eA_ ?_ _|refine eD_ ?_|refine eN_ ?_ _|refine eL_ ?_ _)|(with_reducible refine eS_ ?_ _ ?hp;case hp=>first|(simp;done)|(simp;omega)|omega))))
 generalize(w.alloc (.cells (Op3.mk b func keep false sf df).row 51)).alloc (.cells #[.int .i64 f.x,.int .i64 f.y,.int .i64 f.z,.int .i64 f.c0,.int .i64 f.c1,.int .i64 f.c2,.int .i64 f.c3,.int .i64 f.m] 68)=W1 at*
 have c0:=HO1.out.c15
 go_wp2_with fail
 refine(HFR.out _).mono ?_
 rintro e w1 ⟨rfl,hE⟩
 obtain⟨a1,rfl⟩:=Later.mk' hE
 clear hE
 have cf:=(HF1.out.ext a1.ext).c8
 clear c0
 go_wp2_with fail
 refine(HFF.out _).mono ?_
 rintro e w1 ⟨rfl,hE⟩
 obtain⟨a2,rfl⟩:=Later.mk' hE
 clear hE
 have HE2:Hid (Ext W1 a2.w):=Lib.hid (by(repeat(first|with_reducible(first|exact eR_ _|assumption|refine eA_ ?_ _|refine eD_ ?_|refine eN_ ?_ _|refine eL_ ?_ _)|(with_reducible refine eS_ ?_ _ ?hp;case hp=>first|(simp;done)|(simp;omega)|omega))))
 have c0:=(HO1.out.ext HE2.out).c15
 have cf2:=(HF1.out.ext HE2.out).c8
 clear cf
 generalize a2.w=W2 at*
 go_wp2_with fail
 refine(HRE.out _ (HI.out.ext (HE1.out.trans HE2.out))).mono ?_
 rintro e w1 ⟨rfl,hE⟩
 obtain⟨a3,rfl⟩:=Later.mk' hE
 clear hE
 have HE3:Hid (Ext W1 a3.w):=Lib.hid (HE2.out.trans a3.ext)
 have cf:=(HF1.out.ext HE3.out).c8
 clear c0 cf2 HE2
 generalize a3.w=W3 at*
 go_wp2_with fail
 refine(HCV.out _).mono ?_
 rintro e w1 ⟨rfl,hE⟩
 obtain⟨a4,rfl⟩:=Later.mk' hE
 clear hE
 have HE4:Hid (Ext W1 a4.w):=Lib.hid (HE3.out.trans a4.ext)
 clear cf HE3
 generalize a4.w=W4 at*
 have c0:=(HO1.out.ext HE4.out).c15
 go_upto_region 7 with fail
 have HE7:Hid (Ext W1 (W4.alloc (.cells #[.int .i64 f.c0,.int .i64 f.c1,.int .i64 f.c2,.int .i64 (f.c3*f.m/64)] 30))):=Lib.hid (HE4.out.alloc _)
 have HCB7:Hid (Blk (W4.alloc (.cells #[.int .i64 f.c0,.int .i64 f.c1,.int .i64 f.c2,.int .i64 (f.c3*f.m/64)] 30)) W4.heap.size 30 #[.int .i64 f.c0,.int .i64 f.c1,.int .i64 f.c2,.int .i64 (f.c3*f.m/64)]):=Lib.hid (Blk.new _ _ _)
 clear HE4 HFR HFF HRE HCV c0
 generalize W4.alloc (.cells #[.int .i64 f.c0,.int .i64 f.c1,.int .i64 f.c2,.int .i64 (f.c3*f.m/64)] 30)=W7 at*
 generalize W4.heap.size=D at*
 have hx:=HX.out
 have HQP:Hid (C.set (f.y*W+f.x).toNat (pk f.c0 f.c1 f.c2 (f.c3*f.m/64))=fput W false sf df C f):=Lib.hid rfl
 have cc:=HCB7.out.c4
 have c0:=(HO1.out.ext HE7.out).c15
 have cf:=(HF1.out.ext HE7.out).c8
 have HI7:=Lib.hid (HI.out.ext (HE1.out.trans HE7.out))
 have HPT:=Lib.hid (put_yes f.x f.y ⟨f.c0,f.c1,f.c2,f.c3*f.m/64⟩ C W7 HI7.out.j HI7.out.p HI7.out.x HI7.out.lc HI7.out.jx hx.1 hx.2.1 hx.2.2.1 hx.2.2.2 HCO.out HI7.out.r)
 simp only[C4.v]at HPT
 rw[HQP.out]at HPT
 go_wp2_with fail
 refine HPT.out.mono ?_
 rintro e w8 ⟨rfl,hb,hk⟩
 have HB8:=Lib.hid hb
 have HK8:=Lib.hid hk
 have hxl:=HXL.out
 have c9:=((HO1.out.ext HE7.out).kp hk (by omega)).c15
 clear hb hk c0 cf cc
 go_wp2_with fail
 go_ret
 exact⟨rfl,HI7.out.put HK8.out _ HB8.out (fput_len _ _ _ _ _ _) HFP.out,(Kp.of_ext (HE1.out.trans HE7.out)).trans HK8.out⟩
theorem one_any {T:TypeId} {J:Nat} {js:Array Value} {W H n X Y:Nat} {C Z:List Int} (o:Op3) (f:Fr) (w:World) (h:Img w T J js W H n X Y C Z) (ho:o.Ok) (hf:f.Fits) (x0:0≤f.x) (x1:f.x<W) (y0:0≤f.y) (y1:f.y<H):
  Calls Tryz.prog 212 #[.pointer (some ⟨J,1,none⟩),o.v,f.v] w fun e w'=>e=.returned (.bool true)∧Img w' T J js W H n X Y (fput W o.mix o.sf o.df C f) Z∧Kp (·≠X) w w':=by
 obtain⟨b,func,keep,mix,sf,df⟩:=o
 cases mix
 ·exact one_false b func keep sf df f w h ho hf x0 x1 y0 y1
 ·exact one_true b func keep sf df f w h ho hf x0 x1 y0 y1
end Go.Proofs.YtplljnfjkkloeaaGreatDoor
set_option linter.unusedVariables false
set_option linter.unusedSimpArgs false
namespace Go.Proofs.YtplljnfjkkloeaaGreatDoor
attribute [local go_sem] Go.Oper.semAt_some
open Go.RowKit
theorem fcells_len (f:Fr):f.cells.length=8:=rfl
theorem frag_at {w:World} {b off n cap j:Nat} {L:List Fr} {f:Fr} (h:Rd w 8 (some ⟨b,off,none⟩) n cap (L.flatMap Fr.cells)) (hs:L[j]? =some f):
  w.cell? ⟨b,off+j*8,none⟩=some (.int .i64 f.x)∧w.cell? ⟨b,off+j*8+1,none⟩=some (.int .i64 f.y)∧w.cell? ⟨b,off+j*8+2,none⟩=some (.int .i64 f.z)∧w.cell? ⟨b,off+j*8+3,none⟩=some (.int .i64 f.c0)∧
  w.cell? ⟨b,off+j*8+4,none⟩=some (.int .i64 f.c1)∧w.cell? ⟨b,off+j*8+5,none⟩=some (.int .i64 f.c2)∧w.cell? ⟨b,off+j*8+6,none⟩=some (.int .i64 f.c3)∧w.cell? ⟨b,off+j*8+7,none⟩=some (.int .i64 f.m):=
 have g:=fun i (hi:i<8)=>frow_get fcells_len hs i hi
 ⟨h.get rfl ((g 0 (by omega)).trans rfl),h.get rfl ((g 1 (by omega)).trans rfl),h.get rfl ((g 2 (by omega)).trans rfl),h.get rfl ((g 3 (by omega)).trans rfl),h.get rfl ((g 4 (by omega)).trans rfl),h.get rfl ((g 5 (by omega)).trans rfl),h.get rfl ((g 6 (by omega)).trans rfl),h.get rfl ((g 7 (by omega)).trans rfl)⟩
def Takes (W H:Nat) (L:List Fr):Prop:= ∀f∈L,f.Fits∧0≤f.x∧f.x<W∧0≤f.y∧f.y<H
theorem fall_snoc (W:Int) (mix:Bool) (sf df:Int) (C:List Int) (L:List Fr) (f:Fr):fall W mix sf df C (L++[f])=fput W mix sf df (fall W mix sf df C L) f:=by
 unfold fall
 rw[List.foldl_append]
 rfl
structure Al (T:TypeId) (J:Nat) (js:Array Value) (W H n X Y:Nat) (C Z:List Int) (o:Op3) (L:List Fr) (a:Option Addr) (cap:Nat) (w wx:World):Prop where
 i:Img wx T J js W H n X Y C Z
 o:Blk wx w.heap.size 51 o.row
 r:Rd wx 8 a L.length cap (L.flatMap Fr.cells)
 k:Kp (·≠X) w wx
set_option maxRecDepth 100000 in
theorem all_any {T:TypeId} {J:Nat} {js:Array Value} {W H n X Y:Nat} {C Z:List Int} (o:Op3) (L:List Fr) (a:Option Addr) (cap:Nat) (w:World) (h:Img w T J js W H n X Y C Z) (ho:o.Ok) (hr:Rd w 8 a L.length cap (L.flatMap Fr.cells)) (hne: ∀ad,a=some ad→ad.block≠X) (hL:Takes W H L):
  Calls Tryz.prog 166 #[.pointer (some ⟨J,1,none⟩),o.v,.slice a L.length cap] w fun e w'=>e=.returned (.int .i64 (L.length:Int))∧Img w' T J js W H n X Y (fall W o.mix o.sf o.df C L) Z∧Kp (·≠X) w w':=by
 have hn:=hr.nat_le
 have HXL:=Lib.hid h.x.lt
 have HNE:=Lib.hid hne
 have HL:=Lib.hid hL
 have HO:=Lib.hid ho
 have HA0:Hid (Al T J js W H n X Y C Z o L a cap w (w.alloc (.cells o.row 51))):=Lib.hid ⟨h.ext ((Ext.refl w).alloc _),Blk.new _ _ _,hr.ext ((Ext.refl w).alloc _),(Kp.refl _ _).alloc _⟩
 clear h hr hne hL ho
 go_enter Tryz.func166,Tryz.ntmps166
 go_wp2_with fail
 generalize w.alloc (.cells o.row 51)=W0 at*
 go_loopg [7,12] L.length (fun g c i wx=> ∃k:Nat,k≤L.length∧g=L.length-k∧c=.int .i64 k∧i=.int .i64 k∧Hid (Al T J js W H n X Y (fall W o.mix o.sf o.df C (L.take k)) Z o L a cap w wx))
 case atStart=>exact⟨0,by omega,rfl,rfl,rfl,by simpa[fall]using HA0⟩
 case round=>
  clear HA0
  obtain⟨k,hk,rfl,rfl,rfl,HA⟩:=hrel
  by_cases hlt:k<L.length
  ·obtain⟨f,hf⟩: ∃f,L[k]? =some f:=⟨_,List.getElem?_eq_getElem hlt⟩
   obtain⟨b,off,ha,hb, -⟩:=HA.out.r.at_ (by omega)
   subst ha
   have hm:=HL.out f (List.mem_of_getElem? hf)
   have HM:=Lib.hid hm
   have hr:=HA.out.r
   obtain⟨c0,c1,c2,c3,c4,c5,c6,c7⟩:=frag_at hr hf
   have HF:=Lib.hid hf
   clear hr hf hm
   go_upto_region 5 with fail
   have HE1:Hid (Ext wr (wr.alloc (.cells #[.int .i64 f.x,.int .i64 f.y,.int .i64 f.z,.int .i64 f.c0,.int .i64 f.c1,.int .i64 f.c2,.int .i64 f.c3,.int .i64 f.m] 68))):=Lib.hid ((Ext.refl wr).alloc _)
   have HB1:Hid (Blk (wr.alloc (.cells #[.int .i64 f.x,.int .i64 f.y,.int .i64 f.z,.int .i64 f.c0,.int .i64 f.c1,.int .i64 f.c2,.int .i64 f.c3,.int .i64 f.m] 68)) wr.heap.size 68 #[.int .i64 f.x,.int .i64 f.y,.int .i64 f.z,.int .i64 f.c0,.int .i64 f.c1,.int .i64 f.c2,.int .i64 f.c3,.int .i64 f.m]):=Lib.hid (Blk.new _ _ _)
   clear c0 c1 c2 c3 c4 c5 c6 c7
   generalize wr.alloc (.cells #[.int .i64 f.x,.int .i64 f.y,.int .i64 f.z,.int .i64 f.c0,.int .i64 f.c1,.int .i64 f.c2,.int .i64 f.c3,.int .i64 f.m] 68)=W1 at*
   have cb:=HB1.out.c8
   have co:=(HA.out.o.ext HE1.out).c15
   have HON:=Lib.hid (one_any o f W1 (HA.out.i.ext HE1.out) HO.out HM.out.1 HM.out.2.1 HM.out.2.2.1 HM.out.2.2.2.1 HM.out.2.2.2.2)
   have hk2:IntKind.i64.wrap ((k:Int)+1)=(k:Int)+1:=IntWalk.i64_in _ (by omega)
   go_wp2_with fail
   refine HON.out.mono ?_
   rintro e w2 ⟨rfl,hi,hkp⟩
   have hxl:=HXL.out
   have HA2:Hid (Al T J js W H n X Y (fall W o.mix o.sf o.df C (L.take (k+1))) Z o L (some ⟨b,off,none⟩) cap w w2):=Lib.hid ⟨by rw[List.take_add_one,HF.out,Option.toList_some,fall_snoc];exact hi,(HA.out.o.ext HE1.out).kp hkp (by omega),(HA.out.r.ext HE1.out).kp hkp (fun ad h=>HNE.out ad h),(HA.out.k.andExt HE1.out).trans hkp⟩
   clear hi hkp cb co
   go_wp2_with fail
   go_roundg (L.length-(k+1))
   case measure=>omega
   case rel=>exact⟨k+1,by omega,rfl,by go_num,by go_num,HA2⟩
  ·obtain rfl:k=L.length:=by omega
   rw[List.take_length]at HA
   go_wp2_with fail
   go_ret
   exact⟨rfl,HA.out.i,HA.out.k⟩
end Go.Proofs.YtplljnfjkkloeaaGreatDoor
