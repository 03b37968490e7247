/- Proof text: the image's commands (job.image, job.size): another image, the port. By an AI agent. No condition beyond what each theorem states. -/
import Derived.Test.YtplljnfjkkloeaaGreatDoorJD
import Derived.Test.YtplljnfjkkloeaaGreatDoorHP
import Derived.Test.YtplljnfjkkloeaaGreatDoorHL
import Derived.Deep.RegionLawGrows
set_option linter.unusedVariables false
set_option linter.unusedSimpArgs false
set_option maxHeartbeats 16000000
namespace Go.Proofs.YtplljnfjkkloeaaGreatDoor
attribute [local go_sem] Go.Oper.semAt_some
open Go.RowKit
set_option maxRecDepth 100000 in
theorem image_5 (w0 w:World) (J:Nat) (s:Ps) (p:Hp) (l:Sl) (B o n c:Nat) (C:List Int) (v0 v1 v2 v3:Int) (h:JobIn w0 w J s p l B o n c C) (h0:C[0]? =some v0) (h1:C[1]? =some v1) (h2:C[2]? =some v2) (h3:C[3]? =some v3):
  Calls Tryz.prog 79 #[.pointer (some ⟨J,0,none⟩),.int .i64 5] w (JobP w0 w J {s with port:=⟨v0,v1,v2,v3⟩} p (.slice (some ⟨B,o,none⟩) n c)):=by
 have HI:=Lib.hid h
 obtain⟨k0,i0⟩:=h.jb.at h0
 obtain⟨k1,i1⟩:=h.jb.at h1
 obtain⟨k2,i2⟩:=h.jb.at h2
 obtain⟨k3,i3⟩:=h.jb.at h3
 rw[Nat.add_zero]at k0
 have ca:=h.jb.a
 have hn:=h.n
 clear h h0 h1 h2 h3
 go_enter Tryz.func79,Tryz.ntmps79
 go_wp2_with fail
 refine wp_region_later_tail 28 (by kernel_rfl) (by kernel_rfl) ?_
 simp only[List.take_succ_cons,List.take_zero,List.drop_succ_cons,List.drop_zero]
 repeat(go_big_quiet_step ((first|fail|fail)))
 refine wpQuiet_nil ?_
 intro y
 have HY:=Lib.hid (HI.out.ext y.ext)
 have HEY:Hid (Ext w y.w):=Lib.hid y.ext
 clear HI k0 k1 k2 k3 ca
 generalize y.w=W1 at*
 have c10:W1.cell? ⟨J,10,none⟩=some (.int .i64 s.port.x0):=HY.out.j.cell 10
 have c11:W1.cell? ⟨J,11,none⟩=some (.int .i64 s.port.y0):=HY.out.j.cell 11
 have c12:W1.cell? ⟨J,12,none⟩=some (.int .i64 s.port.x1):=HY.out.j.cell 12
 have c13:W1.cell? ⟨J,13,none⟩=some (.int .i64 s.port.y1):=HY.out.j.cell 13
 have f10:=HY.out.j.frozen 10
 have f11:=HY.out.j.frozen 11
 have f12:=HY.out.j.frozen 12
 have f13:=HY.out.j.frozen 13
 go_wp2_with fail
 exact bodyPost_end (results_none rfl _ _ _) rfl (JobP.plain HEY.out HY.out ((((HY.out.j.set_ 10 (.int .i64 v0)).set_ 11 (.int .i64 v1)).set_ 12 (.int .i64 v2)).set_ 13 (.int .i64 v3)) (((((Kp.refl _ _).setCell (p:=⟨J,10,none⟩) _ (fun h=>h rfl)).setCell (p:=⟨J,11,none⟩) _ (fun h=>h rfl)).setCell (p:=⟨J,12,none⟩) _ (fun h=>h rfl)).setCell (p:=⟨J,13,none⟩) _ (fun h=>h rfl)) rfl rfl)
structure Szw (w0 w wx:World) (J:Nat) (s:Ps) (p:Hp) (l:Sl) (B o n c:Nat) (C:List Int) (W H G X Y:Nat):Prop where
 i:JobIn w0 wx J s p l B o n c C
 g:Blk wx G 28 #[.int .i64 W,.int .i64 H,.slice (some ⟨X,0,none⟩) (W*H) (W*H),.slice (some ⟨Y,0,none⟩) (W*H) (W*H)]
 c:Rd wx 1 (some ⟨X,0,none⟩) (W*H) (W*H) (ivs (List.replicate (W*H) 0))
 z:Rd wx 1 (some ⟨Y,0,none⟩) (W*H) (W*H) (ivs (List.replicate (W*H) 16777215))
 e:Ext w wx
theorem Szw.ext {w0 w wx wy:World} {J:Nat} {s:Ps} {p:Hp} {l:Sl} {B o n c:Nat} {C:List Int} {W H G X Y:Nat} (h:Szw w0 w wx J s p l B o n c C W H G X Y) (e:Ext wx wy):Szw w0 w wy J s p l B o n c C W H G X Y:=
 ⟨h.i.ext e,h.g.ext e,h.c.ext e,h.z.ext e,h.e.trans e⟩
theorem irow_rd {w:World} {X n:Nat} {C:List Int} (h:Blk w X 3 (irow C)) (hn:C.length=n) (hm:n≤maxLen):Rd w 1 (some ⟨X,0,none⟩) n n (ivs C):=by
 refine⟨by simp[hn],Nat.le_refl _,hm,fun _=>⟨X,0,rfl,h.lt,fun j hj=>?_⟩⟩
 rw[Nat.zero_add,h.cell]
 unfold irow
 rw[List.getElem?_toArray]
theorem JobIn.jb_kp {w0 w w':World} {J:Nat} {s:Ps} {p:Hp} {l:Sl} {B o n c:Nat} {C:List Int} (h:JobIn w0 w J s p l B o n c C) (hn:0<n) (k:Kp (·≠J) w w') (ha:w'.cell? ⟨J,94,none⟩=some (.slice (some ⟨B,o,none⟩) n c)):Jb w' J B o n c C:=
 ⟨ha,h.jb.r.kp k (fun ad e=>by
  obtain rfl:=Option.some.inj e
  obtain⟨b',o',e',hb, -⟩:=h.r.at_ hn
  simp only[Option.some.injEq,Addr.mk.injEq]at e'
  have:=h.le
  show B≠J
  omega),h.n⟩
theorem own_rd {w:World} {base:Nat} {e:TypeId} {size:Nat} {a:Option Addr} {n cap:Nat} {xs:List Value} (h:w.ownsRow base e size (.slice a n cap) n xs):Rd w size a n cap xs:=by
 obtain⟨a',c',he,hr⟩:=ownsRow_rd h
 injection he with h1 h2 h3
 subst h1;subst h3
 exact hr
set_option maxRecDepth 100000 in
theorem jsize_any (w0 w:World) (J:Nat) (s:Ps) (p:Hp) (l:Sl) (B o n c:Nat) (C:List Int) (W H:Nat) (h:JobIn w0 w J s p l B o n c C) (h0:C[0]? =some (W:Int)) (h1:C[1]? =some (H:Int)) (w1:1≤W) (w2:W≤1024) (h3:1≤H) (h4:H≤1024)
  (hf:(C4.mk s.f0 s.f1 s.f2 s.f3).Ok):
  Calls Tryz.prog 101 #[.pointer (some ⟨J,0,none⟩)] w (JobP w0 w J {s with W:=W,H:=H,port:=⟨0,0,W,H⟩} {p with C:=List.replicate (W*H) (pk s.f0 s.f1 s.f2 s.f3),Z:=List.replicate (W*H) s.far} (.slice (some ⟨B,o,none⟩) n c)):=by
 have HI:=Lib.hid h
 have HNW:=Lib.hid (fun wz=>new_yes W H wz w1 w2 h3 h4)
 have HWH:=Lib.hid (And.intro w1 (And.intro w2 (And.intro h3 h4)))
 have HFC:=Lib.hid hf
 have H01:=Lib.hid (And.intro h0 h1)
 have HA:Hid (∀w',Ext w w'→w'.cell? ⟨J,94,none⟩=some (.slice (some ⟨B,o,none⟩) n c)∧w'.cell? ⟨B,o,none⟩=some (.int .i64 (W:Int))∧w'.cell? ⟨B,o+1,none⟩=some (.int .i64 (H:Int))):=Lib.hid (fun w' e=>⟨(HI.out.ext e).jb.a,((HI.out.ext e).jb.at h0).1,((HI.out.ext e).jb.at h1).1⟩)
 have i0:=(HI.out.jb.at h0).2
 have i1:=(HI.out.jb.at h1).2
 have hn:=h.n
 have m0: ¬(n:Int)≤0:=by omega
 have m1: ¬(n:Int)≤1:=by omega
 have m2:(0:Int)<n:=by omega
 have m3:(1:Int)<n:=by omega
 clear h h0 h1 w1 w2 h3 h4 hf
 go_enter Tryz.func101,Tryz.ntmps101
 go_upto_region 0 with fail
 go_cut [2,3]from 5 to 19 (fun s2 s3 wx=> ∃(G X Y:Nat),s2=.pointer (some ⟨G,0,none⟩)∧s3=.int .i64 0∧Hid (Szw w0 w wx J s p l B o n c C W H G X Y))
 case first=>
  go_region_held3 (fun w'=>w'.cell? ⟨J,94,none⟩=some (.slice (some ⟨B,o,none⟩) n c)∧w'.cell? ⟨B,o,none⟩=some (.int .i64 (W:Int))∧w'.cell? ⟨B,o+1,none⟩=some (.int .i64 (H:Int)))
   (exact HA.out _ (by(repeat(first|with_reducible(first|exact eR_ _|assumption|refine eA_ ?_ _|refine eD_ ?_|refine eN_ ?_ _|refine eL_ ?_ _)|(with_reducible refine eS_ ?_ _ ?hp;case hp=>first|(simp;done)|(simp;omega)|omega)))))
   (first
    |(go_at_call 152;refine(HNW.out _).mono ?_;rintro e w1 ⟨X,Y,rfl,ho1,ho2,hxy,hE⟩;obtain⟨y1,rfl⟩:=Later.mk' hE;clear hE))
  all_goals
   have hle:=y1.le
   simp at hle
   go_wp2_with fail
   go_meet
  ·have hE2:Ext w y1.w:=by(repeat(first|with_reducible(first|exact eR_ _|assumption|refine eA_ ?_ _|refine eD_ ?_|refine eN_ ?_ _|refine eL_ ?_ _)|(with_reducible refine eS_ ?_ _ ?hp;case hp=>first|(simp;done)|(simp;omega)|omega)))
   exact⟨_,X,Y,rfl,rfl,Lib.hid ⟨(HI.out.ext hE2).ext ((Ext.refl _).alloc _),Blk.new _ _ _,(own_rd ho1).ext ((Ext.refl _).alloc _),(own_rd ho2).ext ((Ext.refl _).alloc _),hE2.alloc _⟩⟩
  ·have hB:=(Blk.new w 28 #[.int .i64 0,.int .i64 0,.slice none 0 0,.slice none 0 0]).drew.later y1
   have hE1:Ext w y1.w:=((Ext.refl w).alloc _).drew.trans y1.ext
   have hE3:Ext y1.w y1.w:=Ext.refl _
   have kk:Kp (·≠w.heap.size) y1.w ((((y1.w.setCell ⟨w.heap.size,0,none⟩ (.int .i64 W)).setCell ⟨w.heap.size,1,none⟩ (.int .i64 H)).setCell ⟨w.heap.size,2,none⟩ (.slice (some ⟨X,0,none⟩) (W*H) (W*H))).setCell ⟨w.heap.size,3,none⟩ (.slice (some ⟨Y,0,none⟩) (W*H) (W*H))):=
    ((((Kp.refl _ _).setCell (p:=⟨w.heap.size,0,none⟩) _ (fun h=>h rfl)).setCell (p:=⟨w.heap.size,1,none⟩) _ (fun h=>h rfl)).setCell (p:=⟨w.heap.size,2,none⟩) _ (fun h=>h rfl)).setCell (p:=⟨w.heap.size,3,none⟩) _ (fun h=>h rfl)
   have hX:X≠w.heap.size:=by
    rintro rfl
    exact own_ne_blk ho1 hB (by decide) rfl
   have hY:Y≠w.heap.size:=by
    rintro rfl
    exact own_ne_blk ho2 hB (by decide) rfl
   have hJn:=HI.out.j.lt
   have hI2:=HI.out.ext hE1
   have hin:JobIn w0 ((((y1.w.setCell ⟨w.heap.size,0,none⟩ (.int .i64 W)).setCell ⟨w.heap.size,1,none⟩ (.int .i64 H)).setCell ⟨w.heap.size,2,none⟩ (.slice (some ⟨X,0,none⟩) (W*H) (W*H))).setCell ⟨w.heap.size,3,none⟩ (.slice (some ⟨Y,0,none⟩) (W*H) (W*H))) J s p l B o n c C:=
    HI.out.ext (kk.ext hE1 (fun k hk=>by omega))
   exact⟨_,X,Y,rfl,rfl,Lib.hid ⟨hin,((((hB.set_ 0 _).set_ 1 _).set_ 2 _).set_ 3 _),(own_rd ho1).kp kk (fun ad e=>by obtain rfl:=Option.some.inj e;exact hX),(own_rd ho2).kp kk (fun ad e=>by obtain rfl:=Option.some.inj e;exact hY),kk.ext (Ext.refl w |>.trans (hE1)) (fun k hk=>by omega)⟩⟩
 case rest=>
  obtain⟨G,X,Y,rfl,rfl,HZ⟩:=hcut
  clear HI HA HNW
  generalize wc=W1 at*
  have hGJ: ¬G=J:=HZ.out.g.ne_type HZ.out.i.j (by decide)
  have hJG: ¬J=G:=fun h=>hGJ h.symm
  have HBX:=Lib.hid (fun wz=>box_any (W:Int) (H:Int) (.slice (some ⟨X,0,none⟩) (W*H) (W*H)) (.slice (some ⟨Y,0,none⟩) (W*H) (W*H)) wz)
  have HCL:Hid (∀wz,Ext W1 wz→Calls Tryz.prog 103 #[.agg #[.int .i64 (W:Int),.int .i64 (H:Int),.slice (some ⟨X,0,none⟩) (W*H) (W*H),.slice (some ⟨Y,0,none⟩) (W*H) (W*H)],Rc.v ⟨0,0,W,H⟩,.int .i64 3,.agg #[.int .i64 s.f0,.int .i64 s.f1,.int .i64 s.f2,.int .i64 s.f3],.int .i64 s.far,.agg #[.bool true,.bool true,.bool true,.bool true]] wz
    (CopyP wz W H (W*H) (List.replicate (W*H) (pk s.f0 s.f1 s.f2 s.f3)) (List.replicate (W*H) s.far))):=
   Lib.hid (fun wz e=>clear_all W H ⟨s.f0,s.f1,s.f2,s.f3⟩ s.far _ _ (W*H) _ _ _ _ wz rfl (by simp) (by simp) HWH.out.1 HWH.out.2.2.1 HWH.out.2.1 HWH.out.2.2.2 HFC.out (fun v hv=>by rw[List.mem_replicate]at hv;obtain⟨-,rfl⟩:=hv;omega) (HZ.out.c.ext e) (HZ.out.z.ext e))
  have HSS:Hid (∀w',Ext W1 w'→(w'.cell? ⟨G,0,none⟩=some (.int .i64 (W:Int))∧w'.cell? ⟨G,1,none⟩=some (.int .i64 (H:Int))∧w'.cell? ⟨G,2,none⟩=some (.slice (some ⟨X,0,none⟩) (W*H) (W*H))∧w'.cell? ⟨G,3,none⟩=some (.slice (some ⟨Y,0,none⟩) (W*H) (W*H)))∧
    w'.cell? ⟨J,5,none⟩=some (.int .i64 s.f0)∧w'.cell? ⟨J,6,none⟩=some (.int .i64 s.f1)∧w'.cell? ⟨J,7,none⟩=some (.int .i64 s.f2)∧w'.cell? ⟨J,8,none⟩=some (.int .i64 s.f3)∧w'.cell? ⟨J,9,none⟩=some (.int .i64 s.far)):=Lib.hid (fun w' e=>by
   have h:=(HZ.out.i.ext e).j
   exact⟨(HZ.out.g.ext e).c4,h.cell 5,h.cell 6,h.cell 7,h.cell 8,h.cell 9⟩)
  go_upto_region 1 with fail
  go_wp2_with (go_at_call 77;refine(need_yes 0 _).mono ?_;rintro e w1 ⟨rfl,rfl⟩)
  go_region_held3 (fun w'=>(w'.cell? ⟨G,0,none⟩=some (.int .i64 (W:Int))∧w'.cell? ⟨G,1,none⟩=some (.int .i64 (H:Int))∧w'.cell? ⟨G,2,none⟩=some (.slice (some ⟨X,0,none⟩) (W*H) (W*H))∧w'.cell? ⟨G,3,none⟩=some (.slice (some ⟨Y,0,none⟩) (W*H) (W*H)))∧
    w'.cell? ⟨J,5,none⟩=some (.int .i64 s.f0)∧w'.cell? ⟨J,6,none⟩=some (.int .i64 s.f1)∧w'.cell? ⟨J,7,none⟩=some (.int .i64 s.f2)∧w'.cell? ⟨J,8,none⟩=some (.int .i64 s.f3)∧w'.cell? ⟨J,9,none⟩=some (.int .i64 s.far))
   (first|(refine HSS.out _ ?_;(repeat(first|with_reducible(first|exact eR_ _|assumption|refine eA_ ?_ _|refine eD_ ?_|refine eN_ ?_ _|refine eL_ ?_ _)|(with_reducible refine eS_ ?_ _ ?hp;case hp=>first|(simp;done)|(simp;omega)|omega)));done)|(have hS:=HSS.out _ HE2.out;simp[go_sem,hGJ,hJG,hS];done))
   (first
    |(go_at_call 34;refine(HBX.out _).mono ?_;rintro e w1 ⟨rfl,hE⟩;obtain⟨y1,rfl⟩:=Later.mk' hE;clear hE)
    |(go_at_call 103;refine(HCL.out _ (by(repeat(first|with_reducible(first|exact eR_ _|assumption|refine eA_ ?_ _|refine eD_ ?_|refine eN_ ?_ _|refine eL_ ?_ _)|(with_reducible refine eS_ ?_ _ ?hp;case hp=>first|(simp;done)|(simp;omega)|omega))))).mono ?_;rintro e w2 ⟨X',Y',rfl,hx,hy,hxy,hlx,hly,hE⟩;obtain⟨y2,rfl⟩:=Later.mk' hE;have HE2:Hid (Ext W1 y2.w):=Lib.hid (by(repeat(first|with_reducible(first|exact eR_ _|assumption|refine eA_ ?_ _|refine eD_ ?_|refine eN_ ?_ _|refine eL_ ?_ _)|(with_reducible refine eS_ ?_ _ ?hp;case hp=>first|(simp;done)|(simp;omega)|omega))));clear hE;have j1:y2.w.cell? ⟨J,1,none⟩=some (.int .i64 s.W):=(HZ.out.i.ext HE2.out).j.cell 1;have j2:y2.w.cell? ⟨J,2,none⟩=some (.int .i64 s.H):=(HZ.out.i.ext HE2.out).j.cell 2;have j3:y2.w.cell? ⟨J,3,none⟩=some (.slice l.c p.C.length l.cc):=(HZ.out.i.ext HE2.out).j.cell 3;have j4:y2.w.cell? ⟨J,4,none⟩=some (.slice l.z p.Z.length l.cz):=(HZ.out.i.ext HE2.out).j.cell 4;have g1:=(HZ.out.i.ext HE2.out).j.frozen 1;have g2:=(HZ.out.i.ext HE2.out).j.frozen 2;have g3:=(HZ.out.i.ext HE2.out).j.frozen 3;have g4:=(HZ.out.i.ext HE2.out).j.frozen 4))
  have HX:=Lib.hid (And.intro hx (And.intro hy (And.intro hlx hly)))
  have HJ2:Hid (Blk ((((y2.w.setCell ⟨J,1,none⟩ (.int .i64 (W:Int))).setCell ⟨J,2,none⟩ (.int .i64 (H:Int))).setCell ⟨J,3,none⟩ (.slice (some ⟨X',0,none⟩) (W*H) (W*H))).setCell ⟨J,4,none⟩ (.slice (some ⟨Y',0,none⟩) (W*H) (W*H))) J 136 (((((s.js p l (.slice (some ⟨B,o,none⟩) n c)).setIfInBounds 1 (.int .i64 (W:Int))).setIfInBounds 2 (.int .i64 (H:Int))).setIfInBounds 3 (.slice (some ⟨X',0,none⟩) (W*H) (W*H))).setIfInBounds 4 (.slice (some ⟨Y',0,none⟩) (W*H) (W*H)))):=
   Lib.hid (((((HZ.out.i.ext HE2.out).j.set_ 1 _).set_ 2 _).set_ 3 _).set_ 4 _)
  have HK2:Hid (Kp (·≠J) y2.w ((((y2.w.setCell ⟨J,1,none⟩ (.int .i64 (W:Int))).setCell ⟨J,2,none⟩ (.int .i64 (H:Int))).setCell ⟨J,3,none⟩ (.slice (some ⟨X',0,none⟩) (W*H) (W*H))).setCell ⟨J,4,none⟩ (.slice (some ⟨Y',0,none⟩) (W*H) (W*H)))):=
   Lib.hid (((((Kp.refl _ _).setCell (p:=⟨J,1,none⟩) _ (fun h=>h rfl)).setCell (p:=⟨J,2,none⟩) _ (fun h=>h rfl)).setCell (p:=⟨J,3,none⟩) _ (fun h=>h rfl)).setCell (p:=⟨J,4,none⟩) _ (fun h=>h rfl))
  have hly1:J<y1.w.heap.size:=(HZ.out.i.j.ext (by(repeat(first|with_reducible(first|exact eR_ _|assumption|refine eA_ ?_ _|refine eD_ ?_|refine eN_ ?_ _|refine eL_ ?_ _)|(with_reducible refine eS_ ?_ _ ?hp;case hp=>first|(simp;done)|(simp;omega)|omega))))).lt
  have HIN2:=Lib.hid (HZ.out.i.ext HE2.out)
  have HEW:=Lib.hid (HZ.out.e.trans HE2.out)
  clear hx hy hlx hly hxy j1 j2 j3 j4 g1 g2 g3 g4 HSS HCL HBX HZ
  generalize((((y2.w.setCell ⟨J,1,none⟩ (.int .i64 (W:Int))).setCell ⟨J,2,none⟩ (.int .i64 (H:Int))).setCell ⟨J,3,none⟩ (.slice (some ⟨X',0,none⟩) (W*H) (W*H))).setCell ⟨J,4,none⟩ (.slice (some ⟨Y',0,none⟩) (W*H) (W*H)))=W2 at*
  have HJA:Hid (Jb W2 J B o n c C):=Lib.hid (HIN2.out.jb_kp (by omega) HK2.out ((HJ2.out.cell 94).trans (by simp[Ps.js])))
  have ca:=HJA.out.a
  have k0:=(HJA.out.at H01.out.1).1
  have k1:=(HJA.out.at H01.out.2).1
  rw[Nat.add_zero]at k0
  go_upto_region 3 with fail
  refine wp_region_later_tail 17 (by kernel_rfl) (by kernel_rfl) ?_
  simp only[List.take_succ_cons,List.take_zero,List.drop_succ_cons,List.drop_zero]
  repeat(go_big_quiet_step ((first|fail|fail)))
  refine wpQuiet_nil ?_
  intro y3
  have HJ3:=Lib.hid (HJ2.out.ext y3.ext)
  have HK3:=Lib.hid (HK2.out.andExt y3.ext)
  clear HJ2 HK2 HJA ca k0 k1
  generalize y3.w=W3 at*
  have c10:W3.cell? ⟨J,10,none⟩=some (.int .i64 s.port.x0):=(HJ3.out.cell 10).trans (by simp[Ps.js])
  have c11:W3.cell? ⟨J,11,none⟩=some (.int .i64 s.port.y0):=(HJ3.out.cell 11).trans (by simp[Ps.js])
  have c12:W3.cell? ⟨J,12,none⟩=some (.int .i64 s.port.x1):=(HJ3.out.cell 12).trans (by simp[Ps.js])
  have c13:W3.cell? ⟨J,13,none⟩=some (.int .i64 s.port.y1):=(HJ3.out.cell 13).trans (by simp[Ps.js])
  have f10:=HJ3.out.frozen 10
  have f11:=HJ3.out.frozen 11
  have f12:=HJ3.out.frozen 12
  have f13:=HJ3.out.frozen 13
  go_wp2_with fail
  have HJ4:=(((HJ3.out.set_ 10 (.int .i64 0)).set_ 11 (.int .i64 0)).set_ 12 (.int .i64 (W:Int))).set_ 13 (.int .i64 (H:Int))
  have HK4:=(((HK3.out.setCell (p:=⟨J,10,none⟩) (.int .i64 0) (fun h=>h rfl)).setCell (p:=⟨J,11,none⟩) (.int .i64 0) (fun h=>h rfl)).setCell (p:=⟨J,12,none⟩) (.int .i64 (W:Int)) (fun h=>h rfl)).setCell (p:=⟨J,13,none⟩) (.int .i64 (H:Int)) (fun h=>h rfl)
  have hE4:=HK4.ext HIN2.out.e (fun k hk=>by have:=HIN2.out.le;omega)
  obtain⟨hx,hy,hlx,hly⟩:=HX.out
  have hmx:W*H≤maxLen:=by have:=mul_le W H HWH.out.2.1 HWH.out.2.2.2;unfold maxLen;omega
  have hl:=HIN2.out.lie.ext hE4
  refine bodyPost_end (results_none rfl _ _ _) rfl ⟨rfl,{l with c:=some ⟨X',0,none⟩,cc:=W*H,z:=some ⟨Y',0,none⟩,cz:=W*H},Blk.cast HJ4 (by simp[Ps.js]),⟨⟨?_,?_,hl.lies.k,hl.lies.v,hl.lies.f⟩,fun _ ad e=>by obtain rfl:=Option.some.inj e;exact⟨_,hx.kp HK4 (by omega)⟩,fun _ ad e=>by obtain rfl:=Option.some.inj e;exact⟨_,hy.kp HK4 (by omega)⟩,hl.ba,hl.bb,hl.bv,hl.bf⟩,hE4,(Kp.of_ext HEW.out).trans HK4⟩
  ·have:=irow_rd (hx.kp HK4 (by omega)) (List.length_replicate ..) hmx
   simpa using this
  ·have:=irow_rd (hy.kp HK4 (by omega)) (List.length_replicate ..) hmx
   simpa using this
end Go.Proofs.YtplljnfjkkloeaaGreatDoor
set_option linter.unusedVariables false
set_option linter.unusedSimpArgs false
namespace Go.Proofs.YtplljnfjkkloeaaGreatDoor
attribute [local go_sem] Go.Oper.semAt_some
open Go.RowKit
set_option maxRecDepth 100000 in
theorem image_1 (w0 w:World) (J:Nat) (s:Ps) (p:Hp) (l:Sl) (B o n c:Nat) (C:List Int) (W H:Nat) (h:JobIn w0 w J s p l B o n c C) (h0:C[0]? =some (W:Int)) (h1:C[1]? =some (H:Int)) (w1:1≤W) (w2:W≤1024) (h3:1≤H) (h4:H≤1024)
  (hf:(C4.mk s.f0 s.f1 s.f2 s.f3).Ok):
  Calls Tryz.prog 79 #[.pointer (some ⟨J,0,none⟩),.int .i64 1] w (JobP w0 w J {s with W:=W,H:=H,port:=⟨0,0,W,H⟩} {p with C:=List.replicate (W*H) (pk s.f0 s.f1 s.f2 s.f3),Z:=List.replicate (W*H) s.far} (.slice (some ⟨B,o,none⟩) n c)):=by
 have HS:=Lib.hid (jsize_any w0 w J s p l B o n c C W H h h0 h1 w1 w2 h3 h4 hf)
 clear h h0 h1 w1 w2 h3 h4 hf
 go_enter Tryz.func79,Tryz.ntmps79
 go_wp2_with (go_at_call 101;refine HS.out.mono ?_;rintro e w1 ⟨rfl,hX⟩;have HX:=Lib.hid hX;clear hX HS)
 exact bodyPost_end (results_none rfl _ _ _) rfl ⟨rfl,HX.out⟩
set_option maxRecDepth 100000 in
theorem verts_14 (w0 w:World) (J:Nat) (s:Ps) (p:Hp) (l:Sl) (B o n c:Nat) (C:List Int) (v0 v1 v2 v3:Int) (h:JobIn w0 w J s p l B o n c C) (h0:C[0]? =some v0) (h1:C[1]? =some v1) (h2:C[2]? =some v2) (h3:C[3]? =some v3):
  Calls Tryz.prog 81 #[.pointer (some ⟨J,0,none⟩),.int .i64 14] w (JobP w0 w J {s with c0:=v0,c1:=v1,c2:=v2,c3:=v3} p (.slice (some ⟨B,o,none⟩) n c)):=by
 have HI:=Lib.hid h
 have HC:=Lib.hid (color_any J B o n c C v0 v1 v2 v3 w h.jb h0 h1 h2 h3)
 clear h h0 h1 h2 h3
 go_enter Tryz.func81,Tryz.ntmps81
 go_wp2_with (go_at_call 102;refine HC.out.mono ?_;rintro e w1 ⟨rfl,hE⟩;have HY:=Lib.hid (HI.out.ext hE);have HEY:=Lib.hid hE;clear hE HC HI;have c53:w1.cell? ⟨J,53,none⟩=some (.int .i64 s.c0):=HY.out.j.cell 53;have c54:w1.cell? ⟨J,54,none⟩=some (.int .i64 s.c1):=HY.out.j.cell 54;have c55:w1.cell? ⟨J,55,none⟩=some (.int .i64 s.c2):=HY.out.j.cell 55;have c56:w1.cell? ⟨J,56,none⟩=some (.int .i64 s.c3):=HY.out.j.cell 56;have f53:=HY.out.j.frozen 53;have f54:=HY.out.j.frozen 54;have f55:=HY.out.j.frozen 55;have f56:=HY.out.j.frozen 56)
 exact bodyPost_end (results_none rfl _ _ _) rfl (JobP.plain HEY.out HY.out ((((HY.out.j.set_ 53 (.int .i64 v0)).set_ 54 (.int .i64 v1)).set_ 55 (.int .i64 v2)).set_ 56 (.int .i64 v3)) (((((Kp.refl _ _).setCell (p:=⟨J,53,none⟩) _ (fun h=>h rfl)).setCell (p:=⟨J,54,none⟩) _ (fun h=>h rfl)).setCell (p:=⟨J,55,none⟩) _ (fun h=>h rfl)).setCell (p:=⟨J,56,none⟩) _ (fun h=>h rfl)) rfl rfl)
set_option maxRecDepth 100000 in
theorem verts_16 (w0 w:World) (J:Nat) (s:Ps) (p:Hp) (l:Sl) (B o n c:Nat) (C:List Int) (v0:Int) (h:JobIn w0 w J s p l B o n c C) (h0:C[0]? =some v0) (hW:0<s.W) (hop:s.op=false):
  Calls Tryz.prog 81 #[.pointer (some ⟨J,0,none⟩),.int .i64 16] w (JobP w0 w J {s with op:=true,mode:=v0} p (.slice (some ⟨B,o,none⟩) n c)):=by
 have HI:=Lib.hid h
 have HC:=Lib.hid (begin_any J B o n c C s.W v0 s.mode w h.j h.jb h0 rfl hW (by rw[←hop];rfl) rfl)
 clear h h0 hW hop
 go_enter Tryz.func81,Tryz.ntmps81
 go_wp2_with (go_at_call 115;refine HC.out.mono ?_;rintro e w1 ⟨rfl,hB,hK⟩;have HB:=Lib.hid hB;have HK:=Lib.hid hK;clear hB hK HC)
 exact bodyPost_end (results_none rfl _ _ _) rfl (JobP.plain (Ext.refl _) HI.out HB.out HK.out rfl rfl)
end Go.Proofs.YtplljnfjkkloeaaGreatDoor
set_option linter.unusedVariables false
set_option linter.unusedSimpArgs false
namespace Go.Proofs.YtplljnfjkkloeaaGreatDoor
open Go.RowKit
structure AP (W:World) (ks:List (Nat×Nat)) (V:Nat→Value) (J:Nat) (T:TypeId) (js:Array Value) (off ib ia is_ db da:Nat) (tE:TypeId) (size n:Nat) (news xs:List Value) (st:Nat→Bool) (u:Nat→Value) (x:World):Prop where
 kp:Kp (·≠J) W x
 val: ∀q∈ks,st q.1=true→u q.2=V q.2
 b:st ib=true→ ∃G,u db=.slice (some ⟨G,0,none⟩) 1 1∧Blk x G tE news.toArray
 a:st ia=true→ ∃va vc,u da=.slice va (n+1) vc∧RdB x tE size va (n+1) vc (xs++news)
 j:Blk x J T (if st is_=true then js.setIfInBounds off (u da)else js)
section
variable {W x y:World} {ks:List (Nat×Nat)} {V:Nat→Value} {J:Nat} {T:TypeId} {js:Array Value} {off ib ia is_ db da:Nat} {tE:TypeId} {size n:Nat} {news xs:List Value} {st:Nat→Bool} {u:Nat→Value}
theorem AP.begin (k:Kp (·≠J) W x) (h:Blk x J T js):AP W ks V J T js off ib ia is_ db da tE size n news xs (fun _=>false) u x:=
 ⟨k,fun _ _ h=>(by cases h),fun h=>(by cases h),fun h=>(by cases h),by rw[if_neg (by simp)];exact h⟩
theorem AP.quiet (h:AP W ks V J T js off ib ia is_ db da tE size n news xs st u x) (i d:Nat) (hk: ∀q∈ks,(q.2=d↔q.1=i)) (hi:ib≠i∧ia≠i∧is_≠i) (hd:db≠d∧da≠d) {v:Value} (hv:v=V d):AP W ks V J T js off ib ia is_ db da tE size n news xs (ups st i) (upu u d v) x:=by
 subst hv
 obtain⟨i1,i2,i3⟩:=hi
 obtain⟨d1,d2⟩:=hd
 refine⟨h.kp,fun q hq hs=>?_,fun hs=>?_,fun hs=>?_,?_⟩
 ·by_cases hi:q.1=i
  ·rw[(hk q hq).2 hi,upu_eq]
  ·rw[upu_ne (fun hd=>hi ((hk q hq).1 hd))]
   rw[ups_ne hi]at hs
   exact h.val q hq hs
 ·rw[ups_ne i1]at hs
  rw[upu_ne d1]
  exact h.b hs
 ·rw[ups_ne i2]at hs
  rw[upu_ne d2]
  exact h.a hs
 ·rw[ups_ne i3,upu_ne d2]
  exact h.j
theorem AP.make (h:AP W ks V J T js off ib ia is_ db da tE size n news xs st u x) (hk: ∀q∈ks,q.1≠ib∧q.2≠db) (hx:ia≠ib∧is_≠ib∧da≠db):AP W ks V J T js off ib ia is_ db da tE size n news xs (ups st ib) (upu u db (.slice (some ⟨x.heap.size,0,none⟩) 1 1)) (x.alloc (.cells news.toArray tE)):=by
 obtain⟨x1,x2,x3⟩:=hx
 have e:Ext x (x.alloc (.cells news.toArray tE)):=(Ext.refl x).alloc _
 refine⟨h.kp.andExt e,fun q hq hs=>?_,fun _=>⟨_,upu_eq _ _,Blk.new _ _ _⟩,fun hs=>?_,?_⟩
 ·obtain⟨q1,q2⟩:=hk q hq
  rw[ups_ne q1]at hs
  rw[upu_ne q2]
  exact h.val q hq hs
 ·rw[ups_ne x1]at hs
  rw[upu_ne x3]
  obtain⟨va,vc,h1,h2⟩:=h.a hs
  exact⟨va,vc,h1,h2.ext e⟩
 ·rw[ups_ne x2,upu_ne x3]
  exact h.j.ext e
theorem AP.app (h:AP W ks V J T js off ib ia is_ db da tE size n news xs st u x) (e:Ext x y) {va:Option Addr} {vc:Nat} (hr:RdB y tE size va (n+1) vc (xs++news)) (hk: ∀q∈ks,q.1≠ia∧q.2≠da) (hx:ib≠ia∧is_≠ia∧db≠da) (hs0:st is_=false):AP W ks V J T js off ib ia is_ db da tE size n news xs (ups st ia) (upu u da (.slice va (n+1) vc)) y:=by
 obtain⟨x1,x2,x3⟩:=hx
 refine⟨h.kp.andExt e,fun q hq hs=>?_,fun hs=>?_,fun _=>⟨va,vc,upu_eq _ _,hr⟩,?_⟩
 ·obtain⟨q1,q2⟩:=hk q hq
  rw[ups_ne q1]at hs
  rw[upu_ne q2]
  exact h.val q hq hs
 ·rw[ups_ne x1]at hs
  rw[upu_ne x3]
  obtain⟨G,h1,h2⟩:=h.b hs
  exact⟨G,h1,h2.ext e⟩
 ·have hj:=h.j
  rw[hs0,if_neg (by simp)]at hj
  rw[ups_ne x2,hs0,if_neg (by simp)]
  exact hj.ext e
theorem AP.store (h:AP W ks V J T js off ib ia is_ db da tE size n news xs st u x) (k:Kp (·≠J) x y) (hb:Blk y J T (js.setIfInBounds off (u da))) (hk: ∀q∈ks,q.1≠is_) (hx:ib≠is_∧ia≠is_) (hne:tE≠T):AP W ks V J T js off ib ia is_ db da tE size n news xs (ups st is_) u y:=by
 obtain⟨x1,x2⟩:=hx
 have kk: ∀g cs,Blk x g tE cs→Blk y g tE cs:=fun g cs hg=>hg.kp k (hg.ne_type h.j hne)
 refine⟨h.kp.trans k,fun q hq hs=>?_,fun hs=>?_,fun hs=>?_,by rw[ups_eq,if_pos rfl];exact hb⟩
 ·rw[ups_ne (hk q hq)]at hs
  exact h.val q hq hs
 ·rw[ups_ne x1]at hs
  obtain⟨G,h1,h2⟩:=h.b hs
  exact⟨G,h1,kk _ _ h2⟩
 ·rw[ups_ne x2]at hs
  obtain⟨va,vc,h1,h2⟩:=h.a hs
  exact⟨va,vc,h1,h2.keep kk⟩
end
theorem wp_append_grows {P:Program} {o:Oper} {a:Act} {w:World} {K:Act→World→Prop} {Q:Exit→Act→World→Prop} (hg:o.guard=none) (s x:Operand) (t:TypeId) (hop:o.op=Op.call {callee:=Callee.builtin Builtin.append,args:= #[s,x],argTypes:= #[t,t]})
  (e:TypeId)(size bytes:Nat)(z:Value)(h1:P.underlying t=some (.slice e))(hi:(P.info? e).map (fun i=>(i.zero,i.size,i.bytes))=some (some z,size,bytes))(h6:z.cells.size=size)(h7:0<size)
  (ao:Option Addr)(n:Nat)(olds:List Value)(hs:a.eval s=.slice ao n n)(hr:Rd w size ao n n olds)(hnone:ao=none→n=0∧n=0)
  (g:Nat)(news:List Value)(hx:a.eval x=.slice (some ⟨g,0,none⟩) 1 1)(hb:Blk w g e news.toArray)(hn:news.length=size)(h1c: ∀u∈news,u.oneCell'=true)(b1:n+1≤maxLen)(b2:(n+1)*bytes≤140737488355328)
  (hK: ∀va vc w',RdB w' e size va (n+1) vc (olds++news)→Ext w w'→K (a.put o.dst (.slice va (n+1) vc)) w'):o.wp P a w K Q:=by
 obtain⟨i0,hi0,hz0,hz1,hz2⟩:=info_parts hi
 have hw: ∀ops:Array Oper,Region.wanted o (yielded ops a.tmps)=true:=fun ops=>by simp[Region.wanted,hg]
 have H:=step_append_grows (P:=P) (ops:= #[]) (o:=o) (a:=a) (w:=w) (K:=K) (Q:=Q) (E:=False) hg s x t hop e i0 z size bytes h1 hi0 hz0 hz1 hz2 h6 h7 ao n n olds hs hnone hr.len (fun b hb=>(hb▸hr:Rd w size (some b) n n olds).news)
  ⟨g,0,none⟩ 1 1 news hx (by rw[hn,Nat.one_mul]) (fun j u hj=>by
   have hadd:(⟨g,0,none⟩:Addr).add j=⟨g,j,none⟩:=by unfold Addr.add;split <;>simp_all
   rw[hadd,hb.cell]
   simpa using hj) h1c (by omega) b1 b2 (fun v' w' hown hgrow=>by
   obtain⟨va,vc,rfl,hrb⟩:=ownsRow_rdB hown
   exact hK va vc w' hrb ((Ext.refl w).grown hgrow (fun k hk=>by cases hk)))
 rw[if_pos (hw _)]at H
 exact H
end Go.Proofs.YtplljnfjkkloeaaGreatDoor
