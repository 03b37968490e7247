/- Proof text: primitives of fewer than two vertices; pipe.Emit of lines. By an AI agent. No condition beyond what each theorem states. -/
import Derived.Test.YtplljnfjkkloeaaGreatDoorHQ
import Derived.Test.YtplljnfjkkloeaaGreatDoorJE
import Derived.Test.YtplljnfjkkloeaaGreatDoorB
import Derived.Test.YtplljnfjkkloeaaGreatDoorJG
set_option linter.unusedVariables false
set_option linter.unusedSimpArgs false
set_option maxHeartbeats 16000000
namespace Go.Proofs.YtplljnfjkkloeaaGreatDoor
attribute [local go_sem] Go.Oper.semAt_some
open Go.RowKit
set_option maxRecDepth 100000 in
theorem count_0 (w:World):Calls Tryz.prog 60 #[.int .i64 2,.int .i64 0] w fun e w'=>e=.returned (.int .i64 0)∧Ext w w':=by
 go_enter Tryz.func60,Tryz.ntmps60
 go_wp2_with fail
 go_ret
 exact⟨rfl,by(repeat(first|with_reducible(first|exact eR_ _|assumption|refine eA_ ?_ _|refine eD_ ?_|refine eN_ ?_ _|refine eL_ ?_ _)|(with_reducible refine eS_ ?_ _ ?hp;case hp=>first|(simp;done)|(simp;omega)|omega)))⟩
set_option maxRecDepth 100000 in
theorem count_1 (w:World):Calls Tryz.prog 60 #[.int .i64 2,.int .i64 1] w fun e w'=>e=.returned (.int .i64 0)∧Ext w w':=by
 go_enter Tryz.func60,Tryz.ntmps60
 go_wp2_with (go_at_call 59;refine(plans_two _).mono ?_;rintro e w1 ⟨V,rfl,hB,hE⟩;obtain⟨y1,rfl⟩:=Later.mk' hE;clear hE)
 go_ret
 exact⟨rfl,by(repeat(first|with_reducible(first|exact eR_ _|assumption|refine eA_ ?_ _|refine eD_ ?_|refine eN_ ?_ _|refine eL_ ?_ _)|(with_reducible refine eS_ ?_ _ ?hp;case hp=>first|(simp;done)|(simp;omega)|omega)))⟩
set_option maxRecDepth 100000 in
theorem prims_few (n:Nat) (A:Option Addr) (c:Nat) (w:World) (h:n<2):Calls Tryz.prog 38 #[.int .i64 2,.slice A n c,.bool false] w (PrimsQ 2 0 w):=by
 have HCO:Hid (∀w,Calls Tryz.prog 60 #[.int .i64 2,.int .i64 (n:Int)] w fun e w'=>e=.returned (.int .i64 0)∧Ext w w'):=Lib.hid (fun w=>by
  rcases(by omega:n=0∨n=1)with rfl|rfl
  ·exact count_0 w
  ·exact count_1 w)
 have m3:decide ((256:Int)<n)=false:=by simp;omega
 clear h
 go_enter Tryz.func38,Tryz.ntmps38
 go_wp2_with (go_at_call 59;refine(plans_two _).mono ?_;rintro e w1 ⟨V,rfl,hB,hE⟩;obtain⟨y1,rfl⟩:=Later.mk' hE;clear hE hB)
 refine(HCO.out _).mono ?_
 rintro e w2 ⟨rfl,hE⟩
 obtain⟨y2,rfl⟩:=Later.mk' hE
 clear hE
 go_wp2_with fail
 go_loopw [9,10,11,12,13,14,15,35] (fun o _ _ _ _ _ _ i wr=>o=.slice none 0 0∧i=.int .i64 0∧Hid (Ext w wr)) (fun _ _ _ _ _ _ _ i _=>0)
 case atStart=>exact⟨rfl,rfl,Lib.hid (by(repeat(first|with_reducible(first|exact eR_ _|assumption|refine eA_ ?_ _|refine eD_ ?_|refine eN_ ?_ _|refine eL_ ?_ _)|(with_reducible refine eS_ ?_ _ ?hp;case hp=>first|(simp;done)|(simp;omega)|omega))))⟩
 case round=>
  obtain⟨rfl,rfl,HE⟩:=hrel
  go_wp2_with fail
  refine bodyPost_ret (v:=.tuple #[.slice none 0 0,.int .i64 0]) (by simp[results,Tryz.results38,go_sem]) rfl ?_
  exact⟨[],none,0,rfl,rfl,⟨Rd.empty _ _ _ _ (by unfold maxLen;omega),fun h=>by omega⟩,fun j q h=>by simp at h,HE.out⟩
theorem primsq_of {m n:Nat} {w:World} {e:Ending} {w':World} (h:PrimsP m n w e w') (h2:2≤n):PrimsQ m (ncnt m n) w e w':=by
 unfold ncnt
 rw[if_neg (by omega)]
 exact h
theorem emit_any (s:Ps) (p:Hp) (l:Sl) (m n:Nat) (w:World) (hl:Lies s p l w) (hd:Drawn s p m n) (h2:m=1→2≤p.V.length):
  Calls Tryz.prog 15 #[.agg (s.cs p l)] w fun e w'=> ∃a c,e=.returned (.tuple #[.slice a (linesK m n s.dashed s.dash ⟨0,0,s.W,s.H⟩ (p.V.map (vmap · s.port)) (ncnt m p.V.length)).2.length c,.bool true])∧
   Rd w' 8 a (linesK m n s.dashed s.dash ⟨0,0,s.W,s.H⟩ (p.V.map (vmap · s.port)) (ncnt m p.V.length)).2.length c ((linesK m n s.dashed s.dash ⟨0,0,s.W,s.H⟩ (p.V.map (vmap · s.port)) (ncnt m p.V.length)).2.flatMap Fr.cells)∧(∀ad,a=some ad→w.heap.size≤ad.block∧ad.block<w'.heap.size)∧Ext w w':=by
 refine emit_core s p l m n _ w hl hd (ncnt_le _ _) (fun k hk=>ncnt_idx hk) (fun wz=>?_)
 rw[hd.len]
 by_cases h:p.V.length<2
 ·rcases hd.hm with rfl|rfl
  ·have:=h2 rfl;omega
  ·unfold ncnt
   rw[if_pos h]
   exact prims_few _ _ _ wz h
 ·rcases hd.hm with rfl|rfl
  ·exact(prims_one _ _ _ wz (by omega) hd.le).mono fun e w' hh=>primsq_of hh (by omega)
  ·exact(prims_two _ _ _ wz (by omega) hd.le).mono fun e w' hh=>primsq_of hh (by omega)
end Go.Proofs.YtplljnfjkkloeaaGreatDoor
set_option linter.unusedVariables false
set_option linter.unusedSimpArgs false
namespace Go.Proofs.YtplljnfjkkloeaaGreatDoor
attribute [local go_sem] Go.Oper.semAt_some
open Go.RowKit
def Ps.lines (s:Ps) (p:Hp) (m k:Nat):List Fr:=(linesK m k s.dashed s.dash ⟨0,0,s.W,s.H⟩ (p.V.map (vmap · s.port)) (ncnt m p.V.length)).2
structure Ready (s:Ps) (p:Hp) (W H:Nat):Prop where
 sW:s.W=W
 sH:s.H=H
 lc:p.C.length=W*H
 lz:p.Z.length=W*H
 w0:1≤W
 w1:W≤1024
 h0:1≤H
 h1:H≤1024
 r: ∀v∈p.C,0≤v∧v<4294967296
 o:(Op3.mk s.box s.func s.keep s.mix s.sf s.df).Ok
 deep:s.deep=false
 k0:s.k0=true
 k1:s.k1=true
 k2:s.k2=true
 k3:s.k3=true
set_option maxRecDepth 100000 in
theorem js_pipe (s:Ps) (p:Hp) (l:Sl) (a:Value):(s.js p l a).extract 0 (0+94)=s.cs p l:=by kernel_rfl
theorem js_size (s:Ps) (p:Hp) (l:Sl) (a:Value):(s.js p l a).size=95:=rfl
theorem Rd.ptr {w:World} {size:Nat} {a:Option Addr} {n cap:Nat} {xs:List Value} (h:Rd w size a n cap xs) (h0:0<n): ∀ad,a=some ad→ad.block<w.heap.size:=by
 obtain⟨b,off,rfl,hb, -⟩:=h.at_ h0
 rintro ad he
 obtain rfl:=Option.some.inj he
 exact hb
set_option maxRecDepth 100000 in
theorem jend_any (w0 w:World) (J:Nat) (s:Ps) (p:Hp) (l:Sl) (ar:Value) (m k W H:Nat) (h:JobE w0 w J s p l ar) (hd:Drawn s p m k) (h2:m=1→2≤p.V.length) (hr:Ready s p W H) (hT:Takes W H (s.lines p m k)):
  Calls Tryz.prog 117 #[.pointer (some ⟨J,0,none⟩)] w (JobP w0 w J {s with op:=false,mode:=0} {p with C:=fall W s.mix s.sf s.df p.C (s.lines p m k),V:=[],F:=[]} ar):=by
 have HI:=Lib.hid h
 have HD:=Lib.hid hd
 have HR:=Lib.hid hr
 have HT:=Lib.hid hT
 have HEM:=Lib.hid (emit_any s p l m k w (h.lie.lies.ext h.e) hd h2)
 have hWH:0<W*H:=Nat.mul_pos hr.w0 hr.h0
 have hWM:W*H≤1048576:=mul_le W H hr.w1 hr.h1
 have HCP:Hid (∀wz,Ext w wz→Calls Tryz.prog 153 #[.agg #[.int .i64 s.W,.int .i64 s.H,.slice l.c p.C.length l.cc,.slice l.z p.Z.length l.cz]] wz (CopyP wz W H (W*H) p.C p.Z)):=Lib.hid (fun wz e=>by
  rw[hr.sW,hr.sH,hr.lc,hr.lz]
  exact copy_any W H p.C p.Z (W*H) l.c l.z l.cc l.cz wz hr.lc hr.lz hWH hWM (by have:=(h.lie.lies.c.ext h.e).ext e;rw[hr.lc]at this;exact this) (by have:=(h.lie.lies.z.ext h.e).ext e;rw[hr.lz]at this;exact this))
 rw[show(linesK m k s.dashed s.dash ⟨0,0,s.W,s.H⟩ (p.V.map (vmap · s.port)) (ncnt m p.V.length)).2=s.lines p m k from rfl]at HEM
 clear h hd h2 hr hT
 generalize s.lines p m k=L at*
 go_enter Tryz.func117,Tryz.ntmps117
 go_wp2_with (refine wpList_load_blk rfl (.tmp 10) 53 rfl 0 rfl HI.out.j 94 agg_pipe size_pipe (by rw[js_size];omega) (s.cs p l) (js_pipe _ _ _ _) ?_)
 have j1:w.cell? ⟨J,1,none⟩=some (.int .i64 s.W):=HI.out.j.cell 1
 have j2:w.cell? ⟨J,2,none⟩=some (.int .i64 s.H):=HI.out.j.cell 2
 have j3:w.cell? ⟨J,3,none⟩=some (.slice l.c p.C.length l.cc):=HI.out.j.cell 3
 have j4:w.cell? ⟨J,4,none⟩=some (.slice l.z p.Z.length l.cz):=HI.out.j.cell 4
 go_wp2_with (go_at_call 15;refine HEM.out.mono ?_;rintro e w1 ⟨a,ca,rfl,hrd,hlt,hE⟩;obtain⟨y1,rfl⟩:=Later.mk' hE;have HRD:=Lib.hid hrd;have HLA:=Lib.hid hlt;clear hrd hlt hE HEM)
 refine(HCP.out _ (by(repeat(first|with_reducible(first|exact eR_ _|assumption|refine eA_ ?_ _|refine eD_ ?_|refine eN_ ?_ _|refine eL_ ?_ _)|(with_reducible refine eS_ ?_ _ ?hp;case hp=>first|(simp;done)|(simp;omega)|omega))))).mono ?_
 rintro e w2 ⟨X,Y,rfl,hx,hy,hxy,hlx,hly,hE⟩
 have HX:=Lib.hid (And.intro hx (And.intro hy (And.intro hxy (And.intro hlx hly))))
 have HE2:=Lib.hid (y1.ext.trans hE)
 have HIN2:=Lib.hid (HI.out.ext HE2.out)
 have HRD2:=Lib.hid (HRD.out.ext hE)
 clear hx hy hxy hlx hly hE j1 j2 j3 j4 HCP
 have i1:w2.cell? ⟨J,1,none⟩=some (.int .i64 s.W):=HIN2.out.j.cell 1
 have i2:w2.cell? ⟨J,2,none⟩=some (.int .i64 s.H):=HIN2.out.j.cell 2
 have i3:w2.cell? ⟨J,3,none⟩=some (.slice l.c p.C.length l.cc):=HIN2.out.j.cell 3
 have i4:w2.cell? ⟨J,4,none⟩=some (.slice l.z p.Z.length l.cz):=HIN2.out.j.cell 4
 have f1:=HIN2.out.j.frozen 1
 have f2:=HIN2.out.j.frozen 2
 have f3:=HIN2.out.j.frozen 3
 have f4:=HIN2.out.j.frozen 4
 go_upto_region 3 with fail
 have HJ3:Hid (Blk ((((w2.setCell ⟨J,1,none⟩ (.int .i64 (W:Int))).setCell ⟨J,2,none⟩ (.int .i64 (H:Int))).setCell ⟨J,3,none⟩ (.slice (some ⟨X,0,none⟩) (W*H) (W*H))).setCell ⟨J,4,none⟩ (.slice (some ⟨Y,0,none⟩) (W*H) (W*H))) J 136 (((((s.js p l ar).setIfInBounds 1 (.int .i64 (W:Int))).setIfInBounds 2 (.int .i64 (H:Int))).setIfInBounds 3 (.slice (some ⟨X,0,none⟩) (W*H) (W*H))).setIfInBounds 4 (.slice (some ⟨Y,0,none⟩) (W*H) (W*H)))):=
  Lib.hid ((((HIN2.out.j.set_ 1 _).set_ 2 _).set_ 3 _).set_ 4 _)
 have HK3:Hid (Kp (·≠J) w2 ((((w2.setCell ⟨J,1,none⟩ (.int .i64 (W:Int))).setCell ⟨J,2,none⟩ (.int .i64 (H:Int))).setCell ⟨J,3,none⟩ (.slice (some ⟨X,0,none⟩) (W*H) (W*H))).setCell ⟨J,4,none⟩ (.slice (some ⟨Y,0,none⟩) (W*H) (W*H)))):=
  Lib.hid (((((Kp.refl _ _).setCell (p:=⟨J,1,none⟩) _ (fun h=>h rfl)).setCell (p:=⟨J,2,none⟩) _ (fun h=>h rfl)).setCell (p:=⟨J,3,none⟩) _ (fun h=>h rfl)).setCell (p:=⟨J,4,none⟩) _ (fun h=>h rfl))
 clear i1 i2 i3 i4 f1 f2 f3 f4
 generalize((((w2.setCell ⟨J,1,none⟩ (.int .i64 (W:Int))).setCell ⟨J,2,none⟩ (.int .i64 (H:Int))).setCell ⟨J,3,none⟩ (.slice (some ⟨X,0,none⟩) (W*H) (W*H))).setCell ⟨J,4,none⟩ (.slice (some ⟨Y,0,none⟩) (W*H) (W*H)))=W3 at*
 have hJy:J<y1.w.heap.size:=Nat.lt_of_lt_of_le HI.out.j.lt y1.le
 have o0:W3.cell? ⟨J,79,none⟩=some (.bool false):=by rw[←HD.out.cut];exact(HJ3.out.cell 79).trans (by simp[Ps.js])
 have o1:W3.cell? ⟨J,80,none⟩=some (.int .i64 s.box.x0):=(HJ3.out.cell 80).trans (by simp[Ps.js])
 have o2:W3.cell? ⟨J,81,none⟩=some (.int .i64 s.box.y0):=(HJ3.out.cell 81).trans (by simp[Ps.js])
 have o3:W3.cell? ⟨J,82,none⟩=some (.int .i64 s.box.x1):=(HJ3.out.cell 82).trans (by simp[Ps.js])
 have o4:W3.cell? ⟨J,83,none⟩=some (.int .i64 s.box.y1):=(HJ3.out.cell 83).trans (by simp[Ps.js])
 have o5:W3.cell? ⟨J,84,none⟩=some (.bool false):=by rw[←HR.out.deep];exact(HJ3.out.cell 84).trans (by simp[Ps.js])
 have o6:W3.cell? ⟨J,85,none⟩=some (.int .i64 s.func):=(HJ3.out.cell 85).trans (by simp[Ps.js])
 have o7:W3.cell? ⟨J,86,none⟩=some (.bool s.keep):=(HJ3.out.cell 86).trans (by simp[Ps.js])
 have o8:W3.cell? ⟨J,87,none⟩=some (.bool s.mix):=(HJ3.out.cell 87).trans (by simp[Ps.js])
 have o9:W3.cell? ⟨J,88,none⟩=some (.int .i64 s.sf):=(HJ3.out.cell 88).trans (by simp[Ps.js])
 have o10:W3.cell? ⟨J,89,none⟩=some (.int .i64 s.df):=(HJ3.out.cell 89).trans (by simp[Ps.js])
 have o11:W3.cell? ⟨J,90,none⟩=some (.bool true):=by rw[←HR.out.k0];exact(HJ3.out.cell 90).trans (by simp[Ps.js])
 have o12:W3.cell? ⟨J,91,none⟩=some (.bool true):=by rw[←HR.out.k1];exact(HJ3.out.cell 91).trans (by simp[Ps.js])
 have o13:W3.cell? ⟨J,92,none⟩=some (.bool true):=by rw[←HR.out.k2];exact(HJ3.out.cell 92).trans (by simp[Ps.js])
 have o14:W3.cell? ⟨J,93,none⟩=some (.bool true):=by rw[←HR.out.k3];exact(HJ3.out.cell 93).trans (by simp[Ps.js])
 refine wp_region_later_tail 8 (by kernel_rfl) (by kernel_rfl) ?_
 simp only[List.take_succ_cons,List.take_zero,List.drop_succ_cons,List.drop_zero]
 repeat(go_big_quiet_step ((first|fail|fail)))
 refine wpQuiet_nil ?_
 intro y4
 clear o0 o1 o2 o3 o4 o5 o6 o7 o8 o9 o10 o11 o12 o13 o14
 have HJ4:=Lib.hid (HJ3.out.ext y4.ext)
 have HK4:=Lib.hid (HK3.out.andExt y4.ext)
 clear HJ3 HK3
 generalize y4.w=W4 at*
 obtain⟨hx,hy,hxy,hlx,hly⟩:=HX.out
 have hXJ:X≠J:=by omega
 have hYJ:Y≠J:=by omega
 have HIM:Hid (Img W4 136 J (((((s.js p l ar).setIfInBounds 1 (.int .i64 (W:Int))).setIfInBounds 2 (.int .i64 (H:Int))).setIfInBounds 3 (.slice (some ⟨X,0,none⟩) (W*H) (W*H))).setIfInBounds 4 (.slice (some ⟨Y,0,none⟩) (W*H) (W*H))) W H (W*H) X Y p.C p.Z):=
  Lib.hid ⟨HJ4.out,⟨by simp[Ps.js],by simp[Ps.js],by simp[Ps.js],by simp[Ps.js],rfl,HR.out.w0,HR.out.h0,HR.out.w1,HR.out.h1⟩,hx.kp HK4.out hXJ,hy.kp HK4.out hYJ,HR.out.lc,HR.out.lz,hXJ,hxy,HR.out.r⟩
 have HNX:Hid (∀ad,a=some ad→ad.block≠X):=Lib.hid (fun ad e=>by have:=(HLA.out ad e).2;omega)
 have hJw:=HI.out.j.lt
 have HRD4:Hid (Rd W4 8 a L.length ca (L.flatMap Fr.cells)):=Lib.hid (HRD2.out.kp HK4.out (fun ad e=>by have:=(HLA.out ad e).1;omega))
 have HAL:=Lib.hid (all_any (Op3.mk s.box s.func s.keep s.mix s.sf s.df) L a ca W4 HIM.out HR.out.o HRD4.out HNX.out HT.out)
 clear hx hy hlx hly
 go_wp2_with (go_at_call 166;refine HAL.out.mono ?_;rintro e w5 ⟨rfl,hIm,hK⟩;have HI5:=Lib.hid hIm;have HK5:=Lib.hid hK;clear hIm hK HAL;have q58:w5.cell? ⟨J,58,none⟩=some (.bool s.op):=(HI5.out.j.cell 58).trans (by simp[Ps.js]);have q59:w5.cell? ⟨J,59,none⟩=some (.int .i64 s.mode):=(HI5.out.j.cell 59).trans (by simp[Ps.js]);have q60:w5.cell? ⟨J,60,none⟩=some (.slice l.v p.V.length l.cv):=(HI5.out.j.cell 60).trans (by simp[Ps.js]);have q61:w5.cell? ⟨J,61,none⟩=some (.slice l.f p.F.length l.cf):=(HI5.out.j.cell 61).trans (by simp[Ps.js]);have g58:=HI5.out.j.frozen 58;have g59:=HI5.out.j.frozen 59;have g60:=HI5.out.j.frozen 60;have g61:=HI5.out.j.frozen 61)
 have HJ6:=(((HI5.out.j.set_ 58 (.bool false)).set_ 59 (.int .i64 0)).set_ 60 (.slice none 0 0)).set_ 61 (.slice none 0 0)
 have HK6:=(((Kp.refl (·≠J) w5).setCell (p:=⟨J,58,none⟩) (.bool false) (fun h=>h rfl)).setCell (p:=⟨J,59,none⟩) (.int .i64 0) (fun h=>h rfl)).setCell (p:=⟨J,60,none⟩) (.slice none 0 0) (fun h=>h rfl) |>.setCell (p:=⟨J,61,none⟩) (.slice none 0 0) (fun h=>h rfl)
 have hE4:=HK4.out.ext HIN2.out.e (fun k hk=>by have:=HIN2.out.le;omega)
 have hlX:w0.heap.size≤X:=by have:=HI.out.e.size;have:=y1.le;have:=HX.out.2.2.2.1;omega
 have hE5:=HK5.out.ext hE4 (fun k hk=>by omega)
 have hE6:=HK6.ext hE5 (fun k hk=>by have:=HIN2.out.le;omega)
 have hl:=HIN2.out.lie.ext hE6
 have hK04:Kp (·≠J) w W4:=(Kp.of_ext HE2.out).trans HK4.out
 have hlX2:w.heap.size≤X:=by have:=y1.le;have:=HX.out.2.2.2.1;omega
 have hK05:Kp (·≠J) w w5:=⟨HK5.out.os.trans hK04.os,HK5.out.tape.trans hK04.tape,HK5.out.output.trans hK04.output,Nat.le_trans hK04.size HK5.out.size,fun k hk hf=>(HK5.out.block k (Nat.lt_of_lt_of_le hk hK04.size) (by omega)).trans (hK04.block k hk hf)⟩
 have hlen:(fall (W:Int) s.mix s.sf s.df p.C L).length=W*H:=by rw[fall_len];exact HR.out.lc
 have hmx:W*H≤maxLen:=by unfold maxLen;omega
 refine bodyPost_end (results_none rfl _ _ _) rfl ⟨rfl,{l with c:=some ⟨X,0,none⟩,cc:=W*H,z:=some ⟨Y,0,none⟩,cz:=W*H,v:=none,cv:=0,f:=none,cf:=0},Blk.cast HJ6 (by simp[Ps.js,HR.out.sW,HR.out.sH,hlen,HR.out.lz]),⟨⟨?_,?_,hl.lies.k,Rd.empty _ _ _ _ (Nat.zero_le _),Rd.empty _ _ _ _ (Nat.zero_le _)⟩,fun _ ad e=>by obtain rfl:=Option.some.inj e;exact⟨_,HI5.out.x.kp HK6 hXJ⟩,fun _ ad e=>by obtain rfl:=Option.some.inj e;exact⟨_,HI5.out.y.kp HK6 hYJ⟩,hl.ba,hl.bb,fun h=>absurd h (by simp),fun h=>absurd h (by simp)⟩,hE6,hK05.trans HK6⟩
 ·have:=irow_rd (HI5.out.x.kp HK6 hXJ) hlen hmx
  rw[←hlen]at this
  rw[←hlen]
  exact this
 ·have:=irow_rd (HI5.out.y.kp HK6 hYJ) HR.out.lz hmx
  rw[←HR.out.lz]at this
  rw[←HR.out.lz]
  exact this
end Go.Proofs.YtplljnfjkkloeaaGreatDoor
set_option linter.unusedVariables false
set_option linter.unusedSimpArgs false
namespace Go.Proofs.YtplljnfjkkloeaaGreatDoor
open Go.RowKit
theorem right_any (op:Int) (a:Option Addr) (n cap:Nat) (A:List Int) (w:World) (h:Glob w) (hA:Rd w 1 a n cap (ivs A)):
  Calls Tryz.prog 76 #[.agg #[.int .i64 op,.slice a n cap]] w fun e w'=>e=.returned (.int .i64 (rightT (askT op) A))∧Ext w w':=by
 have H:=fun w1 h1=>ask_rd op w1 h1
 have hAl:A.length=n:=by simpa using hA.len
 have hn:=hA.nat_le
 generalize ho:askT op=o at H
 have HA:=Lib.hid hA
 have Hg:=Lib.hid h
 have Hl:=Lib.hid hAl
 have HH:=Lib.hid H
 clear H hA h hAl ho
 cases o with
 |none=>
  go_enter Tryz.func76,Tryz.ntmps76
  go_wp2_with (go_at_call 99;refine(HH.out _ (Hg.out.ext ((Ext.refl _).alloc _))).mono ?_;rintro e w1 ⟨a1,cap1,rfl,hr,hE⟩;simp only[Option.isSome_none])
  go_ret
  exact⟨rfl,((Ext.refl w).alloc _).trans hE⟩
 |some l=>
  have hl63:(l.length:Int)≤9223372036854775807∨True:=Or.inr trivial
  clear hl63
  by_cases hlen:l.length=n
  ·have hne:((l.length:Int) !=(n:Int))=false:=by simp[hlen]
   go_enter Tryz.func76,Tryz.ntmps76
   go_wp2_with (go_at_call 99;refine(HH.out _ (Hg.out.ext ((Ext.refl _).alloc _))).mono ?_;rintro e w1 ⟨a1,cap1,rfl,hr,hE⟩;obtain⟨x1,rfl⟩:=Later.mk' hE;simp only[Option.isSome_some,Option.getD_some]at hr ⊢)
   have hlA:l.length=A.length:=by rw[hlen,Hl.out]
   have HlA:=Lib.hid hlA
   have Hlen:=Lib.hid hlen
   clear hlA hlen hne
   have HA1:=Lib.hid ((HA.out.ext ((Ext.refl w).alloc (.cells #[.int .i64 op,.slice a n cap] 88))).ext x1.ext)
   have HE:=Lib.hid (((Ext.refl w).alloc _).trans x1.ext)
   have Hr:=Lib.hid hr
   clear hr hE
   go_loop [24] (fun i=> ∃k:Nat,k≤n∧i=.int .i64 k∧Hid (∀j,j<k→within (l.getD j (0,0)) (A.getD j 0)=true)) (fun i=>n-(intOf i).toNat)
   case atStart=>exact⟨0,Nat.zero_le _,rfl,fun j hj=>by omega⟩
   case round=>
    obtain⟨k,hk,rfl,hall⟩:=hrel
    by_cases hlt:k<n
    ·obtain⟨b,off,rfl,hb,hc⟩:=HA1.out.at_ (by omega)
     obtain⟨b1,off1,rfl,hb1,hc1⟩:=Hr.out.at_ (by rw[Hlen.out];omega)
     have hkA:k<A.length:=by rw[Hl.out];omega
     have hkl:k<l.length:=by rw[Hlen.out];omega
     have ca:x1.w.cell? ⟨b,off+k,none⟩=some (.int .i64 (A.getD k 0)):=(hc k (by omega)).trans (ivs_get A k hkA)
     obtain⟨hp1,hp2⟩:=prs_get l k hkl
     have cp1:=(hc1 (k*2) (by omega)).trans hp1
     have cp2:=(hc1 (k*2+1) (by omega)).trans hp2
     have hw:within (l.getD k (0,0)) (A.getD k 0)=(decide ((l.getD k (0,0)).1≤A.getD k 0)&&decide (A.getD k 0≤(l.getD k (0,0)).2)):=rfl
     have HW:=Lib.hid hw
     have HkA:=Lib.hid hkA
     have Hkl:=Lib.hid hkl
     have hz:(k:Int)<(l.length:Int):=by omega
     clear hc hc1 hp1 hp2 hw hkA hkl
     have cp2':x1.w.cell? ⟨b1,off1+k*2+1,none⟩=some (.int .i64 (l.getD k (0,0)).2):=cp2
     clear cp2
     generalize hx:A.getD k 0=x at ca HW
     generalize hp:l.getD k (0,0)=p at cp1 cp2' HW
     have Hx:=Lib.hid hx
     have Hp:=Lib.hid hp
     clear hx hp
     by_cases h1:x<p.1
     ·have hd1:decide (x<p.1)=true:=by simpa using h1
      go_wp2
      go_ret
      have e0:rightT (some l) A=4:=by
       have:=allIn_bad l A k Hkl.out HkA.out (by rw[Hx.out,Hp.out,HW.out];simp;omega)
       simp[rightT,HlA.out,this]
      exact⟨by rw[e0];rfl,HE.out⟩
     ·have hd1:decide (x<p.1)=false:=by simpa using h1
      by_cases h2:p.2<x
      ·have hd2:decide (x>p.2)=true:=by simpa using h2
       go_wp2
       go_ret
       have e0:rightT (some l) A=4:=by
        have:=allIn_bad l A k Hkl.out HkA.out (by rw[Hx.out,Hp.out,HW.out];simp;omega)
        simp[rightT,HlA.out,this]
       exact⟨by rw[e0];rfl,HE.out⟩
      ·have hd2:decide (x>p.2)=false:=by simpa using h2
       go_wp2
       go_round
       case rel=>
        refine⟨k+1,by omega,by go_num,fun j hj=>?_⟩
        by_cases hjk:j<k
        ·exact hall.out j hjk
        ·obtain rfl:j=k:=by omega
         rw[Hx.out,Hp.out,HW.out];simp;omega
       case measure=>simp[intOf];omega
    ·go_wp2
     all_goals go_ret
     obtain rfl:k=n:=by omega
     have e0:rightT (some l) A=0:=by
      have:=allIn_all l A HlA.out (fun j hj=>hall.out j (by rw[Hl.out]at hj;exact hj))
      simp[rightT,HlA.out,this]
     exact⟨by rw[e0];rfl,HE.out⟩
  ·have hne:((l.length:Int) !=(n:Int))=true:=by simp;omega
   go_enter Tryz.func76,Tryz.ntmps76
   go_wp2_with (go_at_call 99;refine(HH.out _ (Hg.out.ext ((Ext.refl _).alloc _))).mono ?_;rintro e w1 ⟨a1,cap1,rfl,hr,hE⟩;obtain⟨x1,rfl⟩:=Later.mk' hE;simp only[Option.isSome_some,Option.getD_some]at hr ⊢)
   go_ret
   have e0:rightT (some l) A=1:=by simp only[rightT];rw[if_neg (by rw[Hl.out];exact hlen)]
   exact⟨by rw[e0];rfl,((Ext.refl w).alloc _).trans x1.ext⟩
end Go.Proofs.YtplljnfjkkloeaaGreatDoor
set_option linter.unusedVariables false
set_option linter.unusedSimpArgs false
namespace Go.Proofs.YtplljnfjkkloeaaGreatDoor
attribute [local go_sem] Go.Oper.semAt_some
open Go.RowKit
set_option maxRecDepth 100000 in
theorem verts_17 (w:World) (J:Nat) (R:Ending→World→Prop) (HC:Calls Tryz.prog 116 #[.pointer (some ⟨J,0,none⟩),.int .i64 17] w fun e w'=>e=.returned (.tuple #[])∧R (.returned (.tuple #[])) w'):
  Calls Tryz.prog 81 #[.pointer (some ⟨J,0,none⟩),.int .i64 17] w R:=by
 have HS:=Lib.hid HC
 clear HC
 go_enter Tryz.func81,Tryz.ntmps81
 go_wp2_with (go_at_call 116;refine HS.out.mono ?_;rintro e w1 ⟨rfl,hX⟩;have HX:=Lib.hid hX;clear hX HS)
 exact bodyPost_end (results_none rfl _ _ _) rfl HX.out
set_option maxRecDepth 100000 in
theorem verts_18 (w:World) (J:Nat) (R:Ending→World→Prop) (HC:Calls Tryz.prog 117 #[.pointer (some ⟨J,0,none⟩)] w fun e w'=>e=.returned (.tuple #[])∧R (.returned (.tuple #[])) w'):
  Calls Tryz.prog 81 #[.pointer (some ⟨J,0,none⟩),.int .i64 18] w R:=by
 have HS:=Lib.hid HC
 clear HC
 go_enter Tryz.func81,Tryz.ntmps81
 go_wp2_with (go_at_call 117;refine HS.out.mono ?_;rintro e w1 ⟨rfl,hX⟩;have HX:=Lib.hid hX;clear hX HS)
 exact bodyPost_end (results_none rfl _ _ _) rfl HX.out
section
variable (w:World) (J:Nat) (R:Ending→World→Prop) (op:Int) (a:Option Addr) (n c:Nat) (C:List Int) (open_:Bool)
set_option maxRecDepth 100000 in
theorem do_look (hop:op=19∨op=20∨op=27) (hg:Glob w) (hr:Rd w 1 a n c (ivs C)) (hR:rightT (askT op) C=0) (hj:w.cell? ⟨J,58,none⟩=some (.bool false))
  (HC: ∀wz,Ext w wz→Calls Tryz.prog 82 #[.pointer (some ⟨J,0,none⟩),.int .i64 op] wz fun e w'=>e=.returned (.tuple #[])∧R (.returned (.tuple #[])) w'):
  Calls Tryz.prog 55 #[.pointer (some ⟨J,0,none⟩),.agg #[.int .i64 op,.slice a n c]] w R:=by
 have HS:=Lib.hid HC
 have HRI:Hid (∀wz,Ext w wz→Calls Tryz.prog 76 #[.agg #[.int .i64 op,.slice a n c]] wz fun e w'=>e=.returned (.int .i64 0)∧Ext wz w'):=Lib.hid (fun wz e=>by have:=right_any op a n c C wz (hg.ext e) (hr.ext e);rw[hR]at this;exact this)
 have HNE:Hid (∀wz,Calls Tryz.prog 78 #[.bool false,.int .i64 op] wz fun e w'=>e=.returned (.bool true)∧Ext wz w'):=Lib.hid (fun wz=>(nested_yes false op wz (by rcases hop with rfl|rfl|rfl <;>simp)).mono (by rintro e w' ⟨rfl,rfl⟩;exact⟨rfl,Ext.refl _⟩))
 have HND:Hid (∀wz,Calls Tryz.prog 77 #[.bool true,.int .i64 6] wz fun e w'=>e=.returned (.tuple #[])∧Ext wz w'):=Lib.hid (fun wz=>(need_yes 6 wz).mono (by rintro e w' ⟨rfl,rfl⟩;exact⟨rfl,Ext.refl _⟩))
 have HCJ:Hid (∀wz,Ext w wz→wz.cell? ⟨J,58,none⟩=some (.bool false)):=Lib.hid (fun wz e=>e.cell_some hj)
 have HB:Hid (Blk (w.alloc (.cells #[.int .i64 op,.slice a n c] 88)) w.heap.size 88 #[.int .i64 op,.slice a n c]):=Lib.hid (Blk.new _ _ _)
 have HE0:Hid (Ext w (w.alloc (.cells #[.int .i64 op,.slice a n c] 88))):=Lib.hid ((Ext.refl w).alloc _)
 clear HC hg hr hR hj
 rcases hop with rfl|rfl|rfl
 all_goals
  go_enter Tryz.func55,Tryz.ntmps55
  go_wp2_with (go_at_call 76;refine(HRI.out _ (by(repeat(first|with_reducible(first|exact eR_ _|assumption|refine eA_ ?_ _|refine eD_ ?_|refine eN_ ?_ _|refine eL_ ?_ _)|(with_reducible refine eS_ ?_ _ ?hp;case hp=>first|(simp;done)|(simp;omega)|omega))))).mono ?_;rintro e w1 ⟨rfl,hE⟩;have HB1:=Lib.hid (HB.out.ext hE);have HE1:=Lib.hid (HE0.out.trans hE);clear hE HRI)
  refine(need_yes 0 _).mono ?_
  rintro e w2 ⟨rfl,rfl⟩
  have q0:=HB1.out.c2
  have j0:=HCJ.out _ HE1.out
  go_upto_region 3 with fail
  refine wp_region_later (by kernel_rfl) (by kernel_rfl) ?_
  repeat(go_big_quiet_step ((first|(first|(go_at_call 78;with_reducible exact Calls.later _ (HNE.out _))|(go_at_call 77;with_reducible exact Calls.later _ (HND.out _)))|fail)))
  refine wpQuiet_nil ?_
  intro y
  have q1:=(HB1.out.ext y.ext).c2
  have HE2:=Lib.hid (HE1.out.trans y.ext)
  clear q0 j0
  generalize y.w=W2 at*
  go_wp2_with (go_at_call 82;refine(HS.out _ HE2.out).mono ?_;rintro e w4 ⟨rfl,hX⟩;have HX:=Lib.hid hX;clear hX HS q1)
  exact bodyPost_end (results_none rfl _ _ _) rfl HX.out
set_option maxRecDepth 100000 in
theorem do_image (hop:op=1∨op=5) (hg:Glob w) (hr:Rd w 1 a n c (ivs C)) (hR:rightT (askT op) C=0) (hj:w.cell? ⟨J,58,none⟩=some (.bool false))
  (HC: ∀wz,Ext w wz→Calls Tryz.prog 79 #[.pointer (some ⟨J,0,none⟩),.int .i64 op] wz fun e w'=>e=.returned (.tuple #[])∧R (.returned (.tuple #[])) w'):
  Calls Tryz.prog 55 #[.pointer (some ⟨J,0,none⟩),.agg #[.int .i64 op,.slice a n c]] w R:=by
 have HS:=Lib.hid HC
 have HRI:Hid (∀wz,Ext w wz→Calls Tryz.prog 76 #[.agg #[.int .i64 op,.slice a n c]] wz fun e w'=>e=.returned (.int .i64 0)∧Ext wz w'):=Lib.hid (fun wz e=>by have:=right_any op a n c C wz (hg.ext e) (hr.ext e);rw[hR]at this;exact this)
 have HNE:Hid (∀wz,Calls Tryz.prog 78 #[.bool false,.int .i64 op] wz fun e w'=>e=.returned (.bool true)∧Ext wz w'):=Lib.hid (fun wz=>(nested_yes false op wz (by rcases hop with rfl|rfl <;>simp)).mono (by rintro e w' ⟨rfl,rfl⟩;exact⟨rfl,Ext.refl _⟩))
 have HND:Hid (∀wz,Calls Tryz.prog 77 #[.bool true,.int .i64 6] wz fun e w'=>e=.returned (.tuple #[])∧Ext wz w'):=Lib.hid (fun wz=>(need_yes 6 wz).mono (by rintro e w' ⟨rfl,rfl⟩;exact⟨rfl,Ext.refl _⟩))
 have HCJ:Hid (∀wz,Ext w wz→wz.cell? ⟨J,58,none⟩=some (.bool false)):=Lib.hid (fun wz e=>e.cell_some hj)
 have HB:Hid (Blk (w.alloc (.cells #[.int .i64 op,.slice a n c] 88)) w.heap.size 88 #[.int .i64 op,.slice a n c]):=Lib.hid (Blk.new _ _ _)
 have HE0:Hid (Ext w (w.alloc (.cells #[.int .i64 op,.slice a n c] 88))):=Lib.hid ((Ext.refl w).alloc _)
 clear HC hg hr hR hj
 rcases hop with rfl|rfl
 all_goals
  go_enter Tryz.func55,Tryz.ntmps55
  go_wp2_with (go_at_call 76;refine(HRI.out _ (by(repeat(first|with_reducible(first|exact eR_ _|assumption|refine eA_ ?_ _|refine eD_ ?_|refine eN_ ?_ _|refine eL_ ?_ _)|(with_reducible refine eS_ ?_ _ ?hp;case hp=>first|(simp;done)|(simp;omega)|omega))))).mono ?_;rintro e w1 ⟨rfl,hE⟩;have HB1:=Lib.hid (HB.out.ext hE);have HE1:=Lib.hid (HE0.out.trans hE);clear hE HRI)
  refine(need_yes 0 _).mono ?_
  rintro e w2 ⟨rfl,rfl⟩
  have q0:=HB1.out.c2
  have j0:=HCJ.out _ HE1.out
  go_upto_region 3 with fail
  refine wp_region_later (by kernel_rfl) (by kernel_rfl) ?_
  repeat(go_big_quiet_step ((first|(first|(go_at_call 78;with_reducible exact Calls.later _ (HNE.out _))|(go_at_call 77;with_reducible exact Calls.later _ (HND.out _)))|fail)))
  refine wpQuiet_nil ?_
  intro y
  have q1:=(HB1.out.ext y.ext).c2
  have HE2:=Lib.hid (HE1.out.trans y.ext)
  clear q0 j0
  generalize y.w=W2 at*
  go_wp2_with (go_at_call 79;refine(HS.out _ HE2.out).mono ?_;rintro e w4 ⟨rfl,hX⟩;have HX:=Lib.hid hX;clear hX HS q1)
  exact bodyPost_end (results_none rfl _ _ _) rfl HX.out
set_option maxRecDepth 100000 in
theorem do_verts (hop:op=14∨(op=16∧open_=false)∨((op=17∨op=18)∧open_=true)) (hg:Glob w) (hr:Rd w 1 a n c (ivs C)) (hR:rightT (askT op) C=0) (hj:w.cell? ⟨J,58,none⟩=some (.bool open_))
  (HC: ∀wz,Ext w wz→Calls Tryz.prog 81 #[.pointer (some ⟨J,0,none⟩),.int .i64 op] wz fun e w'=>e=.returned (.tuple #[])∧R (.returned (.tuple #[])) w'):
  Calls Tryz.prog 55 #[.pointer (some ⟨J,0,none⟩),.agg #[.int .i64 op,.slice a n c]] w R:=by
 have HS:=Lib.hid HC
 have HRI:Hid (∀wz,Ext w wz→Calls Tryz.prog 76 #[.agg #[.int .i64 op,.slice a n c]] wz fun e w'=>e=.returned (.int .i64 0)∧Ext wz w'):=Lib.hid (fun wz e=>by have:=right_any op a n c C wz (hg.ext e) (hr.ext e);rw[hR]at this;exact this)
 have HNE:Hid (∀wz,Calls Tryz.prog 78 #[.bool open_,.int .i64 op] wz fun e w'=>e=.returned (.bool true)∧Ext wz w'):=Lib.hid (fun wz=>(nested_yes open_ op wz (by rcases hop with rfl|⟨rfl,rfl⟩|⟨rfl|rfl,rfl⟩ <;>simp)).mono (by rintro e w' ⟨rfl,rfl⟩;exact⟨rfl,Ext.refl _⟩))
 have HND:Hid (∀wz,Calls Tryz.prog 77 #[.bool true,.int .i64 6] wz fun e w'=>e=.returned (.tuple #[])∧Ext wz w'):=Lib.hid (fun wz=>(need_yes 6 wz).mono (by rintro e w' ⟨rfl,rfl⟩;exact⟨rfl,Ext.refl _⟩))
 have HCJ:Hid (∀wz,Ext w wz→wz.cell? ⟨J,58,none⟩=some (.bool open_)):=Lib.hid (fun wz e=>e.cell_some hj)
 have HB:Hid (Blk (w.alloc (.cells #[.int .i64 op,.slice a n c] 88)) w.heap.size 88 #[.int .i64 op,.slice a n c]):=Lib.hid (Blk.new _ _ _)
 have HE0:Hid (Ext w (w.alloc (.cells #[.int .i64 op,.slice a n c] 88))):=Lib.hid ((Ext.refl w).alloc _)
 clear HC hg hr hR hj
 rcases hop with rfl|⟨rfl,rfl⟩|⟨rfl|rfl,rfl⟩
 all_goals
  go_enter Tryz.func55,Tryz.ntmps55
  go_wp2_with (go_at_call 76;refine(HRI.out _ (by(repeat(first|with_reducible(first|exact eR_ _|assumption|refine eA_ ?_ _|refine eD_ ?_|refine eN_ ?_ _|refine eL_ ?_ _)|(with_reducible refine eS_ ?_ _ ?hp;case hp=>first|(simp;done)|(simp;omega)|omega))))).mono ?_;rintro e w1 ⟨rfl,hE⟩;have HB1:=Lib.hid (HB.out.ext hE);have HE1:=Lib.hid (HE0.out.trans hE);clear hE HRI)
  refine(need_yes 0 _).mono ?_
  rintro e w2 ⟨rfl,rfl⟩
  have q0:=HB1.out.c2
  have j0:=HCJ.out _ HE1.out
  go_upto_region 3 with fail
  refine wp_region_later (by kernel_rfl) (by kernel_rfl) ?_
  repeat(go_big_quiet_step ((first|(first|(go_at_call 78;with_reducible exact Calls.later _ (HNE.out _))|(go_at_call 77;with_reducible exact Calls.later _ (HND.out _)))|fail)))
  refine wpQuiet_nil ?_
  intro y
  have q1:=(HB1.out.ext y.ext).c2
  have HE2:=Lib.hid (HE1.out.trans y.ext)
  clear q0 j0
  generalize y.w=W2 at*
  go_wp2_with (go_at_call 81;refine(HS.out _ HE2.out).mono ?_;rintro e w4 ⟨rfl,hX⟩;have HX:=Lib.hid hX;clear hX HS q1)
  exact bodyPost_end (results_none rfl _ _ _) rfl HX.out
end
end Go.Proofs.YtplljnfjkkloeaaGreatDoor
set_option linter.unusedVariables false
set_option linter.unusedSimpArgs false
namespace Go.Proofs.YtplljnfjkkloeaaGreatDoor
attribute [local go_sem] Go.Oper.semAt_some
open Go.RowKit
theorem JobP.from {w0 w wz w':World} {J:Nat} {s:Ps} {p:Hp} {a:Value} {e:Ending} (h:JobP w0 wz J s p a e w') (k:Ext w wz):JobP w0 w J s p a e w':=by
 obtain⟨he,l,h1,h2,h3,h4⟩:=h
 exact⟨he,l,h1,h2,h3,(Kp.of_ext k).trans h4⟩
theorem built_job (s:Ps) (p:Hp) (l:Sl) (A:Option Addr) (n c:Nat):Tryz.prog.built 136 [(0,Value.agg (s.cs p l)),(1,.slice A n c)]=some (s.js p l (.slice A n c)):=by kernel_rfl
set_option maxRecDepth 100000 in
theorem do1_any (V R J:Nat) (rec_:Array Value) (op:Int) (a:Value) (w:World) (Q:Ending→World→Prop) (hV:Blk w V 134 #[.pointer (some ⟨J,0,none⟩)]) (hR:Blk w R 88 #[.int .i64 op,a])
  (HD:Calls Tryz.prog 55 #[.pointer (some ⟨J,0,none⟩),.agg #[.int .i64 op,a]] w fun e w'=>e=.returned (.tuple #[])∧Q (.returned (.tuple #[])) w'):
  Calls Tryz.prog 54 #[.pointer (some ⟨V,0,none⟩),.pointer (some ⟨R,0,none⟩)] w Q:=by
 have HS:=Lib.hid HD
 have v0:=hV.c1
 have r0:=hR.c2
 clear HD hV hR
 go_enter Tryz.func54,Tryz.ntmps54
 go_wp2_with (go_at_call 55;refine HS.out.mono ?_;rintro e w1 ⟨rfl,hX⟩;have HX:=Lib.hid hX;clear hX HS v0 r0)
 exact bodyPost_end (results_none rfl _ _ _) rfl HX.out
end Go.Proofs.YtplljnfjkkloeaaGreatDoor
