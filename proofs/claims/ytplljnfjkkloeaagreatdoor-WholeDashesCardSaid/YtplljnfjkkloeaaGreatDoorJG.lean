/- Proof text: a job's vertex: one vertex more. By an AI agent. No condition beyond what each theorem states. -/
import Derived.Test.YtplljnfjkkloeaaGreatDoorJE
import Derived.Test.YtplljnfjkkloeaaGreatDoorGM
set_option linter.unusedVariables false
set_option linter.unusedSimpArgs false
set_option maxHeartbeats 16000000
namespace Go.Proofs.YtplljnfjkkloeaaGreatDoor
attribute [local go_sem] Go.Oper.semAt_some
open Go.RowKit
abbrev JGd0:List Nat:=[42,43,44,45,46,47,48,49,50,51,52,53,54,55,56,57,58,59,60,61,62,63,64,65,66]
abbrev JGd1:List Nat:=[67,68,69,70,71,72,73,74,75,76,77,78,79,80,81,82]
theorem apply_unit (v:C4):applyT unitM v=v:=by
 obtain⟨a,b,c,d⟩:=v
 unfold applyT rowT
 have e: ∀k:Nat,k<16→unitM.getD k 0=if k%5=0 then 65536 else 0:=by decide
 simp only[C4.mk.injEq]
 refine⟨?_,?_,?_,?_⟩
 ·rw[show unitM.getD (4*0) 0=65536 from rfl,show unitM.getD (4*0+1) 0=0 from rfl,show unitM.getD (4*0+2) 0=0 from rfl,show unitM.getD (4*0+3) 0=0 from rfl];omega
 ·rw[show unitM.getD (4*1) 0=0 from rfl,show unitM.getD (4*1+1) 0=65536 from rfl,show unitM.getD (4*1+2) 0=0 from rfl,show unitM.getD (4*1+3) 0=0 from rfl];omega
 ·rw[show unitM.getD (4*2) 0=0 from rfl,show unitM.getD (4*2+1) 0=0 from rfl,show unitM.getD (4*2+2) 0=65536 from rfl,show unitM.getD (4*2+3) 0=0 from rfl];omega
 ·rw[show unitM.getD (4*3) 0=0 from rfl,show unitM.getD (4*3+1) 0=0 from rfl,show unitM.getD (4*3+2) 0=0 from rfl,show unitM.getD (4*3+3) 0=65536 from rfl];omega
theorem full3 {P:Program} {t e:TypeId} {size:Nat} (hu:P.underlying t=some (.slice e)) (hs:(P.info? e).map (·.size)=some size) {W:World} {a:Option Addr} {n cap:Nat} {xs:List Value} (h:Rd W size a n cap xs):
  ∃a',(∀w,(Instr.slice t (.slice a n cap) none (some (.int .i64 (n:Int))) (some (.int .i64 (n:Int)))).run P w=.ok (.slice a' n n) w)∧Rd W size a' n n xs∧(a'=none→n=0∧n=0):=by
 obtain⟨i,hi1,hi2⟩:=Option.map_eq_some_iff.1 hs
 have hle:=h.le
 by_cases h0:n=0
 ·subst h0
  refine⟨a,fun w=>?_,⟨h.len,Nat.le_refl _,Nat.zero_le _,fun h=>absurd h (by omega)⟩,fun _=>⟨rfl,rfl⟩⟩
  simp[Instr.slice,run_underlying hu,Instr.sliceBounds,run_sliceBound,sizeOf,typeInfo,hi1,hi2]
 ·obtain⟨b,off,rfl,hb,hc⟩:=h.at_ (by omega)
  refine⟨some ⟨b,off,none⟩,fun w=>?_,⟨h.len,Nat.le_refl _,Nat.le_trans hle h.mx,fun _=>⟨b,off,rfl,hb,hc⟩⟩,fun h=>by cases h⟩
  simp[Instr.slice,run_underlying hu,Instr.sliceBounds,run_sliceBound,hle,h0,sizeOf,typeInfo,hi1,hi2,Addr.add]
theorem info_vx:(Tryz.prog.info? 149).map (fun i=>(i.zero,i.size,i.bytes))=some (some (.agg #[.int .i64 0,.int .i64 0,.int .i64 0,.int .i64 0,.int .i64 0,.int .i64 0,.int .i64 0,.int .i64 0]),8,64):=by kernel_rfl
theorem info_bo:(Tryz.prog.info? 4).map (fun i=>(i.zero,i.size,i.bytes))=some (some (.bool false),1,1):=by kernel_rfl
def vg6 (J G n:Nat) (lv:Option Addr) (lcv:Nat) (a':Option Addr) (v:C4) (s:Ps):Nat→Value
 |42=>.pointer (some ⟨J,0,none⟩)
 |43=>.pointer (some ⟨J,0,none⟩)
 |44=>.pointer (some ⟨J,0,none⟩)
 |45=>.pointer (some ⟨J,60,none⟩)
 |46=>.slice lv n lcv
 |47=>.int .i64 (n:Int)
 |48=>.int .i64 (n:Int)
 |49=>.slice a' n n
 |50=>.pointer (some ⟨G,0,none⟩)
 |51=>.int .i64 v.a
 |52=>.pointer (some ⟨G,1,none⟩)
 |53=>.int .i64 v.b
 |54=>.pointer (some ⟨G,2,none⟩)
 |55=>.int .i64 v.c
 |56=>.pointer (some ⟨G,3,none⟩)
 |57=>.int .i64 v.d
 |58=>.pointer (some ⟨J,0,none⟩)
 |59=>.pointer (some ⟨J,0,none⟩)
 |60=>.pointer (some ⟨J,53,none⟩)
 |61=>.agg #[.int .i64 s.c0,.int .i64 s.c1,.int .i64 s.c2,.int .i64 s.c3]
 |62=>.agg #[.int .i64 v.a,.int .i64 v.b,.int .i64 v.c,.int .i64 v.d,.int .i64 s.c0,.int .i64 s.c1,.int .i64 s.c2,.int .i64 s.c3]
 |65=>.pointer (some ⟨J,0,none⟩)
 |66=>.pointer (some ⟨J,60,none⟩)
 |_=>undef
def vg7 (J n:Nat) (lf:Option Addr) (lcf:Nat) (a2:Option Addr) (s:Ps):Nat→Value
 |67=>.pointer (some ⟨J,0,none⟩)
 |68=>.pointer (some ⟨J,0,none⟩)
 |69=>.pointer (some ⟨J,0,none⟩)
 |70=>.pointer (some ⟨J,61,none⟩)
 |71=>.slice lf n lcf
 |72=>.int .i64 (n:Int)
 |73=>.int .i64 (n:Int)
 |74=>.slice a2 n n
 |75=>.pointer (some ⟨J,0,none⟩)
 |76=>.pointer (some ⟨J,0,none⟩)
 |77=>.pointer (some ⟨J,57,none⟩)
 |78=>.bool s.flag
 |81=>.pointer (some ⟨J,0,none⟩)
 |82=>.pointer (some ⟨J,61,none⟩)
 |_=>undef
set_option maxRecDepth 100000 in
theorem vertex_any (w0 w:World) (J:Nat) (s:Ps) (p:Hp) (l:Sl) (B o c:Nat) (C:List Int) (v:C4) (h:JobIn w0 w J s p l B o 4 c C) (h0:C[0]? =some v.a) (h1:C[1]? =some v.b) (h2:C[2]? =some v.c) (h3:C[3]? =some v.d)
  (hv:v.In)(hM:p.M=unitM)(hN:p.N=unitM)(hF:p.F.length=p.V.length)(hl:p.V.length<256):
  Calls Tryz.prog 116 #[.pointer (some ⟨J,0,none⟩),.int .i64 17] w (JobP w0 w J s {p with V:=p.V++[⟨v.a,v.b,v.c,v.d,s.c0,s.c1,s.c2,s.c3⟩],F:=p.F++[s.flag]} (.slice (some ⟨B,o,none⟩) 4 c)):=by
 have HI:=Lib.hid h
 have HFL:=Lib.hid (And.intro hF hl)
 have HT0:Hid (∀wz,Ext w wz→Calls Tryz.prog 165 #[.pointer (some ⟨J,0,none⟩),.int .i64 0,.agg #[.int .i64 v.a,.int .i64 v.b,.int .i64 v.c,.int .i64 v.d],.int .i64 268435456] wz fun e w'=>e=.returned v.v∧Ext wz w'):=Lib.hid (fun wz e=>by
  have hk:=(h.lie.lies.k.ext h.e).ext e
  have:=through_any J 0 s.mm 268435456 l.a l.b l.ca l.cb p.M v wz (h.j.ext e) rfl rfl rfl (fun wy e'=>top0_any s.mm l.a l.b l.ca l.cb p.M p.N wy (hk.ext e')) hk.m hv (by omega) (by omega) (by rw[hM,apply_unit];exact hv)
  rw[hM,apply_unit]at this
  exact this)
 have HT1:Hid (∀wz,Ext w wz→Calls Tryz.prog 165 #[.pointer (some ⟨J,0,none⟩),.int .i64 1,.agg #[.int .i64 v.a,.int .i64 v.b,.int .i64 v.c,.int .i64 v.d],.int .i64 68719476736] wz fun e w'=>e=.returned v.v∧Ext wz w'):=Lib.hid (fun wz e=>by
  have hk:=(h.lie.lies.k.ext h.e).ext e
  have:=through_any J 1 s.mm 68719476736 l.a l.b l.ca l.cb p.N v wz (h.j.ext e) rfl rfl rfl (fun wy e'=>top1_any s.mm l.a l.b l.ca l.cb p.M p.N wy (hk.ext e')) hk.n hv (by omega) (by omega) (by
   rw[hN,apply_unit]
   obtain⟨⟨a0,a1⟩,⟨b0,b1⟩,⟨c0,c1⟩,⟨d0,d1⟩⟩:=hv
   exact⟨⟨by omega,by omega⟩,⟨by omega,by omega⟩,⟨by omega,by omega⟩,⟨by omega,by omega⟩⟩)
  rw[hN,apply_unit]at this
  exact this)
 have ca:=h.jb.a
 have k0:=(h.jb.at h0).1
 rw[Nat.add_zero]at k0
 have k1:=(h.jb.at h1).1
 have k2:=(h.jb.at h2).1
 have k3:=(h.jb.at h3).1
 have c60:w.cell? ⟨J,60,none⟩=some (.slice l.v p.V.length l.cv):=h.j.cell 60
 have ha4: ∀W,(Instr.arrayAt 29 (.slice (some ⟨B,o,none⟩) 4 c)).run Tryz.prog W=.ok (.pointer (some ⟨B,o,none⟩)) W:=fun _=>by kernel_rfl
 have hd:decide ((p.V.length:Int)<256)=true:=by simp;omega
 clear h h0 h1 h2 h3 hv hM hN hF hl
 go_enter Tryz.func116,Tryz.ntmps116
 go_wp2_with (go_at_call 77;refine(need_yes 8 _).mono ?_;rintro e w1 ⟨rfl,rfl⟩)
 refine(HT0.out _ (by(repeat(first|with_reducible(first|exact eR_ _|assumption|refine eA_ ?_ _|refine eD_ ?_|refine eN_ ?_ _|refine eL_ ?_ _)|(with_reducible refine eS_ ?_ _ ?hp;case hp=>first|(simp;done)|(simp;omega)|omega))))).mono ?_
 rintro e w1 ⟨rfl,hE⟩
 obtain⟨y1,rfl⟩:=Later.mk' hE
 clear hE
 go_wp2_with fail
 refine(HT1.out _ (by(repeat(first|with_reducible(first|exact eR_ _|assumption|refine eA_ ?_ _|refine eD_ ?_|refine eN_ ?_ _|refine eL_ ?_ _)|(with_reducible refine eS_ ?_ _ ?hp;case hp=>first|(simp;done)|(simp;omega)|omega))))).mono ?_
 rintro e w1 ⟨rfl,hE⟩
 obtain⟨y2,rfl⟩:=Later.mk' hE
 clear hE ca k0 k1 k2 k3 c60 HT0 HT1
 have HIN:=Lib.hid (HI.out.ext (y1.ext.trans y2.ext))
 have HE2W:Hid (Ext w y2.w):=Lib.hid (y1.ext.trans y2.ext)
 clear HI
 generalize y2.w=W2 at*
 have c60:W2.cell? ⟨J,60,none⟩=some (.slice l.v p.V.length l.cv):=HIN.out.j.cell 60
 go_upto_region 6 with fail
 have HEW:Hid (Ext w (W2.alloc (.cells #[.int .i64 v.a,.int .i64 v.b,.int .i64 v.c,.int .i64 v.d] 29))):=Lib.hid (HE2W.out.alloc _)
 have HIN3:=Lib.hid (HIN.out.ext ((Ext.refl W2).alloc (.cells #[.int .i64 v.a,.int .i64 v.b,.int .i64 v.c,.int .i64 v.d] 29)))
 have HG:Hid (Blk (W2.alloc (.cells #[.int .i64 v.a,.int .i64 v.b,.int .i64 v.c,.int .i64 v.d] 29)) W2.heap.size 29 #[.int .i64 v.a,.int .i64 v.b,.int .i64 v.c,.int .i64 v.d]):=Lib.hid (Blk.new _ _ _)
 clear c60 HIN
 generalize W2.alloc (.cells #[.int .i64 v.a,.int .i64 v.b,.int .i64 v.c,.int .i64 v.d] 29)=W3 at*
 generalize W2.heap.size=G at*
 have HIN:=HIN3
 clear HIN3
 have hGJ:G≠J:=HG.out.ne_type HIN.out.j (by decide)
 have HE0:Hid (∀x,Kp (·≠J) W3 x→Ext w0 x):=Lib.hid (fun x k=>k.ext HIN.out.e (fun k hk=>by have:=HIN.out.le;omega))
 obtain⟨a',s1,s2,s3⟩:=full3 (t:=41) Tryz.underlying41 (e:=149) (size:=8) (by kernel_rfl) HIN.out.lie.lies.v
 have HSL:=Lib.hid (And.intro s1 (And.intro s2 s3))
 clear s1 s2 s3
 refine wp_region_fill JGd0 (fun st u x=>AP W3 [(0,42),(1,43),(2,44),(3,45),(4,46),(5,47),(6,48),(7,49),(8,50),(9,51),(10,52),(11,53),(12,54),(13,55),(14,56),(15,57),(16,58),(17,59),(18,60),(19,61),(20,62),(23,65),(24,66)] (vg6 J G p.V.length l.v l.cv a' v s) J 136 (s.js p l (.slice (some ⟨B,o,none⟩) 4 c)) 60 21 22 25 63 64 149 8 p.V.length [.int .i64 v.a,.int .i64 v.b,.int .i64 v.c,.int .i64 v.d,.int .i64 s.c0,.int .i64 s.c1,.int .i64 s.c2,.int .i64 s.c3] (vxs p.V) st u x) (by kernel_rfl) (by kernel_rfl) ?_ ?_ ?_
 ·rintro x rfl
  exact AP.begin (Kp.refl _ _).drew HIN.out.j.drew
 ·intro A' hA' st u x i o ho hst hdep hcl hR
  have hlen:A'.length=83:=by rw[hA'];rfl
  have h4:A'.getD 4 undef=.pointer (some ⟨J,0,none⟩):=by rw[hA'];rfl
  have h5:A'.getD 5 undef=.pointer (some ⟨G,0,none⟩):=by rw[hA'];rfl
  have h6:A'.getD 6 undef=.int .i64 (p.V.length:Int):=by rw[hA'];rfl
  clear hA'
  have hi:i<26:=(Array.getElem?_eq_some_iff.1 ho).1
  rcases(by omega:i=0∨i=1∨i=2∨i=3∨i=4∨i=5∨i=6∨i=7∨i=8∨i=9∨i=10∨i=11∨i=12∨i=13∨i=14∨i=15∨i=16∨i=17∨i=18∨i=19∨i=20∨i=21∨i=22∨i=23∨i=24∨i=25)with rfl|rfl|rfl|rfl|rfl|rfl|rfl|rfl|rfl|rfl|rfl|rfl|rfl|rfl|rfl|rfl|rfl|rfl|rfl|rfl|rfl|rfl|rfl|rfl|rfl|rfl
  all_goals(obtain rfl:(⟨_,_,_,_,_,_⟩:Oper)=o:=Option.some.inj ho;refine wpOp_plain rfl rfl ?_)
  ·have q4:(⟨fillA A' JGd0 u,[]⟩:Act).eval (.tmp 4)=.pointer (some ⟨J,0,none⟩):=(fillA_out (by omega) rfl).trans h4
   refine wp_of_run (v:=.pointer (some ⟨J,0,none⟩)) (w':=x) ?run ⟨_,fillA_put rfl,hR.quiet 0 42 (by decide) (by decide) (by decide) rfl⟩
   case run=>simp only[Act.eval,Array.getD_eq_getD_getElem?]at q4;simp[execOp,q4,Act.eval,go_sem]
  ·have q4:(⟨fillA A' JGd0 u,[]⟩:Act).eval (.tmp 4)=.pointer (some ⟨J,0,none⟩):=(fillA_out (by omega) rfl).trans h4
   refine wp_of_run (v:=.pointer (some ⟨J,0,none⟩)) (w':=x) ?run ⟨_,fillA_put rfl,hR.quiet 1 43 (by decide) (by decide) (by decide) rfl⟩
   case run=>simp only[Act.eval,Array.getD_eq_getD_getElem?]at q4;simp[execOp,q4,Act.eval,go_sem]
  ·have q43:(⟨fillA A' JGd0 u,[]⟩:Act).eval (.tmp 43)=.pointer (some ⟨J,0,none⟩):=(fillA_in (by omega) rfl).trans (hR.val (1,43) (by decide) (hdep ⟨1,.data⟩ (by simp) rfl))
   refine wp_of_run (v:=.pointer (some ⟨J,0,none⟩)) (w':=x) ?run ⟨_,fillA_put rfl,hR.quiet 2 44 (by decide) (by decide) (by decide) rfl⟩
   case run=>simp only[Act.eval,Array.getD_eq_getD_getElem?]at q43;simp[execOp,q43,Act.eval,go_sem]
  ·have q44:(⟨fillA A' JGd0 u,[]⟩:Act).eval (.tmp 44)=.pointer (some ⟨J,0,none⟩):=(fillA_in (by omega) rfl).trans (hR.val (2,44) (by decide) (hdep ⟨2,.data⟩ (by simp) rfl))
   refine wp_of_run (v:=.pointer (some ⟨J,60,none⟩)) (w':=x) ?run ⟨_,fillA_put rfl,hR.quiet 3 45 (by decide) (by decide) (by decide) rfl⟩
   case run=>simp only[Act.eval,Array.getD_eq_getD_getElem?]at q44;simp[execOp,q44,Act.eval,go_sem]
  ·have q45:(⟨fillA A' JGd0 u,[]⟩:Act).eval (.tmp 45)=.pointer (some ⟨J,60,none⟩):=(fillA_in (by omega) rfl).trans (hR.val (3,45) (by decide) (hdep ⟨3,.data⟩ (by simp) rfl))
   have n7:st 7=false:=st_no (fun h=>hcl 7 _ rfl h ⟨4,.data⟩ (by simp) rfl) hst
   have n22:st 22=false:=st_no (fun h=>hcl 22 _ rfl h ⟨7,.data⟩ (by simp) rfl) n7
   have n25:st 25=false:=st_no (fun h=>hcl 25 _ rfl h ⟨22,.data⟩ (by simp) rfl) n22
   have hJ:Blk x J 136 (s.js p l (.slice (some ⟨B,o,none⟩) 4 c)):=by have:=hR.j;rw[if_neg (by rw[n25];simp)]at this;exact this
   have f0:x.cell? ⟨J,60,none⟩=some (.slice l.v p.V.length l.cv):=hJ.cell 60
   refine wp_of_run (v:=.slice l.v p.V.length l.cv) (w':=x) ?run ⟨_,fillA_put rfl,hR.quiet 4 46 (by decide) (by decide) (by decide) rfl⟩
   case run=>simp only[Act.eval,Array.getD_eq_getD_getElem?]at q45;simp[execOp,q45,Act.eval,go_sem,f0]
  ·have q6:(⟨fillA A' JGd0 u,[]⟩:Act).eval (.tmp 6)=.int .i64 (p.V.length:Int):=(fillA_out (by omega) rfl).trans h6
   refine wp_of_run (v:=.int .i64 (p.V.length:Int)) (w':=x) ?run ⟨_,fillA_put rfl,hR.quiet 5 47 (by decide) (by decide) (by decide) rfl⟩
   case run=>simp only[Act.eval,Array.getD_eq_getD_getElem?]at q6;simp[execOp,q6,Act.eval,go_sem]
  ·have q6:(⟨fillA A' JGd0 u,[]⟩:Act).eval (.tmp 6)=.int .i64 (p.V.length:Int):=(fillA_out (by omega) rfl).trans h6
   refine wp_of_run (v:=.int .i64 (p.V.length:Int)) (w':=x) ?run ⟨_,fillA_put rfl,hR.quiet 6 48 (by decide) (by decide) (by decide) rfl⟩
   case run=>simp only[Act.eval,Array.getD_eq_getD_getElem?]at q6;simp[execOp,q6,Act.eval,go_sem]
  ·have q46:(⟨fillA A' JGd0 u,[]⟩:Act).eval (.tmp 46)=.slice l.v p.V.length l.cv:=(fillA_in (by omega) rfl).trans (hR.val (4,46) (by decide) (hdep ⟨4,.data⟩ (by simp) rfl))
   have q47:(⟨fillA A' JGd0 u,[]⟩:Act).eval (.tmp 47)=.int .i64 (p.V.length:Int):=(fillA_in (by omega) rfl).trans (hR.val (5,47) (by decide) (hdep ⟨5,.data⟩ (by simp) rfl))
   have q48:(⟨fillA A' JGd0 u,[]⟩:Act).eval (.tmp 48)=.int .i64 (p.V.length:Int):=(fillA_in (by omega) rfl).trans (hR.val (6,48) (by decide) (hdep ⟨6,.data⟩ (by simp) rfl))
   have f0:=HSL.out.1
   refine wp_of_run (v:=.slice a' p.V.length p.V.length) (w':=x) ?run ⟨_,fillA_put rfl,hR.quiet 7 49 (by decide) (by decide) (by decide) rfl⟩
   case run=>simp only[Act.eval,Array.getD_eq_getD_getElem?]at q46 q47 q48;simp[execOp,q46,q47,q48,Act.eval,Instr.sliceAt,f0]
  ·have q5:(⟨fillA A' JGd0 u,[]⟩:Act).eval (.tmp 5)=.pointer (some ⟨G,0,none⟩):=(fillA_out (by omega) rfl).trans h5
   refine wp_of_run (v:=.pointer (some ⟨G,0,none⟩)) (w':=x) ?run ⟨_,fillA_put rfl,hR.quiet 8 50 (by decide) (by decide) (by decide) rfl⟩
   case run=>simp only[Act.eval,Array.getD_eq_getD_getElem?]at q5;simp[execOp,q5,Act.eval,go_sem]
  ·have q50:(⟨fillA A' JGd0 u,[]⟩:Act).eval (.tmp 50)=.pointer (some ⟨G,0,none⟩):=(fillA_in (by omega) rfl).trans (hR.val (8,50) (by decide) (hdep ⟨8,.data⟩ (by simp) rfl))
   have f0:x.cell? ⟨G,0,none⟩=some (.int .i64 v.a):=(HG.out.kp hR.kp hGJ).cell 0
   refine wp_of_run (v:=.int .i64 v.a) (w':=x) ?run ⟨_,fillA_put rfl,hR.quiet 9 51 (by decide) (by decide) (by decide) rfl⟩
   case run=>simp only[Act.eval,Array.getD_eq_getD_getElem?]at q50;simp[execOp,q50,Act.eval,go_sem,f0]
  ·have q5:(⟨fillA A' JGd0 u,[]⟩:Act).eval (.tmp 5)=.pointer (some ⟨G,0,none⟩):=(fillA_out (by omega) rfl).trans h5
   refine wp_of_run (v:=.pointer (some ⟨G,1,none⟩)) (w':=x) ?run ⟨_,fillA_put rfl,hR.quiet 10 52 (by decide) (by decide) (by decide) rfl⟩
   case run=>simp only[Act.eval,Array.getD_eq_getD_getElem?]at q5;simp[execOp,q5,Act.eval,go_sem]
  ·have q52:(⟨fillA A' JGd0 u,[]⟩:Act).eval (.tmp 52)=.pointer (some ⟨G,1,none⟩):=(fillA_in (by omega) rfl).trans (hR.val (10,52) (by decide) (hdep ⟨10,.data⟩ (by simp) rfl))
   have f0:x.cell? ⟨G,1,none⟩=some (.int .i64 v.b):=(HG.out.kp hR.kp hGJ).cell 1
   refine wp_of_run (v:=.int .i64 v.b) (w':=x) ?run ⟨_,fillA_put rfl,hR.quiet 11 53 (by decide) (by decide) (by decide) rfl⟩
   case run=>simp only[Act.eval,Array.getD_eq_getD_getElem?]at q52;simp[execOp,q52,Act.eval,go_sem,f0]
  ·have q5:(⟨fillA A' JGd0 u,[]⟩:Act).eval (.tmp 5)=.pointer (some ⟨G,0,none⟩):=(fillA_out (by omega) rfl).trans h5
   refine wp_of_run (v:=.pointer (some ⟨G,2,none⟩)) (w':=x) ?run ⟨_,fillA_put rfl,hR.quiet 12 54 (by decide) (by decide) (by decide) rfl⟩
   case run=>simp only[Act.eval,Array.getD_eq_getD_getElem?]at q5;simp[execOp,q5,Act.eval,go_sem]
  ·have q54:(⟨fillA A' JGd0 u,[]⟩:Act).eval (.tmp 54)=.pointer (some ⟨G,2,none⟩):=(fillA_in (by omega) rfl).trans (hR.val (12,54) (by decide) (hdep ⟨12,.data⟩ (by simp) rfl))
   have f0:x.cell? ⟨G,2,none⟩=some (.int .i64 v.c):=(HG.out.kp hR.kp hGJ).cell 2
   refine wp_of_run (v:=.int .i64 v.c) (w':=x) ?run ⟨_,fillA_put rfl,hR.quiet 13 55 (by decide) (by decide) (by decide) rfl⟩
   case run=>simp only[Act.eval,Array.getD_eq_getD_getElem?]at q54;simp[execOp,q54,Act.eval,go_sem,f0]
  ·have q5:(⟨fillA A' JGd0 u,[]⟩:Act).eval (.tmp 5)=.pointer (some ⟨G,0,none⟩):=(fillA_out (by omega) rfl).trans h5
   refine wp_of_run (v:=.pointer (some ⟨G,3,none⟩)) (w':=x) ?run ⟨_,fillA_put rfl,hR.quiet 14 56 (by decide) (by decide) (by decide) rfl⟩
   case run=>simp only[Act.eval,Array.getD_eq_getD_getElem?]at q5;simp[execOp,q5,Act.eval,go_sem]
  ·have q56:(⟨fillA A' JGd0 u,[]⟩:Act).eval (.tmp 56)=.pointer (some ⟨G,3,none⟩):=(fillA_in (by omega) rfl).trans (hR.val (14,56) (by decide) (hdep ⟨14,.data⟩ (by simp) rfl))
   have f0:x.cell? ⟨G,3,none⟩=some (.int .i64 v.d):=(HG.out.kp hR.kp hGJ).cell 3
   refine wp_of_run (v:=.int .i64 v.d) (w':=x) ?run ⟨_,fillA_put rfl,hR.quiet 15 57 (by decide) (by decide) (by decide) rfl⟩
   case run=>simp only[Act.eval,Array.getD_eq_getD_getElem?]at q56;simp[execOp,q56,Act.eval,go_sem,f0]
  ·have q4:(⟨fillA A' JGd0 u,[]⟩:Act).eval (.tmp 4)=.pointer (some ⟨J,0,none⟩):=(fillA_out (by omega) rfl).trans h4
   refine wp_of_run (v:=.pointer (some ⟨J,0,none⟩)) (w':=x) ?run ⟨_,fillA_put rfl,hR.quiet 16 58 (by decide) (by decide) (by decide) rfl⟩
   case run=>simp only[Act.eval,Array.getD_eq_getD_getElem?]at q4;simp[execOp,q4,Act.eval,go_sem]
  ·have q58:(⟨fillA A' JGd0 u,[]⟩:Act).eval (.tmp 58)=.pointer (some ⟨J,0,none⟩):=(fillA_in (by omega) rfl).trans (hR.val (16,58) (by decide) (hdep ⟨16,.data⟩ (by simp) rfl))
   refine wp_of_run (v:=.pointer (some ⟨J,0,none⟩)) (w':=x) ?run ⟨_,fillA_put rfl,hR.quiet 17 59 (by decide) (by decide) (by decide) rfl⟩
   case run=>simp only[Act.eval,Array.getD_eq_getD_getElem?]at q58;simp[execOp,q58,Act.eval,go_sem]
  ·have q59:(⟨fillA A' JGd0 u,[]⟩:Act).eval (.tmp 59)=.pointer (some ⟨J,0,none⟩):=(fillA_in (by omega) rfl).trans (hR.val (17,59) (by decide) (hdep ⟨17,.data⟩ (by simp) rfl))
   refine wp_of_run (v:=.pointer (some ⟨J,53,none⟩)) (w':=x) ?run ⟨_,fillA_put rfl,hR.quiet 18 60 (by decide) (by decide) (by decide) rfl⟩
   case run=>simp only[Act.eval,Array.getD_eq_getD_getElem?]at q59;simp[execOp,q59,Act.eval,go_sem]
  ·have q60:(⟨fillA A' JGd0 u,[]⟩:Act).eval (.tmp 60)=.pointer (some ⟨J,53,none⟩):=(fillA_in (by omega) rfl).trans (hR.val (18,60) (by decide) (hdep ⟨18,.data⟩ (by simp) rfl))
   have n20:st 20=false:=st_no (fun h=>hcl 20 _ rfl h ⟨19,.data⟩ (by simp) rfl) hst
   have n21:st 21=false:=st_no (fun h=>hcl 21 _ rfl h ⟨20,.data⟩ (by simp) rfl) n20
   have n22:st 22=false:=st_no (fun h=>hcl 22 _ rfl h ⟨21,.data⟩ (by simp) rfl) n21
   have n25:st 25=false:=st_no (fun h=>hcl 25 _ rfl h ⟨22,.data⟩ (by simp) rfl) n22
   have hJ:Blk x J 136 (s.js p l (.slice (some ⟨B,o,none⟩) 4 c)):=by have:=hR.j;rw[if_neg (by rw[n25];simp)]at this;exact this
   have f0:x.cell? ⟨J,53,none⟩=some (.int .i64 s.c0):=hJ.cell 53
   have f1:x.cell? ⟨J,54,none⟩=some (.int .i64 s.c1):=hJ.cell 54
   have f2:x.cell? ⟨J,55,none⟩=some (.int .i64 s.c2):=hJ.cell 55
   have f3:x.cell? ⟨J,56,none⟩=some (.int .i64 s.c3):=hJ.cell 56
   refine wp_of_run (v:=.agg #[.int .i64 s.c0,.int .i64 s.c1,.int .i64 s.c2,.int .i64 s.c3]) (w':=x) ?run ⟨_,fillA_put rfl,hR.quiet 19 61 (by decide) (by decide) (by decide) rfl⟩
   case run=>simp only[Act.eval,Array.getD_eq_getD_getElem?]at q60;simp[execOp,q60,Act.eval,go_sem,f0,f1,f2,f3]
  ·have q51:(⟨fillA A' JGd0 u,[]⟩:Act).eval (.tmp 51)=.int .i64 v.a:=(fillA_in (by omega) rfl).trans (hR.val (9,51) (by decide) (hdep ⟨9,.data⟩ (by simp) rfl))
   have q53:(⟨fillA A' JGd0 u,[]⟩:Act).eval (.tmp 53)=.int .i64 v.b:=(fillA_in (by omega) rfl).trans (hR.val (11,53) (by decide) (hdep ⟨11,.data⟩ (by simp) rfl))
   have q55:(⟨fillA A' JGd0 u,[]⟩:Act).eval (.tmp 55)=.int .i64 v.c:=(fillA_in (by omega) rfl).trans (hR.val (13,55) (by decide) (hdep ⟨13,.data⟩ (by simp) rfl))
   have q57:(⟨fillA A' JGd0 u,[]⟩:Act).eval (.tmp 57)=.int .i64 v.d:=(fillA_in (by omega) rfl).trans (hR.val (15,57) (by decide) (hdep ⟨15,.data⟩ (by simp) rfl))
   have q61:(⟨fillA A' JGd0 u,[]⟩:Act).eval (.tmp 61)=.agg #[.int .i64 s.c0,.int .i64 s.c1,.int .i64 s.c2,.int .i64 s.c3]:=(fillA_in (by omega) rfl).trans (hR.val (19,61) (by decide) (hdep ⟨19,.data⟩ (by simp) rfl))
   refine wp_of_run (v:=.agg #[.int .i64 v.a,.int .i64 v.b,.int .i64 v.c,.int .i64 v.d,.int .i64 s.c0,.int .i64 s.c1,.int .i64 s.c2,.int .i64 s.c3]) (w':=x) ?run ⟨_,fillA_put rfl,hR.quiet 20 62 (by decide) (by decide) (by decide) rfl⟩
   case run=>simp only[Act.eval,Array.getD_eq_getD_getElem?]at q51 q53 q55 q57 q61;simp[execOp,q51,q53,q55,q57,q61,Act.eval,go_sem]
  ·have q62:(⟨fillA A' JGd0 u,[]⟩:Act).eval (.tmp 62)=.agg #[.int .i64 v.a,.int .i64 v.b,.int .i64 v.c,.int .i64 v.d,.int .i64 s.c0,.int .i64 s.c1,.int .i64 s.c2,.int .i64 s.c3]:=(fillA_in (by omega) rfl).trans (hR.val (20,62) (by decide) (hdep ⟨20,.data⟩ (by simp) rfl))
   refine wp_of_run (v:=.slice (some ⟨x.heap.size,0,none⟩) 1 1) (w':=x.alloc (.cells (List.toArray [.int .i64 v.a,.int .i64 v.b,.int .i64 v.c,.int .i64 v.d,.int .i64 s.c0,.int .i64 s.c1,.int .i64 s.c2,.int .i64 s.c3]) 149)) ?run ⟨_,fillA_put rfl,hR.make (by decide) (by decide)⟩
   case run=>simp only[Act.eval,Array.getD_eq_getD_getElem?]at q62;simp[execOp,q62,Act.eval,go_sem]
  ·have q49:(⟨fillA A' JGd0 u,[]⟩:Act).eval (.tmp 49)=.slice a' p.V.length p.V.length:=(fillA_in (by omega) rfl).trans (hR.val (7,49) (by decide) (hdep ⟨7,.data⟩ (by simp) rfl))
   have n25:st 25=false:=st_no (fun h=>hcl 25 _ rfl h ⟨22,.data⟩ (by simp) rfl) hst
   have hJ:Blk x J 136 (s.js p l (.slice (some ⟨B,o,none⟩) 4 c)):=by have:=hR.j;rw[if_neg (by rw[n25];simp)]at this;exact this
   obtain⟨G',g1,g2⟩:=hR.b (hdep ⟨21,.data⟩ (by simp) rfl)
   have qb:(⟨fillA A' JGd0 u,[]⟩:Act).eval (.tmp 63)=.slice (some ⟨G',0,none⟩) 1 1:=(fillA_in (by omega) rfl).trans g1
   refine wp_append_grows rfl (.tmp 49) (.tmp 63) 41 rfl 149 8 64 _ Tryz.underlying41 info_vx rfl (by decide) a' p.V.length (vxs p.V) q49 (HSL.out.2.1.ext (HE0.out x hR.kp)) HSL.out.2.2 G' [.int .i64 v.a,.int .i64 v.b,.int .i64 v.c,.int .i64 v.d,.int .i64 s.c0,.int .i64 s.c1,.int .i64 s.c2,.int .i64 s.c3] qb g2 rfl (by intro u hu;simp at hu;rcases hu with rfl|rfl|rfl|rfl|rfl|rfl|rfl|rfl <;>rfl) (by have:=HFL.out.2;unfold maxLen;omega) (by have:=HFL.out.2;omega) ?_
   intro xa xc w' hr hE
   exact⟨_,fillA_put rfl,hR.app hE hr (by decide) (by decide) n25⟩
  ·have q42:(⟨fillA A' JGd0 u,[]⟩:Act).eval (.tmp 42)=.pointer (some ⟨J,0,none⟩):=(fillA_in (by omega) rfl).trans (hR.val (0,42) (by decide) (hdep ⟨0,.data⟩ (by simp) rfl))
   refine wp_of_run (v:=.pointer (some ⟨J,0,none⟩)) (w':=x) ?run ⟨_,fillA_put rfl,hR.quiet 23 65 (by decide) (by decide) (by decide) rfl⟩
   case run=>simp only[Act.eval,Array.getD_eq_getD_getElem?]at q42;simp[execOp,q42,Act.eval,go_sem]
  ·have q65:(⟨fillA A' JGd0 u,[]⟩:Act).eval (.tmp 65)=.pointer (some ⟨J,0,none⟩):=(fillA_in (by omega) rfl).trans (hR.val (23,65) (by decide) (hdep ⟨23,.data⟩ (by simp) rfl))
   refine wp_of_run (v:=.pointer (some ⟨J,60,none⟩)) (w':=x) ?run ⟨_,fillA_put rfl,hR.quiet 24 66 (by decide) (by decide) (by decide) rfl⟩
   case run=>simp only[Act.eval,Array.getD_eq_getD_getElem?]at q65;simp[execOp,q65,Act.eval,go_sem]
  ·have q66:(⟨fillA A' JGd0 u,[]⟩:Act).eval (.tmp 66)=.pointer (some ⟨J,60,none⟩):=(fillA_in (by omega) rfl).trans (hR.val (24,66) (by decide) (hdep ⟨24,.data⟩ (by simp) rfl))
   obtain⟨xa,xc,g1,g2⟩:=hR.a (hdep ⟨22,.data⟩ (by simp) rfl)
   have qa:(⟨fillA A' JGd0 u,[]⟩:Act).eval (.tmp 64)=.slice xa (p.V.length+1) xc:=(fillA_in (by omega) rfl).trans g1
   have hJ:Blk x J 136 (s.js p l (.slice (some ⟨B,o,none⟩) 4 c)):=by have:=hR.j;rw[if_neg (by rw[hst];simp)]at this;exact this
   refine wp_store_part (.tmp 66) (.tmp 64) 41 rfl 60 q66 _ qa hJ (by kernel_rfl) (by intro v hv;simp[Value.cells]at hv;subst hv;rfl) (by show 60+1≤95;decide) (cs':=(s.js p l (.slice (some ⟨B,o,none⟩) 4 c)).setIfInBounds 60 (u 64)) (by rw[g1];rfl) ?_
   intro w' hB hK
   exact⟨_,rfl,hR.store hK hB (by decide) (by decide) (by decide)⟩
 ·intro st u x hall hR
  obtain⟨va,vc,g1,g2⟩:=hR.a (hall 22 (by decide))
  have hK:=hR.kp
  have hJ:=hR.j
  rw[if_pos (hall 25 (by decide)),g1]at hJ
  clear hR hall
  simp[fillA,fillL,JGd0,JGd1]
  have HJ4:=Lib.hid hJ
  have HK4:=Lib.hid hK
  have HV4:=Lib.hid g2
  have HIX:=Lib.hid (HE0.out x hK)
  clear hJ hK g1 g2 HG hGJ
  generalize x=W4 at*
  have HE4:Hid (∀y,Kp (·≠J) W4 y→Ext w0 y):=Lib.hid (fun y k=>k.ext HIX.out (fun k hk=>by have:=HIN.out.le;omega))
  obtain⟨a2,s1,s2,s3⟩:=full3 (t:=42) Tryz.underlying42 (e:=4) (size:=1) (by kernel_rfl) HIN.out.lie.lies.f
  rw[HFL.out.1]at s1 s2 s3
  have HSF:=Lib.hid (And.intro s1 (And.intro s2 s3))
  clear s1 s2 s3
  go_upto_region 7 with fail
  refine wp_region_fill JGd1 (fun st u x=>AP W4 [(0,67),(1,68),(2,69),(3,70),(4,71),(5,72),(6,73),(7,74),(8,75),(9,76),(10,77),(11,78),(14,81),(15,82)] (vg7 J p.V.length l.f l.cf a2 s) J 136 ((s.js p l (.slice (some ⟨B,o,none⟩) 4 c)).setIfInBounds 60 (.slice va (p.V.length+1) vc)) 61 12 13 16 79 80 4 1 p.V.length [.bool s.flag] (bos p.F) st u x) (by kernel_rfl) (by kernel_rfl) ?_ ?_ ?_
  ·rintro x rfl
   exact AP.begin (Kp.refl _ _).drew HJ4.out.drew
  ·intro A' hA' st u x i o ho hst hdep hcl hR
   have hlen:A'.length=83:=by rw[hA'];rfl
   have h4:A'.getD 4 undef=.pointer (some ⟨J,0,none⟩):=by rw[hA'];rfl
   have h6:A'.getD 6 undef=.int .i64 (p.V.length:Int):=by rw[hA'];rfl
   clear hA'
   have hi:i<17:=(Array.getElem?_eq_some_iff.1 ho).1
   rcases(by omega:i=0∨i=1∨i=2∨i=3∨i=4∨i=5∨i=6∨i=7∨i=8∨i=9∨i=10∨i=11∨i=12∨i=13∨i=14∨i=15∨i=16)with rfl|rfl|rfl|rfl|rfl|rfl|rfl|rfl|rfl|rfl|rfl|rfl|rfl|rfl|rfl|rfl|rfl
   all_goals(obtain rfl:(⟨_,_,_,_,_,_⟩:Oper)=o:=Option.some.inj ho;refine wpOp_plain rfl rfl ?_)
   ·have q4:(⟨fillA A' JGd1 u,[]⟩:Act).eval (.tmp 4)=.pointer (some ⟨J,0,none⟩):=(fillA_out (by omega) rfl).trans h4
    refine wp_of_run (v:=.pointer (some ⟨J,0,none⟩)) (w':=x) ?run ⟨_,fillA_put rfl,hR.quiet 0 67 (by decide) (by decide) (by decide) rfl⟩
    case run=>simp only[Act.eval,Array.getD_eq_getD_getElem?]at q4;simp[execOp,q4,Act.eval,go_sem]
   ·have q4:(⟨fillA A' JGd1 u,[]⟩:Act).eval (.tmp 4)=.pointer (some ⟨J,0,none⟩):=(fillA_out (by omega) rfl).trans h4
    refine wp_of_run (v:=.pointer (some ⟨J,0,none⟩)) (w':=x) ?run ⟨_,fillA_put rfl,hR.quiet 1 68 (by decide) (by decide) (by decide) rfl⟩
    case run=>simp only[Act.eval,Array.getD_eq_getD_getElem?]at q4;simp[execOp,q4,Act.eval,go_sem]
   ·have q68:(⟨fillA A' JGd1 u,[]⟩:Act).eval (.tmp 68)=.pointer (some ⟨J,0,none⟩):=(fillA_in (by omega) rfl).trans (hR.val (1,68) (by decide) (hdep ⟨1,.data⟩ (by simp) rfl))
    refine wp_of_run (v:=.pointer (some ⟨J,0,none⟩)) (w':=x) ?run ⟨_,fillA_put rfl,hR.quiet 2 69 (by decide) (by decide) (by decide) rfl⟩
    case run=>simp only[Act.eval,Array.getD_eq_getD_getElem?]at q68;simp[execOp,q68,Act.eval,go_sem]
   ·have q69:(⟨fillA A' JGd1 u,[]⟩:Act).eval (.tmp 69)=.pointer (some ⟨J,0,none⟩):=(fillA_in (by omega) rfl).trans (hR.val (2,69) (by decide) (hdep ⟨2,.data⟩ (by simp) rfl))
    refine wp_of_run (v:=.pointer (some ⟨J,61,none⟩)) (w':=x) ?run ⟨_,fillA_put rfl,hR.quiet 3 70 (by decide) (by decide) (by decide) rfl⟩
    case run=>simp only[Act.eval,Array.getD_eq_getD_getElem?]at q69;simp[execOp,q69,Act.eval,go_sem]
   ·have q70:(⟨fillA A' JGd1 u,[]⟩:Act).eval (.tmp 70)=.pointer (some ⟨J,61,none⟩):=(fillA_in (by omega) rfl).trans (hR.val (3,70) (by decide) (hdep ⟨3,.data⟩ (by simp) rfl))
    have n7:st 7=false:=st_no (fun h=>hcl 7 _ rfl h ⟨4,.data⟩ (by simp) rfl) hst
    have n13:st 13=false:=st_no (fun h=>hcl 13 _ rfl h ⟨7,.data⟩ (by simp) rfl) n7
    have n16:st 16=false:=st_no (fun h=>hcl 16 _ rfl h ⟨13,.data⟩ (by simp) rfl) n13
    have hJ:Blk x J 136 ((s.js p l (.slice (some ⟨B,o,none⟩) 4 c)).setIfInBounds 60 (.slice va (p.V.length+1) vc)):=by have:=hR.j;rw[if_neg (by rw[n16];simp)]at this;exact this
    have f0:x.cell? ⟨J,61,none⟩=some (.slice l.f p.V.length l.cf):=(hJ.cell 61).trans (by simp[Ps.js,HFL.out.1])
    refine wp_of_run (v:=.slice l.f p.V.length l.cf) (w':=x) ?run ⟨_,fillA_put rfl,hR.quiet 4 71 (by decide) (by decide) (by decide) rfl⟩
    case run=>simp only[Act.eval,Array.getD_eq_getD_getElem?]at q70;simp[execOp,q70,Act.eval,go_sem,f0]
   ·have q6:(⟨fillA A' JGd1 u,[]⟩:Act).eval (.tmp 6)=.int .i64 (p.V.length:Int):=(fillA_out (by omega) rfl).trans h6
    refine wp_of_run (v:=.int .i64 (p.V.length:Int)) (w':=x) ?run ⟨_,fillA_put rfl,hR.quiet 5 72 (by decide) (by decide) (by decide) rfl⟩
    case run=>simp only[Act.eval,Array.getD_eq_getD_getElem?]at q6;simp[execOp,q6,Act.eval,go_sem]
   ·have q6:(⟨fillA A' JGd1 u,[]⟩:Act).eval (.tmp 6)=.int .i64 (p.V.length:Int):=(fillA_out (by omega) rfl).trans h6
    refine wp_of_run (v:=.int .i64 (p.V.length:Int)) (w':=x) ?run ⟨_,fillA_put rfl,hR.quiet 6 73 (by decide) (by decide) (by decide) rfl⟩
    case run=>simp only[Act.eval,Array.getD_eq_getD_getElem?]at q6;simp[execOp,q6,Act.eval,go_sem]
   ·have q71:(⟨fillA A' JGd1 u,[]⟩:Act).eval (.tmp 71)=.slice l.f p.V.length l.cf:=(fillA_in (by omega) rfl).trans (hR.val (4,71) (by decide) (hdep ⟨4,.data⟩ (by simp) rfl))
    have q72:(⟨fillA A' JGd1 u,[]⟩:Act).eval (.tmp 72)=.int .i64 (p.V.length:Int):=(fillA_in (by omega) rfl).trans (hR.val (5,72) (by decide) (hdep ⟨5,.data⟩ (by simp) rfl))
    have q73:(⟨fillA A' JGd1 u,[]⟩:Act).eval (.tmp 73)=.int .i64 (p.V.length:Int):=(fillA_in (by omega) rfl).trans (hR.val (6,73) (by decide) (hdep ⟨6,.data⟩ (by simp) rfl))
    have f0:=HSF.out.1
    refine wp_of_run (v:=.slice a2 p.V.length p.V.length) (w':=x) ?run ⟨_,fillA_put rfl,hR.quiet 7 74 (by decide) (by decide) (by decide) rfl⟩
    case run=>simp only[Act.eval,Array.getD_eq_getD_getElem?]at q71 q72 q73;simp[execOp,q71,q72,q73,Act.eval,Instr.sliceAt,f0]
   ·have q4:(⟨fillA A' JGd1 u,[]⟩:Act).eval (.tmp 4)=.pointer (some ⟨J,0,none⟩):=(fillA_out (by omega) rfl).trans h4
    refine wp_of_run (v:=.pointer (some ⟨J,0,none⟩)) (w':=x) ?run ⟨_,fillA_put rfl,hR.quiet 8 75 (by decide) (by decide) (by decide) rfl⟩
    case run=>simp only[Act.eval,Array.getD_eq_getD_getElem?]at q4;simp[execOp,q4,Act.eval,go_sem]
   ·have q75:(⟨fillA A' JGd1 u,[]⟩:Act).eval (.tmp 75)=.pointer (some ⟨J,0,none⟩):=(fillA_in (by omega) rfl).trans (hR.val (8,75) (by decide) (hdep ⟨8,.data⟩ (by simp) rfl))
    refine wp_of_run (v:=.pointer (some ⟨J,0,none⟩)) (w':=x) ?run ⟨_,fillA_put rfl,hR.quiet 9 76 (by decide) (by decide) (by decide) rfl⟩
    case run=>simp only[Act.eval,Array.getD_eq_getD_getElem?]at q75;simp[execOp,q75,Act.eval,go_sem]
   ·have q76:(⟨fillA A' JGd1 u,[]⟩:Act).eval (.tmp 76)=.pointer (some ⟨J,0,none⟩):=(fillA_in (by omega) rfl).trans (hR.val (9,76) (by decide) (hdep ⟨9,.data⟩ (by simp) rfl))
    refine wp_of_run (v:=.pointer (some ⟨J,57,none⟩)) (w':=x) ?run ⟨_,fillA_put rfl,hR.quiet 10 77 (by decide) (by decide) (by decide) rfl⟩
    case run=>simp only[Act.eval,Array.getD_eq_getD_getElem?]at q76;simp[execOp,q76,Act.eval,go_sem]
   ·have q77:(⟨fillA A' JGd1 u,[]⟩:Act).eval (.tmp 77)=.pointer (some ⟨J,57,none⟩):=(fillA_in (by omega) rfl).trans (hR.val (10,77) (by decide) (hdep ⟨10,.data⟩ (by simp) rfl))
    have n12:st 12=false:=st_no (fun h=>hcl 12 _ rfl h ⟨11,.data⟩ (by simp) rfl) hst
    have n13:st 13=false:=st_no (fun h=>hcl 13 _ rfl h ⟨12,.data⟩ (by simp) rfl) n12
    have n16:st 16=false:=st_no (fun h=>hcl 16 _ rfl h ⟨13,.data⟩ (by simp) rfl) n13
    have hJ:Blk x J 136 ((s.js p l (.slice (some ⟨B,o,none⟩) 4 c)).setIfInBounds 60 (.slice va (p.V.length+1) vc)):=by have:=hR.j;rw[if_neg (by rw[n16];simp)]at this;exact this
    have f0:x.cell? ⟨J,57,none⟩=some (.bool s.flag):=(hJ.cell 57).trans (by simp[Ps.js])
    refine wp_of_run (v:=.bool s.flag) (w':=x) ?run ⟨_,fillA_put rfl,hR.quiet 11 78 (by decide) (by decide) (by decide) rfl⟩
    case run=>simp only[Act.eval,Array.getD_eq_getD_getElem?]at q77;simp[execOp,q77,Act.eval,go_sem,f0]
   ·have q78:(⟨fillA A' JGd1 u,[]⟩:Act).eval (.tmp 78)=.bool s.flag:=(fillA_in (by omega) rfl).trans (hR.val (11,78) (by decide) (hdep ⟨11,.data⟩ (by simp) rfl))
    refine wp_of_run (v:=.slice (some ⟨x.heap.size,0,none⟩) 1 1) (w':=x.alloc (.cells (List.toArray [.bool s.flag]) 4)) ?run ⟨_,fillA_put rfl,hR.make (by decide) (by decide)⟩
    case run=>simp only[Act.eval,Array.getD_eq_getD_getElem?]at q78;simp[execOp,q78,Act.eval,go_sem]
   ·have q74:(⟨fillA A' JGd1 u,[]⟩:Act).eval (.tmp 74)=.slice a2 p.V.length p.V.length:=(fillA_in (by omega) rfl).trans (hR.val (7,74) (by decide) (hdep ⟨7,.data⟩ (by simp) rfl))
    have n16:st 16=false:=st_no (fun h=>hcl 16 _ rfl h ⟨13,.data⟩ (by simp) rfl) hst
    have hJ:Blk x J 136 ((s.js p l (.slice (some ⟨B,o,none⟩) 4 c)).setIfInBounds 60 (.slice va (p.V.length+1) vc)):=by have:=hR.j;rw[if_neg (by rw[n16];simp)]at this;exact this
    obtain⟨G',g1,g2⟩:=hR.b (hdep ⟨12,.data⟩ (by simp) rfl)
    have qb:(⟨fillA A' JGd1 u,[]⟩:Act).eval (.tmp 79)=.slice (some ⟨G',0,none⟩) 1 1:=(fillA_in (by omega) rfl).trans g1
    refine wp_append_grows rfl (.tmp 74) (.tmp 79) 42 rfl 4 1 1 _ Tryz.underlying42 info_bo rfl (by decide) a2 p.V.length (bos p.F) q74 (HSF.out.2.1.ext (HE4.out x hR.kp)) HSF.out.2.2 G' [.bool s.flag] qb g2 rfl (by intro u hu;simp at hu;subst hu;rfl) (by have:=HFL.out.2;unfold maxLen;omega) (by have:=HFL.out.2;omega) ?_
    intro xa xc w' hr hE
    exact⟨_,fillA_put rfl,hR.app hE hr (by decide) (by decide) n16⟩
   ·have q67:(⟨fillA A' JGd1 u,[]⟩:Act).eval (.tmp 67)=.pointer (some ⟨J,0,none⟩):=(fillA_in (by omega) rfl).trans (hR.val (0,67) (by decide) (hdep ⟨0,.data⟩ (by simp) rfl))
    refine wp_of_run (v:=.pointer (some ⟨J,0,none⟩)) (w':=x) ?run ⟨_,fillA_put rfl,hR.quiet 14 81 (by decide) (by decide) (by decide) rfl⟩
    case run=>simp only[Act.eval,Array.getD_eq_getD_getElem?]at q67;simp[execOp,q67,Act.eval,go_sem]
   ·have q81:(⟨fillA A' JGd1 u,[]⟩:Act).eval (.tmp 81)=.pointer (some ⟨J,0,none⟩):=(fillA_in (by omega) rfl).trans (hR.val (14,81) (by decide) (hdep ⟨14,.data⟩ (by simp) rfl))
    refine wp_of_run (v:=.pointer (some ⟨J,61,none⟩)) (w':=x) ?run ⟨_,fillA_put rfl,hR.quiet 15 82 (by decide) (by decide) (by decide) rfl⟩
    case run=>simp only[Act.eval,Array.getD_eq_getD_getElem?]at q81;simp[execOp,q81,Act.eval,go_sem]
   ·have q82:(⟨fillA A' JGd1 u,[]⟩:Act).eval (.tmp 82)=.pointer (some ⟨J,61,none⟩):=(fillA_in (by omega) rfl).trans (hR.val (15,82) (by decide) (hdep ⟨15,.data⟩ (by simp) rfl))
    obtain⟨xa,xc,g1,g2⟩:=hR.a (hdep ⟨13,.data⟩ (by simp) rfl)
    have qa:(⟨fillA A' JGd1 u,[]⟩:Act).eval (.tmp 80)=.slice xa (p.V.length+1) xc:=(fillA_in (by omega) rfl).trans g1
    have hJ:Blk x J 136 ((s.js p l (.slice (some ⟨B,o,none⟩) 4 c)).setIfInBounds 60 (.slice va (p.V.length+1) vc)):=by have:=hR.j;rw[if_neg (by rw[hst];simp)]at this;exact this
    refine wp_store_part (.tmp 82) (.tmp 80) 42 rfl 61 q82 _ qa hJ (by kernel_rfl) (by intro v hv;simp[Value.cells]at hv;subst hv;rfl) (by simp[Ps.js,Value.cells]) (cs':=((s.js p l (.slice (some ⟨B,o,none⟩) 4 c)).setIfInBounds 60 (.slice va (p.V.length+1) vc)).setIfInBounds 61 (u 80)) (by rw[g1];rfl) ?_
    intro w' hB hK
    exact⟨_,rfl,hR.store hK hB (by decide) (by decide) (by decide)⟩
  ·intro st u x hall hR
   obtain⟨vb,vd,g1,g2⟩:=hR.a (hall 13 (by decide))
   have hK:=hR.kp
   have hJ:=hR.j
   rw[if_pos (hall 16 (by decide)),g1]at hJ
   clear hR hall
   simp[fillA,fillL,JGd0,JGd1]
   go_wp2_with fail
   have hE:=HE4.out x hK
   have hl:=HIN.out.lie.ext hE
   refine bodyPost_end (results_none rfl _ _ _) rfl ⟨rfl,{l with v:=va,cv:=vc,f:=vb,cf:=vd},Blk.cast hJ (by simp[Ps.js,HFL.out.1]),⟨⟨hl.lies.c,hl.lies.z,hl.lies.k,?_,?_⟩,hl.bc,hl.bz,hl.ba,hl.bb,fun _=>(HV4.out.keep (fun g cs hg=>hg.kp hK (hg.ne_type HJ4.out (by decide)))).bk (by omega),fun _=>g2.bk (by omega)⟩,hE,(Kp.of_ext HEW.out).trans (HK4.out.trans hK)⟩
   ·have:=(HV4.out.keep (fun g cs hg=>hg.kp hK (hg.ne_type HJ4.out (by decide)))).rd
    simpa[vxs,Vx.l8]using this
   ·have:=g2.rd
    simpa[bos,HFL.out.1]using this
end Go.Proofs.YtplljnfjkkloeaaGreatDoor
