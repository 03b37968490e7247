/- Proof text: a job's cells; how a drawing looks (job.look: width, dash, mixing). By an AI agent. No condition beyond what each theorem states. -/
import Derived.Test.YtplljnfjkkloeaaGreatDoorHP
import Derived.Test.YtplljnfjkkloeaaGreatDoorHX
set_option linter.unusedVariables false
set_option linter.unusedSimpArgs false
set_option maxHeartbeats 8000000
namespace Go.Proofs.YtplljnfjkkloeaaGreatDoor
attribute [local go_sem] Go.Oper.semAt_some
open Go.RowKit
abbrev JDd0:List Nat:=[29,30,31,32,33,34,35,36,37,38,39,40,41,42,43,44,45,46,47,48,49]
abbrev JDd1:List Nat:=[161,162,163,164,165,166,167,168,169,170,171,172,173,174,175,176,177,178,179,180,181,182,183]
def Ps.js (s:Ps) (p:Hp) (l:Sl) (a:Value):Array Value:= #[.int .i64 s.err,.int .i64 s.W,.int .i64 s.H,.slice l.c p.C.length l.cc,.slice l.z p.Z.length l.cz,.int .i64 s.f0,.int .i64 s.f1,.int .i64 s.f2,.int .i64 s.f3,.int .i64 s.far,.int .i64 s.port.x0,.int .i64 s.port.y0,.int .i64 s.port.x1,.int .i64 s.port.y1,.int .i64 s.mm,.slice l.a 1 l.ca,.slice l.b 1 l.cb,.int .i64 s.s0.k,.int .i64 s.s0.p0,.int .i64 s.s0.p1,.int .i64 s.s0.p2,.int .i64 s.s0.p3,.int .i64 s.s1.k,.int .i64 s.s1.p0,.int .i64 s.s1.p1,.int .i64 s.s1.p2,.int .i64 s.s1.p3,.int .i64 s.s2.k,.int .i64 s.s2.p0,.int .i64 s.s2.p1,.int .i64 s.s2.p2,.int .i64 s.s2.p3,.int .i64 s.s3.k,.int .i64 s.s3.p0,.int .i64 s.s3.p1,.int .i64 s.s3.p2,.int .i64 s.s3.p3,.int .i64 s.s4.k,.int .i64 s.s4.p0,.int .i64 s.s4.p1,.int .i64 s.s4.p2,.int .i64 s.s4.p3,.int .i64 s.s5.k,.int .i64 s.s5.p0,.int .i64 s.s5.p1,.int .i64 s.s5.p2,.int .i64 s.s5.p3,.bool s.o0,.bool s.o1,.bool s.o2,.bool s.o3,.bool s.o4,.bool s.o5,.int .i64 s.c0,.int .i64 s.c1,.int .i64 s.c2,.int .i64 s.c3,.bool s.flag,.bool s.op,.int .i64 s.mode,.slice l.v p.V.length l.cv,.slice l.f p.F.length l.cf,.int .i64 s.width,.bool s.soft,.bool s.dashed,.int .i64 s.dash.bits,.int .i64 s.dash.every,.int .i64 s.dash.done,.int .i64 s.size,.int .i64 s.kind,.int .i64 s.front,.int .i64 s.back,.bool s.ccw,.int .i64 s.cull,.bool s.offset,.int .i64 s.factor,.int .i64 s.units,.bool s.flat,.bool s.first,.bool s.cut,.int .i64 s.box.x0,.int .i64 s.box.y0,.int .i64 s.box.x1,.int .i64 s.box.y1,.bool s.deep,.int .i64 s.func,.bool s.keep,.bool s.mix,.int .i64 s.sf,.int .i64 s.df,.bool s.k0,.bool s.k1,.bool s.k2,.bool s.k3,a]
structure JobIn (w0 w:World) (J:Nat) (s:Ps) (p:Hp) (l:Sl) (B o n c:Nat) (C:List Int):Prop where
 j:Blk w J 136 (s.js p l (.slice (some ⟨B,o,none⟩) n c))
 lie:LiesB s p l w0
 e:Ext w0 w
 le:w0.heap.size≤J
 r:Rd w0 1 (some ⟨B,o,none⟩) n c (ivs C)
 n:n≤4096
structure JobE (w0 w:World) (J:Nat) (s:Ps) (p:Hp) (l:Sl) (a:Value):Prop where
 j:Blk w J 136 (s.js p l a)
 lie:LiesB s p l w0
 e:Ext w0 w
 le:w0.heap.size≤J
theorem JobE.ext {w0 w w':World} {J:Nat} {s:Ps} {p:Hp} {l:Sl} {a:Value} (h:JobE w0 w J s p l a) (e:Ext w w'):JobE w0 w' J s p l a:=⟨h.j.ext e,h.lie,h.e.trans e,h.le⟩
def JobP (w0 w:World) (J:Nat) (s:Ps) (p:Hp) (a:Value) (e:Ending) (w':World):Prop:=
 e=.returned (.tuple #[])∧ ∃l,Blk w' J 136 (s.js p l a)∧LiesB s p l w'∧Ext w0 w'∧Kp (·≠J) w w'
section
variable {w0 wb w w':World} {J:Nat} {s s':Ps} {p:Hp} {l:Sl} {B o n c:Nat} {C:List Int}
theorem JobIn.jb (h:JobIn w0 w J s p l B o n c C):Jb w J B o n c C:=⟨h.j.cell 94,h.r.ext h.e,h.n⟩
theorem JobIn.ext (h:JobIn w0 w J s p l B o n c C) (e:Ext w w'):JobIn w0 w' J s p l B o n c C:=⟨h.j.ext e,h.lie,h.e.trans e,h.le,h.r,h.n⟩
theorem JobP.plain (eb:Ext wb w) (h:JobIn w0 w J s p l B o n c C) {cs:Array Value} (hb:Blk w' J 136 cs) (k:Kp (·≠J) w w') (hc:cs=s'.js p l (.slice (some ⟨B,o,none⟩) n c)) (hm:s'.mm=s.mm):
  JobP w0 wb J s' p (.slice (some ⟨B,o,none⟩) n c) (.returned (.tuple #[])) w':=by
 have e:Ext w0 w':=k.ext h.e (fun k hk=>by have:=h.le;omega)
 refine⟨rfl,l,hc▸hb,?_,e,(Kp.of_ext eb).trans k⟩
 have hl:=h.lie.ext e
 exact⟨⟨hl.lies.c,hl.lies.z,by rw[hm];exact hl.lies.k,hl.lies.v,hl.lies.f⟩,hl.bc,hl.bz,hl.ba,hl.bb,hl.bv,hl.bf⟩
end
def lk20 (s:Ps) (p:Hp) (l:Sl) (a:Value) (v0 v1 v2:Int) (b1 b2:Bool):Array Value:=({s with dashed:=bif b1 then(v0==1)else s.dashed,dash:=bif b2 then⟨v2,v1,0⟩else s.dash}:Ps).js p l a
def lk27 (s:Ps) (p:Hp) (l:Sl) (a:Value) (v0 v1 v2:Int) (b1 b2 b3:Bool):Array Value:=({s with mix:=bif b1 then(v0==1)else s.mix,sf:=bif b2 then v1 else s.sf,df:=bif b3 then v2 else s.df}:Ps).js p l a
def lk20V (J B o n c:Nat) (v0 v1 v2:Int):Nat→Value
 |29=>.pointer (some ⟨J,62,none⟩)|30=>.pointer (some ⟨J,62,none⟩)|31=>.pointer (some ⟨J,0,none⟩)|32=>.bool (v0==1)|33=>.pointer (some ⟨J,0,none⟩)|34=>.pointer (some ⟨J,0,none⟩)|35=>.pointer (some ⟨J,94,none⟩)|36=>.slice (some ⟨B,o,none⟩) n c|37=>.pointer (some ⟨B,o+1,none⟩)|38=>.int .i64 v1
 |39=>.pointer (some ⟨J,0,none⟩)|40=>.pointer (some ⟨J,0,none⟩)|41=>.pointer (some ⟨J,94,none⟩)|42=>.slice (some ⟨B,o,none⟩) n c|43=>.pointer (some ⟨B,o+2,none⟩)|44=>.int .i64 v2|45=>.agg #[.int .i64 v2,.int .i64 v1,.int .i64 0]|46=>.pointer (some ⟨J,62,none⟩)|47=>.pointer (some ⟨J,64,none⟩)|48=>.pointer (some ⟨J,62,none⟩)|49=>.pointer (some ⟨J,65,none⟩)|_=>undef
def lk27V (J B o n c:Nat) (v0 v1 v2:Int):Nat→Value
 |161=>.pointer (some ⟨J,79,none⟩)|162=>.pointer (some ⟨J,79,none⟩)|163=>.pointer (some ⟨J,79,none⟩)|164=>.pointer (some ⟨J,0,none⟩)|165=>.bool (v0==1)|166=>.pointer (some ⟨J,0,none⟩)|167=>.pointer (some ⟨J,0,none⟩)|168=>.pointer (some ⟨J,94,none⟩)|169=>.slice (some ⟨B,o,none⟩) n c|170=>.pointer (some ⟨B,o+1,none⟩)|171=>.int .i64 v1
 |172=>.pointer (some ⟨J,0,none⟩)|173=>.pointer (some ⟨J,0,none⟩)|174=>.pointer (some ⟨J,94,none⟩)|175=>.slice (some ⟨B,o,none⟩) n c|176=>.pointer (some ⟨B,o+2,none⟩)|177=>.int .i64 v2|178=>.pointer (some ⟨J,79,none⟩)|179=>.pointer (some ⟨J,87,none⟩)|180=>.pointer (some ⟨J,79,none⟩)|181=>.pointer (some ⟨J,88,none⟩)|182=>.pointer (some ⟨J,79,none⟩)|183=>.pointer (some ⟨J,89,none⟩)|_=>undef
set_option maxRecDepth 100000 in
theorem look_20 (w0 w:World) (J:Nat) (s:Ps) (p:Hp) (l:Sl) (B o n c:Nat) (C:List Int) (v0 v1 v2:Int) (h:JobIn w0 w J s p l B o n c C) (h0:C[0]? =some v0) (h1:C[1]? =some v1) (h2:C[2]? =some v2):
  Calls Tryz.prog 82 #[.pointer (some ⟨J,0,none⟩),.int .i64 20] w (JobP w0 w J {s with dashed:=(v0==1),dash:=⟨v2,v1,0⟩} p (.slice (some ⟨B,o,none⟩) n c)):=by
 have HI:=Lib.hid h
 clear h
 go_enter Tryz.func82,Tryz.ntmps82
 go_upto_region 0 with fail
 refine wp_region_later (by kernel_rfl) (by kernel_rfl) ?_
 repeat(go_big_quiet_step ((first|fail|fail)))
 refine wpQuiet_nil ?_
 intro y
 have HY:=Lib.hid (HI.out.ext y.ext)
 have HEY:Hid (Ext w y.w):=Lib.hid y.ext
 clear HI
 generalize y.w=W1 at*
 obtain⟨k0,i0⟩:=HY.out.jb.at h0
 obtain⟨k1,i1⟩:=HY.out.jb.at h1
 obtain⟨k2,i2⟩:=HY.out.jb.at h2
 have ca:=HY.out.jb.a
 have hn:=HY.out.n
 have HJB:Hid (∀x,Kp (·≠J) W1 x→x.cell? ⟨J,94,none⟩=some (.slice (some ⟨B,o,none⟩) n c)→Jb x J B o n c C):=Lib.hid (fun x k ha=>⟨ha,HY.out.jb.r.kp k (fun ad e=>by
  obtain rfl:=Option.some.inj e
  obtain⟨b',o',e',hb, -⟩:=HY.out.r.at_ (by omega)
  simp only[Option.some.injEq,Addr.mk.injEq]at e'
  have:=HY.out.le
  show B≠J
  omega),HY.out.n⟩)
 have H0:=Lib.hid h0
 have H1:=Lib.hid h1
 have H2:=Lib.hid h2
 clear h0 h1 h2 k0 k1 k2 ca
 have HJ1:Hid (Blk W1 J 136 (lk20 s p l (.slice (some ⟨B,o,none⟩) n c) v0 v1 v2 false false)):=Lib.hid HY.out.j
 go_upto_region 5 with fail
 refine wp_region_fill JDd0 (fun st u x=>RS W1 [(0,29),(1,30),(2,31),(3,32),(4,33),(5,34),(6,35),(7,36),(8,37),(9,38),(10,39),(11,40),(12,41),(13,42),(14,43),(15,44),(16,45),(17,46),(18,47),(20,48),(21,49)] (lk20V J B o n c v0 v1 v2) J 136 (fun st=>lk20 s p l (.slice (some ⟨B,o,none⟩) n c) v0 v1 v2 (st 19) (st 22)) st u x) (by kernel_rfl) (by kernel_rfl) ?_ ?_ ?_
 ·rintro x rfl
  exact RS.begin (Kp.refl _ _).drew HJ1.out.drew
 ·intro A' hA' st u x i o ho hst hdep hcl hR
  have hlen:A'.length=212:=by rw[hA'];rfl
  have h0:A'.getD 0 undef=.pointer (some ⟨J,0,none⟩):=by rw[hA'];rfl
  have h4:A'.getD 4 undef=.pointer (some ⟨J,62,none⟩):=by rw[hA'];rfl
  clear hA'
  have hi:i<23:=(Array.getElem?_eq_some_iff.1 ho).1
  rcases(by omega:i=0∨i=1∨i=2∨i=3∨i=4∨i=5∨i=6∨i=7∨i=8∨i=9∨i=10∨i=11∨i=12∨i=13∨i=14∨i=15∨i=16∨i=17∨i=18∨i=19∨i=20∨i=21∨i=22)with rfl|rfl|rfl|rfl|rfl|rfl|rfl|rfl|rfl|rfl|rfl|rfl|rfl|rfl|rfl|rfl|rfl|rfl|rfl|rfl|rfl|rfl|rfl
  all_goals(obtain rfl:(⟨_,_,_,_,_,_⟩:Oper)=o:=Option.some.inj ho;refine wpOp_plain rfl rfl ?_)
  ·have q4:(⟨fillA A' JDd0 u,[]⟩:Act).eval (.tmp 4)=.pointer (some ⟨J,62,none⟩):=(fillA_out (by omega) rfl).trans h4
   refine wp_of_run (v:=.pointer (some ⟨J,62,none⟩)) (w':=x) ?run ⟨_,fillA_put rfl,hR.quiet 0 29 (by decide) rfl rfl⟩
   case run=>simp only[Act.eval,Array.getD_eq_getD_getElem?]at q4;simp[execOp,q4,Act.eval,go_sem]
  ·have q4:(⟨fillA A' JDd0 u,[]⟩:Act).eval (.tmp 4)=.pointer (some ⟨J,62,none⟩):=(fillA_out (by omega) rfl).trans h4
   refine wp_of_run (v:=.pointer (some ⟨J,62,none⟩)) (w':=x) ?run ⟨_,fillA_put rfl,hR.quiet 1 30 (by decide) rfl rfl⟩
   case run=>simp only[Act.eval,Array.getD_eq_getD_getElem?]at q4;simp[execOp,q4,Act.eval,go_sem]
  ·have q0:(⟨fillA A' JDd0 u,[]⟩:Act).eval (.tmp 0)=.pointer (some ⟨J,0,none⟩):=(fillA_out (by omega) rfl).trans h0
   refine wp_of_run (v:=.pointer (some ⟨J,0,none⟩)) (w':=x) ?run ⟨_,fillA_put rfl,hR.quiet 2 31 (by decide) rfl rfl⟩
   case run=>simp only[Act.eval,Array.getD_eq_getD_getElem?]at q0;simp[execOp,q0,Act.eval,go_sem]
  ·have q31:(⟨fillA A' JDd0 u,[]⟩:Act).eval (.tmp 31)=.pointer (some ⟨J,0,none⟩):=(fillA_in (by omega) rfl).trans (hR.val (2,31) (by decide) (hdep ⟨2,.data⟩ (by simp) rfl))
   refine wp_call rfl Tryz.func104 (by kernel_rfl) rfl (R:=fun e w'=>e=.returned (.bool (v0==1))∧w'=x) (by simp only[List.map_toArray,List.map_cons,List.map_nil,q31];exact(on_any J B o n c 0 C v0 x (HJB.out x hR.kp (hR.j.cell 94)) H0.out)) ?_
   rintro e w' ⟨rfl,rfl⟩
   exact⟨_,rfl,_,fillA_put rfl,hR.quiet 3 32 (by decide) rfl rfl⟩
  ·have q0:(⟨fillA A' JDd0 u,[]⟩:Act).eval (.tmp 0)=.pointer (some ⟨J,0,none⟩):=(fillA_out (by omega) rfl).trans h0
   refine wp_of_run (v:=.pointer (some ⟨J,0,none⟩)) (w':=x) ?run ⟨_,fillA_put rfl,hR.quiet 4 33 (by decide) rfl rfl⟩
   case run=>simp only[Act.eval,Array.getD_eq_getD_getElem?]at q0;simp[execOp,q0,Act.eval,go_sem]
  ·have q33:(⟨fillA A' JDd0 u,[]⟩:Act).eval (.tmp 33)=.pointer (some ⟨J,0,none⟩):=(fillA_in (by omega) rfl).trans (hR.val (4,33) (by decide) (hdep ⟨4,.data⟩ (by simp) rfl))
   refine wp_of_run (v:=.pointer (some ⟨J,0,none⟩)) (w':=x) ?run ⟨_,fillA_put rfl,hR.quiet 5 34 (by decide) rfl rfl⟩
   case run=>simp only[Act.eval,Array.getD_eq_getD_getElem?]at q33;simp[execOp,q33,Act.eval,go_sem]
  ·have q34:(⟨fillA A' JDd0 u,[]⟩:Act).eval (.tmp 34)=.pointer (some ⟨J,0,none⟩):=(fillA_in (by omega) rfl).trans (hR.val (5,34) (by decide) (hdep ⟨5,.data⟩ (by simp) rfl))
   refine wp_of_run (v:=.pointer (some ⟨J,94,none⟩)) (w':=x) ?run ⟨_,fillA_put rfl,hR.quiet 6 35 (by decide) rfl rfl⟩
   case run=>simp only[Act.eval,Array.getD_eq_getD_getElem?]at q34;simp[execOp,q34,Act.eval,go_sem]
  ·have q35:(⟨fillA A' JDd0 u,[]⟩:Act).eval (.tmp 35)=.pointer (some ⟨J,94,none⟩):=(fillA_in (by omega) rfl).trans (hR.val (6,35) (by decide) (hdep ⟨6,.data⟩ (by simp) rfl))
   have f0:x.cell? ⟨J,94,none⟩=some (.slice (some ⟨B,o,none⟩) n c):=hR.j.cell 94
   refine wp_of_run (v:=.slice (some ⟨B,o,none⟩) n c) (w':=x) ?run ⟨_,fillA_put rfl,hR.quiet 7 36 (by decide) rfl rfl⟩
   case run=>simp only[Act.eval,Array.getD_eq_getD_getElem?]at q35;simp[execOp,q35,Act.eval,go_sem,f0]
  ·have q36:(⟨fillA A' JDd0 u,[]⟩:Act).eval (.tmp 36)=.slice (some ⟨B,o,none⟩) n c:=(fillA_in (by omega) rfl).trans (hR.val (7,36) (by decide) (hdep ⟨7,.data⟩ (by simp) rfl))
   have f2: ¬(n:Int)≤1:=by have:=((HJB.out x hR.kp (hR.j.cell 94)).at H1.out).2;omega
   refine wp_of_run (v:=.pointer (some ⟨B,o+1,none⟩)) (w':=x) ?run ⟨_,fillA_put rfl,hR.quiet 8 37 (by decide) rfl rfl⟩
   case run=>simp only[Act.eval,Array.getD_eq_getD_getElem?]at q36;simp[execOp,q36,Act.eval,go_sem,f2]
  ·have q37:(⟨fillA A' JDd0 u,[]⟩:Act).eval (.tmp 37)=.pointer (some ⟨B,o+1,none⟩):=(fillA_in (by omega) rfl).trans (hR.val (8,37) (by decide) (hdep ⟨8,.data⟩ (by simp) rfl))
   have f0:x.cell? ⟨J,94,none⟩=some (.slice (some ⟨B,o,none⟩) n c):=hR.j.cell 94
   have f1:=((HJB.out x hR.kp f0).at H1.out).1
   refine wp_of_run (v:=.int .i64 v1) (w':=x) ?run ⟨_,fillA_put rfl,hR.quiet 9 38 (by decide) rfl rfl⟩
   case run=>simp only[Act.eval,Array.getD_eq_getD_getElem?]at q37;simp[execOp,q37,Act.eval,go_sem,f1]
  ·have q0:(⟨fillA A' JDd0 u,[]⟩:Act).eval (.tmp 0)=.pointer (some ⟨J,0,none⟩):=(fillA_out (by omega) rfl).trans h0
   refine wp_of_run (v:=.pointer (some ⟨J,0,none⟩)) (w':=x) ?run ⟨_,fillA_put rfl,hR.quiet 10 39 (by decide) rfl rfl⟩
   case run=>simp only[Act.eval,Array.getD_eq_getD_getElem?]at q0;simp[execOp,q0,Act.eval,go_sem]
  ·have q39:(⟨fillA A' JDd0 u,[]⟩:Act).eval (.tmp 39)=.pointer (some ⟨J,0,none⟩):=(fillA_in (by omega) rfl).trans (hR.val (10,39) (by decide) (hdep ⟨10,.data⟩ (by simp) rfl))
   refine wp_of_run (v:=.pointer (some ⟨J,0,none⟩)) (w':=x) ?run ⟨_,fillA_put rfl,hR.quiet 11 40 (by decide) rfl rfl⟩
   case run=>simp only[Act.eval,Array.getD_eq_getD_getElem?]at q39;simp[execOp,q39,Act.eval,go_sem]
  ·have q40:(⟨fillA A' JDd0 u,[]⟩:Act).eval (.tmp 40)=.pointer (some ⟨J,0,none⟩):=(fillA_in (by omega) rfl).trans (hR.val (11,40) (by decide) (hdep ⟨11,.data⟩ (by simp) rfl))
   refine wp_of_run (v:=.pointer (some ⟨J,94,none⟩)) (w':=x) ?run ⟨_,fillA_put rfl,hR.quiet 12 41 (by decide) rfl rfl⟩
   case run=>simp only[Act.eval,Array.getD_eq_getD_getElem?]at q40;simp[execOp,q40,Act.eval,go_sem]
  ·have q41:(⟨fillA A' JDd0 u,[]⟩:Act).eval (.tmp 41)=.pointer (some ⟨J,94,none⟩):=(fillA_in (by omega) rfl).trans (hR.val (12,41) (by decide) (hdep ⟨12,.data⟩ (by simp) rfl))
   have f0:x.cell? ⟨J,94,none⟩=some (.slice (some ⟨B,o,none⟩) n c):=hR.j.cell 94
   refine wp_of_run (v:=.slice (some ⟨B,o,none⟩) n c) (w':=x) ?run ⟨_,fillA_put rfl,hR.quiet 13 42 (by decide) rfl rfl⟩
   case run=>simp only[Act.eval,Array.getD_eq_getD_getElem?]at q41;simp[execOp,q41,Act.eval,go_sem,f0]
  ·have q42:(⟨fillA A' JDd0 u,[]⟩:Act).eval (.tmp 42)=.slice (some ⟨B,o,none⟩) n c:=(fillA_in (by omega) rfl).trans (hR.val (13,42) (by decide) (hdep ⟨13,.data⟩ (by simp) rfl))
   have f2: ¬(n:Int)≤2:=by have:=((HJB.out x hR.kp (hR.j.cell 94)).at H2.out).2;omega
   refine wp_of_run (v:=.pointer (some ⟨B,o+2,none⟩)) (w':=x) ?run ⟨_,fillA_put rfl,hR.quiet 14 43 (by decide) rfl rfl⟩
   case run=>simp only[Act.eval,Array.getD_eq_getD_getElem?]at q42;simp[execOp,q42,Act.eval,go_sem,f2]
  ·have q43:(⟨fillA A' JDd0 u,[]⟩:Act).eval (.tmp 43)=.pointer (some ⟨B,o+2,none⟩):=(fillA_in (by omega) rfl).trans (hR.val (14,43) (by decide) (hdep ⟨14,.data⟩ (by simp) rfl))
   have f0:x.cell? ⟨J,94,none⟩=some (.slice (some ⟨B,o,none⟩) n c):=hR.j.cell 94
   have f1:=((HJB.out x hR.kp f0).at H2.out).1
   refine wp_of_run (v:=.int .i64 v2) (w':=x) ?run ⟨_,fillA_put rfl,hR.quiet 15 44 (by decide) rfl rfl⟩
   case run=>simp only[Act.eval,Array.getD_eq_getD_getElem?]at q43;simp[execOp,q43,Act.eval,go_sem,f1]
  ·have q38:(⟨fillA A' JDd0 u,[]⟩:Act).eval (.tmp 38)=.int .i64 v1:=(fillA_in (by omega) rfl).trans (hR.val (9,38) (by decide) (hdep ⟨9,.data⟩ (by simp) rfl))
   have q44:(⟨fillA A' JDd0 u,[]⟩:Act).eval (.tmp 44)=.int .i64 v2:=(fillA_in (by omega) rfl).trans (hR.val (15,44) (by decide) (hdep ⟨15,.data⟩ (by simp) rfl))
   refine wp_of_run (v:=.agg #[.int .i64 v2,.int .i64 v1,.int .i64 0]) (w':=x) ?run ⟨_,fillA_put rfl,hR.quiet 16 45 (by decide) rfl rfl⟩
   case run=>simp only[Act.eval,Array.getD_eq_getD_getElem?]at q38 q44;simp[execOp,q38,q44,Act.eval,go_sem]
  ·have q29:(⟨fillA A' JDd0 u,[]⟩:Act).eval (.tmp 29)=.pointer (some ⟨J,62,none⟩):=(fillA_in (by omega) rfl).trans (hR.val (0,29) (by decide) (hdep ⟨0,.data⟩ (by simp) rfl))
   refine wp_of_run (v:=.pointer (some ⟨J,62,none⟩)) (w':=x) ?run ⟨_,fillA_put rfl,hR.quiet 17 46 (by decide) rfl rfl⟩
   case run=>simp only[Act.eval,Array.getD_eq_getD_getElem?]at q29;simp[execOp,q29,Act.eval,go_sem]
  ·have q46:(⟨fillA A' JDd0 u,[]⟩:Act).eval (.tmp 46)=.pointer (some ⟨J,62,none⟩):=(fillA_in (by omega) rfl).trans (hR.val (17,46) (by decide) (hdep ⟨17,.data⟩ (by simp) rfl))
   refine wp_of_run (v:=.pointer (some ⟨J,64,none⟩)) (w':=x) ?run ⟨_,fillA_put rfl,hR.quiet 18 47 (by decide) rfl rfl⟩
   case run=>simp only[Act.eval,Array.getD_eq_getD_getElem?]at q46;simp[execOp,q46,Act.eval,go_sem]
  ·have q47:(⟨fillA A' JDd0 u,[]⟩:Act).eval (.tmp 47)=.pointer (some ⟨J,64,none⟩):=(fillA_in (by omega) rfl).trans (hR.val (18,47) (by decide) (hdep ⟨18,.data⟩ (by simp) rfl))
   have q32:(⟨fillA A' JDd0 u,[]⟩:Act).eval (.tmp 32)=.bool (v0==1):=(fillA_in (by omega) rfl).trans (hR.val (3,32) (by decide) (hdep ⟨3,.data⟩ (by simp) rfl))
   have hc:spl (lk20 s p l (.slice (some ⟨B,o,none⟩) n c) v0 v1 v2 (st 19) (st 22)) 64 (Value.cells (.bool (v0==1)))=lk20 s p l (.slice (some ⟨B,o,none⟩) n c) v0 v1 v2 true (st 22):=by
    rw[hst]
    generalize st 22=b22
    cases b22 <;>rfl
   refine wp_store_part (.tmp 47) (.tmp 32) 4 rfl 64 q47 _ q32 hR.j (by kernel_rfl) (by intro v hv;simp[Value.cells]at hv;subst hv;rfl) (by first|decide|exact Nat.le_of_ble_eq_true rfl) hc ?_
   intro w' hB hK
   exact⟨_,rfl,hR.store 19 (by decide) hK hB⟩
  ·have q30:(⟨fillA A' JDd0 u,[]⟩:Act).eval (.tmp 30)=.pointer (some ⟨J,62,none⟩):=(fillA_in (by omega) rfl).trans (hR.val (1,30) (by decide) (hdep ⟨1,.data⟩ (by simp) rfl))
   refine wp_of_run (v:=.pointer (some ⟨J,62,none⟩)) (w':=x) ?run ⟨_,fillA_put rfl,hR.quiet 20 48 (by decide) rfl rfl⟩
   case run=>simp only[Act.eval,Array.getD_eq_getD_getElem?]at q30;simp[execOp,q30,Act.eval,go_sem]
  ·have q48:(⟨fillA A' JDd0 u,[]⟩:Act).eval (.tmp 48)=.pointer (some ⟨J,62,none⟩):=(fillA_in (by omega) rfl).trans (hR.val (20,48) (by decide) (hdep ⟨20,.data⟩ (by simp) rfl))
   refine wp_of_run (v:=.pointer (some ⟨J,65,none⟩)) (w':=x) ?run ⟨_,fillA_put rfl,hR.quiet 21 49 (by decide) rfl rfl⟩
   case run=>simp only[Act.eval,Array.getD_eq_getD_getElem?]at q48;simp[execOp,q48,Act.eval,go_sem]
  ·have q49:(⟨fillA A' JDd0 u,[]⟩:Act).eval (.tmp 49)=.pointer (some ⟨J,65,none⟩):=(fillA_in (by omega) rfl).trans (hR.val (21,49) (by decide) (hdep ⟨21,.data⟩ (by simp) rfl))
   have q45:(⟨fillA A' JDd0 u,[]⟩:Act).eval (.tmp 45)=.agg #[.int .i64 v2,.int .i64 v1,.int .i64 0]:=(fillA_in (by omega) rfl).trans (hR.val (16,45) (by decide) (hdep ⟨16,.data⟩ (by simp) rfl))
   have hc:spl (lk20 s p l (.slice (some ⟨B,o,none⟩) n c) v0 v1 v2 (st 19) (st 22)) 65 (Value.cells (.agg #[.int .i64 v2,.int .i64 v1,.int .i64 0]))=lk20 s p l (.slice (some ⟨B,o,none⟩) n c) v0 v1 v2 (st 19) true:=by
    rw[hst]
    generalize st 19=b19
    cases b19 <;>rfl
   refine wp_store_part (.tmp 49) (.tmp 45) 44 rfl 65 q49 _ q45 hR.j (by kernel_rfl) (by intro v hv;simp[Value.cells]at hv;rcases hv with rfl|rfl|rfl <;>rfl) (by first|decide|exact Nat.le_of_ble_eq_true rfl) hc ?_
   intro w' hB hK
   exact⟨_,rfl,hR.store 22 (by decide) hK hB⟩
 ·intro st u x hall hR
  have s19:=hall 19 (by decide)
  have s22:=hall 22 (by decide)
  have hK:=hR.kp
  have hJ:Blk x J 136 (lk20 s p l (.slice (some ⟨B,o,none⟩) n c) v0 v1 v2 (st 19) (st 22)):=hR.j
  rw[s19,s22]at hJ
  clear hR hall
  simp[fillA,fillL,JDd0,JDd1]
  go_wp2_with fail
  exact bodyPost_end (results_none rfl _ _ _) rfl (JobP.plain HEY.out HY.out hJ hK rfl rfl)
set_option maxRecDepth 100000 in
theorem look_27 (w0 w:World) (J:Nat) (s:Ps) (p:Hp) (l:Sl) (B o n c:Nat) (C:List Int) (v0 v1 v2:Int) (h:JobIn w0 w J s p l B o n c C) (h0:C[0]? =some v0) (h1:C[1]? =some v1) (h2:C[2]? =some v2):
  Calls Tryz.prog 82 #[.pointer (some ⟨J,0,none⟩),.int .i64 27] w (JobP w0 w J {s with mix:=(v0==1),sf:=v1,df:=v2} p (.slice (some ⟨B,o,none⟩) n c)):=by
 have HI:=Lib.hid h
 clear h
 go_enter Tryz.func82,Tryz.ntmps82
 go_upto_region 0 with fail
 refine wp_region_later (by kernel_rfl) (by kernel_rfl) ?_
 repeat(go_big_quiet_step ((first|fail|fail)))
 refine wpQuiet_nil ?_
 intro y
 have HY:=Lib.hid (HI.out.ext y.ext)
 have HEY:Hid (Ext w y.w):=Lib.hid y.ext
 clear HI
 generalize y.w=W1 at*
 obtain⟨k0,i0⟩:=HY.out.jb.at h0
 obtain⟨k1,i1⟩:=HY.out.jb.at h1
 obtain⟨k2,i2⟩:=HY.out.jb.at h2
 have ca:=HY.out.jb.a
 have hn:=HY.out.n
 have HJB:Hid (∀x,Kp (·≠J) W1 x→x.cell? ⟨J,94,none⟩=some (.slice (some ⟨B,o,none⟩) n c)→Jb x J B o n c C):=Lib.hid (fun x k ha=>⟨ha,HY.out.jb.r.kp k (fun ad e=>by
  obtain rfl:=Option.some.inj e
  obtain⟨b',o',e',hb, -⟩:=HY.out.r.at_ (by omega)
  simp only[Option.some.injEq,Addr.mk.injEq]at e'
  have:=HY.out.le
  show B≠J
  omega),HY.out.n⟩)
 have H0:=Lib.hid h0
 have H1:=Lib.hid h1
 have H2:=Lib.hid h2
 clear h0 h1 h2 k0 k1 k2 ca
 have HJ1:Hid (Blk W1 J 136 (lk27 s p l (.slice (some ⟨B,o,none⟩) n c) v0 v1 v2 false false false)):=Lib.hid HY.out.j
 go_upto_region 19 with fail
 refine wp_region_fill JDd1 (fun st u x=>RS W1 [(0,161),(1,162),(2,163),(3,164),(4,165),(5,166),(6,167),(7,168),(8,169),(9,170),(10,171),(11,172),(12,173),(13,174),(14,175),(15,176),(16,177),(17,178),(18,179),(20,180),(21,181),(23,182),(24,183)] (lk27V J B o n c v0 v1 v2) J 136 (fun st=>lk27 s p l (.slice (some ⟨B,o,none⟩) n c) v0 v1 v2 (st 19) (st 22) (st 25)) st u x) (by kernel_rfl) (by kernel_rfl) ?_ ?_ ?_
 ·rintro x rfl
  exact RS.begin (Kp.refl _ _).drew HJ1.out.drew
 ·intro A' hA' st u x i o ho hst hdep hcl hR
  have hlen:A'.length=212:=by rw[hA'];rfl
  have h0:A'.getD 0 undef=.pointer (some ⟨J,0,none⟩):=by rw[hA'];rfl
  have h5:A'.getD 5 undef=.pointer (some ⟨J,79,none⟩):=by rw[hA'];rfl
  clear hA'
  have hi:i<26:=(Array.getElem?_eq_some_iff.1 ho).1
  rcases(by omega:i=0∨i=1∨i=2∨i=3∨i=4∨i=5∨i=6∨i=7∨i=8∨i=9∨i=10∨i=11∨i=12∨i=13∨i=14∨i=15∨i=16∨i=17∨i=18∨i=19∨i=20∨i=21∨i=22∨i=23∨i=24∨i=25)with rfl|rfl|rfl|rfl|rfl|rfl|rfl|rfl|rfl|rfl|rfl|rfl|rfl|rfl|rfl|rfl|rfl|rfl|rfl|rfl|rfl|rfl|rfl|rfl|rfl|rfl
  all_goals(obtain rfl:(⟨_,_,_,_,_,_⟩:Oper)=o:=Option.some.inj ho;refine wpOp_plain rfl rfl ?_)
  ·have q5:(⟨fillA A' JDd1 u,[]⟩:Act).eval (.tmp 5)=.pointer (some ⟨J,79,none⟩):=(fillA_out (by omega) rfl).trans h5
   refine wp_of_run (v:=.pointer (some ⟨J,79,none⟩)) (w':=x) ?run ⟨_,fillA_put rfl,hR.quiet 0 161 (by decide) rfl rfl⟩
   case run=>simp only[Act.eval,Array.getD_eq_getD_getElem?]at q5;simp[execOp,q5,Act.eval,go_sem]
  ·have q5:(⟨fillA A' JDd1 u,[]⟩:Act).eval (.tmp 5)=.pointer (some ⟨J,79,none⟩):=(fillA_out (by omega) rfl).trans h5
   refine wp_of_run (v:=.pointer (some ⟨J,79,none⟩)) (w':=x) ?run ⟨_,fillA_put rfl,hR.quiet 1 162 (by decide) rfl rfl⟩
   case run=>simp only[Act.eval,Array.getD_eq_getD_getElem?]at q5;simp[execOp,q5,Act.eval,go_sem]
  ·have q5:(⟨fillA A' JDd1 u,[]⟩:Act).eval (.tmp 5)=.pointer (some ⟨J,79,none⟩):=(fillA_out (by omega) rfl).trans h5
   refine wp_of_run (v:=.pointer (some ⟨J,79,none⟩)) (w':=x) ?run ⟨_,fillA_put rfl,hR.quiet 2 163 (by decide) rfl rfl⟩
   case run=>simp only[Act.eval,Array.getD_eq_getD_getElem?]at q5;simp[execOp,q5,Act.eval,go_sem]
  ·have q0:(⟨fillA A' JDd1 u,[]⟩:Act).eval (.tmp 0)=.pointer (some ⟨J,0,none⟩):=(fillA_out (by omega) rfl).trans h0
   refine wp_of_run (v:=.pointer (some ⟨J,0,none⟩)) (w':=x) ?run ⟨_,fillA_put rfl,hR.quiet 3 164 (by decide) rfl rfl⟩
   case run=>simp only[Act.eval,Array.getD_eq_getD_getElem?]at q0;simp[execOp,q0,Act.eval,go_sem]
  ·have q164:(⟨fillA A' JDd1 u,[]⟩:Act).eval (.tmp 164)=.pointer (some ⟨J,0,none⟩):=(fillA_in (by omega) rfl).trans (hR.val (3,164) (by decide) (hdep ⟨3,.data⟩ (by simp) rfl))
   refine wp_call rfl Tryz.func104 (by kernel_rfl) rfl (R:=fun e w'=>e=.returned (.bool (v0==1))∧w'=x) (by simp only[List.map_toArray,List.map_cons,List.map_nil,q164];exact(on_any J B o n c 0 C v0 x (HJB.out x hR.kp (hR.j.cell 94)) H0.out)) ?_
   rintro e w' ⟨rfl,rfl⟩
   exact⟨_,rfl,_,fillA_put rfl,hR.quiet 4 165 (by decide) rfl rfl⟩
  ·have q0:(⟨fillA A' JDd1 u,[]⟩:Act).eval (.tmp 0)=.pointer (some ⟨J,0,none⟩):=(fillA_out (by omega) rfl).trans h0
   refine wp_of_run (v:=.pointer (some ⟨J,0,none⟩)) (w':=x) ?run ⟨_,fillA_put rfl,hR.quiet 5 166 (by decide) rfl rfl⟩
   case run=>simp only[Act.eval,Array.getD_eq_getD_getElem?]at q0;simp[execOp,q0,Act.eval,go_sem]
  ·have q166:(⟨fillA A' JDd1 u,[]⟩:Act).eval (.tmp 166)=.pointer (some ⟨J,0,none⟩):=(fillA_in (by omega) rfl).trans (hR.val (5,166) (by decide) (hdep ⟨5,.data⟩ (by simp) rfl))
   refine wp_of_run (v:=.pointer (some ⟨J,0,none⟩)) (w':=x) ?run ⟨_,fillA_put rfl,hR.quiet 6 167 (by decide) rfl rfl⟩
   case run=>simp only[Act.eval,Array.getD_eq_getD_getElem?]at q166;simp[execOp,q166,Act.eval,go_sem]
  ·have q167:(⟨fillA A' JDd1 u,[]⟩:Act).eval (.tmp 167)=.pointer (some ⟨J,0,none⟩):=(fillA_in (by omega) rfl).trans (hR.val (6,167) (by decide) (hdep ⟨6,.data⟩ (by simp) rfl))
   refine wp_of_run (v:=.pointer (some ⟨J,94,none⟩)) (w':=x) ?run ⟨_,fillA_put rfl,hR.quiet 7 168 (by decide) rfl rfl⟩
   case run=>simp only[Act.eval,Array.getD_eq_getD_getElem?]at q167;simp[execOp,q167,Act.eval,go_sem]
  ·have q168:(⟨fillA A' JDd1 u,[]⟩:Act).eval (.tmp 168)=.pointer (some ⟨J,94,none⟩):=(fillA_in (by omega) rfl).trans (hR.val (7,168) (by decide) (hdep ⟨7,.data⟩ (by simp) rfl))
   have f0:x.cell? ⟨J,94,none⟩=some (.slice (some ⟨B,o,none⟩) n c):=hR.j.cell 94
   refine wp_of_run (v:=.slice (some ⟨B,o,none⟩) n c) (w':=x) ?run ⟨_,fillA_put rfl,hR.quiet 8 169 (by decide) rfl rfl⟩
   case run=>simp only[Act.eval,Array.getD_eq_getD_getElem?]at q168;simp[execOp,q168,Act.eval,go_sem,f0]
  ·have q169:(⟨fillA A' JDd1 u,[]⟩:Act).eval (.tmp 169)=.slice (some ⟨B,o,none⟩) n c:=(fillA_in (by omega) rfl).trans (hR.val (8,169) (by decide) (hdep ⟨8,.data⟩ (by simp) rfl))
   have f2: ¬(n:Int)≤1:=by have:=((HJB.out x hR.kp (hR.j.cell 94)).at H1.out).2;omega
   refine wp_of_run (v:=.pointer (some ⟨B,o+1,none⟩)) (w':=x) ?run ⟨_,fillA_put rfl,hR.quiet 9 170 (by decide) rfl rfl⟩
   case run=>simp only[Act.eval,Array.getD_eq_getD_getElem?]at q169;simp[execOp,q169,Act.eval,go_sem,f2]
  ·have q170:(⟨fillA A' JDd1 u,[]⟩:Act).eval (.tmp 170)=.pointer (some ⟨B,o+1,none⟩):=(fillA_in (by omega) rfl).trans (hR.val (9,170) (by decide) (hdep ⟨9,.data⟩ (by simp) rfl))
   have f0:x.cell? ⟨J,94,none⟩=some (.slice (some ⟨B,o,none⟩) n c):=hR.j.cell 94
   have f1:=((HJB.out x hR.kp f0).at H1.out).1
   refine wp_of_run (v:=.int .i64 v1) (w':=x) ?run ⟨_,fillA_put rfl,hR.quiet 10 171 (by decide) rfl rfl⟩
   case run=>simp only[Act.eval,Array.getD_eq_getD_getElem?]at q170;simp[execOp,q170,Act.eval,go_sem,f1]
  ·have q0:(⟨fillA A' JDd1 u,[]⟩:Act).eval (.tmp 0)=.pointer (some ⟨J,0,none⟩):=(fillA_out (by omega) rfl).trans h0
   refine wp_of_run (v:=.pointer (some ⟨J,0,none⟩)) (w':=x) ?run ⟨_,fillA_put rfl,hR.quiet 11 172 (by decide) rfl rfl⟩
   case run=>simp only[Act.eval,Array.getD_eq_getD_getElem?]at q0;simp[execOp,q0,Act.eval,go_sem]
  ·have q172:(⟨fillA A' JDd1 u,[]⟩:Act).eval (.tmp 172)=.pointer (some ⟨J,0,none⟩):=(fillA_in (by omega) rfl).trans (hR.val (11,172) (by decide) (hdep ⟨11,.data⟩ (by simp) rfl))
   refine wp_of_run (v:=.pointer (some ⟨J,0,none⟩)) (w':=x) ?run ⟨_,fillA_put rfl,hR.quiet 12 173 (by decide) rfl rfl⟩
   case run=>simp only[Act.eval,Array.getD_eq_getD_getElem?]at q172;simp[execOp,q172,Act.eval,go_sem]
  ·have q173:(⟨fillA A' JDd1 u,[]⟩:Act).eval (.tmp 173)=.pointer (some ⟨J,0,none⟩):=(fillA_in (by omega) rfl).trans (hR.val (12,173) (by decide) (hdep ⟨12,.data⟩ (by simp) rfl))
   refine wp_of_run (v:=.pointer (some ⟨J,94,none⟩)) (w':=x) ?run ⟨_,fillA_put rfl,hR.quiet 13 174 (by decide) rfl rfl⟩
   case run=>simp only[Act.eval,Array.getD_eq_getD_getElem?]at q173;simp[execOp,q173,Act.eval,go_sem]
  ·have q174:(⟨fillA A' JDd1 u,[]⟩:Act).eval (.tmp 174)=.pointer (some ⟨J,94,none⟩):=(fillA_in (by omega) rfl).trans (hR.val (13,174) (by decide) (hdep ⟨13,.data⟩ (by simp) rfl))
   have f0:x.cell? ⟨J,94,none⟩=some (.slice (some ⟨B,o,none⟩) n c):=hR.j.cell 94
   refine wp_of_run (v:=.slice (some ⟨B,o,none⟩) n c) (w':=x) ?run ⟨_,fillA_put rfl,hR.quiet 14 175 (by decide) rfl rfl⟩
   case run=>simp only[Act.eval,Array.getD_eq_getD_getElem?]at q174;simp[execOp,q174,Act.eval,go_sem,f0]
  ·have q175:(⟨fillA A' JDd1 u,[]⟩:Act).eval (.tmp 175)=.slice (some ⟨B,o,none⟩) n c:=(fillA_in (by omega) rfl).trans (hR.val (14,175) (by decide) (hdep ⟨14,.data⟩ (by simp) rfl))
   have f2: ¬(n:Int)≤2:=by have:=((HJB.out x hR.kp (hR.j.cell 94)).at H2.out).2;omega
   refine wp_of_run (v:=.pointer (some ⟨B,o+2,none⟩)) (w':=x) ?run ⟨_,fillA_put rfl,hR.quiet 15 176 (by decide) rfl rfl⟩
   case run=>simp only[Act.eval,Array.getD_eq_getD_getElem?]at q175;simp[execOp,q175,Act.eval,go_sem,f2]
  ·have q176:(⟨fillA A' JDd1 u,[]⟩:Act).eval (.tmp 176)=.pointer (some ⟨B,o+2,none⟩):=(fillA_in (by omega) rfl).trans (hR.val (15,176) (by decide) (hdep ⟨15,.data⟩ (by simp) rfl))
   have f0:x.cell? ⟨J,94,none⟩=some (.slice (some ⟨B,o,none⟩) n c):=hR.j.cell 94
   have f1:=((HJB.out x hR.kp f0).at H2.out).1
   refine wp_of_run (v:=.int .i64 v2) (w':=x) ?run ⟨_,fillA_put rfl,hR.quiet 16 177 (by decide) rfl rfl⟩
   case run=>simp only[Act.eval,Array.getD_eq_getD_getElem?]at q176;simp[execOp,q176,Act.eval,go_sem,f1]
  ·have q161:(⟨fillA A' JDd1 u,[]⟩:Act).eval (.tmp 161)=.pointer (some ⟨J,79,none⟩):=(fillA_in (by omega) rfl).trans (hR.val (0,161) (by decide) (hdep ⟨0,.data⟩ (by simp) rfl))
   refine wp_of_run (v:=.pointer (some ⟨J,79,none⟩)) (w':=x) ?run ⟨_,fillA_put rfl,hR.quiet 17 178 (by decide) rfl rfl⟩
   case run=>simp only[Act.eval,Array.getD_eq_getD_getElem?]at q161;simp[execOp,q161,Act.eval,go_sem]
  ·have q178:(⟨fillA A' JDd1 u,[]⟩:Act).eval (.tmp 178)=.pointer (some ⟨J,79,none⟩):=(fillA_in (by omega) rfl).trans (hR.val (17,178) (by decide) (hdep ⟨17,.data⟩ (by simp) rfl))
   refine wp_of_run (v:=.pointer (some ⟨J,87,none⟩)) (w':=x) ?run ⟨_,fillA_put rfl,hR.quiet 18 179 (by decide) rfl rfl⟩
   case run=>simp only[Act.eval,Array.getD_eq_getD_getElem?]at q178;simp[execOp,q178,Act.eval,go_sem]
  ·have q179:(⟨fillA A' JDd1 u,[]⟩:Act).eval (.tmp 179)=.pointer (some ⟨J,87,none⟩):=(fillA_in (by omega) rfl).trans (hR.val (18,179) (by decide) (hdep ⟨18,.data⟩ (by simp) rfl))
   have q165:(⟨fillA A' JDd1 u,[]⟩:Act).eval (.tmp 165)=.bool (v0==1):=(fillA_in (by omega) rfl).trans (hR.val (4,165) (by decide) (hdep ⟨4,.data⟩ (by simp) rfl))
   have hc:spl (lk27 s p l (.slice (some ⟨B,o,none⟩) n c) v0 v1 v2 (st 19) (st 22) (st 25)) 87 (Value.cells (.bool (v0==1)))=lk27 s p l (.slice (some ⟨B,o,none⟩) n c) v0 v1 v2 true (st 22) (st 25):=by
    rw[hst]
    generalize st 22=b22
    generalize st 25=b25
    cases b22 <;>cases b25 <;>rfl
   refine wp_store_part (.tmp 179) (.tmp 165) 4 rfl 87 q179 _ q165 hR.j (by kernel_rfl) (by intro v hv;simp[Value.cells]at hv;subst hv;rfl) (by first|decide|exact Nat.le_of_ble_eq_true rfl) hc ?_
   intro w' hB hK
   exact⟨_,rfl,hR.store 19 (by decide) hK hB⟩
  ·have q162:(⟨fillA A' JDd1 u,[]⟩:Act).eval (.tmp 162)=.pointer (some ⟨J,79,none⟩):=(fillA_in (by omega) rfl).trans (hR.val (1,162) (by decide) (hdep ⟨1,.data⟩ (by simp) rfl))
   refine wp_of_run (v:=.pointer (some ⟨J,79,none⟩)) (w':=x) ?run ⟨_,fillA_put rfl,hR.quiet 20 180 (by decide) rfl rfl⟩
   case run=>simp only[Act.eval,Array.getD_eq_getD_getElem?]at q162;simp[execOp,q162,Act.eval,go_sem]
  ·have q180:(⟨fillA A' JDd1 u,[]⟩:Act).eval (.tmp 180)=.pointer (some ⟨J,79,none⟩):=(fillA_in (by omega) rfl).trans (hR.val (20,180) (by decide) (hdep ⟨20,.data⟩ (by simp) rfl))
   refine wp_of_run (v:=.pointer (some ⟨J,88,none⟩)) (w':=x) ?run ⟨_,fillA_put rfl,hR.quiet 21 181 (by decide) rfl rfl⟩
   case run=>simp only[Act.eval,Array.getD_eq_getD_getElem?]at q180;simp[execOp,q180,Act.eval,go_sem]
  ·have q181:(⟨fillA A' JDd1 u,[]⟩:Act).eval (.tmp 181)=.pointer (some ⟨J,88,none⟩):=(fillA_in (by omega) rfl).trans (hR.val (21,181) (by decide) (hdep ⟨21,.data⟩ (by simp) rfl))
   have q171:(⟨fillA A' JDd1 u,[]⟩:Act).eval (.tmp 171)=.int .i64 v1:=(fillA_in (by omega) rfl).trans (hR.val (10,171) (by decide) (hdep ⟨10,.data⟩ (by simp) rfl))
   have hc:spl (lk27 s p l (.slice (some ⟨B,o,none⟩) n c) v0 v1 v2 (st 19) (st 22) (st 25)) 88 (Value.cells (.int .i64 v1))=lk27 s p l (.slice (some ⟨B,o,none⟩) n c) v0 v1 v2 (st 19) true (st 25):=by
    rw[hst]
    generalize st 19=b19
    generalize st 25=b25
    cases b19 <;>cases b25 <;>rfl
   refine wp_store_part (.tmp 181) (.tmp 171) 3 rfl 88 q181 _ q171 hR.j (by kernel_rfl) (by intro v hv;simp[Value.cells]at hv;subst hv;rfl) (by first|decide|exact Nat.le_of_ble_eq_true rfl) hc ?_
   intro w' hB hK
   exact⟨_,rfl,hR.store 22 (by decide) hK hB⟩
  ·have q163:(⟨fillA A' JDd1 u,[]⟩:Act).eval (.tmp 163)=.pointer (some ⟨J,79,none⟩):=(fillA_in (by omega) rfl).trans (hR.val (2,163) (by decide) (hdep ⟨2,.data⟩ (by simp) rfl))
   refine wp_of_run (v:=.pointer (some ⟨J,79,none⟩)) (w':=x) ?run ⟨_,fillA_put rfl,hR.quiet 23 182 (by decide) rfl rfl⟩
   case run=>simp only[Act.eval,Array.getD_eq_getD_getElem?]at q163;simp[execOp,q163,Act.eval,go_sem]
  ·have q182:(⟨fillA A' JDd1 u,[]⟩:Act).eval (.tmp 182)=.pointer (some ⟨J,79,none⟩):=(fillA_in (by omega) rfl).trans (hR.val (23,182) (by decide) (hdep ⟨23,.data⟩ (by simp) rfl))
   refine wp_of_run (v:=.pointer (some ⟨J,89,none⟩)) (w':=x) ?run ⟨_,fillA_put rfl,hR.quiet 24 183 (by decide) rfl rfl⟩
   case run=>simp only[Act.eval,Array.getD_eq_getD_getElem?]at q182;simp[execOp,q182,Act.eval,go_sem]
  ·have q183:(⟨fillA A' JDd1 u,[]⟩:Act).eval (.tmp 183)=.pointer (some ⟨J,89,none⟩):=(fillA_in (by omega) rfl).trans (hR.val (24,183) (by decide) (hdep ⟨24,.data⟩ (by simp) rfl))
   have q177:(⟨fillA A' JDd1 u,[]⟩:Act).eval (.tmp 177)=.int .i64 v2:=(fillA_in (by omega) rfl).trans (hR.val (16,177) (by decide) (hdep ⟨16,.data⟩ (by simp) rfl))
   have hc:spl (lk27 s p l (.slice (some ⟨B,o,none⟩) n c) v0 v1 v2 (st 19) (st 22) (st 25)) 89 (Value.cells (.int .i64 v2))=lk27 s p l (.slice (some ⟨B,o,none⟩) n c) v0 v1 v2 (st 19) (st 22) true:=by
    rw[hst]
    generalize st 19=b19
    generalize st 22=b22
    cases b19 <;>cases b22 <;>rfl
   refine wp_store_part (.tmp 183) (.tmp 177) 3 rfl 89 q183 _ q177 hR.j (by kernel_rfl) (by intro v hv;simp[Value.cells]at hv;subst hv;rfl) (by first|decide|exact Nat.le_of_ble_eq_true rfl) hc ?_
   intro w' hB hK
   exact⟨_,rfl,hR.store 25 (by decide) hK hB⟩
 ·intro st u x hall hR
  have s19:=hall 19 (by decide)
  have s22:=hall 22 (by decide)
  have s25:=hall 25 (by decide)
  have hK:=hR.kp
  have hJ:Blk x J 136 (lk27 s p l (.slice (some ⟨B,o,none⟩) n c) v0 v1 v2 (st 19) (st 22) (st 25)):=hR.j
  rw[s19,s22,s25]at hJ
  clear hR hall
  simp[fillA,fillL,JDd0,JDd1]
  go_wp2_with fail
  exact bodyPost_end (results_none rfl _ _ _) rfl (JobP.plain HEY.out HY.out hJ hK rfl rfl)
end Go.Proofs.YtplljnfjkkloeaaGreatDoor
