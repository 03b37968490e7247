/- Proof text: a line, along (rastrumref14.Of). By an AI agent. No condition beyond what each theorem states. -/
import Derived.Test.YtplljnfjkkloeaaGreatDoorYF
import Derived.Test.YtplljnfjkkloeaaGreatDoorTA
set_option linter.unusedVariables false
set_option linter.unusedSimpArgs false
set_option maxHeartbeats 16000000
namespace Go.Proofs.YtplljnfjkkloeaaGreatDoor
attribute [local go_sem] Go.Oper.semAt_some
open Go.RowKit
def ofB (ax ay bx by_:Int):Bool:=inB ax ay&&!(ax==bx&&ay==by_)&&decide (rExits ax ay bx by_ (inX ax ay) (inY ax ay))
def ofU (ax ay bx by_:Int):Int:=if(wayOf ax ay bx by_).turned=true then inY ax ay else inX ax ay
def ofC (ax ay bx by_:Int):Bool:=decide (ofU ax ay bx by_≥min (lst (wayOf ax ay bx by_).au) (lst (wayOf ax ay bx by_).bu))&&decide (ofU ax ay bx by_<max (lst (wayOf ax ay bx by_).au) (lst (wayOf ax ay bx by_).bu))
def ofE (ax ay bx by_:Int):Bool:=ofB ax ay bx by_&&!ofC ax ay bx by_
def ofR (ax ay bx by_:Int):Array Value:=liC (lst (wayOf ax ay bx by_).au) (lst (wayOf ax ay bx by_).bu) (if ofB ax ay bx by_=true then inX ax ay else 0) (if ofB ax ay bx by_=true then inY ax ay else 0) (ofE ax ay bx by_)
structure LnW (w wx:World) (A B C L:Nat) (ax ay bx by_:Int) (li:Array Value):Prop where
 a:Blk wx A 79 (ptR ax ay)
 b:Blk wx B 79 (ptR bx by_)
 c:Blk wx C 123 (liC 0 0 0 0 false)
 l:Blk wx L 123 li
 ne:C≠L
 le:w.heap.size≤C∧w.heap.size≤L
 e:Ext w wx
theorem LnW.ext {w wx wy:World} {A B C L:Nat} {ax ay bx by_:Int} {li:Array Value} (h:LnW w wx A B C L ax ay bx by_ li) (e:Ext wx wy):LnW w wy A B C L ax ay bx by_ li:=
 ⟨h.a.ext e,h.b.ext e,h.c.ext e,h.l.ext e,h.ne,h.le,h.e.trans e⟩
def ofV (A B:Nat) (ax bx:Int):Nat→Value
 |11=>.pointer (some ⟨A,0,none⟩)|12=>.int .i64 ax|13=>.int .i64 (lst ax)|14=>.pointer (some ⟨B,0,none⟩)|15=>.int .i64 bx|16=>.int .i64 (lst bx)
 |17=>.agg (liC (lst ax) (lst bx) 0 0 false)|_=>undef
def ofT:Nat→TypeId:=fun _=>123
def ofZ:Nat→Array Value:=fun _=>liC 0 0 0 0 false
def ofF (ax bx:Int):Nat→Array Value:=fun _=>liC (lst ax) (lst bx) 0 0 false
theorem in_near {ax ay:Int} (h:Unit (ax,ay)):(-5000≤inX ax ay∧inX ax ay≤5000)∧(-5000≤inY ax ay∧inY ax ay≤5000):=by
 unfold Unit at h
 simp only at h
 unfold inX inY
 cases hd:dIn ax ay with
 |none=>simp
 |some p=>
  have h1:=(dIn_rIn ax ay p.1 p.2).1 hd
  unfold rIn at h1
  simp only
  omega
theorem size_line:(Tryz.prog.info? 123).map (·.size)=some 5:=by kernel_rfl
abbrev ofD:List Nat:=[11,12,13,14,15,16,17,5]
theorem li_one (f t X Y:Int) (ex:Bool): ∀u∈(Value.agg (liC f t X Y ex)).cells.toList,u.oneCell'=true:=by
 intro u hu
 have hu:u∈[Value.int .i64 f,.int .i64 t,.int .i64 X,.int .i64 Y,.bool ex]:=hu
 simp only[List.mem_cons,List.not_mem_nil,or_false]at hu
 rcases hu with rfl|rfl|rfl|rfl|rfl <;>rfl
set_option maxRecDepth 100000 in
theorem rof_any (ax ay bx by_:Int) (w:World) (ha:Unit (ax,ay)) (hb:Unit (bx,by_)):Calls Tryz.prog 47 #[.agg (ptR ax ay),.agg (ptR bx by_)] w fun e w'=>e=.returned (.agg (ofR ax ay bx by_))∧Ext w w':=by
 obtain⟨A,hA⟩: ∃P,P=w.heap.size:=⟨_,rfl⟩
 obtain⟨B,hB⟩: ∃P,P=A+1:=⟨_,rfl⟩
 obtain⟨C,hC⟩: ∃P,P=B+1:=⟨_,rfl⟩
 have BA0:Hid (Blk (((w.alloc (.cells (ptR ax ay) 79)).alloc (.cells (ptR bx by_) 79)).alloc (.cells (liC 0 0 0 0 false) 123)) A 79 (ptR ax ay)):=Lib.hid (by rw[hA];exact((Blk.new _ _ _).alloc _).alloc _)
 have BB0:Hid (Blk (((w.alloc (.cells (ptR ax ay) 79)).alloc (.cells (ptR bx by_) 79)).alloc (.cells (liC 0 0 0 0 false) 123)) B 79 (ptR bx by_)):=Lib.hid (by
  have:=(Blk.new (w.alloc (.cells (ptR ax ay) 79)) 79 (ptR bx by_)).alloc (.cells (liC 0 0 0 0 false) 123)
  rw[World.size_alloc,←hA,←hB]at this
  exact this)
 have BC0:Hid (Blk (((w.alloc (.cells (ptR ax ay) 79)).alloc (.cells (ptR bx by_) 79)).alloc (.cells (liC 0 0 0 0 false) 123)) C 123 (liC 0 0 0 0 false)):=Lib.hid (by
  have:=Blk.new ((w.alloc (.cells (ptR ax ay) 79)).alloc (.cells (ptR bx by_) 79)) 123 (liC 0 0 0 0 false)
  rw[World.size_alloc,World.size_alloc,←hA,←hB,←hC]at this
  exact this)
 have HE0:Hid (Ext w (((w.alloc (.cells (ptR ax ay) 79)).alloc (.cells (ptR bx by_) 79)).alloc (.cells (liC 0 0 0 0 false) 123))):=Lib.hid ((((Ext.refl w).alloc _).alloc _).alloc _)
 have HC0:Hid (w.heap.size≤C):=Lib.hid (by omega)
 have HWD:Hid (∀wz,Calls Tryz.prog 48 #[.agg (ptR ax ay),.agg (ptR bx by_)] wz fun e w'=>e=.returned (.bool (!(wayOf ax ay bx by_).turned))∧Ext wz w'):=Lib.hid (fun wz=>wide_any ax ay bx by_ wz ha hb)
 have HIN:Hid (∀wz,Calls Tryz.prog 70 #[.agg (ptR ax ay)] wz fun e w'=>e=.returned (.tuple #[.int .i64 (inX ax ay),.int .i64 (inY ax ay),.bool (inB ax ay)])∧Ext wz w'):=Lib.hid (fun wz=>rin_any ax ay wz ha)
 have HEX:Hid (∀wz,Calls Tryz.prog 24 #[.agg (ptR ax ay),.agg (ptR bx by_),.int .i64 (inX ax ay),.int .i64 (inY ax ay)] wz fun e w'=>e=.returned (.bool (decide (rExits ax ay bx by_ (inX ax ay) (inY ax ay))))∧Ext wz w'):=Lib.hid (fun wz=>exits_any ax ay bx by_ _ _ wz ha hb (in_near ha).1 (in_near ha).2)
 have HAH:Hid (∀wz,(Calls Tryz.prog 69 #[.int .i64 ax] wz fun e w'=>e=.returned (.int .i64 (lst ax))∧Ext wz w')∧(Calls Tryz.prog 69 #[.int .i64 bx] wz fun e w'=>e=.returned (.int .i64 (lst bx))∧Ext wz w')∧(Calls Tryz.prog 69 #[.int .i64 ay] wz fun e w'=>e=.returned (.int .i64 (lst ay))∧Ext wz w')∧(Calls Tryz.prog 69 #[.int .i64 by_] wz fun e w'=>e=.returned (.int .i64 (lst by_))∧Ext wz w')):=Lib.hid (fun wz=>⟨ahead_later ax wz ha.1.1 ha.1.2,ahead_later bx wz hb.1.1 hb.1.2,ahead_later ay wz ha.2.1 ha.2.2,ahead_later by_ wz hb.2.1 hb.2.2⟩)
 have he: ∀W',(Op.equalIn 10000 79 (.agg #[.int .i64 ax,.int .i64 ay]) (.agg #[.int .i64 bx,.int .i64 by_])).run Tryz.prog W'=.ok (ax==bx&&ay==by_) W':=fun W'=>eq_pt ax ay bx by_ W'
 obtain⟨r,hr⟩: ∃r,r=ofR ax ay bx by_:=⟨_,rfl⟩
 rw[←hr]
 unfold ofR ofE ofC ofU at hr
 have hst:=wayOf_start ax ay bx by_
 have hen:=wayOf_end ax ay bx by_
 generalize(wayOf ax ay bx by_).turned=T at*
 generalize hF:lst (wayOf ax ay bx by_).au=F at*
 generalize hG:lst (wayOf ax ay bx by_).bu=G at*
 have HFG:Hid ((T=true→F=lst ay∧G=lst by_)∧(T=false→F=lst ax∧G=lst bx)):=Lib.hid ⟨fun h=>by rw[if_pos h]at hst hen;rw[←hF,←hG,hst.1,hen.1];exact⟨rfl,rfl⟩,fun h=>by rw[if_neg (by rw[h];simp)]at hst hen;rw[←hF,←hG,hst.1,hen.1];exact⟨rfl,rfl⟩⟩
 unfold ofB at hr
 clear hst hen hF hG ha hb
 generalize inX ax ay=IX at*
 generalize inY ax ay=IY at*
 generalize inB ax ay=B1 at*
 generalize decide (rExits ax ay bx by_ IX IY)=B3 at*
 generalize(ax==bx&&ay==by_)=B2 at*
 have HR:=Lib.hid hr
 clear hr
 go_enter Tryz.func47,Tryz.ntmps47
 go_upto_region 1 with fail
 simp only[←hA,←hB,←hC]
 clear hA hB hC
 generalize(((w.alloc (.cells (ptR ax ay) 79)).alloc (.cells (ptR bx by_) 79)).alloc (.cells (liC 0 0 0 0 false) 123))=W0 at*
 go_cut [5]from 11 to 17 (fun s5 wx=> ∃L:Nat,s5=.pointer (some ⟨L,0,none⟩)∧Hid (LnW w wx A B C L ax ay bx by_ (liC (lst ax) (lst bx) 0 0 false)))
 case first=>
  refine wp_region_fill ofD (fun st u x=>RF W0 [(0,11),(1,12),(2,13),(3,14),(4,15),(5,16),(6,17)] (ofV A B ax bx) [(7,5,8)] ofT ofZ (ofF ax bx) st u x) (by kernel_rfl) (by kernel_rfl) ?_ ?_ ?_
  ·rintro x rfl
   exact RF.begin ((Ext.refl W0).drew)
  ·intro A' hA' st u x i o ho hst hdep hcl hR
   have hlen:A'.length=81:=by rw[hA'];rfl
   have h2:A'.getD 2 undef=.pointer (some ⟨A,0,none⟩):=by rw[hA'];rfl
   have h3:A'.getD 3 undef=.pointer (some ⟨B,0,none⟩):=by rw[hA'];rfl
   clear hA'
   have hi:i<9:=(Array.getElem?_eq_some_iff.1 ho).1
   have HEX_:=hR.ext
   rcases(by omega:i=0∨i=1∨i=2∨i=3∨i=4∨i=5∨i=6∨i=7∨i=8)with rfl|rfl|rfl|rfl|rfl|rfl|rfl|rfl|rfl
   all_goals(obtain rfl:(⟨_,_,_,_,_,_⟩:Oper)=o:=Option.some.inj ho;refine wpOp_plain rfl rfl ?_)
   ·have q2:(⟨fillA A' ofD u,[]⟩:Act).eval (.tmp 2)=.pointer (some ⟨A,0,none⟩):=(fillA_out (by omega) rfl).trans h2
    refine wp_of_run (v:=.pointer (some ⟨A,0,none⟩)) (w':=x) ?run ⟨_,fillA_put rfl,hR.call (Ext.refl x) 0 11 (by decide) (by decide) rfl⟩
    case run=>simp only[Act.eval,Array.getD_eq_getD_getElem?]at q2;simp[execOp,q2,Act.eval,go_sem]
   ·have q11:(⟨fillA A' ofD u,[]⟩:Act).eval (.tmp 11)=.pointer (some ⟨A,0,none⟩):=(fillA_in (by omega) rfl).trans (hR.val (0,11) (by decide) (hdep ⟨0,.data⟩ (by simp) rfl))
    obtain⟨f0,f1⟩:=(BA0.out.ext HEX_).c2
    refine wp_of_run (v:=.int .i64 ax) (w':=x) ?run ⟨_,fillA_put rfl,hR.call (Ext.refl x) 1 12 (by decide) (by decide) rfl⟩
    case run=>simp only[Act.eval,Array.getD_eq_getD_getElem?]at q11;simp[execOp,q11,Act.eval,go_sem,f0]
   ·have q12:(⟨fillA A' ofD u,[]⟩:Act).eval (.tmp 12)=.int .i64 ax:=(fillA_in (by omega) rfl).trans (hR.val (1,12) (by decide) (hdep ⟨1,.data⟩ (by simp) rfl))
    refine wp_call rfl Tryz.func69 (by kernel_rfl) rfl (R:=fun e w'=>e=.returned (.int .i64 (lst ax))∧Ext x w') (by simp only[List.map_toArray,List.map_cons,List.map_nil,q12];exact(HAH.out x).1) ?_
    rintro e w' ⟨rfl,hE⟩
    exact⟨_,rfl,_,fillA_put rfl,hR.call hE 2 13 (by decide) (by decide) rfl⟩
   ·have q3:(⟨fillA A' ofD u,[]⟩:Act).eval (.tmp 3)=.pointer (some ⟨B,0,none⟩):=(fillA_out (by omega) rfl).trans h3
    refine wp_of_run (v:=.pointer (some ⟨B,0,none⟩)) (w':=x) ?run ⟨_,fillA_put rfl,hR.call (Ext.refl x) 3 14 (by decide) (by decide) rfl⟩
    case run=>simp only[Act.eval,Array.getD_eq_getD_getElem?]at q3;simp[execOp,q3,Act.eval,go_sem]
   ·have q14:(⟨fillA A' ofD u,[]⟩:Act).eval (.tmp 14)=.pointer (some ⟨B,0,none⟩):=(fillA_in (by omega) rfl).trans (hR.val (3,14) (by decide) (hdep ⟨3,.data⟩ (by simp) rfl))
    obtain⟨f0,f1⟩:=(BB0.out.ext HEX_).c2
    refine wp_of_run (v:=.int .i64 bx) (w':=x) ?run ⟨_,fillA_put rfl,hR.call (Ext.refl x) 4 15 (by decide) (by decide) rfl⟩
    case run=>simp only[Act.eval,Array.getD_eq_getD_getElem?]at q14;simp[execOp,q14,Act.eval,go_sem,f0]
   ·have q15:(⟨fillA A' ofD u,[]⟩:Act).eval (.tmp 15)=.int .i64 bx:=(fillA_in (by omega) rfl).trans (hR.val (4,15) (by decide) (hdep ⟨4,.data⟩ (by simp) rfl))
    refine wp_call rfl Tryz.func69 (by kernel_rfl) rfl (R:=fun e w'=>e=.returned (.int .i64 (lst bx))∧Ext x w') (by simp only[List.map_toArray,List.map_cons,List.map_nil,q15];exact(HAH.out x).2.1) ?_
    rintro e w' ⟨rfl,hE⟩
    exact⟨_,rfl,_,fillA_put rfl,hR.call hE 5 16 (by decide) (by decide) rfl⟩
   ·have q13:(⟨fillA A' ofD u,[]⟩:Act).eval (.tmp 13)=.int .i64 (lst ax):=(fillA_in (by omega) rfl).trans (hR.val (2,13) (by decide) (hdep ⟨2,.data⟩ (by simp) rfl))
    have q16:(⟨fillA A' ofD u,[]⟩:Act).eval (.tmp 16)=.int .i64 (lst bx):=(fillA_in (by omega) rfl).trans (hR.val (5,16) (by decide) (hdep ⟨5,.data⟩ (by simp) rfl))
    refine wp_of_run (v:=.agg (liC (lst ax) (lst bx) 0 0 false)) (w':=x) ?run ⟨_,fillA_put rfl,hR.call (Ext.refl x) 6 17 (by decide) (by decide) rfl⟩
    case run=>simp only[Act.eval,Array.getD_eq_getD_getElem?]at q13 q16;simp[execOp,q13,q16,Act.eval,go_sem]
   ·have n8:st 8=false:=st_no (fun h=>hcl 8 _ rfl h ⟨7,.data⟩ (by simp) rfl) hst
    refine wp_of_run (v:=.pointer (some ⟨x.heap.size,0,none⟩)) (w':=x.alloc (.cells (ofZ 5) 123)) ?run ⟨_,fillA_put rfl,hR.alloc 7 5 8 (by decide) (by decide) n8 rfl rfl⟩
    case run=>simp[execOp,Act.eval,go_sem,ofZ]
   ·have q17:(⟨fillA A' ofD u,[]⟩:Act).eval (.tmp 17)=.agg (liC (lst ax) (lst bx) 0 0 false):=(fillA_in (by omega) rfl).trans (hR.val (6,17) (by decide) (hdep ⟨6,.data⟩ (by simp) rfl))
    have hi_:st 7=true:=hdep ⟨7,.data⟩ (by simp) rfl
    obtain⟨P,p1,p2,p3⟩:=hR.box (7,5,8) (by decide) hi_
    have hz:(if st 8=true then((ofF ax bx)) 5 else(ofZ) 5)=(ofZ) 5:=if_neg (by rw[hst];simp)
    rw[hz]at p3
    have qp:(⟨fillA A' ofD u,[]⟩:Act).eval (.tmp 5)=.pointer (some ⟨P,0,none⟩):=(fillA_in (by omega) rfl).trans p1
    refine wp_store_blk (.tmp 5) (.tmp 17) 123 rfl qp _ q17 p3 (by kernel_rfl) (li_one (lst ax) (lst bx) 0 0 false) rfl ?_
    intro w' hB hK
    exact⟨_,rfl,hR.store 7 5 8 (by decide) (by decide) (by decide) hi_ p1 hB hK⟩
  ·intro st u x hall hR
   obtain⟨P5,p5,l5,b5⟩:=hR.box (7,5,8) (by decide) (hall 7 (by decide))
   have z5:(if st 8=true then((ofF ax bx)) 5 else(ofZ) 5)=((ofF ax bx)) 5:=if_pos (hall 8 (by decide))
   rw[z5]at b5
   have e5:u 5=.pointer (some ⟨P5,0,none⟩):=p5
   have hxE:=hR.ext
   clear hR hall
   simp[fillA,fillL,ofD]
   go_wp2_with fail
   go_meet
   exact⟨P5,rfl,Lib.hid ⟨BA0.out.ext hxE,BB0.out.ext hxE,BC0.out.ext hxE,b5,by have:=BC0.out.lt;omega,⟨HC0.out,by have:=HE0.out.size;omega⟩,HE0.out.trans hxE⟩⟩
 case rest=>
  obtain⟨L,rfl,HM⟩:=hcut
  generalize wc=W1 at*
  clear BA0 BB0 BC0 HE0 HC0
  obtain⟨a0,a1⟩:=HM.out.a.c2
  obtain⟨b0,b1⟩:=HM.out.b.c2
  cases T
  case false=>
   obtain⟨hF,hG⟩:=HFG.out.2 rfl
   rw[←hF,←hG]at HM
   clear hF hG HFG
   go_wp2_with fail
   refine(HWD.out _).mono ?_
   rintro e w1 ⟨rfl,hE⟩
   have HM2:=Lib.hid (HM.out.ext hE)
   clear hE a0 a1 b0 b1
   obtain⟨a0,a1⟩:=HM2.out.a.c2
   obtain⟨b0,b1⟩:=HM2.out.b.c2
   obtain⟨l0,l1,l2,l3,l4⟩:=HM2.out.l.c5
   go_upto_region 4 with fail
   go_wp2_with fail
   refine(HIN.out _).mono ?_
   rintro e w1 ⟨rfl,hE⟩
   have HM3:=Lib.hid (HM2.out.ext hE)
   clear hE a0 a1 b0 b1
   obtain⟨a0,a1⟩:=HM3.out.a.c2
   obtain⟨b0,b1⟩:=HM3.out.b.c2
   obtain⟨l0,l1,l2,l3,l4⟩:=HM3.out.l.c5
   cases B1
   case false=>
    go_wp2_with (refine wpList_store_blk rfl (.tmp 4) (.tmp 50) 123 rfl 0 rfl (.agg (liC F G 0 0 false)) rfl HM3.out.c size_line ?c1 ?c2 ?_)
    case c1=>exact li_one _ _ _ _ _
    case c2=>exact Nat.le_refl 5
    intro w9 hb hk
    have HC9:Hid (Blk w9 C 123 (liC F G 0 0 false)):=Lib.hid (Blk.cast hb (spl_all _ _ rfl))
    have HE9:=Lib.hid (hk.ext HM3.out.e (fun k hk'=>by have:=HM3.out.le.1;omega))
    clear hb hk
    go_wp2_with fail
    obtain⟨z0,z1,z2,z3,z4⟩:=HC9.out.c5
    exact bodyPost_ret (v:=.agg (liC F G 0 0 false)) (by simp[results,Tryz.results47,go_sem,z0,z1,z2,z3,z4]) rfl ⟨by rw[HR.out];rfl,HE9.out⟩
   cases B2
   case true=>
    go_wp2_with (refine wpList_store_blk rfl (.tmp 4) (.tmp 50) 123 rfl 0 rfl (.agg (liC F G 0 0 false)) rfl HM3.out.c size_line ?c1 ?c2 ?_)
    case c1=>exact li_one _ _ _ _ _
    case c2=>exact Nat.le_refl 5
    intro w9 hb hk
    have HC9:Hid (Blk w9 C 123 (liC F G 0 0 false)):=Lib.hid (Blk.cast hb (spl_all _ _ rfl))
    have HE9:=Lib.hid (hk.ext HM3.out.e (fun k hk'=>by have:=HM3.out.le.1;omega))
    clear hb hk
    go_wp2_with fail
    obtain⟨z0,z1,z2,z3,z4⟩:=HC9.out.c5
    exact bodyPost_ret (v:=.agg (liC F G 0 0 false)) (by simp[results,Tryz.results47,go_sem,z0,z1,z2,z3,z4]) rfl ⟨by rw[HR.out];rfl,HE9.out⟩
   go_wp2_with fail
   refine(HEX.out _).mono ?_
   rintro e w1 ⟨rfl,hE⟩
   have HM4:=Lib.hid (HM3.out.ext hE)
   clear hE a0 a1 b0 b1 l0 l1 l2 l3 l4
   obtain⟨a0,a1⟩:=HM4.out.a.c2
   obtain⟨b0,b1⟩:=HM4.out.b.c2
   obtain⟨l0,l1,l2,l3,l4⟩:=HM4.out.l.c5
   cases B3
   case false=>
    go_wp2_with (refine wpList_store_blk rfl (.tmp 4) (.tmp 50) 123 rfl 0 rfl (.agg (liC F G 0 0 false)) rfl HM4.out.c size_line ?c1 ?c2 ?_)
    case c1=>exact li_one _ _ _ _ _
    case c2=>exact Nat.le_refl 5
    intro w9 hb hk
    have HC9:Hid (Blk w9 C 123 (liC F G 0 0 false)):=Lib.hid (Blk.cast hb (spl_all _ _ rfl))
    have HE9:=Lib.hid (hk.ext HM4.out.e (fun k hk'=>by have:=HM4.out.le.1;omega))
    clear hb hk
    go_wp2_with fail
    obtain⟨z0,z1,z2,z3,z4⟩:=HC9.out.c5
    exact bodyPost_ret (v:=.agg (liC F G 0 0 false)) (by simp[results,Tryz.results47,go_sem,z0,z1,z2,z3,z4]) rfl ⟨by rw[HR.out];rfl,HE9.out⟩
   go_wp2_with fail
   refine(HWD.out _).mono ?_
   rintro e w1 ⟨rfl,hE⟩
   have HM5:=Lib.hid (HM4.out.ext hE)
   clear hE a0 a1 b0 b1 l0 l1 l2 l3 l4
   obtain⟨a0,a1⟩:=HM5.out.a.c2
   obtain⟨b0,b1⟩:=HM5.out.b.c2
   obtain⟨l0,l1,l2,l3,l4⟩:=HM5.out.l.c5
   obtain⟨C1,hC1⟩: ∃c,c=decide (IX≥min F G):=⟨_,rfl⟩
   obtain⟨C2,hC2⟩: ∃c,c=decide (IX<max F G):=⟨_,rfl⟩
   have HRC:=HR.out
   simp only[if_true,if_false,Bool.false_eq_true]at HRC
   rw[←hC1,←hC2]at HRC
   clear HR
   have HR:=Lib.hid HRC
   have d1:=hC1.symm
   have d2:=hC2.symm
   clear HRC hC1 hC2
   have g2:=HM5.out.l.frozen 2
   have g3:=HM5.out.l.frozen 3
   have g4:=HM5.out.l.frozen 4
   cases C1 <;>cases C2
   ·go_upto_region 12 with fail
    have kk:Kp (·≠L) w1 (((w1.setCell ⟨L,2,none⟩ (.int .i64 IX)).setCell ⟨L,3,none⟩ (.int .i64 IY)).setCell ⟨L,4,none⟩ (.bool true)):=(((Kp.refl _ _).setCell (p:=⟨L,2,none⟩) _ (fun h=>h rfl)).setCell (p:=⟨L,3,none⟩) _ (fun h=>h rfl)).setCell (p:=⟨L,4,none⟩) _ (fun h=>h rfl)
    have HM6:Hid (LnW w (((w1.setCell ⟨L,2,none⟩ (.int .i64 IX)).setCell ⟨L,3,none⟩ (.int .i64 IY)).setCell ⟨L,4,none⟩ (.bool true)) A B C L ax ay bx by_ (liC F G IX IY true)):=Lib.hid ⟨HM5.out.a.kp kk (HM5.out.a.ne_type HM5.out.l (by decide)),HM5.out.b.kp kk (HM5.out.b.ne_type HM5.out.l (by decide)),HM5.out.c.kp kk HM5.out.ne,Blk.cast (((HM5.out.l.set_ 2 (.int .i64 IX)).set_ 3 (.int .i64 IY)).set_ 4 (.bool true)) rfl,HM5.out.ne,HM5.out.le,kk.ext HM5.out.e (fun k hk=>by have:=HM5.out.le.2;omega)⟩
    clear kk a0 a1 b0 b1 l0 l1 l2 l3 l4 g2 g3 g4
    generalize(((w1.setCell ⟨L,2,none⟩ (.int .i64 IX)).setCell ⟨L,3,none⟩ (.int .i64 IY)).setCell ⟨L,4,none⟩ (.bool true))=W6 at*
    obtain⟨l0,l1,l2,l3,l4⟩:=HM6.out.l.c5
    go_wp2_with (refine wpList_store_blk rfl (.tmp 4) (.tmp 80) 123 rfl 0 rfl (.agg (liC F G IX IY true)) rfl HM6.out.c size_line ?c1 ?c2 ?_)
    case c1=>exact li_one _ _ _ _ _
    case c2=>exact Nat.le_refl 5
    intro w9 hb hk
    have HC9:Hid (Blk w9 C 123 (liC F G IX IY true)):=Lib.hid (Blk.cast hb (spl_all _ _ rfl))
    have HE9:=Lib.hid (hk.ext HM6.out.e (fun k hk'=>by have:=HM6.out.le.1;omega))
    clear hb hk
    go_wp2_with fail
    obtain⟨z0,z1,z2,z3,z4⟩:=HC9.out.c5
    exact bodyPost_ret (v:=.agg (liC F G IX IY true)) (by simp[results,Tryz.results47,go_sem,z0,z1,z2,z3,z4]) rfl ⟨by rw[HR.out];rfl,HE9.out⟩
   ·go_upto_region 12 with fail
    have kk:Kp (·≠L) w1 (((w1.setCell ⟨L,2,none⟩ (.int .i64 IX)).setCell ⟨L,3,none⟩ (.int .i64 IY)).setCell ⟨L,4,none⟩ (.bool true)):=(((Kp.refl _ _).setCell (p:=⟨L,2,none⟩) _ (fun h=>h rfl)).setCell (p:=⟨L,3,none⟩) _ (fun h=>h rfl)).setCell (p:=⟨L,4,none⟩) _ (fun h=>h rfl)
    have HM6:Hid (LnW w (((w1.setCell ⟨L,2,none⟩ (.int .i64 IX)).setCell ⟨L,3,none⟩ (.int .i64 IY)).setCell ⟨L,4,none⟩ (.bool true)) A B C L ax ay bx by_ (liC F G IX IY true)):=Lib.hid ⟨HM5.out.a.kp kk (HM5.out.a.ne_type HM5.out.l (by decide)),HM5.out.b.kp kk (HM5.out.b.ne_type HM5.out.l (by decide)),HM5.out.c.kp kk HM5.out.ne,Blk.cast (((HM5.out.l.set_ 2 (.int .i64 IX)).set_ 3 (.int .i64 IY)).set_ 4 (.bool true)) rfl,HM5.out.ne,HM5.out.le,kk.ext HM5.out.e (fun k hk=>by have:=HM5.out.le.2;omega)⟩
    clear kk a0 a1 b0 b1 l0 l1 l2 l3 l4 g2 g3 g4
    generalize(((w1.setCell ⟨L,2,none⟩ (.int .i64 IX)).setCell ⟨L,3,none⟩ (.int .i64 IY)).setCell ⟨L,4,none⟩ (.bool true))=W6 at*
    obtain⟨l0,l1,l2,l3,l4⟩:=HM6.out.l.c5
    go_wp2_with (refine wpList_store_blk rfl (.tmp 4) (.tmp 80) 123 rfl 0 rfl (.agg (liC F G IX IY true)) rfl HM6.out.c size_line ?c1 ?c2 ?_)
    case c1=>exact li_one _ _ _ _ _
    case c2=>exact Nat.le_refl 5
    intro w9 hb hk
    have HC9:Hid (Blk w9 C 123 (liC F G IX IY true)):=Lib.hid (Blk.cast hb (spl_all _ _ rfl))
    have HE9:=Lib.hid (hk.ext HM6.out.e (fun k hk'=>by have:=HM6.out.le.1;omega))
    clear hb hk
    go_wp2_with fail
    obtain⟨z0,z1,z2,z3,z4⟩:=HC9.out.c5
    exact bodyPost_ret (v:=.agg (liC F G IX IY true)) (by simp[results,Tryz.results47,go_sem,z0,z1,z2,z3,z4]) rfl ⟨by rw[HR.out];rfl,HE9.out⟩
   ·go_upto_region 12 with fail
    have kk:Kp (·≠L) w1 (((w1.setCell ⟨L,2,none⟩ (.int .i64 IX)).setCell ⟨L,3,none⟩ (.int .i64 IY)).setCell ⟨L,4,none⟩ (.bool true)):=(((Kp.refl _ _).setCell (p:=⟨L,2,none⟩) _ (fun h=>h rfl)).setCell (p:=⟨L,3,none⟩) _ (fun h=>h rfl)).setCell (p:=⟨L,4,none⟩) _ (fun h=>h rfl)
    have HM6:Hid (LnW w (((w1.setCell ⟨L,2,none⟩ (.int .i64 IX)).setCell ⟨L,3,none⟩ (.int .i64 IY)).setCell ⟨L,4,none⟩ (.bool true)) A B C L ax ay bx by_ (liC F G IX IY true)):=Lib.hid ⟨HM5.out.a.kp kk (HM5.out.a.ne_type HM5.out.l (by decide)),HM5.out.b.kp kk (HM5.out.b.ne_type HM5.out.l (by decide)),HM5.out.c.kp kk HM5.out.ne,Blk.cast (((HM5.out.l.set_ 2 (.int .i64 IX)).set_ 3 (.int .i64 IY)).set_ 4 (.bool true)) rfl,HM5.out.ne,HM5.out.le,kk.ext HM5.out.e (fun k hk=>by have:=HM5.out.le.2;omega)⟩
    clear kk a0 a1 b0 b1 l0 l1 l2 l3 l4 g2 g3 g4
    generalize(((w1.setCell ⟨L,2,none⟩ (.int .i64 IX)).setCell ⟨L,3,none⟩ (.int .i64 IY)).setCell ⟨L,4,none⟩ (.bool true))=W6 at*
    obtain⟨l0,l1,l2,l3,l4⟩:=HM6.out.l.c5
    go_wp2_with (refine wpList_store_blk rfl (.tmp 4) (.tmp 80) 123 rfl 0 rfl (.agg (liC F G IX IY true)) rfl HM6.out.c size_line ?c1 ?c2 ?_)
    case c1=>exact li_one _ _ _ _ _
    case c2=>exact Nat.le_refl 5
    intro w9 hb hk
    have HC9:Hid (Blk w9 C 123 (liC F G IX IY true)):=Lib.hid (Blk.cast hb (spl_all _ _ rfl))
    have HE9:=Lib.hid (hk.ext HM6.out.e (fun k hk'=>by have:=HM6.out.le.1;omega))
    clear hb hk
    go_wp2_with fail
    obtain⟨z0,z1,z2,z3,z4⟩:=HC9.out.c5
    exact bodyPost_ret (v:=.agg (liC F G IX IY true)) (by simp[results,Tryz.results47,go_sem,z0,z1,z2,z3,z4]) rfl ⟨by rw[HR.out];rfl,HE9.out⟩
   ·go_upto_region 12 with fail
    have kk:Kp (·≠L) w1 (((w1.setCell ⟨L,2,none⟩ (.int .i64 IX)).setCell ⟨L,3,none⟩ (.int .i64 IY)).setCell ⟨L,4,none⟩ (.bool false)):=(((Kp.refl _ _).setCell (p:=⟨L,2,none⟩) _ (fun h=>h rfl)).setCell (p:=⟨L,3,none⟩) _ (fun h=>h rfl)).setCell (p:=⟨L,4,none⟩) _ (fun h=>h rfl)
    have HM6:Hid (LnW w (((w1.setCell ⟨L,2,none⟩ (.int .i64 IX)).setCell ⟨L,3,none⟩ (.int .i64 IY)).setCell ⟨L,4,none⟩ (.bool false)) A B C L ax ay bx by_ (liC F G IX IY false)):=Lib.hid ⟨HM5.out.a.kp kk (HM5.out.a.ne_type HM5.out.l (by decide)),HM5.out.b.kp kk (HM5.out.b.ne_type HM5.out.l (by decide)),HM5.out.c.kp kk HM5.out.ne,Blk.cast (((HM5.out.l.set_ 2 (.int .i64 IX)).set_ 3 (.int .i64 IY)).set_ 4 (.bool false)) rfl,HM5.out.ne,HM5.out.le,kk.ext HM5.out.e (fun k hk=>by have:=HM5.out.le.2;omega)⟩
    clear kk a0 a1 b0 b1 l0 l1 l2 l3 l4 g2 g3 g4
    generalize(((w1.setCell ⟨L,2,none⟩ (.int .i64 IX)).setCell ⟨L,3,none⟩ (.int .i64 IY)).setCell ⟨L,4,none⟩ (.bool false))=W6 at*
    obtain⟨l0,l1,l2,l3,l4⟩:=HM6.out.l.c5
    go_wp2_with (refine wpList_store_blk rfl (.tmp 4) (.tmp 80) 123 rfl 0 rfl (.agg (liC F G IX IY false)) rfl HM6.out.c size_line ?c1 ?c2 ?_)
    case c1=>exact li_one _ _ _ _ _
    case c2=>exact Nat.le_refl 5
    intro w9 hb hk
    have HC9:Hid (Blk w9 C 123 (liC F G IX IY false)):=Lib.hid (Blk.cast hb (spl_all _ _ rfl))
    have HE9:=Lib.hid (hk.ext HM6.out.e (fun k hk'=>by have:=HM6.out.le.1;omega))
    clear hb hk
    go_wp2_with fail
    obtain⟨z0,z1,z2,z3,z4⟩:=HC9.out.c5
    exact bodyPost_ret (v:=.agg (liC F G IX IY false)) (by simp[results,Tryz.results47,go_sem,z0,z1,z2,z3,z4]) rfl ⟨by rw[HR.out];rfl,HE9.out⟩
  case true=>
   obtain⟨hF,hG⟩:=HFG.out.1 rfl
   go_wp2_with fail
   refine(HWD.out _).mono ?_
   rintro e w1 ⟨rfl,hE⟩
   have HM1:=Lib.hid (HM.out.ext hE)
   clear hE a0 a1 b0 b1
   obtain⟨a0,a1⟩:=HM1.out.a.c2
   obtain⟨b0,b1⟩:=HM1.out.b.c2
   go_upto_region 3 with fail
   refine wp_region_later_tail 7 (by kernel_rfl) (by kernel_rfl) ?_
   simp only[List.take_succ_cons,List.take_zero,List.drop_succ_cons,List.drop_zero]
   repeat(go_big_quiet_step ((first|(go_at_call 69;with_reducible exact Calls.later _ (HAH.out _).2.2.1)|(go_at_call 69;with_reducible exact Calls.later _ (HAH.out _).2.2.2)|fail)))
   refine wpQuiet_nil ?_
   intro y
   have HMy:=Lib.hid (HM1.out.ext y.ext)
   clear a0 a1 b0 b1
   go_wp2_with (refine wpList_store_blk rfl (.tmp 5) (.tmp 28) 123 rfl 0 rfl (.agg (liC (lst ay) (lst by_) 0 0 false)) rfl HMy.out.l size_line ?c1 ?c2 ?_)
   case c1=>exact li_one _ _ _ _ _
   case c2=>exact Nat.le_refl 5
   intro w8 hb hk
   have HM2:Hid (LnW w w8 A B C L ax ay bx by_ (liC F G 0 0 false)):=Lib.hid ⟨HMy.out.a.kp hk (HMy.out.a.ne_type HMy.out.l (by decide)),HMy.out.b.kp hk (HMy.out.b.ne_type HMy.out.l (by decide)),HMy.out.c.kp hk HMy.out.ne,Blk.cast hb (by rw[hF,hG];exact spl_all _ _ rfl),HMy.out.ne,HMy.out.le,hk.ext HMy.out.e (fun k hk'=>by have:=HMy.out.le.2;omega)⟩
   clear hb hk hF hG HFG HMy HM1 HM
   obtain⟨a0,a1⟩:=HM2.out.a.c2
   obtain⟨b0,b1⟩:=HM2.out.b.c2
   obtain⟨l0,l1,l2,l3,l4⟩:=HM2.out.l.c5
   go_upto_region 4 with fail
   go_wp2_with fail
   refine(HIN.out _).mono ?_
   rintro e w1 ⟨rfl,hE⟩
   have HM3:=Lib.hid (HM2.out.ext hE)
   clear hE a0 a1 b0 b1
   obtain⟨a0,a1⟩:=HM3.out.a.c2
   obtain⟨b0,b1⟩:=HM3.out.b.c2
   obtain⟨l0,l1,l2,l3,l4⟩:=HM3.out.l.c5
   cases B1
   case false=>
    go_wp2_with (refine wpList_store_blk rfl (.tmp 4) (.tmp 50) 123 rfl 0 rfl (.agg (liC F G 0 0 false)) rfl HM3.out.c size_line ?c1 ?c2 ?_)
    case c1=>exact li_one _ _ _ _ _
    case c2=>exact Nat.le_refl 5
    intro w9 hb hk
    have HC9:Hid (Blk w9 C 123 (liC F G 0 0 false)):=Lib.hid (Blk.cast hb (spl_all _ _ rfl))
    have HE9:=Lib.hid (hk.ext HM3.out.e (fun k hk'=>by have:=HM3.out.le.1;omega))
    clear hb hk
    go_wp2_with fail
    obtain⟨z0,z1,z2,z3,z4⟩:=HC9.out.c5
    exact bodyPost_ret (v:=.agg (liC F G 0 0 false)) (by simp[results,Tryz.results47,go_sem,z0,z1,z2,z3,z4]) rfl ⟨by rw[HR.out];rfl,HE9.out⟩
   cases B2
   case true=>
    go_wp2_with (refine wpList_store_blk rfl (.tmp 4) (.tmp 50) 123 rfl 0 rfl (.agg (liC F G 0 0 false)) rfl HM3.out.c size_line ?c1 ?c2 ?_)
    case c1=>exact li_one _ _ _ _ _
    case c2=>exact Nat.le_refl 5
    intro w9 hb hk
    have HC9:Hid (Blk w9 C 123 (liC F G 0 0 false)):=Lib.hid (Blk.cast hb (spl_all _ _ rfl))
    have HE9:=Lib.hid (hk.ext HM3.out.e (fun k hk'=>by have:=HM3.out.le.1;omega))
    clear hb hk
    go_wp2_with fail
    obtain⟨z0,z1,z2,z3,z4⟩:=HC9.out.c5
    exact bodyPost_ret (v:=.agg (liC F G 0 0 false)) (by simp[results,Tryz.results47,go_sem,z0,z1,z2,z3,z4]) rfl ⟨by rw[HR.out];rfl,HE9.out⟩
   go_wp2_with fail
   refine(HEX.out _).mono ?_
   rintro e w1 ⟨rfl,hE⟩
   have HM4:=Lib.hid (HM3.out.ext hE)
   clear hE a0 a1 b0 b1 l0 l1 l2 l3 l4
   obtain⟨a0,a1⟩:=HM4.out.a.c2
   obtain⟨b0,b1⟩:=HM4.out.b.c2
   obtain⟨l0,l1,l2,l3,l4⟩:=HM4.out.l.c5
   cases B3
   case false=>
    go_wp2_with (refine wpList_store_blk rfl (.tmp 4) (.tmp 50) 123 rfl 0 rfl (.agg (liC F G 0 0 false)) rfl HM4.out.c size_line ?c1 ?c2 ?_)
    case c1=>exact li_one _ _ _ _ _
    case c2=>exact Nat.le_refl 5
    intro w9 hb hk
    have HC9:Hid (Blk w9 C 123 (liC F G 0 0 false)):=Lib.hid (Blk.cast hb (spl_all _ _ rfl))
    have HE9:=Lib.hid (hk.ext HM4.out.e (fun k hk'=>by have:=HM4.out.le.1;omega))
    clear hb hk
    go_wp2_with fail
    obtain⟨z0,z1,z2,z3,z4⟩:=HC9.out.c5
    exact bodyPost_ret (v:=.agg (liC F G 0 0 false)) (by simp[results,Tryz.results47,go_sem,z0,z1,z2,z3,z4]) rfl ⟨by rw[HR.out];rfl,HE9.out⟩
   go_wp2_with fail
   refine(HWD.out _).mono ?_
   rintro e w1 ⟨rfl,hE⟩
   have HM5:=Lib.hid (HM4.out.ext hE)
   clear hE a0 a1 b0 b1 l0 l1 l2 l3 l4
   obtain⟨a0,a1⟩:=HM5.out.a.c2
   obtain⟨b0,b1⟩:=HM5.out.b.c2
   obtain⟨l0,l1,l2,l3,l4⟩:=HM5.out.l.c5
   obtain⟨C1,hC1⟩: ∃c,c=decide (IY≥min F G):=⟨_,rfl⟩
   obtain⟨C2,hC2⟩: ∃c,c=decide (IY<max F G):=⟨_,rfl⟩
   have HRC:=HR.out
   simp only[if_true,if_false,Bool.false_eq_true]at HRC
   rw[←hC1,←hC2]at HRC
   clear HR
   have HR:=Lib.hid HRC
   have d1:=hC1.symm
   have d2:=hC2.symm
   clear HRC hC1 hC2
   have g2:=HM5.out.l.frozen 2
   have g3:=HM5.out.l.frozen 3
   have g4:=HM5.out.l.frozen 4
   cases C1 <;>cases C2
   ·go_upto_region 12 with fail
    have kk:Kp (·≠L) w1 (((w1.setCell ⟨L,2,none⟩ (.int .i64 IX)).setCell ⟨L,3,none⟩ (.int .i64 IY)).setCell ⟨L,4,none⟩ (.bool true)):=(((Kp.refl _ _).setCell (p:=⟨L,2,none⟩) _ (fun h=>h rfl)).setCell (p:=⟨L,3,none⟩) _ (fun h=>h rfl)).setCell (p:=⟨L,4,none⟩) _ (fun h=>h rfl)
    have HM6:Hid (LnW w (((w1.setCell ⟨L,2,none⟩ (.int .i64 IX)).setCell ⟨L,3,none⟩ (.int .i64 IY)).setCell ⟨L,4,none⟩ (.bool true)) A B C L ax ay bx by_ (liC F G IX IY true)):=Lib.hid ⟨HM5.out.a.kp kk (HM5.out.a.ne_type HM5.out.l (by decide)),HM5.out.b.kp kk (HM5.out.b.ne_type HM5.out.l (by decide)),HM5.out.c.kp kk HM5.out.ne,Blk.cast (((HM5.out.l.set_ 2 (.int .i64 IX)).set_ 3 (.int .i64 IY)).set_ 4 (.bool true)) rfl,HM5.out.ne,HM5.out.le,kk.ext HM5.out.e (fun k hk=>by have:=HM5.out.le.2;omega)⟩
    clear kk a0 a1 b0 b1 l0 l1 l2 l3 l4 g2 g3 g4
    generalize(((w1.setCell ⟨L,2,none⟩ (.int .i64 IX)).setCell ⟨L,3,none⟩ (.int .i64 IY)).setCell ⟨L,4,none⟩ (.bool true))=W6 at*
    obtain⟨l0,l1,l2,l3,l4⟩:=HM6.out.l.c5
    go_wp2_with (refine wpList_store_blk rfl (.tmp 4) (.tmp 80) 123 rfl 0 rfl (.agg (liC F G IX IY true)) rfl HM6.out.c size_line ?c1 ?c2 ?_)
    case c1=>exact li_one _ _ _ _ _
    case c2=>exact Nat.le_refl 5
    intro w9 hb hk
    have HC9:Hid (Blk w9 C 123 (liC F G IX IY true)):=Lib.hid (Blk.cast hb (spl_all _ _ rfl))
    have HE9:=Lib.hid (hk.ext HM6.out.e (fun k hk'=>by have:=HM6.out.le.1;omega))
    clear hb hk
    go_wp2_with fail
    obtain⟨z0,z1,z2,z3,z4⟩:=HC9.out.c5
    exact bodyPost_ret (v:=.agg (liC F G IX IY true)) (by simp[results,Tryz.results47,go_sem,z0,z1,z2,z3,z4]) rfl ⟨by rw[HR.out];rfl,HE9.out⟩
   ·go_upto_region 12 with fail
    have kk:Kp (·≠L) w1 (((w1.setCell ⟨L,2,none⟩ (.int .i64 IX)).setCell ⟨L,3,none⟩ (.int .i64 IY)).setCell ⟨L,4,none⟩ (.bool true)):=(((Kp.refl _ _).setCell (p:=⟨L,2,none⟩) _ (fun h=>h rfl)).setCell (p:=⟨L,3,none⟩) _ (fun h=>h rfl)).setCell (p:=⟨L,4,none⟩) _ (fun h=>h rfl)
    have HM6:Hid (LnW w (((w1.setCell ⟨L,2,none⟩ (.int .i64 IX)).setCell ⟨L,3,none⟩ (.int .i64 IY)).setCell ⟨L,4,none⟩ (.bool true)) A B C L ax ay bx by_ (liC F G IX IY true)):=Lib.hid ⟨HM5.out.a.kp kk (HM5.out.a.ne_type HM5.out.l (by decide)),HM5.out.b.kp kk (HM5.out.b.ne_type HM5.out.l (by decide)),HM5.out.c.kp kk HM5.out.ne,Blk.cast (((HM5.out.l.set_ 2 (.int .i64 IX)).set_ 3 (.int .i64 IY)).set_ 4 (.bool true)) rfl,HM5.out.ne,HM5.out.le,kk.ext HM5.out.e (fun k hk=>by have:=HM5.out.le.2;omega)⟩
    clear kk a0 a1 b0 b1 l0 l1 l2 l3 l4 g2 g3 g4
    generalize(((w1.setCell ⟨L,2,none⟩ (.int .i64 IX)).setCell ⟨L,3,none⟩ (.int .i64 IY)).setCell ⟨L,4,none⟩ (.bool true))=W6 at*
    obtain⟨l0,l1,l2,l3,l4⟩:=HM6.out.l.c5
    go_wp2_with (refine wpList_store_blk rfl (.tmp 4) (.tmp 80) 123 rfl 0 rfl (.agg (liC F G IX IY true)) rfl HM6.out.c size_line ?c1 ?c2 ?_)
    case c1=>exact li_one _ _ _ _ _
    case c2=>exact Nat.le_refl 5
    intro w9 hb hk
    have HC9:Hid (Blk w9 C 123 (liC F G IX IY true)):=Lib.hid (Blk.cast hb (spl_all _ _ rfl))
    have HE9:=Lib.hid (hk.ext HM6.out.e (fun k hk'=>by have:=HM6.out.le.1;omega))
    clear hb hk
    go_wp2_with fail
    obtain⟨z0,z1,z2,z3,z4⟩:=HC9.out.c5
    exact bodyPost_ret (v:=.agg (liC F G IX IY true)) (by simp[results,Tryz.results47,go_sem,z0,z1,z2,z3,z4]) rfl ⟨by rw[HR.out];rfl,HE9.out⟩
   ·go_upto_region 12 with fail
    have kk:Kp (·≠L) w1 (((w1.setCell ⟨L,2,none⟩ (.int .i64 IX)).setCell ⟨L,3,none⟩ (.int .i64 IY)).setCell ⟨L,4,none⟩ (.bool true)):=(((Kp.refl _ _).setCell (p:=⟨L,2,none⟩) _ (fun h=>h rfl)).setCell (p:=⟨L,3,none⟩) _ (fun h=>h rfl)).setCell (p:=⟨L,4,none⟩) _ (fun h=>h rfl)
    have HM6:Hid (LnW w (((w1.setCell ⟨L,2,none⟩ (.int .i64 IX)).setCell ⟨L,3,none⟩ (.int .i64 IY)).setCell ⟨L,4,none⟩ (.bool true)) A B C L ax ay bx by_ (liC F G IX IY true)):=Lib.hid ⟨HM5.out.a.kp kk (HM5.out.a.ne_type HM5.out.l (by decide)),HM5.out.b.kp kk (HM5.out.b.ne_type HM5.out.l (by decide)),HM5.out.c.kp kk HM5.out.ne,Blk.cast (((HM5.out.l.set_ 2 (.int .i64 IX)).set_ 3 (.int .i64 IY)).set_ 4 (.bool true)) rfl,HM5.out.ne,HM5.out.le,kk.ext HM5.out.e (fun k hk=>by have:=HM5.out.le.2;omega)⟩
    clear kk a0 a1 b0 b1 l0 l1 l2 l3 l4 g2 g3 g4
    generalize(((w1.setCell ⟨L,2,none⟩ (.int .i64 IX)).setCell ⟨L,3,none⟩ (.int .i64 IY)).setCell ⟨L,4,none⟩ (.bool true))=W6 at*
    obtain⟨l0,l1,l2,l3,l4⟩:=HM6.out.l.c5
    go_wp2_with (refine wpList_store_blk rfl (.tmp 4) (.tmp 80) 123 rfl 0 rfl (.agg (liC F G IX IY true)) rfl HM6.out.c size_line ?c1 ?c2 ?_)
    case c1=>exact li_one _ _ _ _ _
    case c2=>exact Nat.le_refl 5
    intro w9 hb hk
    have HC9:Hid (Blk w9 C 123 (liC F G IX IY true)):=Lib.hid (Blk.cast hb (spl_all _ _ rfl))
    have HE9:=Lib.hid (hk.ext HM6.out.e (fun k hk'=>by have:=HM6.out.le.1;omega))
    clear hb hk
    go_wp2_with fail
    obtain⟨z0,z1,z2,z3,z4⟩:=HC9.out.c5
    exact bodyPost_ret (v:=.agg (liC F G IX IY true)) (by simp[results,Tryz.results47,go_sem,z0,z1,z2,z3,z4]) rfl ⟨by rw[HR.out];rfl,HE9.out⟩
   ·go_upto_region 12 with fail
    have kk:Kp (·≠L) w1 (((w1.setCell ⟨L,2,none⟩ (.int .i64 IX)).setCell ⟨L,3,none⟩ (.int .i64 IY)).setCell ⟨L,4,none⟩ (.bool false)):=(((Kp.refl _ _).setCell (p:=⟨L,2,none⟩) _ (fun h=>h rfl)).setCell (p:=⟨L,3,none⟩) _ (fun h=>h rfl)).setCell (p:=⟨L,4,none⟩) _ (fun h=>h rfl)
    have HM6:Hid (LnW w (((w1.setCell ⟨L,2,none⟩ (.int .i64 IX)).setCell ⟨L,3,none⟩ (.int .i64 IY)).setCell ⟨L,4,none⟩ (.bool false)) A B C L ax ay bx by_ (liC F G IX IY false)):=Lib.hid ⟨HM5.out.a.kp kk (HM5.out.a.ne_type HM5.out.l (by decide)),HM5.out.b.kp kk (HM5.out.b.ne_type HM5.out.l (by decide)),HM5.out.c.kp kk HM5.out.ne,Blk.cast (((HM5.out.l.set_ 2 (.int .i64 IX)).set_ 3 (.int .i64 IY)).set_ 4 (.bool false)) rfl,HM5.out.ne,HM5.out.le,kk.ext HM5.out.e (fun k hk=>by have:=HM5.out.le.2;omega)⟩
    clear kk a0 a1 b0 b1 l0 l1 l2 l3 l4 g2 g3 g4
    generalize(((w1.setCell ⟨L,2,none⟩ (.int .i64 IX)).setCell ⟨L,3,none⟩ (.int .i64 IY)).setCell ⟨L,4,none⟩ (.bool false))=W6 at*
    obtain⟨l0,l1,l2,l3,l4⟩:=HM6.out.l.c5
    go_wp2_with (refine wpList_store_blk rfl (.tmp 4) (.tmp 80) 123 rfl 0 rfl (.agg (liC F G IX IY false)) rfl HM6.out.c size_line ?c1 ?c2 ?_)
    case c1=>exact li_one _ _ _ _ _
    case c2=>exact Nat.le_refl 5
    intro w9 hb hk
    have HC9:Hid (Blk w9 C 123 (liC F G IX IY false)):=Lib.hid (Blk.cast hb (spl_all _ _ rfl))
    have HE9:=Lib.hid (hk.ext HM6.out.e (fun k hk'=>by have:=HM6.out.le.1;omega))
    clear hb hk
    go_wp2_with fail
    obtain⟨z0,z1,z2,z3,z4⟩:=HC9.out.c5
    exact bodyPost_ret (v:=.agg (liC F G IX IY false)) (by simp[results,Tryz.results47,go_sem,z0,z1,z2,z3,z4]) rfl ⟨by rw[HR.out];rfl,HE9.out⟩
end Go.Proofs.YtplljnfjkkloeaaGreatDoor
