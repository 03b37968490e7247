/- Proof text: a line drawn (drawing.line). By an AI agent. No condition beyond what each theorem states. -/
import Derived.Test.YtplljnfjkkloeaaGreatDoorTA
set_option linter.unusedVariables false
set_option linter.unusedSimpArgs false
set_option maxHeartbeats 16000000
namespace Go.Proofs.YtplljnfjkkloeaaGreatDoor
attribute [local go_sem] Go.Oper.semAt_some
open Go.RowKit
abbrev RKd0:List Nat:=[14,15,16,17,18,19,20,13,21,22,23,6,7,8]
structure Ln (w wx:World) (D:Nat) (T:TypeId) (ds:Array Value) (a b:Vx) (P Q:Nat):Prop where
 d:Blk wx D T ds
 p:Blk wx P 149 #[.int .i64 a.x,.int .i64 a.y,.int .i64 a.z,.int .i64 a.w,.int .i64 a.c0,.int .i64 a.c1,.int .i64 a.c2,.int .i64 a.c3]
 q:Blk wx Q 149 #[.int .i64 b.x,.int .i64 b.y,.int .i64 b.z,.int .i64 b.w,.int .i64 b.c0,.int .i64 b.c1,.int .i64 b.c2,.int .i64 b.c3]
 ne:P≠Q
 lt:D<P∧D<Q∧w.heap.size≤P∧w.heap.size≤Q
 e:Ext w wx
structure Wn (w wx:World) (D:Nat) (T:TypeId) (ds:Array Value) (a b:Wv) (P Q:Nat):Prop where
 d:Blk wx D T ds
 p:Blk wx P 177 #[.int .i64 a.x,.int .i64 a.y,.int .i64 a.z,.int .i64 a.c0,.int .i64 a.c1,.int .i64 a.c2,.int .i64 a.c3]
 q:Blk wx Q 177 #[.int .i64 b.x,.int .i64 b.y,.int .i64 b.z,.int .i64 b.c0,.int .i64 b.c1,.int .i64 b.c2,.int .i64 b.c3]
 ne:P≠Q
 lt:D<P∧D<Q∧w.heap.size≤P∧w.heap.size≤Q
 e:Ext w wx
theorem vx_one (v:Vx): ∀u∈v.v.cells.toList,u.oneCell'=true:=by
 intro u hu
 have hu:u∈[Value.int .i64 v.x,.int .i64 v.y,.int .i64 v.z,.int .i64 v.w,.int .i64 v.c0,.int .i64 v.c1,.int .i64 v.c2,.int .i64 v.c3]:=hu
 simp only[List.mem_cons,List.not_mem_nil,or_false]at hu
 rcases hu with rfl|rfl|rfl|rfl|rfl|rfl|rfl|rfl <;>rfl
theorem wv_one (v:Wv): ∀u∈v.v.cells.toList,u.oneCell'=true:=by
 intro u hu
 have hu:u∈[Value.int .i64 v.x,.int .i64 v.y,.int .i64 v.z,.int .i64 v.c0,.int .i64 v.c1,.int .i64 v.c2,.int .i64 v.c3]:=hu
 simp only[List.mem_cons,List.not_mem_nil,or_false]at hu
 rcases hu with rfl|rfl|rfl|rfl|rfl|rfl|rfl <;>rfl
structure Fn (w wx:World) (D:Nat) (T:TypeId) (ds:Array Value) (q:Da) (M:List Fr) (N:Nat) (v:Value) (G:Nat):Prop where
 d:Blk wx D T ds
 g:Blk wx G 44 #[.int .i64 q.bits,.int .i64 q.every,.int .i64 q.done]
 o: ∃b,wx.ownsRow b 68 8 v N (M.flatMap Fr.cells)
 lt:D<G∧w.heap.size≤G
 e:Ext w wx
def lnV (a b:Vx) (D:Nat) (A:Option Addr) (c:Nat):Nat→Value
 |14=>a.v|15=>b.v|16=>.pointer (some ⟨D,0,none⟩)|17=>.pointer (some ⟨D,0,none⟩)|18=>.pointer (some ⟨D,98,none⟩)|19=>.slice A 3 c
 |20=>.tuple #[a.v,b.v,.bool true]|13=>.tuple #[a.v,b.v,.bool true]|21=>a.v|22=>b.v|23=>.bool true|8=>.bool true|_=>undef
def lnT:Nat→TypeId:=fun _=>149
def lnZ:Nat→Array Value:=fun _=> #[.int .i64 0,.int .i64 0,.int .i64 0,.int .i64 0,.int .i64 0,.int .i64 0,.int .i64 0,.int .i64 0]
def lnR (a b:Vx):Nat→Array Value
 |6=>a.v.cells|_=>b.v.cells
def lwV (a b:Vx) (u v:Wv) (D:Nat):Nat→Value
 |26=>.pointer (some ⟨D,0,none⟩)|29=>.pointer (some ⟨D,0,none⟩)|27=>a.v|30=>b.v|28=>u.v|31=>v.v|_=>undef
def lwT:Nat→TypeId:=fun _=>177
def lwZ:Nat→Array Value:=fun _=> #[.int .i64 0,.int .i64 0,.int .i64 0,.int .i64 0,.int .i64 0,.int .i64 0,.int .i64 0]
def lwR (u v:Wv):Nat→Array Value
 |9=>u.v.cells|_=>v.v.cells
set_option maxRecDepth 100000 in
theorem line_draw (s:Ps) (p:Hp) (l:Sl) (r:Rc) (A:Option Addr) (c:Nat) (d:Da) (out:Value) (whole:Bool) (L:List Fr) (a b:Vx) (n:Nat) (D base:Nat) (w:World)
  (hD:Blk w D 111 (s.ds p l r A c d out whole))(hA:Rd w 5 A 3 c (srow (base3 3)))(ho:w.ownsRow base 68 8 out L.length (L.flatMap Fr.cells))(hb:base≤w.heap.size)
  (ha:a.Seen)(hb':b.Seen)(ia:a.Inside)(ib:b.Inside)(hp:s.port.Port)
  (fa:(vmap a s.port).Fits)(fb:(vmap b s.port).Fits)(hn:s.width=n)(n0:1≤n)(n1:n≤64)(hs:s.soft=false)(hd:d.Ok)(hr:r.Ok)
  (hL:L.length+(wlist (vmap a s.port) (vmap b s.port) n s.dashed d r).length≤1000000000000):
  Calls Tryz.prog 64 #[.pointer (some ⟨D,0,none⟩),a.v,b.v] w fun e w'=>e=.returned (.tuple #[])∧
   (∃out',Blk w' D 111 (s.ds p l r A c (wnext s.dashed d (wcount (vmap a s.port) (vmap b s.port) n)) out' whole)∧w'.ownsRow base 68 8 out' (L++wlist (vmap a s.port) (vmap b s.port) n s.dashed d r).length ((L++wlist (vmap a s.port) (vmap b s.port) n s.dashed d r).flatMap Fr.cells))∧Kept base D 68 w w':=by
 have HTR:Hid (∀wz,Ext w wz→Calls Tryz.prog 88 #[a.v,b.v,.slice A 3 c] wz fun e w'=>e=.returned (.tuple #[a.v,b.v,.bool true])∧Ext wz w'):=Lib.hid (fun wz e=>trim_in a b A c wz (hA.ext e) ha hb' ia ib)
 have HPA:Hid (∀wz,Ext w wz→Calls Tryz.prog 87 #[.pointer (some ⟨D,0,none⟩),a.v] wz fun e w'=>e=.returned (vmap a s.port).v∧Ext wz w'):=Lib.hid (fun wz e=>place_any a s.port wz (hD.ext e) rfl rfl rfl rfl ha hp fa.x fa.y)
 have HPB:Hid (∀wz,Ext w wz→Calls Tryz.prog 87 #[.pointer (some ⟨D,0,none⟩),b.v] wz fun e w'=>e=.returned (vmap b s.port).v∧Ext wz w'):=Lib.hid (fun wz e=>place_any b s.port wz (hD.ext e) rfl rfl rfl rfl hb' hp fb.x fb.y)
 have HDL:=Lib.hid hD.lt
 have HD:=Lib.hid hD
 have HO:=Lib.hid ho
 have HAR:=Lib.hid hA
 have HF:=Lib.hid (And.intro fa (And.intro fb (And.intro hd hr)))
 have HB:=Lib.hid hb
 have HLL:=Lib.hid hL
 have HNS:=Lib.hid (And.intro hn (And.intro hs (And.intro n0 n1)))
 clear hD hA ho hb ha hb' ia ib hp fa fb hd hr hL hn n0 n1 hs
 generalize vmap a s.port=wa at*
 generalize vmap b s.port=wb at*
 have BA0:Hid (Blk ((w.alloc (.cells #[.int .i64 a.x,.int .i64 a.y,.int .i64 a.z,.int .i64 a.w,.int .i64 a.c0,.int .i64 a.c1,.int .i64 a.c2,.int .i64 a.c3] 149)).alloc (.cells #[.int .i64 b.x,.int .i64 b.y,.int .i64 b.z,.int .i64 b.w,.int .i64 b.c0,.int .i64 b.c1,.int .i64 b.c2,.int .i64 b.c3] 149)) w.heap.size 149 #[.int .i64 a.x,.int .i64 a.y,.int .i64 a.z,.int .i64 a.w,.int .i64 a.c0,.int .i64 a.c1,.int .i64 a.c2,.int .i64 a.c3]):=Lib.hid (by(repeat(first|with_reducible exact Hid.out (by assumption)|(with_reducible refine Blk.new' _ _ _ ?_;(simp;done))|with_reducible(first|refine Blk.alloc ?_ _|refine Blk.drew ?_|refine Blk.drewN ?_ _|refine Blk.later ?_ _)|(with_reducible refine Blk.far ?_ ?hp _;case hp=>first|(simp;done)|(simp;omega)|omega))))
 have BB0:Hid (Blk ((w.alloc (.cells #[.int .i64 a.x,.int .i64 a.y,.int .i64 a.z,.int .i64 a.w,.int .i64 a.c0,.int .i64 a.c1,.int .i64 a.c2,.int .i64 a.c3] 149)).alloc (.cells #[.int .i64 b.x,.int .i64 b.y,.int .i64 b.z,.int .i64 b.w,.int .i64 b.c0,.int .i64 b.c1,.int .i64 b.c2,.int .i64 b.c3] 149)) (w.heap.size+1) 149 #[.int .i64 b.x,.int .i64 b.y,.int .i64 b.z,.int .i64 b.w,.int .i64 b.c0,.int .i64 b.c1,.int .i64 b.c2,.int .i64 b.c3]):=Lib.hid (by(repeat(first|with_reducible exact Hid.out (by assumption)|(with_reducible refine Blk.new' _ _ _ ?_;(simp;done))|with_reducible(first|refine Blk.alloc ?_ _|refine Blk.drew ?_|refine Blk.drewN ?_ _|refine Blk.later ?_ _)|(with_reducible refine Blk.far ?_ ?hp _;case hp=>first|(simp;done)|(simp;omega)|omega))))
 have BD0:Hid (Blk ((w.alloc (.cells #[.int .i64 a.x,.int .i64 a.y,.int .i64 a.z,.int .i64 a.w,.int .i64 a.c0,.int .i64 a.c1,.int .i64 a.c2,.int .i64 a.c3] 149)).alloc (.cells #[.int .i64 b.x,.int .i64 b.y,.int .i64 b.z,.int .i64 b.w,.int .i64 b.c0,.int .i64 b.c1,.int .i64 b.c2,.int .i64 b.c3] 149)) D 111 (s.ds p l r A c d out whole)):=Lib.hid (by(repeat(first|with_reducible exact Hid.out (by assumption)|(with_reducible refine Blk.new' _ _ _ ?_;(simp;done))|with_reducible(first|refine Blk.alloc ?_ _|refine Blk.drew ?_|refine Blk.drewN ?_ _|refine Blk.later ?_ _)|(with_reducible refine Blk.far ?_ ?hp _;case hp=>first|(simp;done)|(simp;omega)|omega))))
 have BE0:Hid (Ext w ((w.alloc (.cells #[.int .i64 a.x,.int .i64 a.y,.int .i64 a.z,.int .i64 a.w,.int .i64 a.c0,.int .i64 a.c1,.int .i64 a.c2,.int .i64 a.c3] 149)).alloc (.cells #[.int .i64 b.x,.int .i64 b.y,.int .i64 b.z,.int .i64 b.w,.int .i64 b.c0,.int .i64 b.c1,.int .i64 b.c2,.int .i64 b.c3] 149))):=Lib.hid (by(repeat(first|with_reducible(first|exact eR_ _|assumption|refine eA_ ?_ _|refine eD_ ?_|refine eN_ ?_ _|refine eL_ ?_ _)|(with_reducible refine eS_ ?_ _ ?hp;case hp=>first|(simp;done)|(simp;omega)|omega))))
 have BS0:Hid (D<w.heap.size∧((w.alloc (.cells #[.int .i64 a.x,.int .i64 a.y,.int .i64 a.z,.int .i64 a.w,.int .i64 a.c0,.int .i64 a.c1,.int .i64 a.c2,.int .i64 a.c3] 149)).alloc (.cells #[.int .i64 b.x,.int .i64 b.y,.int .i64 b.z,.int .i64 b.w,.int .i64 b.c0,.int .i64 b.c1,.int .i64 b.c2,.int .i64 b.c3] 149)).heap.size=w.heap.size+2):=Lib.hid ⟨HDL.out,by simp⟩
 go_enter Tryz.func64,Tryz.ntmps64
 go_upto_region 1 with fail
 generalize((w.alloc (.cells #[.int .i64 a.x,.int .i64 a.y,.int .i64 a.z,.int .i64 a.w,.int .i64 a.c0,.int .i64 a.c1,.int .i64 a.c2,.int .i64 a.c3] 149)).alloc (.cells #[.int .i64 b.x,.int .i64 b.y,.int .i64 b.z,.int .i64 b.w,.int .i64 b.c0,.int .i64 b.c1,.int .i64 b.c2,.int .i64 b.c3] 149))=W0 at*
 go_cut [6,7,8]from 13 to 23 (fun s6 s7 s8 wx=> ∃P Q:Nat,s6=.pointer (some ⟨P,0,none⟩)∧s7=.pointer (some ⟨Q,0,none⟩)∧s8=.bool true∧Hid (Ln w wx D 111 (s.ds p l r A c d out whole) a b P Q))
 case first=>
  refine wp_region_fill RKd0 (fun st u x=>RF W0 [(0,14),(1,15),(2,16),(3,17),(4,18),(5,19),(6,20),(7,13),(8,21),(9,22),(10,23),(15,8)] (lnV a b D A c) [(11,6,13),(12,7,14)] lnT lnZ (lnR a b) st u x) (by kernel_rfl) (by kernel_rfl) ?_ ?_ ?_
  ·rintro x rfl
   exact RF.begin ((Ext.refl W0).drew)
  ·intro A' hA' st u x i o ho hst hdep hcl hR
   have hlen:A'.length=58:=by rw[hA'];rfl
   have h0:A'.getD 0 undef=.pointer (some ⟨D,0,none⟩):=by rw[hA'];rfl
   have h4:A'.getD 4 undef=.pointer (some ⟨w.heap.size,0,none⟩):=by rw[hA'];rfl
   have h5:A'.getD 5 undef=.pointer (some ⟨(w.heap.size+1),0,none⟩):=by rw[hA'];rfl
   clear hA'
   have hi:i<16:=(Array.getElem?_eq_some_iff.1 ho).1
   have HEX:=hR.ext
   rcases(by omega:i=0∨i=1∨i=2∨i=3∨i=4∨i=5∨i=6∨i=7∨i=8∨i=9∨i=10∨i=11∨i=12∨i=13∨i=14∨i=15)with rfl|rfl|rfl|rfl|rfl|rfl|rfl|rfl|rfl|rfl|rfl|rfl|rfl|rfl|rfl|rfl
   all_goals(obtain rfl:(⟨_,_,_,_,_,_⟩:Oper)=o:=Option.some.inj ho;refine wpOp_plain rfl rfl ?_)
   ·have q4:(⟨fillA A' RKd0 u,[]⟩:Act).eval (.tmp 4)=.pointer (some ⟨w.heap.size,0,none⟩):=(fillA_out (by omega) rfl).trans h4
    obtain⟨f0,f1,f2,f3,f4,f5,f6,f7⟩:=(BA0.out.ext HEX).c8
    refine wp_of_run (v:=.agg #[.int .i64 a.x,.int .i64 a.y,.int .i64 a.z,.int .i64 a.w,.int .i64 a.c0,.int .i64 a.c1,.int .i64 a.c2,.int .i64 a.c3]) (w':=x) ?run ⟨_,fillA_put rfl,hR.call (Ext.refl x) 0 14 (by decide) (by decide) rfl⟩
    case run=>simp only[Act.eval,Array.getD_eq_getD_getElem?]at q4;simp[execOp,q4,Act.eval,go_sem,f0,f1,f2,f3,f4,f5,f6,f7]
   ·have q5:(⟨fillA A' RKd0 u,[]⟩:Act).eval (.tmp 5)=.pointer (some ⟨(w.heap.size+1),0,none⟩):=(fillA_out (by omega) rfl).trans h5
    obtain⟨f0,f1,f2,f3,f4,f5,f6,f7⟩:=(BB0.out.ext HEX).c8
    refine wp_of_run (v:=.agg #[.int .i64 b.x,.int .i64 b.y,.int .i64 b.z,.int .i64 b.w,.int .i64 b.c0,.int .i64 b.c1,.int .i64 b.c2,.int .i64 b.c3]) (w':=x) ?run ⟨_,fillA_put rfl,hR.call (Ext.refl x) 1 15 (by decide) (by decide) rfl⟩
    case run=>simp only[Act.eval,Array.getD_eq_getD_getElem?]at q5;simp[execOp,q5,Act.eval,go_sem,f0,f1,f2,f3,f4,f5,f6,f7]
   ·have q0:(⟨fillA A' RKd0 u,[]⟩:Act).eval (.tmp 0)=.pointer (some ⟨D,0,none⟩):=(fillA_out (by omega) rfl).trans h0
    refine wp_of_run (v:=.pointer (some ⟨D,0,none⟩)) (w':=x) ?run ⟨_,fillA_put rfl,hR.call (Ext.refl x) 2 16 (by decide) (by decide) rfl⟩
    case run=>simp only[Act.eval,Array.getD_eq_getD_getElem?]at q0;simp[execOp,q0,Act.eval,go_sem]
   ·have q16:(⟨fillA A' RKd0 u,[]⟩:Act).eval (.tmp 16)=.pointer (some ⟨D,0,none⟩):=(fillA_in (by omega) rfl).trans (hR.val (2,16) (by decide) (hdep ⟨2,.data⟩ (by simp) rfl))
    refine wp_of_run (v:=.pointer (some ⟨D,0,none⟩)) (w':=x) ?run ⟨_,fillA_put rfl,hR.call (Ext.refl x) 3 17 (by decide) (by decide) rfl⟩
    case run=>simp only[Act.eval,Array.getD_eq_getD_getElem?]at q16;simp[execOp,q16,Act.eval,go_sem]
   ·have q17:(⟨fillA A' RKd0 u,[]⟩:Act).eval (.tmp 17)=.pointer (some ⟨D,0,none⟩):=(fillA_in (by omega) rfl).trans (hR.val (3,17) (by decide) (hdep ⟨3,.data⟩ (by simp) rfl))
    refine wp_of_run (v:=.pointer (some ⟨D,98,none⟩)) (w':=x) ?run ⟨_,fillA_put rfl,hR.call (Ext.refl x) 4 18 (by decide) (by decide) rfl⟩
    case run=>simp only[Act.eval,Array.getD_eq_getD_getElem?]at q17;simp[execOp,q17,Act.eval,go_sem]
   ·have q18:(⟨fillA A' RKd0 u,[]⟩:Act).eval (.tmp 18)=.pointer (some ⟨D,98,none⟩):=(fillA_in (by omega) rfl).trans (hR.val (4,18) (by decide) (hdep ⟨4,.data⟩ (by simp) rfl))
    have f0:x.cell? ⟨D,98,none⟩=some (.slice A 3 c):=(BD0.out.ext HEX).cell 98
    refine wp_of_run (v:=.slice A 3 c) (w':=x) ?run ⟨_,fillA_put rfl,hR.call (Ext.refl x) 5 19 (by decide) (by decide) rfl⟩
    case run=>simp only[Act.eval,Array.getD_eq_getD_getElem?]at q18;simp[execOp,q18,Act.eval,go_sem,f0]
   ·have q14:(⟨fillA A' RKd0 u,[]⟩:Act).eval (.tmp 14)=.agg #[.int .i64 a.x,.int .i64 a.y,.int .i64 a.z,.int .i64 a.w,.int .i64 a.c0,.int .i64 a.c1,.int .i64 a.c2,.int .i64 a.c3]:=(fillA_in (by omega) rfl).trans (hR.val (0,14) (by decide) (hdep ⟨0,.data⟩ (by simp) rfl))
    have q15:(⟨fillA A' RKd0 u,[]⟩:Act).eval (.tmp 15)=.agg #[.int .i64 b.x,.int .i64 b.y,.int .i64 b.z,.int .i64 b.w,.int .i64 b.c0,.int .i64 b.c1,.int .i64 b.c2,.int .i64 b.c3]:=(fillA_in (by omega) rfl).trans (hR.val (1,15) (by decide) (hdep ⟨1,.data⟩ (by simp) rfl))
    have q19:(⟨fillA A' RKd0 u,[]⟩:Act).eval (.tmp 19)=.slice A 3 c:=(fillA_in (by omega) rfl).trans (hR.val (5,19) (by decide) (hdep ⟨5,.data⟩ (by simp) rfl))
    refine wp_call rfl Tryz.func88 (by kernel_rfl) rfl (R:=fun e w'=>e=.returned (.tuple #[a.v,b.v,.bool true])∧Ext x w') (by simp only[List.map_toArray,List.map_cons,List.map_nil,q14,q15,q19];exact(HTR.out x (BE0.out.trans HEX))) ?_
    rintro e w' ⟨rfl,hE⟩
    exact⟨_,rfl,_,fillA_put rfl,hR.call hE 6 20 (by decide) (by decide) rfl⟩
   ·have q20:(⟨fillA A' RKd0 u,[]⟩:Act).eval (.tmp 20)=.tuple #[a.v,b.v,.bool true]:=(fillA_in (by omega) rfl).trans (hR.val (6,20) (by decide) (hdep ⟨6,.data⟩ (by simp) rfl))
    refine wp_of_run (v:=.tuple #[a.v,b.v,.bool true]) (w':=x) ?run ⟨_,fillA_put rfl,hR.call (Ext.refl x) 7 13 (by decide) (by decide) rfl⟩
    case run=>simp only[Act.eval,Array.getD_eq_getD_getElem?]at q20;simp[execOp,q20,Act.eval,go_sem]
   ·have q13:(⟨fillA A' RKd0 u,[]⟩:Act).eval (.tmp 13)=.tuple #[a.v,b.v,.bool true]:=(fillA_in (by omega) rfl).trans (hR.val (7,13) (by decide) (hdep ⟨7,.data⟩ (by simp) rfl))
    refine wp_of_run (v:=a.v) (w':=x) ?run ⟨_,fillA_put rfl,hR.call (Ext.refl x) 8 21 (by decide) (by decide) rfl⟩
    case run=>simp only[Act.eval,Array.getD_eq_getD_getElem?]at q13;simp[execOp,q13,Act.eval,go_sem]
   ·have q13:(⟨fillA A' RKd0 u,[]⟩:Act).eval (.tmp 13)=.tuple #[a.v,b.v,.bool true]:=(fillA_in (by omega) rfl).trans (hR.val (7,13) (by decide) (hdep ⟨7,.data⟩ (by simp) rfl))
    refine wp_of_run (v:=b.v) (w':=x) ?run ⟨_,fillA_put rfl,hR.call (Ext.refl x) 9 22 (by decide) (by decide) rfl⟩
    case run=>simp only[Act.eval,Array.getD_eq_getD_getElem?]at q13;simp[execOp,q13,Act.eval,go_sem]
   ·have q13:(⟨fillA A' RKd0 u,[]⟩:Act).eval (.tmp 13)=.tuple #[a.v,b.v,.bool true]:=(fillA_in (by omega) rfl).trans (hR.val (7,13) (by decide) (hdep ⟨7,.data⟩ (by simp) rfl))
    refine wp_of_run (v:=.bool true) (w':=x) ?run ⟨_,fillA_put rfl,hR.call (Ext.refl x) 10 23 (by decide) (by decide) rfl⟩
    case run=>simp only[Act.eval,Array.getD_eq_getD_getElem?]at q13;simp[execOp,q13,Act.eval,go_sem]
   ·have n13:st 13=false:=st_no (fun h=>hcl 13 _ rfl h ⟨11,.data⟩ (by simp) rfl) hst
    refine wp_of_run (v:=.pointer (some ⟨x.heap.size,0,none⟩)) (w':=x.alloc (.cells (lnZ 6) 149)) ?run ⟨_,fillA_put rfl,hR.alloc 11 6 13 (by decide) (by decide) n13 rfl rfl⟩
    case run=>simp[execOp,Act.eval,go_sem,lnZ]
   ·have n14:st 14=false:=st_no (fun h=>hcl 14 _ rfl h ⟨12,.data⟩ (by simp) rfl) hst
    refine wp_of_run (v:=.pointer (some ⟨x.heap.size,0,none⟩)) (w':=x.alloc (.cells (lnZ 7) 149)) ?run ⟨_,fillA_put rfl,hR.alloc 12 7 14 (by decide) (by decide) n14 rfl rfl⟩
    case run=>simp[execOp,Act.eval,go_sem,lnZ]
   ·have q21:(⟨fillA A' RKd0 u,[]⟩:Act).eval (.tmp 21)=a.v:=(fillA_in (by omega) rfl).trans (hR.val (8,21) (by decide) (hdep ⟨8,.data⟩ (by simp) rfl))
    have hi_:st 11=true:=hdep ⟨11,.data⟩ (by simp) rfl
    obtain⟨P,p1,p2,p3⟩:=hR.box (11,6,13) (by decide) hi_
    have hz:(if st 13=true then((lnR a b)) 6 else(lnZ) 6)=(lnZ) 6:=if_neg (by rw[hst];simp)
    rw[hz]at p3
    have qp:(⟨fillA A' RKd0 u,[]⟩:Act).eval (.tmp 6)=.pointer (some ⟨P,0,none⟩):=(fillA_in (by omega) rfl).trans p1
    refine wp_store_blk (.tmp 6) (.tmp 21) 149 rfl qp _ q21 p3 (by kernel_rfl) (vx_one a) rfl ?_
    intro w' hB hK
    exact⟨_,rfl,hR.store 11 6 13 (by decide) (by decide) (by decide) hi_ p1 hB hK⟩
   ·have q22:(⟨fillA A' RKd0 u,[]⟩:Act).eval (.tmp 22)=b.v:=(fillA_in (by omega) rfl).trans (hR.val (9,22) (by decide) (hdep ⟨9,.data⟩ (by simp) rfl))
    have hi_:st 12=true:=hdep ⟨12,.data⟩ (by simp) rfl
    obtain⟨P,p1,p2,p3⟩:=hR.box (12,7,14) (by decide) hi_
    have hz:(if st 14=true then((lnR a b)) 7 else(lnZ) 7)=(lnZ) 7:=if_neg (by rw[hst];simp)
    rw[hz]at p3
    have qp:(⟨fillA A' RKd0 u,[]⟩:Act).eval (.tmp 7)=.pointer (some ⟨P,0,none⟩):=(fillA_in (by omega) rfl).trans p1
    refine wp_store_blk (.tmp 7) (.tmp 22) 149 rfl qp _ q22 p3 (by kernel_rfl) (vx_one b) rfl ?_
    intro w' hB hK
    exact⟨_,rfl,hR.store 12 7 14 (by decide) (by decide) (by decide) hi_ p1 hB hK⟩
   ·have q23:(⟨fillA A' RKd0 u,[]⟩:Act).eval (.tmp 23)=.bool true:=(fillA_in (by omega) rfl).trans (hR.val (10,23) (by decide) (hdep ⟨10,.data⟩ (by simp) rfl))
    refine wp_of_run (v:=.bool true) (w':=x) ?run ⟨_,fillA_put rfl,hR.call (Ext.refl x) 15 8 (by decide) (by decide) rfl⟩
    case run=>simp only[Act.eval,Array.getD_eq_getD_getElem?]at q23;simp[execOp,q23,Act.eval,go_sem]
  ·intro st u x hall hR
   obtain⟨P6,p6,l6,b6⟩:=hR.box (11,6,13) (by decide) (hall 11 (by decide))
   have z6:(if st 13=true then((lnR a b)) 6 else(lnZ) 6)=((lnR a b)) 6:=if_pos (hall 13 (by decide))
   rw[z6]at b6
   have e6:u 6=.pointer (some ⟨P6,0,none⟩):=p6
   obtain⟨P7,p7,l7,b7⟩:=hR.box (12,7,14) (by decide) (hall 12 (by decide))
   have z7:(if st 14=true then((lnR a b)) 7 else(lnZ) 7)=((lnR a b)) 7:=if_pos (hall 14 (by decide))
   rw[z7]at b7
   have e7:u 7=.pointer (some ⟨P7,0,none⟩):=p7
   have ne6_7:P6≠P7:=fun h=>hR.ne (11,6,13) (by decide) (12,7,14) (by decide) (by decide) (hall 11 (by decide)) (hall 12 (by decide)) (p6.trans (h▸p7.symm))
   have e8:u 8=.bool true:=hR.val (15,8) (by decide) (hall 15 (by decide))
   have hxE:=hR.ext
   clear hR hall
   simp[fillA,fillL,RKd0]
   go_wp2_with fail
   go_meet
   have hbe:=BE0.out
   have hbs:=BS0.out
   exact⟨P6,P7,rfl,rfl,rfl,Lib.hid ⟨BD0.out.ext hxE,b6,b7,ne6_7,⟨by omega,by omega,by omega,by omega⟩,hbe.trans hxE⟩⟩
 case rest=>
  obtain⟨P,Q,rfl,rfl,rfl,HL1⟩:=hcut
  clear BA0 BB0 BD0 BE0 BS0 HTR
  generalize wc=W1 at*
  go_upto_region 3 with fail
  go_cut [9,10]from 26 to 31 (fun s9 s10 wx=> ∃M N:Nat,s9=.pointer (some ⟨M,0,none⟩)∧s10=.pointer (some ⟨N,0,none⟩)∧Hid (Wn w wx D 111 (s.ds p l r A c d out whole) wa wb M N))
  case first=>
   refine wp_region_fill [26,27,28,29,30,31,9,10] (fun st u x=>RF W1 [(0,26),(1,27),(2,28),(3,29),(4,30),(5,31)] (lwV a b wa wb D) [(6,9,8),(7,10,9)] lwT lwZ (lwR wa wb) st u x) (by kernel_rfl) (by kernel_rfl) ?_ ?_ ?_
   ·rintro x rfl
    exact RF.begin ((Ext.refl W1).drew)
   ·intro A' hA' st u x i o ho hst hdep hcl hR
    have hlen:A'.length=58:=by rw[hA'];rfl
    have h0:A'.getD 0 undef=.pointer (some ⟨D,0,none⟩):=by rw[hA'];rfl
    have h6:A'.getD 6 undef=.pointer (some ⟨P,0,none⟩):=by rw[hA'];rfl
    have h7:A'.getD 7 undef=.pointer (some ⟨Q,0,none⟩):=by rw[hA'];rfl
    clear hA'
    have hi:i<10:=(Array.getElem?_eq_some_iff.1 ho).1
    have HEX:=hR.ext
    rcases(by omega:i=0∨i=1∨i=2∨i=3∨i=4∨i=5∨i=6∨i=7∨i=8∨i=9)with rfl|rfl|rfl|rfl|rfl|rfl|rfl|rfl|rfl|rfl
    all_goals(obtain rfl:(⟨_,_,_,_,_,_⟩:Oper)=o:=Option.some.inj ho;refine wpOp_plain rfl rfl ?_)
    ·have q0:(⟨fillA A' [26,27,28,29,30,31,9,10] u,[]⟩:Act).eval (.tmp 0)=.pointer (some ⟨D,0,none⟩):=(fillA_out (by omega) rfl).trans h0
     refine wp_of_run (v:=.pointer (some ⟨D,0,none⟩)) (w':=x) ?run ⟨_,fillA_put rfl,hR.call (Ext.refl x) 0 26 (by decide) (by decide) rfl⟩
     case run=>simp only[Act.eval,Array.getD_eq_getD_getElem?]at q0;simp[execOp,q0,Act.eval,go_sem]
    ·have q6:(⟨fillA A' [26,27,28,29,30,31,9,10] u,[]⟩:Act).eval (.tmp 6)=.pointer (some ⟨P,0,none⟩):=(fillA_out (by omega) rfl).trans h6
     obtain⟨f0,f1,f2,f3,f4,f5,f6,f7⟩:=(HL1.out.p.ext HEX).c8
     refine wp_of_run (v:=.agg #[.int .i64 a.x,.int .i64 a.y,.int .i64 a.z,.int .i64 a.w,.int .i64 a.c0,.int .i64 a.c1,.int .i64 a.c2,.int .i64 a.c3]) (w':=x) ?run ⟨_,fillA_put rfl,hR.call (Ext.refl x) 1 27 (by decide) (by decide) rfl⟩
     case run=>simp only[Act.eval,Array.getD_eq_getD_getElem?]at q6;simp[execOp,q6,Act.eval,go_sem,f0,f1,f2,f3,f4,f5,f6,f7]
    ·have q26:(⟨fillA A' [26,27,28,29,30,31,9,10] u,[]⟩:Act).eval (.tmp 26)=.pointer (some ⟨D,0,none⟩):=(fillA_in (by omega) rfl).trans (hR.val (0,26) (by decide) (hdep ⟨0,.data⟩ (by simp) rfl))
     have q27:(⟨fillA A' [26,27,28,29,30,31,9,10] u,[]⟩:Act).eval (.tmp 27)=.agg #[.int .i64 a.x,.int .i64 a.y,.int .i64 a.z,.int .i64 a.w,.int .i64 a.c0,.int .i64 a.c1,.int .i64 a.c2,.int .i64 a.c3]:=(fillA_in (by omega) rfl).trans (hR.val (1,27) (by decide) (hdep ⟨1,.data⟩ (by simp) rfl))
     refine wp_call rfl Tryz.func87 (by kernel_rfl) rfl (R:=fun e w'=>e=.returned (wa.v)∧Ext x w') (by simp only[List.map_toArray,List.map_cons,List.map_nil,q26,q27];exact(HPA.out x (HL1.out.e.trans HEX))) ?_
     rintro e w' ⟨rfl,hE⟩
     exact⟨_,rfl,_,fillA_put rfl,hR.call hE 2 28 (by decide) (by decide) rfl⟩
    ·have q0:(⟨fillA A' [26,27,28,29,30,31,9,10] u,[]⟩:Act).eval (.tmp 0)=.pointer (some ⟨D,0,none⟩):=(fillA_out (by omega) rfl).trans h0
     refine wp_of_run (v:=.pointer (some ⟨D,0,none⟩)) (w':=x) ?run ⟨_,fillA_put rfl,hR.call (Ext.refl x) 3 29 (by decide) (by decide) rfl⟩
     case run=>simp only[Act.eval,Array.getD_eq_getD_getElem?]at q0;simp[execOp,q0,Act.eval,go_sem]
    ·have q7:(⟨fillA A' [26,27,28,29,30,31,9,10] u,[]⟩:Act).eval (.tmp 7)=.pointer (some ⟨Q,0,none⟩):=(fillA_out (by omega) rfl).trans h7
     obtain⟨f0,f1,f2,f3,f4,f5,f6,f7⟩:=(HL1.out.q.ext HEX).c8
     refine wp_of_run (v:=.agg #[.int .i64 b.x,.int .i64 b.y,.int .i64 b.z,.int .i64 b.w,.int .i64 b.c0,.int .i64 b.c1,.int .i64 b.c2,.int .i64 b.c3]) (w':=x) ?run ⟨_,fillA_put rfl,hR.call (Ext.refl x) 4 30 (by decide) (by decide) rfl⟩
     case run=>simp only[Act.eval,Array.getD_eq_getD_getElem?]at q7;simp[execOp,q7,Act.eval,go_sem,f0,f1,f2,f3,f4,f5,f6,f7]
    ·have q29:(⟨fillA A' [26,27,28,29,30,31,9,10] u,[]⟩:Act).eval (.tmp 29)=.pointer (some ⟨D,0,none⟩):=(fillA_in (by omega) rfl).trans (hR.val (3,29) (by decide) (hdep ⟨3,.data⟩ (by simp) rfl))
     have q30:(⟨fillA A' [26,27,28,29,30,31,9,10] u,[]⟩:Act).eval (.tmp 30)=.agg #[.int .i64 b.x,.int .i64 b.y,.int .i64 b.z,.int .i64 b.w,.int .i64 b.c0,.int .i64 b.c1,.int .i64 b.c2,.int .i64 b.c3]:=(fillA_in (by omega) rfl).trans (hR.val (4,30) (by decide) (hdep ⟨4,.data⟩ (by simp) rfl))
     refine wp_call rfl Tryz.func87 (by kernel_rfl) rfl (R:=fun e w'=>e=.returned (wb.v)∧Ext x w') (by simp only[List.map_toArray,List.map_cons,List.map_nil,q29,q30];exact(HPB.out x (HL1.out.e.trans HEX))) ?_
     rintro e w' ⟨rfl,hE⟩
     exact⟨_,rfl,_,fillA_put rfl,hR.call hE 5 31 (by decide) (by decide) rfl⟩
    ·have n8:st 8=false:=st_no (fun h=>hcl 8 _ rfl h ⟨6,.data⟩ (by simp) rfl) hst
     refine wp_of_run (v:=.pointer (some ⟨x.heap.size,0,none⟩)) (w':=x.alloc (.cells (lwZ 9) 177)) ?run ⟨_,fillA_put rfl,hR.alloc 6 9 8 (by decide) (by decide) n8 rfl rfl⟩
     case run=>simp[execOp,Act.eval,go_sem,lwZ]
    ·have n9:st 9=false:=st_no (fun h=>hcl 9 _ rfl h ⟨7,.data⟩ (by simp) rfl) hst
     refine wp_of_run (v:=.pointer (some ⟨x.heap.size,0,none⟩)) (w':=x.alloc (.cells (lwZ 10) 177)) ?run ⟨_,fillA_put rfl,hR.alloc 7 10 9 (by decide) (by decide) n9 rfl rfl⟩
     case run=>simp[execOp,Act.eval,go_sem,lwZ]
    ·have q28:(⟨fillA A' [26,27,28,29,30,31,9,10] u,[]⟩:Act).eval (.tmp 28)=wa.v:=(fillA_in (by omega) rfl).trans (hR.val (2,28) (by decide) (hdep ⟨2,.data⟩ (by simp) rfl))
     have hi_:st 6=true:=hdep ⟨6,.data⟩ (by simp) rfl
     obtain⟨P,p1,p2,p3⟩:=hR.box (6,9,8) (by decide) hi_
     have hz:(if st 8=true then((lwR wa wb)) 9 else(lwZ) 9)=(lwZ) 9:=if_neg (by rw[hst];simp)
     rw[hz]at p3
     have qp:(⟨fillA A' [26,27,28,29,30,31,9,10] u,[]⟩:Act).eval (.tmp 9)=.pointer (some ⟨P,0,none⟩):=(fillA_in (by omega) rfl).trans p1
     refine wp_store_blk (.tmp 9) (.tmp 28) 177 rfl qp _ q28 p3 (by kernel_rfl) (wv_one wa) rfl ?_
     intro w' hB hK
     exact⟨_,rfl,hR.store 6 9 8 (by decide) (by decide) (by decide) hi_ p1 hB hK⟩
    ·have q31:(⟨fillA A' [26,27,28,29,30,31,9,10] u,[]⟩:Act).eval (.tmp 31)=wb.v:=(fillA_in (by omega) rfl).trans (hR.val (5,31) (by decide) (hdep ⟨5,.data⟩ (by simp) rfl))
     have hi_:st 7=true:=hdep ⟨7,.data⟩ (by simp) rfl
     obtain⟨P,p1,p2,p3⟩:=hR.box (7,10,9) (by decide) hi_
     have hz:(if st 9=true then((lwR wa wb)) 10 else(lwZ) 10)=(lwZ) 10:=if_neg (by rw[hst];simp)
     rw[hz]at p3
     have qp:(⟨fillA A' [26,27,28,29,30,31,9,10] u,[]⟩:Act).eval (.tmp 10)=.pointer (some ⟨P,0,none⟩):=(fillA_in (by omega) rfl).trans p1
     refine wp_store_blk (.tmp 10) (.tmp 31) 177 rfl qp _ q31 p3 (by kernel_rfl) (wv_one wb) rfl ?_
     intro w' hB hK
     exact⟨_,rfl,hR.store 7 10 9 (by decide) (by decide) (by decide) hi_ p1 hB hK⟩
   ·intro st u x hall hR
    obtain⟨P9,p9,l9,b9⟩:=hR.box (6,9,8) (by decide) (hall 6 (by decide))
    have z9:(if st 8=true then((lwR wa wb)) 9 else(lwZ) 9)=((lwR wa wb)) 9:=if_pos (hall 8 (by decide))
    rw[z9]at b9
    have e9:u 9=.pointer (some ⟨P9,0,none⟩):=p9
    obtain⟨P10,p10,l10,b10⟩:=hR.box (7,10,9) (by decide) (hall 7 (by decide))
    have z10:(if st 9=true then((lwR wa wb)) 10 else(lwZ) 10)=((lwR wa wb)) 10:=if_pos (hall 9 (by decide))
    rw[z10]at b10
    have e10:u 10=.pointer (some ⟨P10,0,none⟩):=p10
    have ne9_10:P9≠P10:=fun h=>hR.ne (6,9,8) (by decide) (7,10,9) (by decide) (by decide) (hall 6 (by decide)) (hall 7 (by decide)) (p9.trans (h▸p10.symm))
    have hxE:=hR.ext
    clear hR hall
    simp[fillA,fillL,RKd0]
    go_wp2_with fail
    go_meet
    have hl:=HL1.out.e.size
    have hdl:=HDL.out
    exact⟨P9,P10,rfl,rfl,Lib.hid ⟨HL1.out.d.ext hxE,b9,b10,ne9_10,⟨by omega,by omega,by omega,by omega⟩,HL1.out.e.trans hxE⟩⟩
  case rest=>
   obtain⟨M,N,rfl,rfl,HL2⟩:=hcut
   clear HL1 HPA HPB
   generalize wc=W2 at*
   have HDS:Hid (∀w',Ext W2 w'→(w'.cell? ⟨D,62,none⟩=some (.int .i64 n)∧w'.cell? ⟨D,63,none⟩=some (.bool false)∧w'.cell? ⟨D,64,none⟩=some (.bool s.dashed)∧w'.cell? ⟨D,65,none⟩=some (.int .i64 s.dash.bits)∧w'.cell? ⟨D,66,none⟩=some (.int .i64 s.dash.every)∧w'.cell? ⟨D,67,none⟩=some (.int .i64 s.dash.done)∧w'.cell? ⟨D,68,none⟩=some (.int .i64 s.size)∧w'.cell? ⟨D,69,none⟩=some (.int .i64 s.kind)∧w'.cell? ⟨D,70,none⟩=some (.int .i64 s.front)∧w'.cell? ⟨D,71,none⟩=some (.int .i64 s.back)∧w'.cell? ⟨D,72,none⟩=some (.bool s.ccw)∧w'.cell? ⟨D,73,none⟩=some (.int .i64 s.cull)∧w'.cell? ⟨D,74,none⟩=some (.bool s.offset)∧w'.cell? ⟨D,75,none⟩=some (.int .i64 s.factor)∧w'.cell? ⟨D,76,none⟩=some (.int .i64 s.units))∧(w'.cell? ⟨D,99,none⟩=some (.int .i64 d.bits)∧w'.cell? ⟨D,100,none⟩=some (.int .i64 d.every)∧w'.cell? ⟨D,101,none⟩=some (.int .i64 d.done))∧(w'.cell? ⟨D,94,none⟩=some (.int .i64 r.x0)∧w'.cell? ⟨D,95,none⟩=some (.int .i64 r.y0)∧w'.cell? ⟨D,96,none⟩=some (.int .i64 r.x1)∧w'.cell? ⟨D,97,none⟩=some (.int .i64 r.y1))):=Lib.hid (fun w' e=>by
    have h:=HL2.out.d.ext e
    obtain⟨hn,hs, -, -⟩:=HNS.out
    have h62:w'.cell? ⟨D,62,none⟩=some (.int .i64 n):=by rw[←hn];exact h.cell 62
    have h63:w'.cell? ⟨D,63,none⟩=some (.bool false):=by rw[←hs];exact h.cell 63
    refine⟨⟨h62,h63,?_⟩,?_,?_⟩
    ·exact⟨h.cell 64,h.cell 65,h.cell 66,h.cell 67,h.cell 68,h.cell 69,h.cell 70,h.cell 71,h.cell 72,h.cell 73,h.cell 74,h.cell 75,h.cell 76⟩
    ·exact⟨h.cell 99,h.cell 100,h.cell 101⟩
    ·exact⟨h.cell 94,h.cell 95,h.cell 96,h.cell 97⟩)
   have HFL:Hid (∀wz,Calls Tryz.prog 89 #[wa.v,wb.v,.agg #[.int .i64 n,.bool false,.bool s.dashed,.int .i64 s.dash.bits,.int .i64 s.dash.every,.int .i64 s.dash.done,.int .i64 s.size,.int .i64 s.kind,.int .i64 s.front,.int .i64 s.back,.bool s.ccw,.int .i64 s.cull,.bool s.offset,.int .i64 s.factor,.int .i64 s.units],d.v,r.v] wz fun e w'=> ∃v,e=.returned (.tuple #[v,(wnext s.dashed d (wcount wa wb n)).v])∧w'.ownsRow wz.heap.size 68 8 v (wlist wa wb n s.dashed d r).length ((wlist wa wb n s.dashed d r).flatMap Fr.cells)∧Ext wz w'):=
    Lib.hid (fun wz=>fline_look wa wb n s.dashed d r _ wz HF.out.1 HF.out.2.1 HF.out.2.2.1 HF.out.2.2.2 HNS.out.2.2.1 HNS.out.2.2.2 rfl rfl rfl)
   have HSS:Hid (∀w',Ext W2 w'→(w'.cell? ⟨M,0,none⟩=some (.int .i64 wa.x)∧w'.cell? ⟨M,1,none⟩=some (.int .i64 wa.y)∧w'.cell? ⟨M,2,none⟩=some (.int .i64 wa.z)∧w'.cell? ⟨M,3,none⟩=some (.int .i64 wa.c0)∧w'.cell? ⟨M,4,none⟩=some (.int .i64 wa.c1)∧w'.cell? ⟨M,5,none⟩=some (.int .i64 wa.c2)∧w'.cell? ⟨M,6,none⟩=some (.int .i64 wa.c3))∧(w'.cell? ⟨N,0,none⟩=some (.int .i64 wb.x)∧w'.cell? ⟨N,1,none⟩=some (.int .i64 wb.y)∧w'.cell? ⟨N,2,none⟩=some (.int .i64 wb.z)∧w'.cell? ⟨N,3,none⟩=some (.int .i64 wb.c0)∧w'.cell? ⟨N,4,none⟩=some (.int .i64 wb.c1)∧w'.cell? ⟨N,5,none⟩=some (.int .i64 wb.c2)∧w'.cell? ⟨N,6,none⟩=some (.int .i64 wb.c3))∧(w'.cell? ⟨D,62,none⟩=some (.int .i64 n)∧w'.cell? ⟨D,63,none⟩=some (.bool false)∧w'.cell? ⟨D,64,none⟩=some (.bool s.dashed)∧w'.cell? ⟨D,65,none⟩=some (.int .i64 s.dash.bits)∧w'.cell? ⟨D,66,none⟩=some (.int .i64 s.dash.every)∧w'.cell? ⟨D,67,none⟩=some (.int .i64 s.dash.done)∧w'.cell? ⟨D,68,none⟩=some (.int .i64 s.size)∧w'.cell? ⟨D,69,none⟩=some (.int .i64 s.kind)∧w'.cell? ⟨D,70,none⟩=some (.int .i64 s.front)∧w'.cell? ⟨D,71,none⟩=some (.int .i64 s.back)∧w'.cell? ⟨D,72,none⟩=some (.bool s.ccw)∧w'.cell? ⟨D,73,none⟩=some (.int .i64 s.cull)∧w'.cell? ⟨D,74,none⟩=some (.bool s.offset)∧w'.cell? ⟨D,75,none⟩=some (.int .i64 s.factor)∧w'.cell? ⟨D,76,none⟩=some (.int .i64 s.units))∧(w'.cell? ⟨D,99,none⟩=some (.int .i64 d.bits)∧w'.cell? ⟨D,100,none⟩=some (.int .i64 d.every)∧w'.cell? ⟨D,101,none⟩=some (.int .i64 d.done))∧(w'.cell? ⟨D,94,none⟩=some (.int .i64 r.x0)∧w'.cell? ⟨D,95,none⟩=some (.int .i64 r.y0)∧w'.cell? ⟨D,96,none⟩=some (.int .i64 r.x1)∧w'.cell? ⟨D,97,none⟩=some (.int .i64 r.y1))):=Lib.hid (fun w' e=>⟨(HL2.out.p.ext e).c7,(HL2.out.q.ext e).c7,HDS.out w' e⟩)
   generalize hq:wnext s.dashed d (wcount wa wb n)=q at*
   have HQ:=Lib.hid hq
   generalize hLW:wlist wa wb n s.dashed d r=LW at*
   have HLW:=Lib.hid hLW
   clear hq hLW HDS HF
   go_upto_region 4 with fail
   go_cut [11,12]from 32 to 50 (fun s11 s12 wx=> ∃(v:Value) (G:Nat),s11=v∧s12=.pointer (some ⟨G,0,none⟩)∧Hid (Fn w wx D 111 (s.ds p l r A c d out whole) q LW LW.length v G))
   case first=>
    go_region_held3 (fun w'=>(w'.cell? ⟨M,0,none⟩=some (.int .i64 wa.x)∧w'.cell? ⟨M,1,none⟩=some (.int .i64 wa.y)∧w'.cell? ⟨M,2,none⟩=some (.int .i64 wa.z)∧w'.cell? ⟨M,3,none⟩=some (.int .i64 wa.c0)∧w'.cell? ⟨M,4,none⟩=some (.int .i64 wa.c1)∧w'.cell? ⟨M,5,none⟩=some (.int .i64 wa.c2)∧w'.cell? ⟨M,6,none⟩=some (.int .i64 wa.c3))∧(w'.cell? ⟨N,0,none⟩=some (.int .i64 wb.x)∧w'.cell? ⟨N,1,none⟩=some (.int .i64 wb.y)∧w'.cell? ⟨N,2,none⟩=some (.int .i64 wb.z)∧w'.cell? ⟨N,3,none⟩=some (.int .i64 wb.c0)∧w'.cell? ⟨N,4,none⟩=some (.int .i64 wb.c1)∧w'.cell? ⟨N,5,none⟩=some (.int .i64 wb.c2)∧w'.cell? ⟨N,6,none⟩=some (.int .i64 wb.c3))∧(w'.cell? ⟨D,62,none⟩=some (.int .i64 n)∧w'.cell? ⟨D,63,none⟩=some (.bool false)∧w'.cell? ⟨D,64,none⟩=some (.bool s.dashed)∧w'.cell? ⟨D,65,none⟩=some (.int .i64 s.dash.bits)∧w'.cell? ⟨D,66,none⟩=some (.int .i64 s.dash.every)∧w'.cell? ⟨D,67,none⟩=some (.int .i64 s.dash.done)∧w'.cell? ⟨D,68,none⟩=some (.int .i64 s.size)∧w'.cell? ⟨D,69,none⟩=some (.int .i64 s.kind)∧w'.cell? ⟨D,70,none⟩=some (.int .i64 s.front)∧w'.cell? ⟨D,71,none⟩=some (.int .i64 s.back)∧w'.cell? ⟨D,72,none⟩=some (.bool s.ccw)∧w'.cell? ⟨D,73,none⟩=some (.int .i64 s.cull)∧w'.cell? ⟨D,74,none⟩=some (.bool s.offset)∧w'.cell? ⟨D,75,none⟩=some (.int .i64 s.factor)∧w'.cell? ⟨D,76,none⟩=some (.int .i64 s.units))∧(w'.cell? ⟨D,99,none⟩=some (.int .i64 d.bits)∧w'.cell? ⟨D,100,none⟩=some (.int .i64 d.every)∧w'.cell? ⟨D,101,none⟩=some (.int .i64 d.done))∧(w'.cell? ⟨D,94,none⟩=some (.int .i64 r.x0)∧w'.cell? ⟨D,95,none⟩=some (.int .i64 r.y0)∧w'.cell? ⟨D,96,none⟩=some (.int .i64 r.x1)∧w'.cell? ⟨D,97,none⟩=some (.int .i64 r.y1)))
     (exact HSS.out _ (by(repeat(first|with_reducible(first|exact eR_ _|assumption|refine eA_ ?_ _|refine eD_ ?_|refine eN_ ?_ _|refine eL_ ?_ _)|(with_reducible refine eS_ ?_ _ ?hp;case hp=>first|(simp;done)|(simp;omega)|omega)))))
     (first
      |(go_at_call 89;refine(HFL.out _).mono ?_;rintro e w1 ⟨v,rfl,ho,hE⟩;obtain⟨y1,rfl⟩:=Later.mk' hE;clear hE))
    all_goals
     have hle:=y1.le
     simp at hle
     go_wp2_with fail
     go_meet
    ·have hE2:Ext W2 y1.w:=by(repeat(first|with_reducible(first|exact eR_ _|assumption|refine eA_ ?_ _|refine eD_ ?_|refine eN_ ?_ _|refine eL_ ?_ _)|(with_reducible refine eS_ ?_ _ ?hp;case hp=>first|(simp;done)|(simp;omega)|omega)))
     refine⟨v,_,rfl,rfl,Lib.hid ⟨(HL2.out.d.ext hE2).alloc _,Blk.new _ _ _,⟨_,ownsRow_ext ho ((Ext.refl _).alloc _)⟩,⟨?_,?_⟩,(HL2.out.e.trans hE2).alloc _⟩⟩
     ·have:=(HL2.out.d.ext hE2).lt;omega
     ·have:=(HL2.out.e.trans hE2).size;omega
    ·have hB:=(Blk.new W2 44 #[.int .i64 0,.int .i64 0,.int .i64 0]).drew.later y1
     have hD2:=(HL2.out.d.alloc (.cells #[.int .i64 0,.int .i64 0,.int .i64 0] 44)).drew.later y1
     have hlt:=HL2.out.d.lt
     have hes:=HL2.out.e.size
     have kk:Kp (·≠W2.heap.size) y1.w (((y1.w.setCell ⟨W2.heap.size,0,none⟩ (.int .i64 q.bits)).setCell ⟨W2.heap.size,1,none⟩ (.int .i64 q.every)).setCell ⟨W2.heap.size,2,none⟩ (.int .i64 q.done)):=
      (((Kp.refl _ _).setCell (p:=⟨W2.heap.size,0,none⟩) _ (fun h=>h rfl)).setCell (p:=⟨W2.heap.size,1,none⟩) _ (fun h=>h rfl)).setCell (p:=⟨W2.heap.size,2,none⟩) _ (fun h=>h rfl)
     have hE1:Ext w y1.w:=(HL2.out.e.alloc _).drew.trans (y1.ext)
     refine⟨v,_,rfl,rfl,Lib.hid ⟨hD2.kp kk (by omega),((hB.set_ 0 _).set_ 1 _).set_ 2 _,⟨_,own_kp ho kk (fun g hg h=>own_ne_blk ho hB (by decide) (by rw[hg,h]))⟩,⟨hlt,hes⟩,kk.ext hE1 (fun k hk=>by omega)⟩⟩
   case rest=>
    obtain⟨v,G,rfl,rfl,HFN⟩:=hcut
    clear HL2 HFL HSS
    generalize wc=W3 at*
    obtain⟨bb,ho⟩:=HFN.out.o
    have HOB:=Lib.hid ho
    obtain⟨sa,sc,rfl,hrd⟩:=ownsRow_rd ho
    have HRD:=Lib.hid hrd
    clear ho hrd
    have kk:Kp (·≠D) W3 (((W3.setCell ⟨D,99,none⟩ (.int .i64 q.bits)).setCell ⟨D,100,none⟩ (.int .i64 q.every)).setCell ⟨D,101,none⟩ (.int .i64 q.done)):=
     (((Kp.refl _ _).setCell (p:=⟨D,99,none⟩) _ (fun h=>h rfl)).setCell (p:=⟨D,100,none⟩) _ (fun h=>h rfl)).setCell (p:=⟨D,101,none⟩) _ (fun h=>h rfl)
    have HD4:Hid (Blk (((W3.setCell ⟨D,99,none⟩ (.int .i64 q.bits)).setCell ⟨D,100,none⟩ (.int .i64 q.every)).setCell ⟨D,101,none⟩ (.int .i64 q.done)) D 111 (s.ds p l r A c q out whole)):=
     Lib.hid (Blk.cast (((HFN.out.d.set_ 99 _).set_ 100 _).set_ 101 _) rfl)
    have HO4:=Lib.hid (own_kp (ownsRow_ext HO.out HFN.out.e) kk (fun g hg h=>own_ne_blk (ownsRow_ext HO.out HFN.out.e) HFN.out.d (by decide) (by rw[hg,h])))
    have HR4:=Lib.hid (HRD.out.kp kk (fun ad hg h=>own_ne_blk HOB.out HFN.out.d (by decide) (by rw[hg];simp[Value.ownBlock,h])))
    have hb4:base≤(((W3.setCell ⟨D,99,none⟩ (.int .i64 q.bits)).setCell ⟨D,100,none⟩ (.int .i64 q.every)).setCell ⟨D,101,none⟩ (.int .i64 q.done)).heap.size:=by
     have h1:=HFN.out.e.size
     have h2:=HB.out
     simp
     omega
    have HK4:Hid (Kept base D 68 w (((W3.setCell ⟨D,99,none⟩ (.int .i64 q.bits)).setCell ⟨D,100,none⟩ (.int .i64 q.every)).setCell ⟨D,101,none⟩ (.int .i64 q.done))):=
     Lib.hid ((Kept.of_ext HFN.out.e).trans ⟨fun g t cs h1 h2 h3=>h1.kp kk h3,fun w0 h1 h2 e=>((e.setCell _ h2).setCell _ h2).setCell _ h2,by simp⟩)
    have HAD:=Lib.hid (add_any L LW sa sc _ HD4.out (by decide) rfl HO4.out hb4 HR4.out HLL.out)
    have hh:=HFN.out.d
    have d0:W3.cell? ⟨D,99,none⟩=some (.int .i64 d.bits):=hh.cell 99
    have d1:W3.cell? ⟨D,100,none⟩=some (.int .i64 d.every):=hh.cell 100
    have d2:W3.cell? ⟨D,101,none⟩=some (.int .i64 d.done):=hh.cell 101
    have g0:=hh.frozen 99
    have g1:=hh.frozen 100
    have g2:=hh.frozen 101
    have cg:=HFN.out.g.c3
    clear kk hb4 hh HFN HOB HRD HD4 HO4 HR4
    go_wp2_with fail
    refine HAD.out.mono ?_
    rintro e w5 ⟨rfl,⟨v',hB,hOw⟩,hK⟩
    have HFIN:=Lib.hid (And.intro hB (And.intro hOw (HK4.out.trans hK)))
    clear hB hOw hK HAD HK4
    go_wp2_with fail
    have e1:=HQ.out
    have e2:=HLW.out
    subst e1
    subst e2
    exact bodyPost_end (results_none rfl _ _ _) rfl ⟨rfl,⟨v',Blk.cast HFIN.out.1 rfl,HFIN.out.2.1⟩,HFIN.out.2.2⟩
end Go.Proofs.YtplljnfjkkloeaaGreatDoor
