/- Proof text: all sides (side.List). By an AI agent. No condition beyond what each theorem states. -/
import Derived.Test.YtplljnfjkkloeaaGreatDoorGM
import Derived.Laws.MakeOwn
import Derived.Deep.LoopGhost
import Derived.Deep.WholeRow
import Derived.Laws.Tables
import Derived.Test.YtplljnfjkkloeaaGreatDoorQM
import Derived.Test.YtplljnfjkkloeaaGreatDoorQG
import Derived.Test.YtplljnfjkkloeaaGreatDoorWF
set_option linter.unusedVariables false
set_option linter.unusedSimpArgs false
set_option maxHeartbeats 8000000
namespace Go.Proofs.YtplljnfjkkloeaaGreatDoor
open Go.RowKit
@[reducible] def Sd.row (s:Sd):List Value:=[.int .i64 s.k,.int .i64 s.p0,.int .i64 s.p1,.int .i64 s.p2,.int .i64 s.p3]
def srow (l:List Sd):List Value:=l.flatMap Sd.row
theorem srow_append (l m:List Sd):srow (l++m)=srow l++srow m:=by simp[srow]
theorem srow_one (l:List Sd): ∀u∈srow l,u.oneCell'=true:=by
 intro u hu
 obtain⟨s,_,hs⟩:=List.mem_flatMap.1 hu
 simp only[Sd.row,List.mem_cons,List.not_mem_nil,or_false]at hs
 rcases hs with rfl|rfl|rfl|rfl|rfl <;>rfl
theorem srow_get {l:List Sd} {j:Nat} {s:Sd} (h:l[j]? =some s) (i:Nat) (hi:i<5):(srow l)[j*5+i]? =s.row[i]? :=by
 induction l generalizing j with
 |nil=>simp at h
 |cons t l ih=>
  simp only[srow,List.flatMap_cons]
  cases j with
  |zero=>
   obtain rfl:t=s:=by simpa using h
   rw[Nat.zero_mul,Nat.zero_add,List.getElem?_append_left (by simpa using hi)]
  |succ j=>
   rw[List.getElem?_append_right (by simp;omega),show(j+1)*5+i-t.row.length=j*5+i by simp;omega]
   exact ih (by simpa using h)
theorem side_at {w:World} {b off n cap j:Nat} {l:List Sd} {s:Sd} (h:Rd w 5 (some ⟨b,off,none⟩) n cap (srow l)) (hs:l[j]? =some s):
  w.cell? ⟨b,off+j*5,none⟩=some (.int .i64 s.k)∧w.cell? ⟨b,off+j*5+1,none⟩=some (.int .i64 s.p0)∧w.cell? ⟨b,off+j*5+2,none⟩=some (.int .i64 s.p1)∧w.cell? ⟨b,off+j*5+3,none⟩=some (.int .i64 s.p2)∧w.cell? ⟨b,off+j*5+4,none⟩=some (.int .i64 s.p3):=
 ⟨h.get rfl ((srow_get hs 0 (by omega)).trans rfl),h.get rfl ((srow_get hs 1 (by omega)).trans rfl),h.get rfl ((srow_get hs 2 (by omega)).trans rfl),h.get rfl ((srow_get hs 3 (by omega)).trans rfl),h.get rfl ((srow_get hs 4 (by omega)).trans rfl)⟩
theorem cells5 {w:World} {g:Nat} {t:TypeId} {s:Sd} (h:Blk w g t s.row.toArray):w.cell? ⟨g,0,none⟩=some (.int .i64 s.k)∧w.cell? ⟨g,1,none⟩=some (.int .i64 s.p0)∧w.cell? ⟨g,2,none⟩=some (.int .i64 s.p1)∧w.cell? ⟨g,3,none⟩=some (.int .i64 s.p2)∧w.cell? ⟨g,4,none⟩=some (.int .i64 s.p3):=
 ⟨h.cell 0,h.cell 1,h.cell 2,h.cell 3,h.cell 4⟩
theorem srow_take {l:List Sd} {j:Nat} {s:Sd} (h:l[j]? =some s) (m:List Sd):srow (m++l.take j)++s.row=srow (m++l.take (j+1)):=by
 have hj:=(List.getElem?_eq_some_iff.1 h).1
 have hs:=(List.getElem?_eq_some_iff.1 h).2
 rw[List.take_succ_eq_append_getElem hj,hs,←List.append_assoc,srow_append (m++l.take j)]
 simp[srow]
theorem info_side:(Tryz.prog.info? 38).map (fun i=>(i.zero,i.size,i.bytes))=some (some (.agg #[.int .i64 0,.int .i64 0,.int .i64 0,.int .i64 0,.int .i64 0]),5,40):=by kernel_rfl
def base3 (k:Nat):List Sd:=[⟨0,0,0,0,0⟩,⟨if 1<k then 1 else 0,0,0,0,0⟩,⟨if 2<k then 2 else 0,0,0,0,0⟩]
theorem made15: ∀n,n<7→(madeCells #[.int .i64 0,.int .i64 0,.int .i64 0,.int .i64 0,.int .i64 0] ((3+n)*5)).toList.take 15=srow (base3 0)
 |0,_=>by kernel_rfl
 |1,_=>by kernel_rfl
 |2,_=>by kernel_rfl
 |3,_=>by kernel_rfl
 |4,_=>by kernel_rfl
 |5,_=>by kernel_rfl
 |6,_=>by kernel_rfl
 |n+7,h=>by omega
theorem make_sides (n:Nat) (hn:n<7): ∃cur:Array Value,∀w:World,(Instr.makeSlice 108 (.int .i64 3) (.int .i64 (3+(n:Int)))).run Tryz.prog w=.ok (.slice (some ⟨w.heap.size,0,none⟩) 3 (3+n)) (w.alloc (.cells cur 38))∧
  (w.alloc (.cells cur 38)).ownsRow w.heap.size 38 5 (.slice (some ⟨w.heap.size,0,none⟩) 3 (3+n)) 3 (srow (base3 0)):=by
 obtain⟨i0,hi,hz0,hz1,hz2⟩:=info_parts info_side
 refine⟨madeCells #[.int .i64 0,.int .i64 0,.int .i64 0,.int .i64 0,.int .i64 0] ((3+n)*5),fun w=>⟨?_,?_,.inr ⟨w.heap.size,3+n,_,rfl,Nat.le_refl _,heap_alloc_new w _,by omega,by unfold maxLen;omega,size_madeCells _ _,made15 n hn⟩⟩⟩
 ·have h:=run_make (P:=Tryz.prog) w 108 38 i0 _ Tryz.underlying108 hi hz0 .i64 .i64 3 (3+(n:Int)) (by omega) (by omega) (by rw[hz2];omega) (by omega)
  rw[hz1,show(3+(n:Int)).toNat=3+n by omega]at h
  exact h
 ·rfl
theorem base_step (k:Nat) (hk:k<3):(srow (base3 k)).take (k*5)++Value.int .i64 (k:Int)::(srow (base3 k)).drop (k*5+1)=srow (base3 (k+1)):=by
 have:k=0∨k=1∨k=2:=by omega
 rcases this with rfl|rfl|rfl <;>rfl
end Go.Proofs.YtplljnfjkkloeaaGreatDoor
set_option linter.unusedVariables false
set_option linter.unusedSimpArgs false
namespace Go.Proofs.YtplljnfjkkloeaaGreatDoor
open Go.RowKit
structure Ps where
 err:Int
 W:Int
 H:Int
 f0:Int
 f1:Int
 f2:Int
 f3:Int
 far:Int
 port:Rc
 mm:Int
 s0:Sd
 s1:Sd
 s2:Sd
 s3:Sd
 s4:Sd
 s5:Sd
 o0:Bool
 o1:Bool
 o2:Bool
 o3:Bool
 o4:Bool
 o5:Bool
 c0:Int
 c1:Int
 c2:Int
 c3:Int
 flag:Bool
 op:Bool
 mode:Int
 width:Int
 soft:Bool
 dashed:Bool
 dash:Da
 size:Int
 kind:Int
 front:Int
 back:Int
 ccw:Bool
 cull:Int
 offset:Bool
 factor:Int
 units:Int
 flat:Bool
 first:Bool
 cut:Bool
 box:Rc
 deep:Bool
 func:Int
 keep:Bool
 mix:Bool
 sf:Int
 df:Int
 k0:Bool
 k1:Bool
 k2:Bool
 k3:Bool
def Ps.row (s:Ps) (C Z M0 M1 V F:Value):Array Value:= #[.int .i64 s.err,.int .i64 s.W,.int .i64 s.H,C,Z,.int .i64 s.f0,.int .i64 s.f1,.int .i64 s.f2,.int .i64 s.f3,.int .i64 s.far,.int .i64 s.port.x0,.int .i64 s.port.y0,.int .i64 s.port.x1,.int .i64 s.port.y1,.int .i64 s.mm,M0,M1,.int .i64 s.s0.k,.int .i64 s.s0.p0,.int .i64 s.s0.p1,.int .i64 s.s0.p2,.int .i64 s.s0.p3,.int .i64 s.s1.k,.int .i64 s.s1.p0,.int .i64 s.s1.p1,.int .i64 s.s1.p2,.int .i64 s.s1.p3,.int .i64 s.s2.k,.int .i64 s.s2.p0,.int .i64 s.s2.p1,.int .i64 s.s2.p2,.int .i64 s.s2.p3,.int .i64 s.s3.k,.int .i64 s.s3.p0,.int .i64 s.s3.p1,.int .i64 s.s3.p2,.int .i64 s.s3.p3,.int .i64 s.s4.k,.int .i64 s.s4.p0,.int .i64 s.s4.p1,.int .i64 s.s4.p2,.int .i64 s.s4.p3,.int .i64 s.s5.k,.int .i64 s.s5.p0,.int .i64 s.s5.p1,.int .i64 s.s5.p2,.int .i64 s.s5.p3,.bool s.o0,.bool s.o1,.bool s.o2,.bool s.o3,.bool s.o4,.bool s.o5,.int .i64 s.c0,.int .i64 s.c1,.int .i64 s.c2,.int .i64 s.c3,.bool s.flag,.bool s.op,.int .i64 s.mode,V,F,.int .i64 s.width,.bool s.soft,.bool s.dashed,.int .i64 s.dash.bits,.int .i64 s.dash.every,.int .i64 s.dash.done,.int .i64 s.size,.int .i64 s.kind,.int .i64 s.front,.int .i64 s.back,.bool s.ccw,.int .i64 s.cull,.bool s.offset,.int .i64 s.factor,.int .i64 s.units,.bool s.flat,.bool s.first,.bool s.cut,.int .i64 s.box.x0,.int .i64 s.box.y0,.int .i64 s.box.x1,.int .i64 s.box.y1,.bool s.deep,.int .i64 s.func,.bool s.keep,.bool s.mix,.int .i64 s.sf,.int .i64 s.df,.bool s.k0,.bool s.k1,.bool s.k2,.bool s.k3]
structure Hp where
 C:List Int
 Z:List Int
 M:List Int
 N:List Int
 V:List Vx
 F:List Bool
structure Sl where
 c:Option Addr
 cc:Nat
 z:Option Addr
 cz:Nat
 a:Option Addr
 ca:Nat
 b:Option Addr
 cb:Nat
 v:Option Addr
 cv:Nat
 f:Option Addr
 cf:Nat
def Ps.cs (s:Ps) (p:Hp) (l:Sl):Array Value:=s.row (.slice l.c p.C.length l.cc) (.slice l.z p.Z.length l.cz) (.slice l.a 1 l.ca) (.slice l.b 1 l.cb) (.slice l.v p.V.length l.cv) (.slice l.f p.F.length l.cf)
@[reducible] def Vx.l8 (v:Vx):List Value:=[.int .i64 v.x,.int .i64 v.y,.int .i64 v.z,.int .i64 v.w,.int .i64 v.c0,.int .i64 v.c1,.int .i64 v.c2,.int .i64 v.c3]
def vxs (l:List Vx):List Value:=l.flatMap Vx.l8
def bos (l:List Bool):List Value:=l.map Value.bool
theorem vxs_get {l:List Vx} {j:Nat} {v:Vx} (h:l[j]? =some v) (i:Nat) (hi:i<8):(vxs l)[j*8+i]? =v.l8[i]? :=frow_get (f:=Vx.l8) (K:=8) (fun _=>rfl) h i hi
theorem vxs_at {w:World} {b off n cap j:Nat} {l:List Vx} {v:Vx} (h:Rd w 8 (some ⟨b,off,none⟩) n cap (vxs l)) (hs:l[j]? =some v):
  w.cell? ⟨b,off+j*8,none⟩=some (.int .i64 v.x)∧w.cell? ⟨b,off+j*8+1,none⟩=some (.int .i64 v.y)∧w.cell? ⟨b,off+j*8+2,none⟩=some (.int .i64 v.z)∧w.cell? ⟨b,off+j*8+3,none⟩=some (.int .i64 v.w)∧
  w.cell? ⟨b,off+j*8+4,none⟩=some (.int .i64 v.c0)∧w.cell? ⟨b,off+j*8+5,none⟩=some (.int .i64 v.c1)∧w.cell? ⟨b,off+j*8+6,none⟩=some (.int .i64 v.c2)∧w.cell? ⟨b,off+j*8+7,none⟩=some (.int .i64 v.c3):=
 ⟨h.get rfl ((vxs_get hs 0 (by omega)).trans rfl),h.get rfl ((vxs_get hs 1 (by omega)).trans rfl),h.get rfl ((vxs_get hs 2 (by omega)).trans rfl),h.get rfl ((vxs_get hs 3 (by omega)).trans rfl),
  h.get rfl ((vxs_get hs 4 (by omega)).trans rfl),h.get rfl ((vxs_get hs 5 (by omega)).trans rfl),h.get rfl ((vxs_get hs 6 (by omega)).trans rfl),h.get rfl ((vxs_get hs 7 (by omega)).trans rfl)⟩
structure Lies (s:Ps) (p:Hp) (l:Sl) (w:World):Prop where
 c:Rd w 1 l.c p.C.length l.cc (ivs p.C)
 z:Rd w 1 l.z p.Z.length l.cz (ivs p.Z)
 k:Stk w s.mm l.a l.b l.ca l.cb p.M p.N
 v:Rd w 8 l.v p.V.length l.cv (vxs p.V)
 f:Rd w 1 l.f p.F.length l.cf (bos p.F)
theorem Lies.ext {s:Ps} {p:Hp} {l:Sl} {w w':World} (h:Lies s p l w) (e:Ext w w'):Lies s p l w':=⟨h.c.ext e,h.z.ext e,h.k.ext e,h.v.ext e,h.f.ext e⟩
theorem Ps.cs_one (s:Ps) (p:Hp) (l:Sl): ∀u∈(s.cs p l).toList,u.oneCell'=true:=by
 intro u hu
 simp only[Ps.cs,Ps.row,List.mem_cons,List.not_mem_nil,or_false]at hu
 repeat(first|(rcases hu with rfl|hu; · rfl)|(subst hu;rfl))
theorem agg_pipe (W:World):(isAgg 53).run Tryz.prog W=.ok true W:=by kernel_rfl
theorem size_pipe:(Tryz.prog.info? 53).map (·.size)=some 94:=by kernel_rfl
end Go.Proofs.YtplljnfjkkloeaaGreatDoor
set_option linter.unusedVariables false
set_option linter.unusedSimpArgs false
namespace Go.Proofs.YtplljnfjkkloeaaGreatDoor
attribute [local go_sem] Go.Oper.semAt_some
open Go.RowKit
theorem wpList_build' {P:Program} {w:World} {ops:Array Oper} {rest:List Oper} {o:Oper} {a:Act} {Q:Exit→Act→World→Prop} (hgd:o.guard=none) (t:TypeId) (parts:Array (Nat×Operand)) (ho:o.op=.build t parts)
  (cells:Array Value)(hb:P.built t (parts.map fun(i,x)=>(i,a.eval x)).toList=some cells)(h:wpList P ops Q rest (a.put o.dst (.agg cells)) w):wpList P ops Q (o::rest) a w:=by
 refine wpList_plain hgd fun K hK=>?_
 refine wp_build t parts ho (by rw[hb];rfl) ?_
 rw[hb]
 exact hK _ _ h
theorem wpList_store_new' {P:Program} {w:World} {ops:Array Oper} {rest:List Oper} {o:Oper} {a:Act} {Q:Exit→Act→World→Prop} (hgd:o.guard=none) (t:TypeId) (x y:Operand) (ho:o.op=.store t x y)
  (c c':Array Value)(hx:a.eval x=.pointer (some ⟨w.heap.size,0,none⟩))(hy:a.eval y=.agg c')(hi:(P.info? t).map (·.size)=some c'.size)(hc:c.size=c'.size)(h1:c'.all (·.oneCell')=true)
  (h:wpList P ops Q rest (a.put o.dst undef) (w.alloc (.cells c' t))):wpList P ops Q (o::rest) a (w.alloc (.cells c t)):=by
 refine wpList_plain hgd fun K hK=>?_
 have hr:=run_storeAt_new (P:=P) w t c c' hi hc h1
 unfold Oper.wp execOp
 simp only[ho,hx,hy,Sem.run_bind,Sem.run_pure,hr,Result.andThen]
 exact hK _ _ h
def ps00:Ps:={err:=0,W:=0,H:=0,f0:=0,f1:=0,f2:=0,f3:=0,far:=16777215,port:=⟨0,0,0,0⟩,mm:=0,s0:=⟨0,0,0,0,0⟩,s1:=⟨0,0,0,0,0⟩,s2:=⟨0,0,0,0,0⟩,s3:=⟨0,0,0,0,0⟩,s4:=⟨0,0,0,0,0⟩,s5:=⟨0,0,0,0,0⟩,o0:=false,o1:=false,o2:=false,o3:=false,o4:=false,o5:=false,c0:=255,c1:=255,c2:=255,c3:=255,flag:=true,op:=false,mode:=0,width:=1,soft:=false,dashed:=false,dash:=⟨65535,1,0⟩,size:=1,kind:=0,front:=0,back:=0,ccw:=true,cull:=0,offset:=false,factor:=0,units:=0,flat:=false,first:=false,cut:=false,box:=⟨0,0,0,0⟩,deep:=false,func:=1,keep:=true,mix:=false,sf:=1,df:=0,k0:=true,k1:=true,k2:=true,k3:=true}
def ps0:Ps:={err:=0,W:=0,H:=0,f0:=0,f1:=0,f2:=0,f3:=0,far:=16777215,port:=⟨0,0,0,0⟩,mm:=0,s0:=⟨3,0,0,0,0⟩,s1:=⟨3,0,0,0,0⟩,s2:=⟨3,0,0,0,0⟩,s3:=⟨3,0,0,0,0⟩,s4:=⟨3,0,0,0,0⟩,s5:=⟨3,0,0,0,0⟩,o0:=false,o1:=false,o2:=false,o3:=false,o4:=false,o5:=false,c0:=255,c1:=255,c2:=255,c3:=255,flag:=true,op:=false,mode:=0,width:=1,soft:=false,dashed:=false,dash:=⟨65535,1,0⟩,size:=1,kind:=0,front:=0,back:=0,ccw:=true,cull:=0,offset:=false,factor:=0,units:=0,flat:=false,first:=false,cut:=false,box:=⟨0,0,0,0⟩,deep:=false,func:=1,keep:=true,mix:=false,sf:=1,df:=0,k0:=true,k1:=true,k2:=true,k3:=true}
def hp0:Hp:=⟨[],[],unitM,unitM,[],[]⟩
def sl0 (A B:Nat):Sl:=⟨none,0,none,0,some ⟨A,0,none⟩,1,some ⟨B,0,none⟩,1,none,0,none,0⟩
theorem Blk.ne_type {w:World} {g g':Nat} {t t':TypeId} {cs cs':Array Value} (h:Blk w g t cs) (k:Blk w g' t' cs') (hne:t≠t'):g≠g':=by
 rintro rfl
 unfold Blk at h k
 rw[h]at k
 injection k with k
 injection k with _ k
 exact hne k
theorem unitM_ok:MatOk unitM:=by
 refine⟨rfl,?_⟩
 have h: ∀k,k<16→ -268435456≤unitM.getD k 0∧unitM.getD k 0≤268435456:=by decide
 exact h
end Go.Proofs.YtplljnfjkkloeaaGreatDoor
set_option linter.unusedVariables false
set_option linter.unusedSimpArgs false
namespace Go.Proofs.YtplljnfjkkloeaaGreatDoor
attribute [local go_sem] Go.Oper.semAt_some
open Go.RowKit
theorem pbox_cells (cs:Array Value) (W H:Int) (C Z:Value) (w:World) (h1:cs[1]? =some (.int .i64 W)) (h2:cs[2]? =some (.int .i64 H)) (h3:cs[3]? =some C) (h4:cs[4]? =some Z) (h5:cs[79]? =some (.bool false)):
  Calls Tryz.prog 13 #[.agg cs] w fun e w'=>e=.returned (Rc.v ⟨0,0,W,H⟩)∧Ext w w':=by
 have HBX:=Lib.hid (fun wz=>box_any W H C Z wz)
 have HP0:Hid (Blk ((w.alloc (.cells cs 53)).alloc (.cells #[.int .i64 0,.int .i64 0,.int .i64 0,.int .i64 0] 48)) w.heap.size 53 cs):=Lib.hid (by(repeat(first|with_reducible exact Hid.out (by assumption)|(with_reducible refine Blk.new' _ _ _ ?_;(simp;done))|with_reducible(first|refine Blk.alloc ?_ _|refine Blk.drew ?_|refine Blk.drewN ?_ _|refine Blk.later ?_ _)|(with_reducible refine Blk.far ?_ ?hp _;case hp=>first|(simp;done)|(simp;omega)|omega))))
 have HR0:Hid (Blk ((w.alloc (.cells cs 53)).alloc (.cells #[.int .i64 0,.int .i64 0,.int .i64 0,.int .i64 0] 48)) (w.heap.size+1) 48 #[.int .i64 0,.int .i64 0,.int .i64 0,.int .i64 0]):=Lib.hid (by(repeat(first|with_reducible exact Hid.out (by assumption)|(with_reducible refine Blk.new' _ _ _ ?_;(simp;done))|with_reducible(first|refine Blk.alloc ?_ _|refine Blk.drew ?_|refine Blk.drewN ?_ _|refine Blk.later ?_ _)|(with_reducible refine Blk.far ?_ ?hp _;case hp=>first|(simp;done)|(simp;omega)|omega))))
 have HE0:Hid (Ext w ((w.alloc (.cells cs 53)).alloc (.cells #[.int .i64 0,.int .i64 0,.int .i64 0,.int .i64 0] 48))):=Lib.hid (by(repeat(first|with_reducible(first|exact eR_ _|assumption|refine eA_ ?_ _|refine eD_ ?_|refine eN_ ?_ _|refine eL_ ?_ _)|(with_reducible refine eS_ ?_ _ ?hp;case hp=>first|(simp;done)|(simp;omega)|omega))))
 have H1:=Lib.hid h1
 have H2:=Lib.hid h2
 have H3:=Lib.hid h3
 have H4:=Lib.hid h4
 have H5:=Lib.hid h5
 clear h1 h2 h3 h4 h5
 go_enter Tryz.func13,Tryz.ntmps13
 go_upto_region 1 with fail
 generalize(w.alloc (.cells cs 53)).alloc (.cells #[.int .i64 0,.int .i64 0,.int .i64 0,.int .i64 0] 48)=W0 at*
 have c1:=(HP0.out.cell 1).trans H1.out
 have c2:=(HP0.out.cell 2).trans H2.out
 have c3:=(HP0.out.cell 3).trans H3.out
 have c4:=(HP0.out.cell 4).trans H4.out
 go_wp2_with fail
 refine(HBX.out _).mono ?_
 rintro e w1 ⟨rfl,hE⟩
 obtain⟨x1,rfl⟩:=Later.mk' hE
 clear hE
 have HP1:=Lib.hid (HP0.out.ext x1.ext)
 have HR1:=Lib.hid (HR0.out.ext x1.ext)
 have HE1:=Lib.hid (HE0.out.trans x1.ext)
 clear c1 c2 c3 c4 HP0 HR0 HE0
 generalize x1.w=W1 at*
 have c5:=(HP1.out.cell 79).trans H5.out
 have cr:=HR1.out.c4
 have fr:=HR1.out.f4
 have hlt:=HR1.out.lt
 have hne: ¬(W1.heap.size=w.heap.size+1):=by omega
 have hne': ¬(w.heap.size+1=W1.heap.size):=by omega
 go_wp2_with fail
 have HS:=(HR1.out.s4 (.int .i64 0) (.int .i64 0) (.int .i64 W) (.int .i64 H)).alloc (.cells #[.int .i64 0,.int .i64 0,.int .i64 W,.int .i64 H] 48)
 obtain⟨s0,s1,s2,s3⟩:=HS.c4
 have HE:=HE1.out
 refine bodyPost_ret (v:=.agg #[.int .i64 0,.int .i64 0,.int .i64 W,.int .i64 H]) (by simp[results,Tryz.results13,go_sem,s0,s1,s2,s3]) rfl ⟨rfl,by(repeat(first|with_reducible(first|exact eR_ _|assumption|refine eA_ ?_ _|refine eD_ ?_|refine eN_ ?_ _|refine eL_ ?_ _)|(with_reducible refine eS_ ?_ _ ?hp;case hp=>first|(simp;done)|(simp;omega)|omega)))⟩
theorem pbox_any (s:Ps) (p:Hp) (l:Sl) (w:World) (hc:s.cut=false):Calls Tryz.prog 13 #[.agg (s.cs p l)] w fun e w'=>e=.returned (Rc.v ⟨0,0,s.W,s.H⟩)∧Ext w w':=
 pbox_cells (s.cs p l) s.W s.H _ _ w rfl rfl rfl rfl (by rw[←hc];rfl)
theorem idx_b6 (a b c d e f:Bool) (w:World):(Instr.index 40 (.agg #[.bool a,.bool b,.bool c,.bool d,.bool e,.bool f]) (.int .i64 0)).run Tryz.prog w=.ok (.bool a) w∧
  (Instr.index 40 (.agg #[.bool a,.bool b,.bool c,.bool d,.bool e,.bool f]) (.int .i64 1)).run Tryz.prog w=.ok (.bool b) w∧
  (Instr.index 40 (.agg #[.bool a,.bool b,.bool c,.bool d,.bool e,.bool f]) (.int .i64 2)).run Tryz.prog w=.ok (.bool c) w∧
  (Instr.index 40 (.agg #[.bool a,.bool b,.bool c,.bool d,.bool e,.bool f]) (.int .i64 3)).run Tryz.prog w=.ok (.bool d) w∧
  (Instr.index 40 (.agg #[.bool a,.bool b,.bool c,.bool d,.bool e,.bool f]) (.int .i64 4)).run Tryz.prog w=.ok (.bool e) w∧
  (Instr.index 40 (.agg #[.bool a,.bool b,.bool c,.bool d,.bool e,.bool f]) (.int .i64 5)).run Tryz.prog w=.ok (.bool f) w:=⟨by kernel_rfl,by kernel_rfl,by kernel_rfl,by kernel_rfl,by kernel_rfl,by kernel_rfl⟩
def Ps.bare (s:Ps):Prop:=s.o0=false∧s.o1=false∧s.o2=false∧s.o3=false∧s.o4=false∧s.o5=false
end Go.Proofs.YtplljnfjkkloeaaGreatDoor
set_option linter.unusedVariables false
set_option linter.unusedSimpArgs false
namespace Go.Proofs.YtplljnfjkkloeaaGreatDoor
attribute [local go_sem] Go.Oper.semAt_some
open Go.RowKit
theorem floor_any (n d:Int) (w:World) (hd:0<d) (n0: -4611686018427387904≤n) (n1:n≤4611686018427387904) (d1:d≤4611686018427387904):Calls Tryz.prog 172 #[.int .i64 n,.int .i64 d] w fun e w'=>e=.returned (.int .i64 (n/d))∧Ext w w':=by
 obtain⟨h1,h2⟩:=tdiv_floor (n:=n) hd
 have hz:d≠0:=by omega
 have hq: -4611686018427387904≤n.tdiv d∧n.tdiv d≤4611686018427387904:=by
  have h3:=Int.natAbs_tdiv n d
  have h4:(n.tdiv d).natAbs≤n.natAbs:=by rw[h3];exact Nat.div_le_self _ _
  clear h1 h2 h3
  generalize n.tdiv d=z at h4 ⊢
  omega
 obtain⟨q1,q2⟩:=hq
 have HF:=Lib.hid (And.intro h1 h2)
 clear h1 h2
 go_enter Tryz.func172,Tryz.ntmps172
 go_wp2_with fail
 refine wp_region_later (by kernel_rfl) (by kernel_rfl) ?_
 repeat(go_big_quiet_step ((first|fail|fail)))
 refine wpQuiet_nil ?_
 intro y
 go_wp2_with fail
 ·have hn:n.tmod d<0:=by assumption
  have e:=HF.out.1 hn
  go_ret
  exact⟨by rw[←e];rfl,y.ext⟩
 ·have hn:0≤n.tmod d:=by assumption
  have e:=HF.out.2 (by omega)
  go_ret
  exact⟨by rw[←e];rfl,y.ext⟩
theorem vright_any (x y p q:Int) (w:World) (x0: -8192≤x) (x1:x≤8192) (y0: -8192≤y) (y1:y≤8192) (p0:0≤p) (p1:p≤4096) (q0:0≤q) (q1:q≤4096):Calls Tryz.prog 170 #[.agg #[.int .i64 x,.int .i64 y,.int .i64 p,.int .i64 q]] w fun e w'=>e=.returned (.bool true)∧Ext w w':=by
 go_enter Tryz.func170,Tryz.ntmps170
 go_wp2_with fail
 go_ret
 exact⟨rfl,by(repeat(first|with_reducible(first|exact eR_ _|assumption|refine eA_ ?_ _|refine eD_ ?_|refine eN_ ?_ _|refine eL_ ?_ _)|(with_reducible refine eS_ ?_ _ ?hp;case hp=>first|(simp;done)|(simp;omega)|omega)))⟩
end Go.Proofs.YtplljnfjkkloeaaGreatDoor
set_option linter.unusedVariables false
set_option linter.unusedSimpArgs false
namespace Go.Proofs.YtplljnfjkkloeaaGreatDoor
attribute [local go_sem] Go.Oper.semAt_some
open Go.RowKit
structure Vx.Seen (v:Vx):Prop where
 w:1≤v.w∧v.w≤68719476736
 x: -68719476736≤v.x∧v.x≤68719476736
 y: -68719476736≤v.y∧v.y≤68719476736
 z: -68719476736≤v.z∧v.z≤68719476736
 c0:byte v.c0
 c1:byte v.c1
 c2:byte v.c2
 c3:byte v.c3
theorem idx_3 (x y z:Int) (w:World):(Instr.index 155 (.agg #[.int .i64 x,.int .i64 y,.int .i64 z]) (.int .i64 0)).run Tryz.prog w=.ok (.int .i64 x) w∧
  (Instr.index 155 (.agg #[.int .i64 x,.int .i64 y,.int .i64 z]) (.int .i64 1)).run Tryz.prog w=.ok (.int .i64 y) w∧
  (Instr.index 155 (.agg #[.int .i64 x,.int .i64 y,.int .i64 z]) (.int .i64 2)).run Tryz.prog w=.ok (.int .i64 z) w:=⟨by kernel_rfl,by kernel_rfl,by kernel_rfl⟩
set_option maxRecDepth 100000 in
theorem vfits_any (v:Vx) (w:World) (h:v.Seen):Calls Tryz.prog 171 #[v.v] w fun e w'=>e=.returned (.bool true)∧Ext w w':=by
 obtain⟨⟨w0,w1⟩,⟨x0,x1⟩,⟨y0,y1⟩,⟨z0,z1⟩,⟨c00,c01⟩,⟨c10,c11⟩,⟨c20,c21⟩,⟨c30,c31⟩⟩:=h
 have i0:=fun w=>(idx_c v.c0 v.c1 v.c2 v.c3 w).1
 have i1:=fun w=>(idx_c v.c0 v.c1 v.c2 v.c3 w).2.1
 have i2:=fun w=>(idx_c v.c0 v.c1 v.c2 v.c3 w).2.2.1
 have i3:=fun w=>(idx_c v.c0 v.c1 v.c2 v.c3 w).2.2.2
 have j0:=fun w=>(idx_3 v.x v.y v.z w).1
 have j1:=fun w=>(idx_3 v.x v.y v.z w).2.1
 have j2:=fun w=>(idx_3 v.x v.y v.z w).2.2
 go_enter Tryz.func171,Tryz.ntmps171
 go_wp2_with fail
 refine wp_loop_rounds 4 ?_
 rw[rounds_succ]
 go_wp2_with fail
 rw[rounds_succ]
 go_wp2_with fail
 rw[rounds_succ]
 go_wp2_with fail
 rw[rounds_succ]
 go_wp2_with fail
 refine wp_loop_rounds 5 ?_
 rw[rounds_succ]
 go_wp2_with fail
 rw[rounds_succ]
 go_wp2_with fail
 rw[rounds_succ]
 go_wp2_with fail
 rw[rounds_succ]
 go_wp2_with fail
 rw[rounds_succ]
 go_wp2_with fail
 go_ret
 exact⟨rfl,by(repeat(first|with_reducible(first|exact eR_ _|assumption|refine eA_ ?_ _|refine eD_ ?_|refine eN_ ?_ _|refine eL_ ?_ _)|(with_reducible refine eS_ ?_ _ ?hp;case hp=>first|(simp;done)|(simp;omega)|omega)))⟩
end Go.Proofs.YtplljnfjkkloeaaGreatDoor
set_option linter.unusedVariables false
set_option linter.unusedSimpArgs false
namespace Go.Proofs.YtplljnfjkkloeaaGreatDoor
attribute [local go_sem] Go.Oper.semAt_some
open Go.RowKit
def vmap (v:Vx) (p:Rc):Wv:=⟨p.x0*256+p.x1*128*(v.x+v.w)/v.w,p.y0*256+p.y1*128*(v.y+v.w)/v.w,min (max (16777215*(v.z+v.w)/(2*v.w)) 0) 16777215,v.c0,v.c1,v.c2,v.c3⟩
structure Rc.Port (p:Rc):Prop where
 x: -8192≤p.x0∧p.x0≤8192
 y: -8192≤p.y0∧p.y0≤8192
 w:0≤p.x1∧p.x1≤4096
 h:0≤p.y1∧p.y1≤4096
theorem port_mul {p s:Int} (p0:0≤p) (p1:p≤4096) (s0: -137438953472≤s) (s1:s≤137438953472): -72057594037927936≤p*128*s∧p*128*s≤72057594037927936:=by
 have h:=mul_pl (a:=p*128) (b:=s) (m:=524288) (n:=137438953472) (by omega) (by omega) s0 s1 (by omega) (by omega)
 omega
structure Vm (v:Vx) (p:Rc) (w:World) (E:Nat) (f:Wv) (wx:World):Prop where
 v:Blk wx w.heap.size 149 #[.int .i64 v.x,.int .i64 v.y,.int .i64 v.z,.int .i64 v.w,.int .i64 v.c0,.int .i64 v.c1,.int .i64 v.c2,.int .i64 v.c3]
 p:Blk wx (w.heap.size+1) 32 #[.int .i64 p.x0,.int .i64 p.y0,.int .i64 p.x1,.int .i64 p.y1]
 z:Blk wx (w.heap.size+1+1) 177 #[.int .i64 0,.int .i64 0,.int .i64 0,.int .i64 0,.int .i64 0,.int .i64 0,.int .i64 0]
 f:Blk wx E 177 f.row
 e:Ext w wx
 n:w.heap.size+1+1<E
theorem Vm.set {v:Vx} {p:Rc} {w:World} {E:Nat} {f:Wv} {wx:World} (h:Vm v p w E f wx) (y:Later wx) (i:Nat) (u:Value) (f':Wv) (hf:f.row.setIfInBounds i u=f'.row):Vm v p w E f' (y.w.setCell ⟨E,i,none⟩ u):=by
 have hn:=h.n
 exact⟨(h.v.ext y.ext).far (by simp;omega) _,(h.p.ext y.ext).far (by simp;omega) _,(h.z.ext y.ext).far (by simp;omega) _,hf▸(h.f.ext y.ext).set_ i u,(h.e.trans y.ext).setCell _ (by simp;omega),h.n⟩
set_option maxRecDepth 100000 in
theorem map_any (v:Vx) (p:Rc) (w:World) (h:v.Seen) (hp:p.Port) (hx: -268435456≤(vmap v p).x∧(vmap v p).x≤268435456) (hy: -268435456≤(vmap v p).y∧(vmap v p).y≤268435456):
  Calls Tryz.prog 126 #[v.v,p.v] w fun e w'=>e=.returned (.tuple #[(vmap v p).v,.int .i64 0])∧Ext w w':=by
 have HVR:=Lib.hid (fun w=>vright_any p.x0 p.y0 p.x1 p.y1 w hp.x.1 hp.x.2 hp.y.1 hp.y.2 hp.w.1 hp.w.2 hp.h.1 hp.h.2)
 have HVF:=Lib.hid (fun w=>vfits_any v w h)
 obtain⟨⟨w0,w1⟩,⟨x0,x1⟩,⟨y0,y1⟩,⟨z0,z1⟩, -⟩:=h
 obtain⟨⟨p0,p1⟩,⟨p2,p3⟩,⟨p4,p5⟩,⟨p6,p7⟩⟩:=hp
 obtain⟨m1,m2⟩:=port_mul p4 p5 (s:=v.x+v.w) (by omega) (by omega)
 obtain⟨m3,m4⟩:=port_mul p6 p7 (s:=v.y+v.w) (by omega) (by omega)
 have HFX:=Lib.hid (fun w=>floor_any (p.x1*128*(v.x+v.w)) v.w w (by omega) (by omega) (by omega) (by omega))
 have HFY:=Lib.hid (fun w=>floor_any (p.y1*128*(v.y+v.w)) v.w w (by omega) (by omega) (by omega) (by omega))
 have HFZ:=Lib.hid (fun w=>floor_any (16777215*(v.z+v.w)) (2*v.w) w (by omega) (by omega) (by omega) (by omega))
 go_enter Tryz.func126,Tryz.ntmps126
 go_wp2_with fail
 refine(HVR.out _).mono ?_
 rintro e w1 ⟨rfl,hE⟩
 obtain⟨x1,rfl⟩:=Later.mk' hE
 clear hE
 have ca:Blk x1.w w.heap.size 149 #[.int .i64 v.x,.int .i64 v.y,.int .i64 v.z,.int .i64 v.w,.int .i64 v.c0,.int .i64 v.c1,.int .i64 v.c2,.int .i64 v.c3]:=by(repeat(first|with_reducible exact Hid.out (by assumption)|(with_reducible refine Blk.new' _ _ _ ?_;(simp;done))|with_reducible(first|refine Blk.alloc ?_ _|refine Blk.drew ?_|refine Blk.drewN ?_ _|refine Blk.later ?_ _)|(with_reducible refine Blk.far ?_ ?hp _;case hp=>first|(simp;done)|(simp;omega)|omega)))
 have ca:=ca.c8
 go_wp2_with fail
 refine(HVF.out _).mono ?_
 rintro e w1 ⟨rfl,hE⟩
 obtain⟨x2,rfl⟩:=Later.mk' hE
 clear hE
 have HV2:Hid (Blk x2.w w.heap.size 149 #[.int .i64 v.x,.int .i64 v.y,.int .i64 v.z,.int .i64 v.w,.int .i64 v.c0,.int .i64 v.c1,.int .i64 v.c2,.int .i64 v.c3]):=Lib.hid (by(repeat(first|with_reducible exact Hid.out (by assumption)|(with_reducible refine Blk.new' _ _ _ ?_;(simp;done))|with_reducible(first|refine Blk.alloc ?_ _|refine Blk.drew ?_|refine Blk.drewN ?_ _|refine Blk.later ?_ _)|(with_reducible refine Blk.far ?_ ?hp _;case hp=>first|(simp;done)|(simp;omega)|omega))))
 have HP2:Hid (Blk x2.w (w.heap.size+1) 32 #[.int .i64 p.x0,.int .i64 p.y0,.int .i64 p.x1,.int .i64 p.y1]):=Lib.hid (by(repeat(first|with_reducible exact Hid.out (by assumption)|(with_reducible refine Blk.new' _ _ _ ?_;(simp;done))|with_reducible(first|refine Blk.alloc ?_ _|refine Blk.drew ?_|refine Blk.drewN ?_ _|refine Blk.later ?_ _)|(with_reducible refine Blk.far ?_ ?hp _;case hp=>first|(simp;done)|(simp;omega)|omega))))
 have HZ2:Hid (Blk x2.w (w.heap.size+1+1) 177 #[.int .i64 0,.int .i64 0,.int .i64 0,.int .i64 0,.int .i64 0,.int .i64 0,.int .i64 0]):=Lib.hid (by(repeat(first|with_reducible exact Hid.out (by assumption)|(with_reducible refine Blk.new' _ _ _ ?_;(simp;done))|with_reducible(first|refine Blk.alloc ?_ _|refine Blk.drew ?_|refine Blk.drewN ?_ _|refine Blk.later ?_ _)|(with_reducible refine Blk.far ?_ ?hp _;case hp=>first|(simp;done)|(simp;omega)|omega))))
 have HE2:Hid (Ext w x2.w):=Lib.hid (by(repeat(first|with_reducible(first|exact eR_ _|assumption|refine eA_ ?_ _|refine eD_ ?_|refine eN_ ?_ _|refine eL_ ?_ _)|(with_reducible refine eS_ ?_ _ ?hp;case hp=>first|(simp;done)|(simp;omega)|omega))))
 clear ca
 generalize x2.w=w2 at*
 have ca:=HV2.out.c8
 go_upto_region 4 with fail
 clear ca
 have HM3:Hid (Vm v p w w2.heap.size ⟨0,0,0,v.c0,v.c1,v.c2,v.c3⟩ (w2.alloc (.cells #[.int .i64 0,.int .i64 0,.int .i64 0,.int .i64 v.c0,.int .i64 v.c1,.int .i64 v.c2,.int .i64 v.c3] 177))):=Lib.hid ⟨HV2.out.alloc _,HP2.out.alloc _,HZ2.out.alloc _,Blk.new _ _ _,HE2.out.alloc _,HZ2.out.lt⟩
 clear HV2 HP2 HZ2 HE2
 generalize w2.alloc (.cells #[.int .i64 0,.int .i64 0,.int .i64 0,.int .i64 v.c0,.int .i64 v.c1,.int .i64 v.c2,.int .i64 v.c3] 177)=w3 at*
 generalize w2.heap.size=E at*
 unfold vmap at*
 simp only at hx hy
 generalize hfx:p.x1*128*(v.x+v.w)/v.w=fx at*
 generalize hfy:p.y1*128*(v.y+v.w)/v.w=fy at*
 have ca:=HM3.out.v.c8
 have cp:=HM3.out.p.c4
 have cf:=HM3.out.f.c7
 have ff:=HM3.out.f.f7
 refine wp_region_later_tail 17 (by kernel_rfl) (by kernel_rfl) ?_
 simp only[List.take_succ_cons,List.take_zero,List.drop_succ_cons,List.drop_zero]
 repeat(go_big_quiet_step ((first|(go_at_call 172;exact Calls.later _ (HFX.out _))|fail)))
 refine wpQuiet_nil ?_
 intro y
 go_upto_region 5 with fail
 have HM4:=Lib.hid (HM3.out.set y 0 (.int .i64 (p.x0*256+fx)) ⟨p.x0*256+fx,0,0,v.c0,v.c1,v.c2,v.c3⟩ rfl)
 clear ca cp cf ff HM3
 generalize y.w.setCell ⟨E,0,none⟩ (.int .i64 (p.x0*256+fx))=w4 at*
 have ca:=HM4.out.v.c8
 have cp:=HM4.out.p.c4
 have cf:=HM4.out.f.c7
 have ff:=HM4.out.f.f7
 refine wp_region_later_tail 17 (by kernel_rfl) (by kernel_rfl) ?_
 simp only[List.take_succ_cons,List.take_zero,List.drop_succ_cons,List.drop_zero]
 repeat(go_big_quiet_step ((first|(go_at_call 172;exact Calls.later _ (HFY.out _))|fail)))
 refine wpQuiet_nil ?_
 intro y2
 go_upto_region 6 with fail
 have HM5:=Lib.hid (HM4.out.set y2 1 (.int .i64 (p.y0*256+fy)) ⟨p.x0*256+fx,p.y0*256+fy,0,v.c0,v.c1,v.c2,v.c3⟩ rfl)
 clear ca cp cf ff HM4
 generalize y2.w.setCell ⟨E,1,none⟩ (.int .i64 (p.y0*256+fy))=w5 at*
 have ca:=HM5.out.v.c8
 have cf:=HM5.out.f.c7
 have ff:=HM5.out.f.f7
 obtain⟨hx1,hx2⟩:=hx
 obtain⟨hy1,hy2⟩:=hy
 generalize hX:p.x0*256+fx=X at*
 generalize hY:p.y0*256+fy=Y at*
 go_wp2_with fail
 refine(HFZ.out _).mono ?_
 rintro e w1 ⟨rfl,hE⟩
 obtain⟨y3,rfl⟩:=Later.mk' hE
 clear hE
 go_upto_region 9 with fail
 have HM6:=Lib.hid (HM5.out.set y3 2 (.int .i64 (min (max (16777215*(v.z+v.w)/(2*v.w)) 0) 16777215)) ⟨X,Y,min (max (16777215*(v.z+v.w)/(2*v.w)) 0) 16777215,v.c0,v.c1,v.c2,v.c3⟩ rfl)
 have HVM:Hid (vmap v p=⟨X,Y,min (max (16777215*(v.z+v.w)/(2*v.w)) 0) 16777215,v.c0,v.c1,v.c2,v.c3⟩):=Lib.hid (by unfold vmap;rw[hfx,hfy,hX,hY])
 clear ca cf ff HM5
 generalize y3.w.setCell ⟨E,2,none⟩ (.int .i64 (min (max (16777215*(v.z+v.w)/(2*v.w)) 0) 16777215))=w6 at*
 generalize min (max (16777215*(v.z+v.w)/(2*v.w)) 0) 16777215=Z at*
 have cf:=HM6.out.f.c7
 have cz:=HM6.out.z.c7
 have fz:=HM6.out.z.f7
 go_wp2_with fail
 have HR:=Lib.hid (HM6.out.z.s7 (.int .i64 X) (.int .i64 Y) (.int .i64 Z) (.int .i64 v.c0) (.int .i64 v.c1) (.int .i64 v.c2) (.int .i64 v.c3))
 have HE:Hid (Ext w (((((((w6.setCell ⟨w.heap.size+1+1,0,none⟩ (.int .i64 X)).setCell ⟨w.heap.size+1+1,1,none⟩ (.int .i64 Y)).setCell ⟨w.heap.size+1+1,2,none⟩ (.int .i64 Z)).setCell ⟨w.heap.size+1+1,3,none⟩ (.int .i64 v.c0)).setCell ⟨w.heap.size+1+1,4,none⟩ (.int .i64 v.c1)).setCell ⟨w.heap.size+1+1,5,none⟩ (.int .i64 v.c2)).setCell ⟨w.heap.size+1+1,6,none⟩ (.int .i64 v.c3))):=Lib.hid (((((((HM6.out.e.setCell (p:=⟨w.heap.size+1+1,0,none⟩) (.int .i64 X) (by simp;omega)).setCell (p:=⟨w.heap.size+1+1,1,none⟩) (.int .i64 Y) (by simp;omega)).setCell (p:=⟨w.heap.size+1+1,2,none⟩) (.int .i64 Z) (by simp;omega)).setCell (p:=⟨w.heap.size+1+1,3,none⟩) (.int .i64 v.c0) (by simp;omega)).setCell (p:=⟨w.heap.size+1+1,4,none⟩) (.int .i64 v.c1) (by simp;omega)).setCell (p:=⟨w.heap.size+1+1,5,none⟩) (.int .i64 v.c2) (by simp;omega)).setCell (p:=⟨w.heap.size+1+1,6,none⟩) (.int .i64 v.c3) (by simp;omega))
 generalize(((((((w6.setCell ⟨w.heap.size+1+1,0,none⟩ (.int .i64 X)).setCell ⟨w.heap.size+1+1,1,none⟩ (.int .i64 Y)).setCell ⟨w.heap.size+1+1,2,none⟩ (.int .i64 Z)).setCell ⟨w.heap.size+1+1,3,none⟩ (.int .i64 v.c0)).setCell ⟨w.heap.size+1+1,4,none⟩ (.int .i64 v.c1)).setCell ⟨w.heap.size+1+1,5,none⟩ (.int .i64 v.c2)).setCell ⟨w.heap.size+1+1,6,none⟩ (.int .i64 v.c3))=w7 at*
 refine bodyPost_ret (v:=.tuple #[(Wv.mk X Y Z v.c0 v.c1 v.c2 v.c3).v,.int .i64 0]) ?_ rfl ⟨by rw[HVM.out],HE.out⟩
 rw[results_cell_tmp Tryz.results126]
 have hl:=run_load_blk (P:=Tryz.prog) HR.out 177 0 7 agg_win (by kernel_rfl) (by simp)
 simp[asAddr,Result.andThen,hl]
end Go.Proofs.YtplljnfjkkloeaaGreatDoor
