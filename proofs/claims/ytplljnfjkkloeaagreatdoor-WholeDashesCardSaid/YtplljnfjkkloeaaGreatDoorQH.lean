/- Proof text: the pixels of a line in a rectangle (walk.Within). By an AI agent. No condition beyond what each theorem states. -/
import Derived.Test.YtplljnfjkkloeaaGreatDoorQF
import Derived.Test.YtplljnfjkkloeaaGreatDoorQG
set_option linter.unusedVariables false
set_option linter.unusedSimpArgs false
set_option maxHeartbeats 4000000
namespace Go.Proofs.YtplljnfjkkloeaaGreatDoor
attribute [local go_sem] Go.Oper.semAt_some
open Go.RowKit
theorem from_any (g:Nat) (u N:Int) (w:World):Calls Tryz.prog 230 #[.pointer (some ⟨g,0,none⟩),.int .i64 u,.int .i64 N] w fun e w'=>
  e=.returned (.func (.func 267) #[] #[.pointer (some ⟨w.heap.size,0,none⟩),.pointer (some ⟨w.heap.size+1,0,none⟩),.pointer (some ⟨w.heap.size+1+1,0,none⟩)])∧
   ((w.alloc (.cells #[.pointer (some ⟨g,0,none⟩)] 337)).alloc (.cells #[.int .i64 u] 3)).alloc (.cells #[.int .i64 N] 3)=w':=by
 have hmf: ∀(fn:Fn) (first cap:Array Value) (w:World),(Instr.makeFunc fn first cap).run Tryz.prog w=.ok (.func fn first cap) w:=fun _ _ _ _=>rfl
 go_enter Tryz.func230,Tryz.ntmps230
 go_wp2_with fail
 go_ret
 exact⟨rfl,rfl⟩
theorem stood_pt:Tryz.prog.stoodInHeld 79=false:=by kernel_rfl
theorem eq_pt (a b c d:Int) (w:World):(Op.equalIn 10000 79 (.agg #[.int .i64 a,.int .i64 b]) (.agg #[.int .i64 c,.int .i64 d])).run Tryz.prog w=.ok (a==c&&b==d) w:=by
 have hf:=fieldsOf_of Tryz.underlying79
 have ht:Tryz.prog.underlying 79=some (.struct (Tryz.prog.fieldsOf 79)):=by rw[hf];exact Tryz.underlying79
 have E0:=fun a b w=>eqIn_int (P:=Tryz.prog) Tryz.underlying3 9998 a b w
 rw[show(10000:Nat)=9999+1 from rfl,run_equalIn_struct w 9999 _ _ _ ht stood_pt,hf]
 have p0:=fun(x0 x1:Value) w=>part_int (P:=Tryz.prog) Tryz.underlying3 (xs:= #[x0,x1]) (off:=0) (v:=x0) rfl w
 have p1:=fun(x0 x1:Value) w=>part_int (P:=Tryz.prog) Tryz.underlying3 (xs:= #[x0,x1]) (off:=1) (v:=x1) rfl w
 simp only[Op.eqFields,Sem.run_bind,p0,p1,E0,Result.andThen_ok,Nat.reduceAdd,ne_eq,String.reduceEq,not_false_eq_true,if_true,Sem.run_ite,Sem.run_pure,reduceIte,Bool.not_eq_eq_eq_not,Bool.not_true]
 cases h0:(a==c) <;>cases h1:(b==d) <;>simp
def stp (p:Int×Int×Int):List Value:=[.int .i64 p.1,.int .i64 p.2.1,.int .i64 p.2.2]
theorem info_step:(Tryz.prog.info? 97).map (fun i=>(i.zero,i.size,i.bytes))=some (some (.agg #[.int .i64 0,.int .i64 0,.int .i64 0]),3,24):=by kernel_rfl
set_option maxRecDepth 100000 in
theorem within_none (ax ay:Int) (r:Rc) (w:World):
  Calls Tryz.prog 187 #[.agg #[.int .i64 ax,.int .i64 ay],.agg #[.int .i64 ax,.int .i64 ay],r.v] w fun e w'=>e=.returned (.slice none 0 0)∧Ext w w':=by
 have t1:(ax==ax)=true:=by simp
 have t2:(ay==ay)=true:=by simp
 go_enter Tryz.func187,Tryz.ntmps187
 go_wp2_with fail
 go_ret
 exact⟨rfl,by(repeat(first|with_reducible(first|exact eR_ _|assumption|refine eA_ ?_ _|refine eD_ ?_|refine eN_ ?_ _|refine eL_ ?_ _)|(with_reducible refine eS_ ?_ _ ?hp;case hp=>first|(simp;done)|(simp;omega)|omega)))⟩
theorem pixel_ext (W:Way) (g:Nat) (fs ls:Int) (ex op:Bool) (pu pv u v:Int) (w:World) (hB:Blk w g 341 (wrow W fs ls ex op pu pv)):
  Calls Tryz.prog 227 #[.pointer (some ⟨g,0,none⟩),.int .i64 u,.int .i64 v] w fun e w'=>e=.returned (.tuple #[.int .i64 (W.px u v),.int .i64 (W.py u v)])∧Ext w w':=
 (pixel_any W g fs ls ex op pu pv u v w hB).mono fun _ _ h=>⟨h.1,h.2▸Ext.refl _⟩
theorem pixel_px (W:Way) (g:Nat) (fs ls:Int) (ex op:Bool) (pu pv u v:Int) (w:World) (hB:Blk w g 341 (wrow W fs ls ex op pu pv)):
  Calls Tryz.prog 227 #[.pointer (some ⟨g,0,none⟩),.int .i64 u,.int .i64 v] w fun e w'=>e=.returned (.tuple #[.int .i64 (W.px u v),.int .i64 (W.py u v)])∧w=w':=pixel_any W g fs ls ex op pu pv u v w hB
theorem KeepsOthers.of_ext {w w':World} (e:Ext w w'):KeepsOthers w w':=⟨e.size,fun k o h _=>(e.block (Array.getElem?_eq_some_iff.1 h).1).trans h⟩
structure Wi (W:Way) (r:Rc) (w:World) (g B:Nat) (L:List (Int×Int×Int)) (wx:World):Prop where
 rc:Blk wx (w.heap.size+1+1) 48 r.row
 p:Blk wx B 337 #[.pointer (some ⟨g,0,none⟩)]
 y:Blk wx g 341 (wrow W W.first W.last W.extra W.open_ W.xu W.xv)
 o: ∃v,SBox w.heap.size 93 97 3 stp (B+1) L v wx
 e:Ext w wx
 n:w.heap.size+1+1<g∧w.heap.size+1+1<B
theorem Wi.ext {W:Way} {r:Rc} {w:World} {g B:Nat} {L:List (Int×Int×Int)} {wx wy:World} (h:Wi W r w g B L wx) (x:Ext wx wy):Wi W r w g B L wy:=
 ⟨h.rc.ext x,h.p.ext x,h.y.ext x,h.o.elim fun v hv=>⟨v,hv.ext x⟩,h.e.trans x,h.n⟩
theorem Wi.push {W:Way} {r:Rc} {w:World} {g B:Nat} {L:List (Int×Int×Int)} {wx:World} (h:Wi W r w g B L wx) {v v':Value} {w1:World} {x:Int×Int×Int} (hv:SBox w.heap.size 93 97 3 stp (B+1) L v wx)
  (ho:w1.ownsRow w.heap.size 97 3 v' (L.length+1) (L.flatMap stp++stp x))(hg:wx.grownBy w1 v.ownBlock)(hgB:g≠B+1):Wi W r w g B (L++[x]) (w1.setCell ⟨B+1,0,none⟩ v'):=by
 have h1:=hv.push (by decide) ho hg
 have hn:=h.n
 have hk:Kp (fun k=>k<w.heap.size) wx (w1.setCell ⟨B+1,0,none⟩ v'):=kp_push hv (Kp.refl _ _) hg (by simp;omega) (fun g hb=>by simp;omega)
 exact⟨(h.rc.grown' hg (own_ne_blk hv.own h.rc (by decide))).far (by simp;omega) _,(h.p.grown' hg (own_ne_blk hv.own h.p (by decide))).far (by simp) _,(h.y.grown' hg (own_ne_blk hv.own h.y (by decide))).far (by simpa using hgB) _,⟨v',h1.2⟩,hk.ext h.e (fun k hk=>hk),h.n⟩
def hdL (W:Way) (r:Rc):List (Int×Int×Int):=if W.extra=true∧r.Has (W.px W.xu W.xv) (W.py W.xu W.xv)then[(0,W.px W.xu W.xv,W.py W.xu W.xv)]else[]
def lowU (W:Way) (r:Rc):Int:=if W.turned=true then r.y0 else r.x0
def highU (W:Way) (r:Rc):Int:=if W.turned=true then r.y1 else r.x1
def beginN (W:Way) (r:Rc):Int:=max (if W.step<0 then W.first-highU W r+1 else lowU W r-W.first) 0
def endN (W:Way) (r:Rc):Int:=min (if W.step<0 then W.first-lowU W r else highU W r-1-W.first) (W.many-1)
def oneL (W:Way) (r:Rc) (i:Nat):List (Int×Int×Int):=
 if r.Has (W.px (W.at_ (W.first+beginN W r*W.step) i) (W.across (W.at_ (W.first+beginN W r*W.step) i))) (W.py (W.at_ (W.first+beginN W r*W.step) i) (W.across (W.at_ (W.first+beginN W r*W.step) i)))
 then[((if W.extra=true then 1 else 0)+beginN W r+i,W.px (W.at_ (W.first+beginN W r*W.step) i) (W.across (W.at_ (W.first+beginN W r*W.step) i)),W.py (W.at_ (W.first+beginN W r*W.step) i) (W.across (W.at_ (W.first+beginN W r*W.step) i)))]
 else[]
def bodL (W:Way) (r:Rc) (n:Nat):List (Int×Int×Int):=(List.range n).flatMap (oneL W r)
theorem bodL_succ (W:Way) (r:Rc) (n:Nat):bodL W r (n+1)=bodL W r n++oneL W r n:=by
 unfold bodL
 rw[List.range_succ,List.flatMap_append]
 simp
theorem len_le (W:Way) (r:Rc) (n:Nat):(hdL W r++bodL W r n).length≤n+1:=by
 have h1:(hdL W r).length≤1:=by unfold hdL;split <;>simp
 have h2:(bodL W r n).length≤n:=by
  induction n with
  |zero=>simp[bodL]
  |succ n ih=>
   rw[bodL_succ,List.length_append]
   have:(oneL W r n).length≤1:=by unfold oneL;split <;>simp
   omega
 rw[List.length_append]
 omega
def witL (W:Way) (r:Rc):List (Int×Int×Int):=hdL W r++bodL W r (endN W r-beginN W r+1).toNat
theorem Ext.putObj {w W:World} (h:Ext w W) (l:Nat) (o:Obj) (hl:w.heap.size≤l):Ext w (W.putObj l o):=
 (Kp.putObj W l o (fun h=>h rfl):Kp (·≠l) W (W.putObj l o)).ext h (fun k hk=>by omega)
theorem It.ext {W:Way} {g Bw Bu Bn N:Nat} {u:Int} {w w':World} (h:It W g Bw Bu Bn N u w) (e:Ext w w'):It W g Bw Bu Bn N u w':=⟨h.p.ext e,h.y.ext e,h.u.ext e,h.n.ext e⟩
structure Jt (W:Way) (r:Rc) (w:World) (g B C Bw Bu Bn N:Nat) (c0:Int) (k:Nat) (u:Int) (wx:World):Prop where
 i:Wi W r w g B (hdL W r++bodL W r k) wx
 c:Blk wx C 3 #[.int .i64 (c0+k)]
 t:It W g Bw Bu Bn N u wx
theorem Jt.ext {W:Way} {r:Rc} {w:World} {g B C Bw Bu Bn N:Nat} {c0:Int}:OnExt (Jt W r w g B C Bw Bu Bn N c0):=fun k u W' W'' h e=>⟨h.i.ext e,h.c.ext e,h.t.ext e⟩
theorem Jt.cell {W:Way} {r:Rc} {w:World} {g B C Bw Bu Bn N:Nat} {c0:Int} (h1:w.heap.size+1+1<Bu) (h2:g<Bu) (h3:B+1<Bu) (h4:C<Bu) (h5:Bw<Bu) (h6:Bu<Bn):OnCell Bu (Jt W r w g B C Bw Bu Bn N c0):=by
 intro k u u' W' h
 refine⟨⟨h.i.rc.far (by simp;omega) _,h.i.p.far (by simp;omega) _,h.i.y.far (by simp;omega) _,?_,h.i.e.setCell _ (by simp;omega),h.i.n⟩,h.c.far (by simp;omega) _,h.t.p.far (by simp;omega) _,h.t.y.far (by simp;omega) _,?_,h.t.n.far (by simp;omega) _⟩
 ·obtain⟨v,hv⟩:=h.i.o
  exact⟨v,hv.far h.t.u (by decide) (by omega) 0 _⟩
 ·have:=h.t.u.set_ 0 (.int .i64 u')
  simpa using this
theorem Jt.obj {W:Way} {r:Rc} {w:World} {g B C Bw Bu Bn N:Nat} {c0:Int} {k:Nat} {u:Int} {wx:World} (h:Jt W r w g B C Bw Bu Bn N c0 k u wx) {l:Nat} (hl:w.heap.size≤l) (o:Obj) (hr: ∃q,wx.heap[l]? =some (.loop q)):Jt W r w g B C Bw Bu Bn N c0 k u (wx.putObj l o):=by
 obtain⟨q,hq⟩:=hr
 exact⟨⟨h.i.rc.putObj hq o,h.i.p.putObj hq o,h.i.y.putObj hq o,h.i.o.elim fun v hv=>⟨v,hv.putObj hq o⟩,h.i.e.putObj l o hl,h.i.n⟩,h.c.putObj hq o,h.t.p.putObj hq o,h.t.y.putObj hq o,h.t.u.putObj hq o,h.t.n.putObj hq o⟩
theorem nigh_le {W:Way} (h:W.In) {n:Nat} (hn:n≤W.size):W.Nigh (W.mid n):=by
 obtain⟨⟨a1,a2⟩, -,⟨c1,c2⟩, -⟩:=h
 unfold Way.Nigh Way.mid Way.step
 unfold Way.size Way.first Way.last lst at*
 by_cases k:(W.bu+127)/256<(W.au+127)/256
 ·simp only[if_pos k]at hn ⊢
  rw[if_pos (by omega)]
  omega
 ·simp only[if_neg k]at hn ⊢
  omega
theorem dir_step {W:Way} (hs:0<W.size):W.dv*W.step=W.bv-W.av:=by
 unfold Way.dv Way.step
 unfold Way.size Way.first Way.last lst at*
 by_cases k:(W.bu+127)/256<(W.au+127)/256
 ·simp only[if_pos k]at hs ⊢
  rw[if_pos (by omega),if_pos (by omega)]
  omega
 ·simp only[if_neg k]at hs ⊢
  rw[if_neg (by omega)]
  omega
theorem at_mid (W:Way) (b k:Nat):W.at_ (W.first+(b:Int)*W.step) k=W.mid (b+k):=by
 unfold Way.at_ Way.mid
 rw[Int.natCast_add,Int.add_mul]
 omega
def WithinP (L:List (Int×Int×Int)) (w:World) (e:Ending) (w':World):Prop:=
 ∃v,e=.returned v∧w'.ownsRow w.heap.size 97 3 v L.length (L.flatMap stp)∧Ext w w'
set_option maxRecDepth 100000 in
theorem within_way (ax ay bx by_:Int) (r:Rc) (w:World) (h1:Pl ax) (h2:Pl ay) (h3:Pl bx) (h4:Pl by_) (hne: ¬(ax=bx∧ay=by_)) (hr:r.Ok):
  Calls Tryz.prog 187 #[.agg #[.int .i64 ax,.int .i64 ay],.agg #[.int .i64 bx,.int .i64 by_],r.v] w (WithinP (witL (wayOf ax ay bx by_) r) w):=by
 have HNW:=Lib.hid (fun w'=>newWay_any ax ay bx by_ w' h1 h2 h3 h4 hne)
 have HIN:=Lib.hid (wayOf_in h1 h2 h3 h4)
 have HOK:=Lib.hid (wayOf_ok hne)
 have HRO:=Lib.hid hr
 have he: ∀W',(Op.equalIn 10000 79 (.agg #[.int .i64 ax,.int .i64 ay]) (.agg #[.int .i64 bx,.int .i64 by_])).run Tryz.prog W'=.ok false W':=by
  intro W'
  rw[eq_pt]
  congr 1
  cases c1:(ax==bx) <;>cases c2:(ay==by_) <;>simp
  simp at c1 c2
  exact hne ⟨c1,c2⟩
 clear h1 h2 h3 h4 hne hr
 generalize wayOf ax ay bx by_=W at*
 refine callsIn_wide.1 (callsIn_of_wp_marks (n:=4) Tryz.func187 rfl trivial ?_ rfl)
 refine wpIn_wide.2 ?_
 simp only[Tryz.ntmps187,List.size_toArray,List.length_cons,List.length_nil,Nat.reduceAdd,Nat.reduceSub,Array.replicate_succ,Array.replicate_zero,List.push_toArray,List.append_toArray,List.nil_append,List.cons_append]
 go_wp2_with fail
 refine(rect_right r _ HRO.out).mono ?_
 rintro e w1 ⟨rfl,hE⟩
 obtain⟨x1,rfl⟩:=Later.mk' hE
 clear hE
 have A0:Hid (Blk x1.w w.heap.size 79 #[.int .i64 ax,.int .i64 ay]):=Lib.hid (by(repeat(first|with_reducible exact Hid.out (by assumption)|(with_reducible refine Blk.new' _ _ _ ?_;(simp;done))|with_reducible(first|refine Blk.alloc ?_ _|refine Blk.drew ?_|refine Blk.drewN ?_ _|refine Blk.later ?_ _)|(with_reducible refine Blk.far ?_ ?hp _;case hp=>first|(simp;done)|(simp;omega)|omega))))
 have A1:Hid (Blk x1.w (w.heap.size+1) 79 #[.int .i64 bx,.int .i64 by_]):=Lib.hid (by(repeat(first|with_reducible exact Hid.out (by assumption)|(with_reducible refine Blk.new' _ _ _ ?_;(simp;done))|with_reducible(first|refine Blk.alloc ?_ _|refine Blk.drew ?_|refine Blk.drewN ?_ _|refine Blk.later ?_ _)|(with_reducible refine Blk.far ?_ ?hp _;case hp=>first|(simp;done)|(simp;omega)|omega))))
 have A2:Hid (Blk x1.w (w.heap.size+1+1) 48 r.row):=Lib.hid (by(repeat(first|with_reducible exact Hid.out (by assumption)|(with_reducible refine Blk.new' _ _ _ ?_;(simp;done))|with_reducible(first|refine Blk.alloc ?_ _|refine Blk.drew ?_|refine Blk.drewN ?_ _|refine Blk.later ?_ _)|(with_reducible refine Blk.far ?_ ?hp _;case hp=>first|(simp;done)|(simp;omega)|omega))))
 have E1:Hid (Ext w x1.w):=Lib.hid (by(repeat(first|with_reducible(first|exact eR_ _|assumption|refine eA_ ?_ _|refine eD_ ?_|refine eN_ ?_ _|refine eL_ ?_ _)|(with_reducible refine eS_ ?_ _ ?hp;case hp=>first|(simp;done)|(simp;omega)|omega))))
 obtain⟨p0,p1⟩:=A0.out.c2
 obtain⟨p2,p3⟩:=A1.out.c2
 go_wp2_with fail
 clear he p0 p1 p2 p3
 refine(HNW.out _).mono ?_
 rintro e w2 ⟨g,rfl,hg,hB,hE⟩
 have B2:=Lib.hid (A2.out.ext hE)
 have HY:=Lib.hid hB
 have HG:Hid (w.heap.size+1+1<g):=Lib.hid (by have:=A2.out.lt;omega)
 have HG2:=Lib.hid hB.lt
 have E2:=Lib.hid (E1.out.trans hE)
 have HS2:Hid (w.heap.size+1+1<w2.heap.size):=Lib.hid (B2.out.lt)
 clear hg hB hE A0 A1 A2 E1
 go_upto_region 6 with fail
 have HW0:Hid (Wi W r w g w2.heap.size [] ((w2.alloc (.cells #[.pointer (some ⟨g,0,none⟩)] 337)).alloc (.cells #[.slice none 0 0] 93))):=Lib.hid
  ⟨(B2.out.alloc _).alloc _,(Blk.new _ _ _).alloc _,(HY.out.alloc _).alloc _,⟨_,SBox.nil (Blk.new' _ _ _ (by simp))⟩,((E2.out.alloc _).alloc _),HG.out,HS2.out⟩
 have HPX:=Lib.hid (fun W' (x:Blk W' g 341 (wrow W W.first W.last W.extra W.open_ W.xu W.xv))=>pixel_ext W g W.first W.last W.extra W.open_ W.xu W.xv W.xu W.xv W' x)
 have HHA:=Lib.hid (fun W'=>has_any r (W.px W.xu W.xv) (W.py W.xu W.xv) W' HRO.out)
 have HGB:Hid (g≠w2.heap.size+1):=Lib.hid (by have:=HG2.out;omega)
 clear HY B2 E2 HNW
 generalize(w2.alloc (.cells #[.pointer (some ⟨g,0,none⟩)] 337)).alloc (.cells #[.slice none 0 0] 93)=w3 at*
 generalize w2.heap.size=B at*
 have p0:=HW0.out.p.c1
 have y8:w3.cell? ⟨g,8,none⟩=some (.bool W.extra):=HW0.out.y.cell 8
 go_upto_if 36 with(fail)
 clear p0 y8
 go_cut [9,10,11]from 36 to 59 (fun s x y wx=>s=.int .i64 (if W.extra=true then 1 else 0)∧Hid (Wi W r w g B (hdL W r) wx))
 case first=>
  cases hEx:W.extra
  ·have HEX:=Lib.hid hEx
   clear hEx
   go_wp2_with fail
   go_meet
   refine⟨by rw[HEX.out];rfl,Lib.hid ?_⟩
   unfold hdL
   rw[if_neg (by rw[HEX.out];simp)]
   exact HW0.out
  ·have HEX:=Lib.hid hEx
   have hex2:=hEx
   clear hEx
   have p0:=HW0.out.p.c1
   have y10:w3.cell? ⟨g,10,none⟩=some (.int .i64 W.xu):=HW0.out.y.cell 10
   have y11:w3.cell? ⟨g,11,none⟩=some (.int .i64 W.xv):=HW0.out.y.cell 11
   clear hex2
   go_upto_region 8 with fail
   refine wp_region_later (by kernel_rfl) (by kernel_rfl) ?_
   repeat(go_big_quiet_step ((first|(go_at_call 227;with_reducible exact Calls.later _ (HPX.out _ (HW0.out.y.later _)))|fail)))
   refine wpQuiet_nil ?_
   intro y
   have HW1:=Lib.hid (HW0.out.ext y.ext)
   clear p0 y10 y11
   obtain⟨r0,r1,r2,r3⟩:=HW1.out.rc.c4
   go_wp2_with fail
   clear r0 r1 r2 r3
   refine(HHA.out _).mono ?_
   rintro e w1 ⟨rfl,hE⟩
   obtain⟨z,rfl⟩:=Later.mk' hE
   clear hE
   have HW2:=Lib.hid (HW1.out.ext z.ext)
   by_cases hh:r.Has (W.px W.xu W.xv) (W.py W.xu W.xv)
   ·have hd:decide (r.Has (W.px W.xu W.xv) (W.py W.xu W.xv))=true:=decide_eq_true hh
    rw[hd]
    have HHH:=Lib.hid hh
    clear hd hh
    obtain⟨v,hv⟩:=HW2.out.o
    have HV:=Lib.hid hv
    clear hv
    have o0:=HV.out.blk.c1
    have oz:=HV.out.blk.frozen 0
    go_wp2_with (refine wpList_append_src rfl (.tmp 54) (.tmp 58) 93 rfl w.heap.size 97 _ 3 24 Tryz.underlying93 info_step rfl (by decide) v 0 [] rfl (HV.out.own.alloc _) ⟨_,0,none⟩ 1 1 [.int .i64 0,.int .i64 (W.px W.xu W.xv),.int .i64 (W.py W.xu W.xv)] rfl rfl (news_at _ _ _) (by simp[Value.oneCell']) (by omega) (by decide) ?c5 ?_)
    case c5=>have:=HW2.out.e.size;simp;omega
    intro v' w4 ho hg _
    have HV1:=HV.out.ext ((Ext.refl z.w).alloc (.cells #[.int .i64 0,.int .i64 (W.px W.xu W.xv),.int .i64 (W.py W.xu W.xv)] 97))
    have HB4:=Lib.hid (HV1.push (x:=((0:Int),W.px W.xu W.xv,W.py W.xu W.xv)) (by decide) ho hg).1
    have HW3:=Lib.hid ((HW2.out.ext ((Ext.refl z.w).alloc _)).push (x:=(0,W.px W.xu W.xv,W.py W.xu W.xv)) HV1 ho hg HGB.out)
    obtain⟨va,vc,rfl, -⟩:=ownsRow_rd ho
    clear ho hg HV1 o0 oz
    have o0:=HB4.out.c1
    have oz:=HB4.out.frozen 0
    go_wp2_with fail
    go_meet
    refine⟨by rw[HEX.out];rfl,Lib.hid ?_⟩
    unfold hdL
    rw[if_pos ⟨HEX.out,HHH.out⟩]
    exact HW3.out
   ·have hd:decide (r.Has (W.px W.xu W.xv) (W.py W.xu W.xv))=false:=decide_eq_false hh
    rw[hd]
    have HHH:=Lib.hid hh
    clear hd hh
    go_wp2_with fail
    go_meet
    refine⟨by rw[HEX.out];rfl,Lib.hid ?_⟩
    unfold hdL
    rw[if_neg (fun h=>HHH.out h.2)]
    exact HW2.out
 case rest=>
  obtain⟨rfl,HW4⟩:=hcut
  clear HW0 HPX HHA
  generalize wc=w4 at*
  have p0:=HW4.out.p.c1
  have HSZ:=Lib.hid (fun W' (x:Blk W' g 341 (wrow W W.first W.last W.extra W.open_ W.xu W.xv))=>size_any W g W.first W.last W.extra W.open_ W.xu W.xv W' x HIN.out.first.1 HIN.out.first.2)
  obtain⟨ah,hah⟩: ∃ah:Int,ah=if W.extra=true then 1 else 0:=⟨_,rfl⟩
  rw[←hah]
  have HAH:=Lib.hid hah
  have hab:0≤ah∧ah≤1:=by rw[hah];split <;>omega
  clear hah
  obtain⟨ah1,ah2⟩:=hab
  have HSP:=Lib.hid (fun W' (x:Blk W' g 341 (wrow W W.first W.last W.extra W.open_ W.xu W.xv))=>step_any W g W.first W.last W.extra W.open_ W.xu W.xv W' x)
  have HSW:=Lib.hid (show(if W.last<W.first then(-1:Int)else 1)=W.step from rfl)
  rw[HSW.out]at HSP
  clear HSW
  have hfl:=HIN.out.first
  have hfb: -1048700≤W.first∧W.first≤1048700∧ -1048700≤W.last∧W.last≤1048700:=by
   have h1:=HIN.out.au
   have h2:=HIN.out.bu
   unfold Pl at h1 h2
   unfold Way.first Way.last lst
   split <;>omega
  obtain⟨fb1,fb2,fb3,fb4⟩:=hfb
  have hnb:(0:Int)≤((W.last-W.first).natAbs:Nat)∧(((W.last-W.first).natAbs:Nat):Int)≤2097400:=by omega
  have HSB:Hid (W.step=1∨W.step= -1):=Lib.hid (by unfold Way.step;split <;>simp)
  have HMN:Hid ((W.many:Int)=((W.last-W.first).natAbs:Nat)-(if W.open_=true then 1 else 0)):=Lib.hid (by
   unfold Way.many Way.size
   split
   ·rename_i ho
    have:=(W.open_is.1 ho).1
    unfold Way.size at this
    omega
   ·omega)
  clear hfl
  go_wp2_with fail
  refine(HSZ.out _ HW4.out.y).mono ?_
  rintro e w1 ⟨rfl,hE⟩
  obtain⟨y1,rfl⟩:=Later.mk' hE
  clear hE
  have HW5:=Lib.hid (HW4.out.ext y1.ext)
  clear HW4 p0
  have p0:=HW5.out.p.c1
  have y9:y1.w.cell? ⟨g,9,none⟩=some (.bool W.open_):=HW5.out.y.cell 9
  generalize(((W.last-W.first).natAbs:Nat):Int)=sz at*
  obtain⟨sz1,sz2⟩:=hnb
  go_upto_if 65 with(fail)
  clear p0 y9
  go_cut [12]from 65 to 67 (fun s wx=>s=.int .i64 W.many∧Hid (Wi W r w g B (hdL W r) wx))
  case first=>
   cases hO:W.open_
   all_goals
    have HO:=Lib.hid hO
    clear hO
    go_wp2_with fail
    go_meet
    refine⟨?_,HW5⟩
    rw[HMN.out,HO.out]
    simp
  case rest=>
  obtain⟨rfl,HW6⟩:=hcut
  clear HW5
  generalize wc=w6 at*
  have hmb:(0:Int)≤W.many∧(W.many:Int)≤2097400:=by
   have:=HMN.out
   split at this <;>omega
  clear HMN
  obtain⟨mb1,mb2⟩:=hmb
  obtain⟨r0,r1,r2,r3⟩:=HW6.out.rc.c4
  have p0:=HW6.out.p.c1
  have y4:w6.cell? ⟨g,4,none⟩=some (.bool W.turned):=HW6.out.y.cell 4
  go_upto_region 14 with fail
  refine wp_region_later (by kernel_rfl) (by kernel_rfl) ?_
  repeat(go_big_quiet_step ((first|fail|fail)))
  refine wpQuiet_nil ?_
  intro y2
  have HW7:=Lib.hid (HW6.out.ext y2.ext)
  go_upto_if 75 with(fail)
  clear r0 r1 r2 r3 p0 y4
  obtain⟨r0,r1,r2,r3⟩:=HW7.out.rc.c4
  go_cut [13,14]from 75 to 79 (fun lo hi wx=>lo=.int .i64 (if W.turned=true then r.y0 else r.x0)∧hi=.int .i64 (if W.turned=true then r.y1 else r.x1)∧Hid (Wi W r w g B (hdL W r) wx))
  case first=>
   cases hO:W.turned
   ·have HO:=Lib.hid hO
    clear hO
    go_wp2_with fail
    go_meet
    rw[HO.out]
    exact⟨rfl,rfl,HW7⟩
   ·have HO:=Lib.hid hO
    clear hO
    go_upto_region 16 with fail
    refine wp_region_later (by kernel_rfl) (by kernel_rfl) ?_
    repeat(go_big_quiet_step ((first|fail|fail)))
    refine wpQuiet_nil ?_
    intro y3
    go_wp2_with fail
    go_meet
    rw[HO.out]
    exact⟨rfl,rfl,Lib.hid (HW7.out.ext y3.ext)⟩
  case rest=>
  obtain⟨rfl,rfl,HW8⟩:=hcut
  clear HW6 HW7 r0 r1 r2 r3
  generalize wc=w8 at*
  obtain⟨lo,hlo⟩: ∃lo:Int,lo=if W.turned=true then r.y0 else r.x0:=⟨_,rfl⟩
  obtain⟨hi,hhi⟩: ∃hi:Int,hi=if W.turned=true then r.y1 else r.x1:=⟨_,rfl⟩
  rw[←hlo,←hhi]
  have hlb: -4194304≤lo∧lo≤4194304∧ -4194304≤hi∧hi≤4194304:=by
   have hrr:=HRO.out
   unfold Rc.Ok at hrr
   rw[hlo,hhi]
   split <;>omega
  have HLO:=Lib.hid hlo
  have HHI:=Lib.hid hhi
  clear hlo hhi
  obtain⟨lb1,lb2,lb3,lb4⟩:=hlb
  have p0:=HW8.out.p.c1
  have y6:w8.cell? ⟨g,6,none⟩=some (.int .i64 W.first):=HW8.out.y.cell 6
  go_upto_region 17 with fail
  refine wp_region_later (by kernel_rfl) (by kernel_rfl) ?_
  repeat(go_big_quiet_step ((first|fail|fail)))
  refine wpQuiet_nil ?_
  intro y4
  have HW9:=Lib.hid (HW8.out.ext y4.ext)
  clear p0 y6
  have p0:=HW9.out.p.c1
  go_wp2_with fail
  refine(HSP.out _ HW9.out.y).mono ?_
  rintro e w1 ⟨rfl,hE⟩
  obtain⟨y5,rfl⟩:=Later.mk' hE
  clear hE
  have HW10:=Lib.hid (HW9.out.ext y5.ext)
  clear HW8 HW9 p0
  have p0:=HW10.out.p.c1
  have y6:y5.w.cell? ⟨g,6,none⟩=some (.int .i64 W.first):=HW10.out.y.cell 6
  go_upto_if 95 with(fail)
  have HBE:Hid (beginN W r=max (if W.step<0 then W.first-hi+1 else lo-W.first) 0∧endN W r=min (if W.step<0 then W.first-lo else hi-1-W.first) (W.many-1)):=Lib.hid (by
   rw[HLO.out,HHI.out];exact⟨rfl,rfl⟩)
  go_cut [15,16]from 95 to 108 (fun s q wx=>s=.int .i64 (if W.step<0 then W.first-hi+1 else lo-W.first)∧q=.int .i64 (if W.step<0 then W.first-lo else hi-1-W.first)∧Hid (Wi W r w g B (hdL W r) wx))
  case first=>
   by_cases c:W.step<0
   ·have t1:decide (W.step<0)=true:=decide_eq_true c
    rw[t1]
    have HCC:=Lib.hid c
    clear c t1
    go_upto_region 19 with fail
    refine wp_region_later (by kernel_rfl) (by kernel_rfl) ?_
    repeat(go_big_quiet_step ((first|fail|fail)))
    refine wpQuiet_nil ?_
    intro y6
    go_wp2_with fail
    go_meet
    rw[if_pos HCC.out,if_pos HCC.out]
    exact⟨rfl,rfl,Lib.hid (HW10.out.ext y6.ext)⟩
   ·have t1:decide (W.step<0)=false:=decide_eq_false c
    rw[t1]
    have HCC:=Lib.hid c
    clear c t1
    go_wp2_with fail
    go_meet
    rw[if_neg (by have:=HCC.out;omega),if_neg (by have:=HCC.out;omega)]
    exact⟨rfl,rfl,HW10⟩
  case rest=>
  obtain⟨rfl,rfl,HW11⟩:=hcut
  clear HW10 p0 y6
  generalize wc=w11 at*
  have hb0: -9000000≤(if W.step<0 then W.first-hi+1 else lo-W.first)∧(if W.step<0 then W.first-hi+1 else lo-W.first)≤9000000∧ -9000000≤(if W.step<0 then W.first-lo else hi-1-W.first)∧(if W.step<0 then W.first-lo else hi-1-W.first)≤9000000:=by
   split <;>omega
  generalize(if W.step<0 then W.first-hi+1 else lo-W.first)=b0 at*
  generalize(if W.step<0 then W.first-lo else hi-1-W.first)=e0 at*
  obtain⟨b01,b02,e01,e02⟩:=hb0
  clear HLO HHI HSZ
  obtain⟨bg,hbg⟩: ∃bg:Int,bg=max b0 0:=⟨_,rfl⟩
  obtain⟨en,hen⟩: ∃en:Int,en=min e0 (W.many-1):=⟨_,rfl⟩
  have hgb:0≤bg∧bg≤9000000∧ -9000000≤en∧en≤W.many-1:=by omega
  obtain⟨g1,g2,g3,g4⟩:=hgb
  have HBG:=Lib.hid hbg
  have HEN:=Lib.hid hen
  clear hbg hen
  have HBE2:Hid (beginN W r=bg∧endN W r=en):=Lib.hid (by rw[HBG.out,HEN.out];exact HBE.out)
  clear HBE
  go_upto_region 21 with fail
  rw[←HBG.out,←HEN.out]
  by_cases c:bg>en
  ·have t1:decide (bg>en)=true:=decide_eq_true c
   have HCC:=Lib.hid c
   clear c
   obtain⟨v,hv⟩:=HW11.out.o
   have HV:=Lib.hid hv
   have o0:=hv.blk.c1
   clear hv
   go_wp2_with fail
   refine⟨_,results_tmp rfl _ _ _,v,rfl,?_,HW11.out.e⟩
   have e1:witL W r=hdL W r:=by
    unfold witL
    rw[HBE2.out.1,HBE2.out.2,show(en-bg+1).toNat=0 by have:=HCC.out;omega]
    simp[bodL]
   rw[e1]
   exact HV.out.own
  ·have t1:decide (bg>en)=false:=decide_eq_false c
   have hle:bg≤en:=by omega
   clear c
   have p0:=HW11.out.p.c1
   have y6:w11.cell? ⟨g,6,none⟩=some (.int .i64 W.first):=HW11.out.y.cell 6
   have hsb:=HSB.out
   have hw1: -9000000≤bg*W.step∧bg*W.step≤9000000:=by
    rcases hsb with h|h <;>rw[h] <;>omega
   obtain⟨w1,w2'⟩:=hw1
   clear hsb
   go_upto_region 24 with fail
   clear p0 y6
   have HW12:=Lib.hid (HW11.out.ext ((Ext.refl w11).alloc (.cells #[.int .i64 (ah+bg)] 3)))
   have HKC:=Lib.hid (Blk.new w11 3 #[.int .i64 (ah+bg)])
   have HBS:Hid (B+1<w11.heap.size):=Lib.hid (by obtain⟨v,hv⟩:=HW11.out.o;exact hv.blk.lt)
   generalize w11.alloc (.cells #[.int .i64 (ah+bg)] 3)=w12 at*
   generalize w11.heap.size=C at*
   have p0:=HW12.out.p.c1
   have y6:w12.cell? ⟨g,6,none⟩=some (.int .i64 W.first):=HW12.out.y.cell 6
   refine wp_region_later_tail 14 (by kernel_rfl) (by kernel_rfl) ?_
   simp only[List.take_succ_cons,List.take_zero,List.drop_succ_cons,List.drop_zero]
   repeat(go_big_quiet_step ((first|(go_at_call 229;with_reducible exact Calls.later _ (HSP.out _ (HW12.out.y.later _)))|fail)))
   refine wpQuiet_nil ?_
   intro y7
   clear p0 y6
   have HW13:=Lib.hid (HW12.out.ext y7.ext)
   have HK13:=Lib.hid (HKC.out.later y7)
   go_wp2_with fail
   have HF:=Lib.hid (from_any g (W.first+bg*W.step) (en-bg+1) y7.w)
   refine HF.out.mono ?_
   rintro e w14 ⟨rfl,hw⟩
   have HW14:Hid (Wi W r w g B (hdL W r) w14):=Lib.hid (by rw[←hw];exact HW13.out.ext ((((Ext.refl _).alloc _).alloc _).alloc _))
   have HK14:Hid (Blk w14 C 3 #[.int .i64 (ah+bg)]):=Lib.hid (by rw[←hw];exact((HK13.out.alloc _).alloc _).alloc _)
   have HCB:Hid (C<y7.w.heap.size):=Lib.hid HK13.out.lt
   have HT1:Hid (Blk w14 y7.w.heap.size 337 #[.pointer (some ⟨g,0,none⟩)]):=Lib.hid (by rw[←hw];(repeat(first|with_reducible exact Hid.out (by assumption)|(with_reducible refine Blk.new' _ _ _ ?_;(simp;done))|with_reducible(first|refine Blk.alloc ?_ _|refine Blk.drew ?_|refine Blk.drewN ?_ _|refine Blk.later ?_ _)|(with_reducible refine Blk.far ?_ ?hp _;case hp=>first|(simp;done)|(simp;omega)|omega))))
   have HT2:Hid (Blk w14 (y7.w.heap.size+1) 3 #[.int .i64 (W.first+bg*W.step)]):=Lib.hid (by rw[←hw];(repeat(first|with_reducible exact Hid.out (by assumption)|(with_reducible refine Blk.new' _ _ _ ?_;(simp;done))|with_reducible(first|refine Blk.alloc ?_ _|refine Blk.drew ?_|refine Blk.drewN ?_ _|refine Blk.later ?_ _)|(with_reducible refine Blk.far ?_ ?hp _;case hp=>first|(simp;done)|(simp;omega)|omega))))
   have HT3:Hid (Blk w14 (y7.w.heap.size+1+1) 3 #[.int .i64 (en-bg+1)]):=Lib.hid (by rw[←hw];(repeat(first|with_reducible exact Hid.out (by assumption)|(with_reducible refine Blk.new' _ _ _ ?_;(simp;done))|with_reducible(first|refine Blk.alloc ?_ _|refine Blk.drew ?_|refine Blk.drewN ?_ _|refine Blk.later ?_ _)|(with_reducible refine Blk.far ?_ ?hp _;case hp=>first|(simp;done)|(simp;omega)|omega))))
   have HSZ14:Hid (w14.heap.size=y7.w.heap.size+1+1+1):=Lib.hid (by rw[←hw];simp)
   clear hw HF HW13 HK13 HKC HW12 HW11 HSP
   generalize y7.w.heap.size=D at*
   obtain⟨N,hN⟩: ∃N:Nat,(N:Int)=en-bg+1:=⟨(en-bg+1).toNat,by omega⟩
   rw[←hN]at HT3
   have HN:=Lib.hid hN
   go_wp2_with fail
   have hnm:(N:Int)≤W.many:=by omega
   have hms:W.many≤W.size:=by unfold Way.many;omega
   obtain⟨bn,hbn⟩: ∃bn:Nat,(bn:Int)=bg:=⟨bg.toNat,by omega⟩
   have HNI:Hid (∀k,k≤N→W.Nigh (W.at_ (W.first+bg*W.step) k)):=Lib.hid (fun k hk=>by
    rw[←hbn,at_mid]
    exact nigh_le HIN.out (by omega))
   have HHD:=Lib.hid (from_hands W g D (D+1) (D+1+1) N (W.first+bg*W.step) (Jt W r w g B C D (D+1) (D+1+1) N (ah+bg)) (fun k u w' h=>h.t) HIN.out HOK.out.pos (dir_step (by omega)) (by omega) HNI.out)
   have HONE:Hid (∀k,bodL W r (k+1)=bodL W r k++(if r.Has (W.px (W.at_ (W.first+bg*W.step) k) (W.across (W.at_ (W.first+bg*W.step) k))) (W.py (W.at_ (W.first+bg*W.step) k) (W.across (W.at_ (W.first+bg*W.step) k)))
    then[(ah+bg+(k:Int),W.px (W.at_ (W.first+bg*W.step) k) (W.across (W.at_ (W.first+bg*W.step) k)),W.py (W.at_ (W.first+bg*W.step) k) (W.across (W.at_ (W.first+bg*W.step) k)))]else[])):=Lib.hid (fun k=>by
     rw[bodL_succ]
     unfold oneL
     rw[HBE2.out.1,←HAH.out])
   have HWT:Hid (witL W r=hdL W r++bodL W r N):=Lib.hid (by
    unfold witL
    rw[HBE2.out.1,HBE2.out.2,←hN]
    rfl)
   clear hnm hms hbn hN
   have hcb:0≤ah+bg∧ah+bg≤9000001:=by omega
   generalize W.first+bg*W.step=u0 at*
   generalize ah+bg=c0 at*
   obtain⟨cb1,cb2⟩:=hcb
   have o1:=HG.out
   have o2:=HG2.out
   have o3:=HBS.out
   have o4:=HCB.out
   have o5:=HSZ14.out
   have hcell:OnCell (D+1) (Jt W r w g B C D (D+1) (D+1+1) N c0):=Jt.cell (by omega) (by omega) (by omega) (by omega) (by omega) (by omega)
   have hobj:w.heap.size≤w14.heap.size∧D+1<w14.heap.size:=by omega
   have HCELL:=Lib.hid hcell
   have HOBJ:=Lib.hid hobj
   clear o1 o2 o3 o4 o5 hcell hobj
   refine wp_range_all (lb:= #[.pointer (some ⟨D,0,none⟩),.pointer (some ⟨D+1,0,none⟩),.pointer (some ⟨D+1+1,0,none⟩)]) rfl (enters_of Tryz.func267 (by kernel_rfl) rfl) (D+1) HOBJ.out.2 _ (fun _=>rfl) N _ u0 HHD.out Jt.ext
    HCELL.out
    (fun k u W' o h hk hr=>h.obj (Nat.le_succ_of_le HOBJ.out.1) o hr)
    ⟨by simpa[bodL]using HW14.out,by simpa using HK14.out,HT1.out,HW14.out.y,HT2.out,HT3.out⟩ ?a1 ?assign ?body ?done
   case assign=>
    intro l k W' K hK
    gi_wp2
    exact hK
   case body=>
    intro l k u W' hJ hlt
    have HJ:=Lib.hid hJ
    clear hJ
    have HO1:=Lib.hid (HONE.out k)
    have hk2:(k:Int)≤2097400:=by
     have:=HN.out
     omega
    clear HONE HHD HNI HWT HW14 HK14 HT1 HT2 HT3
    generalize W.at_ u0 k=uk at*
    generalize W.across uk=vk at*
    have p0:=HJ.out.i.p.c1
    obtain⟨r0,r1,r2,r3⟩:=HJ.out.i.rc.c4
    have HPX:=Lib.hid (CallsIn.inRound l (callsIn_wide (n:=1).2 (pixel_px W g W.first W.last W.extra W.open_ W.xu W.xv uk vk W' HJ.out.i.y)))
    have HHA:=Lib.hid (CallsIn.inRound l (callsIn_wide (n:=1).2 (has_any r (W.px uk vk) (W.py uk vk) W' HRO.out)))
    gi_wp2_with fail
    refine⟨trivial,?_⟩
    refine HPX.out.mono ?_
    rintro e w5 ⟨rfl,rfl⟩
    gi_wp2_with fail
    refine⟨trivial,?_⟩
    refine HHA.out.mono ?_
    rintro e w5 ⟨rfl,hE⟩
    clear p0 r0 r1 r2 r3
    have HJ5:=Lib.hid (Jt.ext _ _ _ _ HJ.out hE)
    have HKO:=Lib.hid (KeepsOthers.of_ext hE)
    clear hE HPX HHA
    by_cases hh:r.Has (W.px uk vk) (W.py uk vk)
    ·have hd:decide (r.Has (W.px uk vk) (W.py uk vk))=true:=decide_eq_true hh
     rw[hd]
     have HHH:=Lib.hid hh
     clear hd hh
     obtain⟨v,hv⟩:=HJ5.out.i.o
     have HV:=Lib.hid hv
     clear hv
     have o0:=HV.out.blk.c1
     have oz:=HV.out.blk.frozen 0
     have c1:=HJ5.out.c.c1
     have cz:=HJ5.out.c.frozen 0
     obtain⟨i0,hi0,hz0,hz1,hz2⟩:=info_parts info_step
     have hlen:(hdL W r++bodL W r k).length≤2097401:=by
      have:=len_le W r k
      omega
     have HLN:=Lib.hid hlen
     have hbase:w.heap.size≤w5.heap.size:=HJ5.out.i.e.size
     clear hlen
     gi_wp2_with (gi_at_builtin;refine wpListIn_append_own _ rfl (.tmp 150) (.tmp 155) 93 rfl w.heap.size 97 i0 _ 3 24 Tryz.underlying93 hi0 hz0 hz1 hz2 rfl (by decide) v (hdL W r++bodL W r k).length ((hdL W r++bodL W r k).flatMap stp) rfl (HV.out.own.alloc _) ⟨_,0,none⟩ 1 1 [.int .i64 (c0+k),.int .i64 (W.px uk vk),.int .i64 (W.py uk vk)] rfl rfl (news_at _ _ _) (by simp[Value.oneCell']) ?c4 ?c5 ?c6 ?_)
     case c4=>have:=HLN.out;unfold maxLen;omega
     case c5=>have:=HLN.out;omega
     case c6=>simp;omega
     intro v' w6 ho0 hg _
     have ho:w6.ownsRow w.heap.size 97 3 v' ((hdL W r++bodL W r k).length+1) ((hdL W r++bodL W r k).flatMap stp++stp (c0+(k:Int),W.px uk vk,W.py uk vk)):=by
      rw[List.length_append,List.flatMap_append,List.append_assoc]
      exact ho0
     clear ho0
     have HV1:=HV.out.ext ((Ext.refl w5).alloc (.cells #[.int .i64 (c0+k),.int .i64 (W.px uk vk),.int .i64 (W.py uk vk)] 97))
     have HJ6:=Jt.ext _ _ _ _ HJ5.out ((Ext.refl w5).alloc (.cells #[.int .i64 (c0+k),.int .i64 (W.px uk vk),.int .i64 (W.py uk vk)] 97))
     have HB6:=Lib.hid (HV1.push (x:=(c0+(k:Int),W.px uk vk,W.py uk vk)) (by decide) ho hg).1
     have HW6:=Lib.hid (HJ6.i.push (x:=(c0+(k:Int),W.px uk vk,W.py uk vk)) HV1 ho hg HGB.out)
     have HC6:=Lib.hid (HJ6.c.grown' hg (own_ne_blk HV1.own HJ6.c (by decide)))
     have HT6:Hid (It W g D (D+1) (D+1+1) N u w6):=Lib.hid ⟨HJ6.t.p.grown' hg (own_ne_blk HV1.own HJ6.t.p (by decide)),HJ6.t.y.grown' hg (own_ne_blk HV1.own HJ6.t.y (by decide)),HJ6.t.u.grown' hg (own_ne_blk HV1.own HJ6.t.u (by decide)),HJ6.t.n.grown' hg (own_ne_blk HV1.own HJ6.t.n (by decide))⟩
     have HKO6:Hid (KeepsOthers W' w6):=Lib.hid ((HKO.out.trans (KeepsOthers.alloc _ _)).trans (KeepsOthers.of_grownBy hg (fun j o e hj=>by
      obtain⟨cur,hc⟩:=ownsRow_block HV1.own e
      rw[hc]at hj
      cases hj
      rfl)))
     obtain⟨va,vc,rfl, -⟩:=ownsRow_rd ho
     clear ho hg HV1 HJ6 o0 oz c1 cz
     have o0:=HB6.out.c1
     have oz:=HB6.out.frozen 0
     have c1:=HC6.out.c1
     have cz:=HC6.out.frozen 0
     have hne1: ¬B+1=C:=by have:=HBS.out;omega
     have hne2: ¬C=B+1:=by have:=HBS.out;omega
     gi_wp2_with fail
     have q1:=HG.out
     have q2:=HG2.out
     have q3:=HBS.out
     have q4:=HCB.out
     rw[show(hdL W r).length+(bodL W r k).length=(hdL W r++bodL W r k).length from List.length_append.symm]
     refine⟨(HKO6.out.trans (KeepsOthers.setCell _ _ _)).trans (KeepsOthers.setCell _ _ _),?_⟩
     have hb:hdL W r++bodL W r (k+1)=hdL W r++bodL W r k++[(c0+(k:Int),W.px uk vk,W.py uk vk)]:=by rw[HO1.out,if_pos HHH.out,List.append_assoc]
     have hc:c0+(k:Int)+1=c0+((k+1:Nat):Int):=by omega
     have hC2:Blk (w6.setCell ⟨B+1,0,none⟩ (.slice va ((hdL W r++bodL W r k).length+1) vc)) C 3 #[.int .i64 (c0+(k:Int))]:=HC6.out.far (by simp;omega) _
     refine⟨?_,?_,?_⟩
     ·rw[hb]
      obtain⟨v2,hv2⟩:=HW6.out.o
      exact⟨HW6.out.rc.far (by simp;omega) _,HW6.out.p.far (by simp;omega) _,HW6.out.y.far (by simp;omega) _,⟨v2,hv2.far hC2 (by decide) (by omega) 0 _⟩,HW6.out.e.setCell _ (by simp;omega),HW6.out.n⟩
     ·have:=hC2.set_ 0 (.int .i64 (c0+(k:Int)+1))
      rw[←hc]
      simpa using this
     ·exact⟨(HT6.out.p.far (by simp;omega) _).far (by simp;omega) _,(HT6.out.y.far (by simp;omega) _).far (by simp;omega) _,(HT6.out.u.far (by simp;omega) _).far (by simp;omega) _,(HT6.out.n.far (by simp;omega) _).far (by simp;omega) _⟩
    ·have hd:decide (r.Has (W.px uk vk) (W.py uk vk))=false:=decide_eq_false hh
     rw[hd]
     have HHH:=Lib.hid hh
     clear hd hh
     have c1:=HJ5.out.c.c1
     have cz:=HJ5.out.c.frozen 0
     gi_wp2_with fail
     have o1:=HG.out
     have o2:=HG2.out
     have o3:=HBS.out
     have o4:=HCB.out
     refine⟨HKO.out.trans (KeepsOthers.setCell _ _ _),?_⟩
     have hb:bodL W r (k+1)=bodL W r k:=by rw[HO1.out,if_neg HHH.out,List.append_nil]
     have hc:c0+(k:Int)+1=c0+((k+1:Nat):Int):=by omega
     refine⟨?_,?_,?_⟩
     ·rw[hb]
      obtain⟨v,hv⟩:=HJ5.out.i.o
      exact⟨HJ5.out.i.rc.far (by simp;omega) _,HJ5.out.i.p.far (by simp;omega) _,HJ5.out.i.y.far (by simp;omega) _,⟨v,hv.far HJ5.out.c (by decide) (by omega) 0 _⟩,HJ5.out.i.e.setCell _ (by simp;omega),HJ5.out.i.n⟩
     ·have:=HJ5.out.c.set_ 0 (.int .i64 (c0+(k:Int)+1))
      rw[←hc]
      simpa using this
     ·exact⟨HJ5.out.t.p.far (by simp;omega) _,HJ5.out.t.y.far (by simp;omega) _,HJ5.out.t.u.far (by simp;omega) _,HJ5.out.t.n.far (by simp;omega) _⟩
   case done=>
    intro E u W' hE hJ hD
    have HJ:=Lib.hid hJ
    clear hJ
    obtain⟨v,hv⟩:=HJ.out.i.o
    have HV:=Lib.hid hv
    have o0:=hv.blk.c1
    clear hv
    go_wp2_with fail
    refine⟨by simp,.inl ⟨_,_,rfl,run_takeDeferred hD,?_⟩⟩
    refine⟨_,results_tmp rfl _ _ _,v,rfl,?_,?_⟩
    ·rw[HWT.out]
     refine own_kp HV.out.own (Kp.putObj W' E (.deferred none) (fun h=>h rfl):Kp (·≠E) W' _) ?_
     rintro q hq rfl
     obtain⟨cur,hc⟩:=ownsRow_block HV.out.own hq
     rw[hD]at hc
     cases hc
    ·exact HJ.out.i.e.putObj E _ (by have:=HOBJ.out;omega)
end Go.Proofs.YtplljnfjkkloeaaGreatDoor
