/- Proof text: a pixel put (store.Put), behind a pointer into another block. By an AI agent. No condition beyond what each theorem states. -/
import Derived.Test.YtplljnfjkkloeaaGreatDoorWH
set_option linter.unusedVariables false
set_option linter.unusedSimpArgs false
set_option maxHeartbeats 4000000
namespace Go.Proofs.YtplljnfjkkloeaaGreatDoor
attribute [local go_sem] Go.Oper.semAt_some
open Go.RowKit
theorem sin_one (g:Nat) (W H x y:Int) (w:World) (hw:w.cell? ⟨g,1,none⟩=some (.int .i64 W)) (hh:w.cell? ⟨g,2,none⟩=some (.int .i64 H)) (x0:0≤x) (x1:x<W) (y0:0≤y) (y1:y<H) (w1:W≤1099511627776) (h1:H≤1099511627776):
  Calls Tryz.prog 281 #[.pointer (some ⟨g,1,none⟩),.int .i64 x,.int .i64 y] w fun e w'=>e=.returned (.bool true)∧w=w':=by
 go_enter Tryz.func281,Tryz.ntmps281
 go_wp2_with fail
 go_ret
 exact⟨rfl,rfl⟩
structure Pic (js:Array Value) (W H n X Y:Nat):Prop where
 w:js[1]? =some (.int .i64 (W:Int))
 h:js[2]? =some (.int .i64 (H:Int))
 c:js[3]? =some (.slice (some ⟨X,0,none⟩) n n)
 z:js[4]? =some (.slice (some ⟨Y,0,none⟩) n n)
 n:W*H=n
 w0:1≤W
 h0:1≤H
 w1:W≤1024
 h1:H≤1024
set_option maxRecDepth 100000 in
theorem put_yes {T:TypeId} {js:Array Value} {W H n X Y J:Nat} (x y:Int) (c:C4) (C:List Int) (w:World) (hJ:Blk w J T js) (hp:Pic js W H n X Y) (hX:Blk w X 3 (irow C)) (hl:C.length=n) (hne:X≠J)
  (x0:0≤x)(x1:x<W)(y0:0≤y)(y1:y<H)(hc:c.Ok)(hr: ∀v∈C,0≤v∧v<4294967296):
  Calls Tryz.prog 256 #[.pointer (some ⟨J,1,none⟩),.int .i64 x,.int .i64 y,c.v,.agg #[.bool true,.bool true,.bool true,.bool true]] w fun e w'=>
   e=.returned (.bool true)∧Blk w' X 3 (irow (C.set (y*W+x).toNat (pk c.a c.b c.c c.d)))∧Kp (·≠X) w w':=by
 obtain⟨pw,ph,pc,pz,pn,w0,h0,w1,h1⟩:=hp
 obtain⟨p0,p1,p2⟩:=at_pix x0 x1 y0 y1 (by omega) (by omega)
 obtain⟨k,hk⟩:=Int.eq_ofNat_of_zero_le (show 0≤y*W+x by omega)
 have hk2:(y*W+x).toNat=k:=by omega
 have hkn:k<n:=by
  have:(W:Int)*H=n:=by rw[←pn];simp
  omega
 rw[hk2]
 have hnn:n≤1048576:=by
  have:(W:Int)*H=n:=by rw[←pn];simp
  omega
 obtain⟨old,hold⟩: ∃old:Nat,C.getD k 0=old∧old<4294967296:=by
  have h2:C.getD k 0∈C:=by
   rw[List.getD_eq_getElem?_getD,List.getElem?_eq_getElem (by omega)]
   exact List.getElem_mem _
  have h3:=hr _ h2
  exact⟨(C.getD k 0).toNat,by omega,by omega⟩
 obtain⟨ho1,ho2⟩:=hold
 have hg:=irow_get (C:=C) (i:=k) (by omega)
 rw[ho1]at hg
 obtain⟨pk0,pk1⟩:=pk_range hc
 have HPK:=Lib.hid (fun w=>pack_int c w hc)
 obtain⟨q,hq⟩:=Int.eq_ofNat_of_zero_le pk0
 rw[hq]at HPK pk1
 rw[hq]
 have hmod:((q:Nat):Int)%4294967296=q:=by omega
 have hnot:=andNot32 old ho2
 have hor:=or0 q (by omega)
 have HIN:=Lib.hid (fun(w':World) hw hh=>sin_one J W H x y w' hw hh x0 x1 y0 y1 (by omega) (by omega))
 have HBI:=Lib.hid bits_all
 have HJ:=Lib.hid hJ
 have HX:=Lib.hid hX
 have HC1:=Lib.hid ((hJ.cell 1).trans pw)
 have HC2:=Lib.hid ((hJ.cell 2).trans ph)
 have HC3:=Lib.hid ((hJ.cell 3).trans pc)
 have HG:=Lib.hid ((hX.cell k).trans hg)
 have HNE:=Lib.hid hne
 have kn:(0:Int)≤k∧(k:Int)<n:=by omega
 have hmul:IntKind.i64.wrap (y*W)=y*W:=IntWalk.i64_in _ (by omega)
 have hsum:IntKind.i64.wrap (y*W+x)=k:=by rw[hk];exact IntWalk.i64_in _ (by omega)
 clear hJ hX pw ph pc pz hg hr hc hne hl hk hk2 hq ho1
 go_enter Tryz.func256,Tryz.ntmps256
 go_wp2_with fail
 have HE0:Hid (Ext w ((w.alloc (.cells #[.int .i64 c.a,.int .i64 c.b,.int .i64 c.c,.int .i64 c.d] 30)).alloc (.cells #[.bool true,.bool true,.bool true,.bool true] 49))):=Lib.hid (by(repeat(first|with_reducible(first|exact eR_ _|assumption|refine eA_ ?_ _|refine eD_ ?_|refine eN_ ?_ _|refine eL_ ?_ _)|(with_reducible refine eS_ ?_ _ ?hp;case hp=>first|(simp;done)|(simp;omega)|omega))))
 have HCC:Hid (Blk ((w.alloc (.cells #[.int .i64 c.a,.int .i64 c.b,.int .i64 c.c,.int .i64 c.d] 30)).alloc (.cells #[.bool true,.bool true,.bool true,.bool true] 49)) w.heap.size 30 #[.int .i64 c.a,.int .i64 c.b,.int .i64 c.c,.int .i64 c.d]):=Lib.hid (by(repeat(first|with_reducible exact Hid.out (by assumption)|(with_reducible refine Blk.new' _ _ _ ?_;(simp;done))|with_reducible(first|refine Blk.alloc ?_ _|refine Blk.drew ?_|refine Blk.drewN ?_ _|refine Blk.later ?_ _)|(with_reducible refine Blk.far ?_ ?hp _;case hp=>first|(simp;done)|(simp;omega)|omega))))
 have HMM:Hid (Blk ((w.alloc (.cells #[.int .i64 c.a,.int .i64 c.b,.int .i64 c.c,.int .i64 c.d] 30)).alloc (.cells #[.bool true,.bool true,.bool true,.bool true] 49)) (w.heap.size+1) 49 #[.bool true,.bool true,.bool true,.bool true]):=Lib.hid (by(repeat(first|with_reducible exact Hid.out (by assumption)|(with_reducible refine Blk.new' _ _ _ ?_;(simp;done))|with_reducible(first|refine Blk.alloc ?_ _|refine Blk.drew ?_|refine Blk.drewN ?_ _|refine Blk.later ?_ _)|(with_reducible refine Blk.far ?_ ?hp _;case hp=>first|(simp;done)|(simp;omega)|omega))))
 refine(HIN.out _ (HE0.out.cell_some HC1.out) (HE0.out.cell_some HC2.out)).mono ?_
 rintro e w1 ⟨rfl,rfl⟩
 generalize(w.alloc (.cells #[.int .i64 c.a,.int .i64 c.b,.int .i64 c.c,.int .i64 c.d] 30)).alloc (.cells #[.bool true,.bool true,.bool true,.bool true] 49)=W1 at*
 have c1:=HE0.out.cell_some HC1.out
 have c3:=HE0.out.cell_some HC3.out
 have cmm:=HMM.out.c4
 go_upto_region 3 with fail
 refine wp_region_later (by kernel_rfl) (by kernel_rfl) ?_
 repeat(go_big_quiet_step ((first|(go_at_call 154;with_reducible exact Calls.later _ (HBI.out _))|fail)))
 refine wpQuiet_nil ?_
 intro y1
 have HE1:=Lib.hid (HE0.out.trans y1.ext)
 have HCC1:=Lib.hid (HCC.out.ext y1.ext)
 clear c1 c3 cmm HMM HCC HE0
 generalize y1.w=W2 at*
 have ccc:=HCC1.out.c4
 have cg:=HE1.out.cell_some HG.out
 have hXb:=HX.out.ext HE1.out
 have fg:=hXb.frozen k
 have HXB:=Lib.hid hXb
 clear hXb
 go_upto_region 4 with fail
 refine wp_region_later_tail 12 (by kernel_rfl) (by kernel_rfl) ?_
 simp only[List.take_succ_cons,List.take_zero,List.drop_succ_cons,List.drop_zero]
 repeat(go_big_quiet_step ((first|(go_at_call 155;with_reducible exact Calls.later _ (HPK.out _))|fail)))
 refine wpQuiet_nil ?_
 intro y2
 have HXC:=Lib.hid (HXB.out.ext y2.ext)
 have HK2:Hid (Ext w y2.w):=Lib.hid (HE1.out.trans y2.ext)
 have fg3:=HXC.out.frozen k
 have cg3:=HK2.out.cell_some HG.out
 generalize y2.w=W3 at*
 clear cg fg
 go_wp2_with fail
 go_ret
 refine⟨rfl,?_,(Kp.of_ext HK2.out).setCell _ (fun h=>h rfl)⟩
 have:=HXC.out.set_ k (.int .i64 (q:Int))
 rw[irow_set]at this
 exact this
end Go.Proofs.YtplljnfjkkloeaaGreatDoor
set_option linter.unusedVariables false
set_option linter.unusedSimpArgs false
namespace Go.Proofs.YtplljnfjkkloeaaGreatDoor
attribute [local go_sem] Go.Oper.semAt_some
open Go.RowKit
structure Img (w:World) (T:TypeId) (J:Nat) (js:Array Value) (W H n X Y:Nat) (C Z:List Int):Prop where
 j:Blk w J T js
 p:Pic js W H n X Y
 x:Blk w X 3 (irow C)
 y:Blk w Y 3 (irow Z)
 lc:C.length=n
 lz:Z.length=n
 jx:X≠J
 xy:X≠Y
 r: ∀v∈C,0≤v∧v<4294967296
section
variable {w w':World} {T:TypeId} {J:Nat} {js:Array Value} {W H n X Y:Nat} {C Z:List Int}
theorem Img.ext (h:Img w T J js W H n X Y C Z) (e:Ext w w'):Img w' T J js W H n X Y C Z:=⟨h.j.ext e,h.p,h.x.ext e,h.y.ext e,h.lc,h.lz,h.jx,h.xy,h.r⟩
theorem Img.place (h:Img w T J js W H n X Y C Z) {x y:Int} (x0:0≤x) (x1:x<W) (y0:0≤y) (y1:y<H):(y*W+x).toNat<n:=by
 obtain⟨p0,p1,p2⟩:=at_pix x0 x1 y0 y1 (by have:=h.p.w1;omega) (by have:=h.p.h1;omega)
 have:(W:Int)*H=n:=by rw[←h.p.n];simp
 omega
theorem Img.cells (h:Img w T J js W H n X Y C Z):w.cell? ⟨J,1,none⟩=some (.int .i64 (W:Int))∧w.cell? ⟨J,2,none⟩=some (.int .i64 (H:Int))∧w.cell? ⟨J,3,none⟩=some (.slice (some ⟨X,0,none⟩) n n)∧w.cell? ⟨J,4,none⟩=some (.slice (some ⟨Y,0,none⟩) n n):=
 ⟨(h.j.cell 1).trans h.p.w,(h.j.cell 2).trans h.p.h,(h.j.cell 3).trans h.p.c,(h.j.cell 4).trans h.p.z⟩
theorem Img.get (h:Img w T J js W H n X Y C Z) {x y:Int} (x0:0≤x) (x1:x<W) (y0:0≤y) (y1:y<H):
  Calls Tryz.prog 254 #[.agg #[.int .i64 (W:Int),.int .i64 (H:Int),.slice (some ⟨X,0,none⟩) n n,.slice (some ⟨Y,0,none⟩) n n],.int .i64 x,.int .i64 y] w fun e w'=>
   e=.returned (.tuple #[.agg #[.int .i64 ((C.getD (y*W+x).toNat 0)/16777216%256),.int .i64 ((C.getD (y*W+x).toNat 0)/65536%256),.int .i64 ((C.getD (y*W+x).toNat 0)/256%256),.int .i64 ((C.getD (y*W+x).toNat 0)%256)],.int .i64 (Z.getD (y*W+x).toNat 0),.bool true])∧Ext w w':=by
 have hi:=h.place x0 x1 y0 y1
 have hr:C.getD (y*W+x).toNat 0∈C:=by
  rw[List.getD_eq_getElem?_getD,List.getElem?_eq_getElem (by rw[h.lc];exact hi)]
  exact List.getElem_mem _
 have hr2:=h.r _ hr
 exact get_yes W H x y _ _ X Y n w x0 x1 y0 y1 (by have:=h.p.w1;omega) (by have:=h.p.h1;omega) (by rw[←h.p.n];simp) ((h.x.cell _).trans (irow_get (by rw[h.lc];exact hi))) ((h.y.cell _).trans (irow_get (by rw[h.lz];exact hi))) hr2.1 hr2.2
end
set_option maxRecDepth 100000 in
theorem refused_no {T:TypeId} {J:Nat} {js:Array Value} {W H n X Y:Nat} {C Z:List Int} (o:Op3) (f:Fr) (w:World) (h:Img w T J js W H n X Y C Z) (x0:0≤f.x) (x1:f.x<W) (y0:0≤f.y) (y1:f.y<H):
  Calls Tryz.prog 252 #[.pointer (some ⟨J,1,none⟩),o.v,f.v] w fun e w'=>e=.returned (.bool false)∧Ext w w':=by
 have HI:=Lib.hid h
 have HX:=Lib.hid (And.intro x0 (And.intro x1 (And.intro y0 y1)))
 clear h x0 x1 y0 y1
 go_enter Tryz.func252,Tryz.ntmps252
 go_upto_region 3 with fail
 have HO1:Hid (Blk ((w.alloc (.cells o.row 51)).alloc (.cells #[.int .i64 f.x,.int .i64 f.y,.int .i64 f.z,.int .i64 f.c0,.int .i64 f.c1,.int .i64 f.c2,.int .i64 f.c3,.int .i64 f.m] 68)) w.heap.size 51 o.row):=Lib.hid (by(repeat(first|with_reducible exact Hid.out (by assumption)|(with_reducible refine Blk.new' _ _ _ ?_;(simp;done))|with_reducible(first|refine Blk.alloc ?_ _|refine Blk.drew ?_|refine Blk.drewN ?_ _|refine Blk.later ?_ _)|(with_reducible refine Blk.far ?_ ?hp _;case hp=>first|(simp;done)|(simp;omega)|omega))))
 have HF1:Hid (Blk ((w.alloc (.cells o.row 51)).alloc (.cells #[.int .i64 f.x,.int .i64 f.y,.int .i64 f.z,.int .i64 f.c0,.int .i64 f.c1,.int .i64 f.c2,.int .i64 f.c3,.int .i64 f.m] 68)) (w.heap.size+1) 68 #[.int .i64 f.x,.int .i64 f.y,.int .i64 f.z,.int .i64 f.c0,.int .i64 f.c1,.int .i64 f.c2,.int .i64 f.c3,.int .i64 f.m]):=Lib.hid (by(repeat(first|with_reducible exact Hid.out (by assumption)|(with_reducible refine Blk.new' _ _ _ ?_;(simp;done))|with_reducible(first|refine Blk.alloc ?_ _|refine Blk.drew ?_|refine Blk.drewN ?_ _|refine Blk.later ?_ _)|(with_reducible refine Blk.far ?_ ?hp _;case hp=>first|(simp;done)|(simp;omega)|omega))))
 have HE1:Hid (Ext w ((w.alloc (.cells o.row 51)).alloc (.cells #[.int .i64 f.x,.int .i64 f.y,.int .i64 f.z,.int .i64 f.c0,.int .i64 f.c1,.int .i64 f.c2,.int .i64 f.c3,.int .i64 f.m] 68))):=Lib.hid (by(repeat(first|with_reducible(first|exact eR_ _|assumption|refine eA_ ?_ _|refine eD_ ?_|refine eN_ ?_ _|refine eL_ ?_ _)|(with_reducible refine eS_ ?_ _ ?hp;case hp=>first|(simp;done)|(simp;omega)|omega))))
 generalize(w.alloc (.cells o.row 51)).alloc (.cells #[.int .i64 f.x,.int .i64 f.y,.int .i64 f.z,.int .i64 f.c0,.int .i64 f.c1,.int .i64 f.c2,.int .i64 f.c3,.int .i64 f.m] 68)=W1 at*
 have cf:=HF1.out.c8
 have ci:=(HI.out.ext HE1.out).cells
 have HG:Hid (∀w1,Ext W1 w1→Calls Tryz.prog 254 #[.agg #[.int .i64 (W:Int),.int .i64 (H:Int),.slice (some ⟨X,0,none⟩) n n,.slice (some ⟨Y,0,none⟩) n n],.int .i64 f.x,.int .i64 f.y] w1 fun e w'=>
   e=.returned (.tuple #[.agg #[.int .i64 ((C.getD (f.y*W+f.x).toNat 0)/16777216%256),.int .i64 ((C.getD (f.y*W+f.x).toNat 0)/65536%256),.int .i64 ((C.getD (f.y*W+f.x).toNat 0)/256%256),.int .i64 ((C.getD (f.y*W+f.x).toNat 0)%256)],.int .i64 (Z.getD (f.y*W+f.x).toNat 0),.bool true])∧Ext w1 w'):=
  Lib.hid (fun w1 e=>((HI.out.ext HE1.out).ext e).get HX.out.1 HX.out.2.1 HX.out.2.2.1 HX.out.2.2.2)
 have HSS:Hid (∀w',Ext W1 w'→(w'.cell? ⟨w.heap.size+1,0,none⟩=some (.int .i64 f.x)∧w'.cell? ⟨w.heap.size+1,1,none⟩=some (.int .i64 f.y))∧w'.cell? ⟨J,1,none⟩=some (.int .i64 (W:Int))∧w'.cell? ⟨J,2,none⟩=some (.int .i64 (H:Int))∧w'.cell? ⟨J,3,none⟩=some (.slice (some ⟨X,0,none⟩) n n)∧w'.cell? ⟨J,4,none⟩=some (.slice (some ⟨Y,0,none⟩) n n)):=
  Lib.hid fun w' e=>⟨⟨(HF1.out.ext e).c8.1,(HF1.out.ext e).c8.2.1⟩,((HI.out.ext HE1.out).ext e).cells⟩
 go_region_held3 (fun w'=>(w'.cell? ⟨w.heap.size+1,0,none⟩=some (.int .i64 f.x)∧w'.cell? ⟨w.heap.size+1,1,none⟩=some (.int .i64 f.y))∧w'.cell? ⟨J,1,none⟩=some (.int .i64 (W:Int))∧w'.cell? ⟨J,2,none⟩=some (.int .i64 (H:Int))∧w'.cell? ⟨J,3,none⟩=some (.slice (some ⟨X,0,none⟩) n n)∧w'.cell? ⟨J,4,none⟩=some (.slice (some ⟨Y,0,none⟩) n n))
  (exact HSS.out _ (by(repeat(first|with_reducible(first|exact eR_ _|assumption|refine eA_ ?_ _|refine eD_ ?_|refine eN_ ?_ _|refine eL_ ?_ _)|(with_reducible refine eS_ ?_ _ ?hp;case hp=>first|(simp;done)|(simp;omega)|omega)))))
  (first
   |(go_at_call 254;refine(HG.out _ (by(repeat(first|with_reducible(first|exact eR_ _|assumption|refine eA_ ?_ _|refine eD_ ?_|refine eN_ ?_ _|refine eL_ ?_ _)|(with_reducible refine eS_ ?_ _ ?hp;case hp=>first|(simp;done)|(simp;omega)|omega))))).mono ?_;rintro e w1 ⟨rfl,hE⟩;obtain⟨y1,rfl⟩:=Later.mk' hE;clear hE))
 all_goals
  have HEZ:Hid (Ext W1 y1.w):=Lib.hid (by(repeat(first|with_reducible(first|exact eR_ _|assumption|refine eA_ ?_ _|refine eD_ ?_|refine eN_ ?_ _|refine eL_ ?_ _)|(with_reducible refine eS_ ?_ _ ?hp;case hp=>first|(simp;done)|(simp;omega)|omega))))
  have HO2:=HO1.out.ext HEZ.out
  have c0:=HO2.c15
  have HE3:=HE1.out.trans HEZ.out
  have hlt:=HO1.out.lt
  go_wp2_with fail
  go_ret
  exact⟨rfl,by(repeat(first|with_reducible(first|exact eR_ _|assumption|refine eA_ ?_ _|refine eD_ ?_|refine eN_ ?_ _|refine eL_ ?_ _)|(with_reducible refine eS_ ?_ _ ?hp;case hp=>first|(simp;done)|(simp;omega)|omega)))⟩
theorem cov_ok {f:Fr} (h:f.Fits):C4.Ok ⟨f.c0,f.c1,f.c2,f.c3*f.m/64⟩:=by
 obtain⟨h0,h1,h2,⟨a,b⟩, -,⟨m0,m1⟩⟩:=h
 have p0:0≤f.c3*f.m:=Int.mul_nonneg a (by omega)
 have p1:f.c3*f.m≤255*64:=Int.mul_le_mul b m1 (by omega) (by omega)
 exact⟨h0,h1,h2,by unfold byte;constructor <;>simp only <;>omega⟩
theorem bl1_byte {sf df si di s3:Int} (h1:byte si) (h2:byte di) (h3:byte s3):byte (bl1 sf df si di s3):=by
 obtain⟨a0,a1⟩:=byte_mul h1 (fac_byte (k:=sf) h1 h2 h3)
 obtain⟨b0,b1⟩:=byte_mul h2 (fac_byte (k:=df) h1 h2 h3)
 unfold byte bl1
 omega
theorem blend4_ok {sf df:Int} {s d:C4} (hs:s.Ok) (hd:d.Ok):(blend4 sf df s d).Ok:=
 ⟨bl1_byte hs.ha hd.ha hs.hd,bl1_byte hs.hb hd.hb hs.hd,bl1_byte hs.hc hd.hc hs.hd,bl1_byte hs.hd hd.hd hs.hd⟩
theorem unp_ok (v:Int):C4.Ok ⟨v/16777216%256,v/65536%256,v/256%256,v%256⟩:=by
 refine⟨?_,?_,?_,?_⟩ <;>unfold byte <;>simp only <;>omega
theorem fcol_range {f:Fr} (h:f.Fits) (mix:Bool) (sf df old:Int):0≤fcol mix sf df old f∧fcol mix sf df old f<4294967296:=by
 cases mix
 ·have:=pk_range (cov_ok h)
  unfold fcol
  simp only[Bool.false_eq_true,if_false]
  simp only at this
  omega
 ·have:=pk_range (blend4_ok (sf:=sf) (df:=df) (cov_ok h) (unp_ok old))
  unfold fcol
  unfold blend4 at this
  simp only[if_true]
  simp only at this
  omega
theorem Img.put {w w':World} {T:TypeId} {J:Nat} {js:Array Value} {W H n X Y:Nat} {C Z:List Int} (h:Img w T J js W H n X Y C Z) (k:Kp (·≠X) w w') (C':List Int) (hx:Blk w' X 3 (irow C')) (hl:C'.length=C.length) (hr: ∀v∈C',0≤v∧v<4294967296):Img w' T J js W H n X Y C' Z:=
 ⟨h.j.kp k h.jx.symm,h.p,hx,h.y.kp k h.xy.symm,by rw[hl];exact h.lc,h.lz,h.jx,h.xy,hr⟩
theorem fput_range {W:Int} {mix:Bool} {sf df:Int} {C:List Int} {f:Fr} (h:f.Fits) (hr: ∀v∈C,0≤v∧v<4294967296): ∀v∈fput W mix sf df C f,0≤v∧v<4294967296:=by
 intro v hv
 unfold fput at hv
 rcases List.mem_or_eq_of_mem_set hv with h1|h1
 ·exact hr v h1
 ·rw[h1];exact fcol_range h _ _ _ _
end Go.Proofs.YtplljnfjkkloeaaGreatDoor
