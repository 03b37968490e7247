/- Plain: points on a way, one behind the other: the line's pixels are its parts'. By an AI agent. No condition beyond what each theorem states. -/
import Derived.Test.YtplljnfjkkloeaaGreatDoorWE
import Derived.Test.YtplljnfjkkloeaaGreatDoorQH
import Derived.Test.YtplljnfjkkloeaaGreatDoorQA
import Derived.Test.YtplljnfjkkloeaaGreatDoorWA
import Derived.Test.YtplljnfjkkloeaaGreatDoorQM
import Derived.Test.YtplljnfjkkloeaaGreatDoorQG
import Derived.Deep.AppendLies
set_option linter.unusedVariables false
set_option linter.unusedSimpArgs false
set_option maxHeartbeats 4000000
namespace Go.Proofs.YtplljnfjkkloeaaGreatDoor
end Go.Proofs.YtplljnfjkkloeaaGreatDoor
set_option linter.unusedVariables false
set_option linter.unusedSimpArgs false
namespace Go.Proofs.YtplljnfjkkloeaaGreatDoor
def numbered (P:Int→Int→Prop) [∀x y,Decidable (P x y)] (l:List (Int×Int)) (k:Nat):List (Int×Int×Int):=
 (l.zipIdx k).flatMap fun p=>if P p.1.1 p.1.2 then[((p.2:Int),p.1.1,p.1.2)]else[]
section
variable {P:Int→Int→Prop} [∀x y,Decidable (P x y)]
theorem numbered_append (l m:List (Int×Int)) (k:Nat):numbered P (l++m) k=numbered P l k++numbered P m (k+l.length):=by
 unfold numbered
 rw[List.zipIdx_append,List.flatMap_append]
theorem numbered_range (f:Nat→Int×Int) (n k:Nat):numbered P ((List.range n).map f) k=(List.range n).flatMap fun i=>if P (f i).1 (f i).2 then[(((k+i:Nat):Int),(f i).1,(f i).2)]else[]:=by
 induction n with
 |zero=>rfl
 |succ n ih=>
  rw[List.range_succ,List.map_append,numbered_append,ih,List.flatMap_append,List.length_map,List.length_range]
  congr 1
theorem flatMap_none {α β:Type} {l:List α} {f:α→List β} (h: ∀x∈l,f x=[]):l.flatMap f=[]:=by
 induction l with
 |nil=>rfl
 |cons x l ih=>rw[List.flatMap_cons,h x (by simp),ih (fun y hy=>h y (by simp[hy]))];rfl
theorem flatMap_part {β:Type} {f:Nat→List β} {m b n:Nat} (hm:b+n≤m) (h: ∀i,i<m→i<b∨b+n≤i→f i=[]):(List.range m).flatMap f=(List.range n).flatMap fun i=>f (b+i):=by
 obtain⟨q,rfl⟩: ∃q,m=b+(n+q):=⟨m-(b+n),by omega⟩
 rw[List.range_add,List.flatMap_append,flatMap_none (l:=List.range b),List.nil_append,List.range_add,List.map_append,List.flatMap_append]
 ·rw[flatMap_none (l:=List.map (fun x=>b+x) (List.map (fun x=>n+x) (List.range q))),List.append_nil,List.flatMap_map]
  intro x hx
  simp only[List.mem_map,List.mem_range]at hx
  obtain⟨y,⟨z,hz,rfl⟩,rfl⟩:=hx
  exact h _ (by omega) (by omega)
 ·intro x hx
  have:=List.mem_range.1 hx
  exact h _ (by omega) (by omega)
end
end Go.Proofs.YtplljnfjkkloeaaGreatDoor
set_option linter.unusedVariables false
set_option linter.unusedSimpArgs false
namespace Go.Proofs.YtplljnfjkkloeaaGreatDoor
open Go.RowKit
instance (r:Rc): ∀x y,Decidable (r.Has x y):=fun x y=>inferInstance
def stepL (ax ay bx by_:Int) (r:Rc):List (Int×Int×Int):=numbered r.Has (lpix ax ay bx by_) 0
theorem Way.swap_px (W:Way) (p:Int×Int):(if W.turned=true then(p.2,p.1)else p)=(W.px p.1 p.2,W.py p.1 p.2):=by
 unfold Way.px Way.py
 split <;>rfl
theorem far_low {W:Way} {r:Rc} {u v:Int} (h:r.Has (W.px u v) (W.py u v)):lowU W r≤u∧u<highU W r:=by
 unfold lowU highU
 unfold Rc.Has Way.px Way.py at h
 by_cases k:W.turned=true
 ·simp only[if_pos k]at h ⊢;omega
 ·simp only[if_neg k]at h ⊢;omega
theorem witL_is (W:Way) (r:Rc):witL W r=numbered r.Has (W.pix.map fun p=>if W.turned=true then(p.2,p.1)else p) 0:=by
 have hf:(fun p:Int×Int=>if W.turned=true then(p.2,p.1)else p)=fun p=>(W.px p.1 p.2,W.py p.1 p.2):=funext W.swap_px
 rw[hf]
 unfold witL Way.pix
 rw[List.map_append,numbered_append]
 have hh:hdL W r=numbered r.Has (W.head.map fun p=>(W.px p.1 p.2,W.py p.1 p.2)) 0:=by
  unfold hdL Way.head
  by_cases he:W.extra=true
  ·obtain⟨u,v,hp, -, -⟩:=W.extra_is.1 he
   have hu:W.xu=u∧W.xv=v:=by
    unfold Way.xu Way.xv
    rw[if_pos he,if_pos he,hp]
    exact⟨rfl,rfl⟩
   rw[if_pos he,hp,hu.1,hu.2]
   simp[numbered,he]
  ·rw[if_neg he,if_neg (fun h=>he h.1)]
   rfl
 rw[hh]
 congr 1
 have hlen:(0:Nat)+(W.head.map fun p=>(W.px p.1 p.2,W.py p.1 p.2)).length=if W.extra=true then 1 else 0:=by
  rw[List.length_map,W.head_len];omega
 rw[hlen]
 unfold Way.body
 rw[List.map_map]
 have hcomp:((fun p:Int×Int=>(W.px p.1 p.2,W.py p.1 p.2))∘fun n=>(W.mid n,W.across (W.mid n)))=fun n=>(W.px (W.mid n) (W.across (W.mid n)),W.py (W.mid n) (W.across (W.mid n))):=rfl
 rw[hcomp,numbered_range]
 have hstep:W.step=1∨W.step= -1:=by unfold Way.step;split <;>simp
 by_cases hle:beginN W r≤endN W r
 ·have hb0:0≤beginN W r:=by unfold beginN;omega
  have he1:endN W r≤W.many-1:=by unfold endN;omega
  obtain⟨b,hb⟩: ∃b:Nat,(b:Int)=beginN W r:=⟨(beginN W r).toNat,by omega⟩
  obtain⟨n,hn⟩: ∃n:Nat,n=(endN W r-beginN W r+1).toNat:=⟨_,rfl⟩
  rw[flatMap_part (b:=b) (n:=n) (by omega),←hn]
  ·unfold bodL
   congr 1
   funext i
   unfold oneL
   rw[←hb,at_mid]
   split
   ·congr 2
    split <;>omega
   ·rfl
  ·intro i hi hout
   rw[if_neg]
   intro hh
   obtain⟨h1,h2⟩:=far_low hh
   unfold Way.mid at h1 h2
   have e1:beginN W r=max (if W.step<0 then W.first-highU W r+1 else lowU W r-W.first) 0:=rfl
   have e2:endN W r=min (if W.step<0 then W.first-lowU W r else highU W r-1-W.first) (W.many-1):=rfl
   rcases hstep with hs|hs <;>rw[hs]at h1 h2 e1 e2 <;>simp only[show ¬((1:Int)<0) by omega,show((-1:Int)<0) by omega,if_true,if_false]at e1 e2 <;>omega
 ·have e0:(endN W r-beginN W r+1).toNat=0:=by omega
  rw[e0]
  symm
  rw[show bodL W r 0=[]from rfl]
  refine flatMap_none fun i hi=>?_
  have hi':=List.mem_range.1 hi
  rw[if_neg]
  intro hh
  obtain⟨h1,h2⟩:=far_low hh
  unfold Way.mid at h1 h2
  have e1:beginN W r=max (if W.step<0 then W.first-highU W r+1 else lowU W r-W.first) 0:=rfl
  have e2:endN W r=min (if W.step<0 then W.first-lowU W r else highU W r-1-W.first) (W.many-1):=rfl
  rcases hstep with hs|hs <;>rw[hs]at h1 h2 e1 e2 <;>simp only[show ¬((1:Int)<0) by omega,show((-1:Int)<0) by omega,if_true,if_false]at e1 e2 <;>omega
theorem within_any (ax ay bx by_:Int) (r:Rc) (w:World) (h1:Pl ax) (h2:Pl ay) (h3:Pl bx) (h4:Pl by_) (hr:r.Ok):
  Calls Tryz.prog 187 #[.agg #[.int .i64 ax,.int .i64 ay],.agg #[.int .i64 bx,.int .i64 by_],r.v] w (WithinP (stepL ax ay bx by_ r) w):=by
 by_cases hne:ax=bx∧ay=by_
 ·obtain⟨rfl,rfl⟩:=hne
  have e:stepL ax ay ax ay r=[]:=by
   unfold stepL lpix
   rw[if_pos ⟨rfl,rfl⟩]
   rfl
  rw[e]
  exact(within_none ax ay r w).mono fun e w' h=>⟨_,h.1,World.ownsRow_nil _ _ _ _,h.2⟩
 ·have:=within_way ax ay bx by_ r w h1 h2 h3 h4 hne hr
  rw[witL_is]at this
  unfold stepL lpix
  rw[if_neg hne]
  exact this
theorem lcount_any (ax ay bx by_:Int) (w:World) (h1:Pl ax) (h2:Pl ay) (h3:Pl bx) (h4:Pl by_):
  Calls Tryz.prog 184 #[.agg #[.int .i64 ax,.int .i64 ay],.agg #[.int .i64 bx,.int .i64 by_]] w fun e w'=>e=.returned (.int .i64 ((lpix ax ay bx by_).length:Nat))∧Ext w w':=by
 by_cases hne:ax=bx∧ay=by_
 ·obtain⟨rfl,rfl⟩:=hne
  have e:(lpix ax ay ax ay).length=0:=by unfold lpix;rw[if_pos ⟨rfl,rfl⟩];rfl
  rw[e]
  have he: ∀W',(Op.equalIn 10000 79 (.agg #[.int .i64 ax,.int .i64 ay]) (.agg #[.int .i64 ax,.int .i64 ay])).run Tryz.prog W'=.ok true W':=by
   intro W';rw[eq_pt];simp
  clear e
  go_enter Tryz.func184,Tryz.ntmps184
  go_wp2_with fail
  go_ret
  exact⟨rfl,by(repeat(first|with_reducible(first|exact eR_ _|assumption|refine eA_ ?_ _|refine eD_ ?_|refine eN_ ?_ _|refine eL_ ?_ _)|(with_reducible refine eS_ ?_ _ ?hp;case hp=>first|(simp;done)|(simp;omega)|omega)))⟩
 ·have hl:(lpix ax ay bx by_).length=(wayOf ax ay bx by_).count:=by rw[lpix_len];unfold lcount;rw[if_neg hne]
  have HNW:=Lib.hid (fun w'=>newWay_any ax ay bx by_ w' h1 h2 h3 h4 hne)
  have HIN:=Lib.hid (wayOf_in h1 h2 h3 h4)
  have he: ∀W',(Op.equalIn 10000 79 (.agg #[.int .i64 ax,.int .i64 ay]) (.agg #[.int .i64 bx,.int .i64 by_])).run Tryz.prog W'=.ok false W':=by
   intro W'
   rw[eq_pt]
   congr 1
   cases c1:(ax==bx) <;>cases c2:(ay==by_) <;>simp
   simp at c1 c2
   exact hne ⟨c1,c2⟩
  rw[hl]
  clear h1 h2 h3 h4 hne hl
  generalize wayOf ax ay bx by_=W at*
  have HCT:Hid (((W.last-W.first).natAbs:Nat)-(if W.open_=true then 1 else 0)+(if W.extra=true then 1 else 0)=(W.count:Int)):=Lib.hid (by
   unfold Way.count Way.many Way.size
   by_cases ho:W.open_=true
   ·have:=(W.open_is.1 ho).1
    unfold Way.size at this
    rw[if_pos ho,if_pos ho]
    split <;>omega
   ·rw[if_neg ho,if_neg ho]
    split <;>omega)
  go_enter Tryz.func184,Tryz.ntmps184
  go_wp2_with fail
  clear he
  refine(HNW.out _).mono ?_
  rintro e w2 ⟨g,rfl,hg,hB,hE⟩
  have HY:=Lib.hid hB
  have HE:=Lib.hid hE
  clear hg hB hE
  go_wp2_with fail
  refine(count_any W g W.first W.last W.extra W.open_ W.xu W.xv _ HY.out HIN.out.first.1 HIN.out.first.2).mono ?_
  rintro e w1 ⟨rfl,hE⟩
  obtain⟨y,rfl⟩:=Later.mk' hE
  clear hE
  go_wp2_with fail
  all_goals
   go_ret
   refine⟨?_,(((Ext.refl w).alloc _).alloc _).trans (HE.out.trans y.ext)⟩
   have hh:=HCT.out
   (split at hh) <;>first|contradiction|skip
   all_goals
    rw[←hh]
    first|rfl|(refine congrArg (fun z=>Ending.returned (Value.int .i64 z)) ?_;omega)
end Go.Proofs.YtplljnfjkkloeaaGreatDoor
set_option linter.unusedVariables false
set_option linter.unusedSimpArgs false
namespace Go.Proofs.YtplljnfjkkloeaaGreatDoor
attribute [local go_sem] Go.Oper.semAt_some
open Go.RowKit
def alongP (a b:Wv) (x y:Int):Int×Int:=if max (b.x-a.x) (-(b.x-a.x))<max (b.y-a.y) (-(b.y-a.y))then(y*256+128-a.y,b.y-a.y)else(x*256+128-a.x,b.x-a.x)
def along (a b:Wv) (x y:Int):Int×Int:=if(alongP a b x y).2<0 then(-(alongP a b x y).1, -(alongP a b x y).2)else alongP a b x y
theorem along_bound {a b:Wv} {x y:Int} (h1:Pl a.x) (h2:Pl a.y) (h3:Pl b.x) (h4:Pl b.y):(along a b x y).2<9223372036854775808:=by
 unfold Pl at*
 unfold along alongP
 repeat' split
 all_goals(simp only at *;omega)
theorem agg_win (W:World):(isAgg 177).run Tryz.prog W=.ok true W:=by kernel_rfl
set_option maxRecDepth 100000 in
theorem along_any (a b:Wv) (x y:Int) (w:World) (ha:a.Ok) (hb:b.Ok) (h1:Pl a.x) (h2:Pl a.y) (h3:Pl b.x) (h4:Pl b.y) (hx:Pl x) (hy:Pl y):
  Calls Tryz.prog 190 #[a.v,b.v,.int .i64 x,.int .i64 y] w fun e w'=>
   e=.returned (.tuple #[.int .i64 (lmid a.z b.z (along a b x y).1 (along a b x y).2),.agg #[.int .i64 (lmid a.c0 b.c0 (along a b x y).1 (along a b x y).2),.int .i64 (lmid a.c1 b.c1 (along a b x y).1 (along a b x y).2),
    .int .i64 (lmid a.c2 b.c2 (along a b x y).1 (along a b x y).2),.int .i64 (lmid a.c3 b.c3 (along a b x y).1 (along a b x y).2)]])∧Ext w w':=by
 have hbd:=along_bound (x:=x) (y:=y) h1 h2 h3 h4
 obtain⟨h11,h12⟩:=h1
 obtain⟨h21,h22⟩:=h2
 obtain⟨h31,h32⟩:=h3
 obtain⟨h41,h42⟩:=h4
 obtain⟨hx1,hx2⟩:=hx
 obtain⟨hy1,hy2⟩:=hy
 have HBD:=Lib.hid hbd
 have HO:=Lib.hid (And.intro ha hb)
 clear hbd ha hb
 go_enter Tryz.func190,Tryz.ntmps190
 go_wp2_with fail
 refine wp_region_later (by kernel_rfl) (by kernel_rfl) ?_
 repeat(go_big_quiet_step ((first|fail|fail)))
 refine wpQuiet_nil ?_
 intro y1
 have HB1:Hid (Bo a b w y1.w):=Lib.hid ⟨by(repeat(first|with_reducible exact Hid.out (by assumption)|(with_reducible refine Blk.new' _ _ _ ?_;(simp;done))|with_reducible(first|refine Blk.alloc ?_ _|refine Blk.drew ?_|refine Blk.drewN ?_ _|refine Blk.later ?_ _)|(with_reducible refine Blk.far ?_ ?hp _;case hp=>first|(simp;done)|(simp;omega)|omega))),by(repeat(first|with_reducible exact Hid.out (by assumption)|(with_reducible refine Blk.new' _ _ _ ?_;(simp;done))|with_reducible(first|refine Blk.alloc ?_ _|refine Blk.drew ?_|refine Blk.drewN ?_ _|refine Blk.later ?_ _)|(with_reducible refine Blk.far ?_ ?hp _;case hp=>first|(simp;done)|(simp;omega)|omega))),by(repeat(first|with_reducible exact Hid.out (by assumption)|(with_reducible refine Blk.new' _ _ _ ?_;(simp;done))|with_reducible(first|refine Blk.alloc ?_ _|refine Blk.drew ?_|refine Blk.drewN ?_ _|refine Blk.later ?_ _)|(with_reducible refine Blk.far ?_ ?hp _;case hp=>first|(simp;done)|(simp;omega)|omega))),by(repeat(first|with_reducible(first|exact eR_ _|assumption|refine eA_ ?_ _|refine eD_ ?_|refine eN_ ?_ _|refine eL_ ?_ _)|(with_reducible refine eS_ ?_ _ ?hp;case hp=>first|(simp;done)|(simp;omega)|omega)))⟩
 generalize y1.w=W1 at*
 clear y1
 have ca:=HB1.out.a.c7
 have cb:=HB1.out.b.c7
 go_upto_if 39 with(fail)
 go_cut [12,13]from 40 to 46 (fun n d wx=>n=.int .i64 (alongP a b x y).1∧d=.int .i64 (alongP a b x y).2∧Hid (wx=W1))
 case first=>
  go_wp2_with fail
  all_goals
   go_meet
   case rel=>
    refine⟨?_,?_,Lib.hid rfl⟩
    all_goals
     congr 1
     unfold alongP
     split
     all_goals first|rfl|(exfalso;omega)
 case rest=>
 obtain⟨rfl,rfl,hw⟩:=hcut
 have hw:=hw.out
 subst hw
 have hp:(-100000000000≤(alongP a b x y).1∧(alongP a b x y).1≤100000000000)∧ -100000000000≤(alongP a b x y).2∧(alongP a b x y).2≤100000000000:=by
  unfold alongP
  split <;>(simp only;omega)
 obtain⟨⟨p1,p2⟩,p3,p4⟩:=hp
 have HAL:Hid (along a b x y=if(alongP a b x y).2<0 then(-(alongP a b x y).1, -(alongP a b x y).2)else alongP a b x y):=Lib.hid rfl
 generalize alongP a b x y=q at*
 obtain⟨n0,d0⟩:=q
 simp only at p1 p2 p3 p4
 go_upto_if 48 with(fail)
 go_cut [12,13]from 48 to 52 (fun n d wx=>n=.int .i64 (along a b x y).1∧d=.int .i64 (along a b x y).2∧Hid (wx=wc))
 case first=>
  go_wp2_with fail
  all_goals
   go_meet
   case rel=>
    refine⟨?_,?_,Lib.hid rfl⟩
    all_goals
     congr 1
     rw[HAL.out]
     try simp only
     split
     all_goals first|rfl|(exfalso;omega)
 case rest=>
 obtain⟨rfl,rfl,hw⟩:=hcut
 have hw:=hw.out
 subst hw
 clear HAL p1 p2 p3 p4
 generalize hq:along a b x y=q at*
 have HQ:=Lib.hid hq
 clear hq
 obtain⟨n,d⟩:=q
 simp only at HBD
 go_upto_region 7 with fail
 have HR1:=Lib.hid HB1.out.r
 have HE1:=Lib.hid HB1.out.e
 have ca:=HB1.out.a.c7
 have cb:=HB1.out.b.c7
 go_region_with (first|(go_at_call 224;refine(mixer_any _ _ _).mono ?_;rintro e w1 ⟨rfl,rfl⟩)|(go_at_call 223;refine(both_any _ _ a b _ _ _ (by(repeat(first|with_reducible exact Hid.out (by assumption)|(with_reducible refine Blk.new' _ _ _ ?_;(simp;done))|with_reducible(first|refine Blk.alloc ?_ _|refine Blk.drew ?_|refine Blk.drewN ?_ _|refine Blk.later ?_ _)|(with_reducible refine Blk.far ?_ ?hp _;case hp=>first|(simp;done)|(simp;omega)|omega)))) (by(repeat(first|with_reducible exact Hid.out (by assumption)|(with_reducible refine Blk.new' _ _ _ ?_;(simp;done))|with_reducible(first|refine Blk.alloc ?_ _|refine Blk.drew ?_|refine Blk.drewN ?_ _|refine Blk.later ?_ _)|(with_reducible refine Blk.far ?_ ?hp _;case hp=>first|(simp;done)|(simp;omega)|omega)))) HO.out.1 HO.out.2 HBD.out).mono ?_;rintro e w1 ⟨rfl,hE⟩;obtain⟨y2,rfl⟩:=Later.mk' hE;clear hE;have HR2:Blk y2.w (w.heap.size+1+1) 30 #[.int .i64 0,.int .i64 0,.int .i64 0,.int .i64 0]:=(by(repeat(first|with_reducible exact Hid.out (by assumption)|(with_reducible refine Blk.new' _ _ _ ?_;(simp;done))|with_reducible(first|refine Blk.alloc ?_ _|refine Blk.drew ?_|refine Blk.drewN ?_ _|refine Blk.later ?_ _)|(with_reducible refine Blk.far ?_ ?hp _;case hp=>first|(simp;done)|(simp;omega)|omega))));have cr:=HR2.c4;have fr:=HR2.f4;have HR3:=Lib.hid HR2;have HE3:Hid (Ext w y2.w):=Lib.hid (by have:=HE1.out;(repeat(first|with_reducible(first|exact eR_ _|assumption|refine eA_ ?_ _|refine eD_ ?_|refine eN_ ?_ _|refine eL_ ?_ _)|(with_reducible refine eS_ ?_ _ ?hp;case hp=>first|(simp;done)|(simp;omega)|omega))));clear HR2;generalize y2.w=W9 at *))
 all_goals
  clear ca cb cr fr
  have HZ:=Lib.hid (HR3.out.s4 (.int .i64 (lmid a.c0 b.c0 n d)) (.int .i64 (lmid a.c1 b.c1 n d)) (.int .i64 (lmid a.c2 b.c2 n d)) (.int .i64 (lmid a.c3 b.c3 n d)))
  have HE:Hid (Ext w ((((W9.setCell ⟨w.heap.size+1+1,0,none⟩ (.int .i64 (lmid a.c0 b.c0 n d))).setCell ⟨w.heap.size+1+1,1,none⟩ (.int .i64 (lmid a.c1 b.c1 n d))).setCell ⟨w.heap.size+1+1,2,none⟩ (.int .i64 (lmid a.c2 b.c2 n d))).setCell ⟨w.heap.size+1+1,3,none⟩ (.int .i64 (lmid a.c3 b.c3 n d)))):=
   Lib.hid ((((HE3.out.setCell _ (by simp;omega)).setCell _ (by simp;omega)).setCell _ (by simp;omega)).setCell _ (by simp;omega))
  generalize(((W9.setCell ⟨w.heap.size+1+1,0,none⟩ (.int .i64 (lmid a.c0 b.c0 n d))).setCell ⟨w.heap.size+1+1,1,none⟩ (.int .i64 (lmid a.c1 b.c1 n d))).setCell ⟨w.heap.size+1+1,2,none⟩ (.int .i64 (lmid a.c2 b.c2 n d))).setCell ⟨w.heap.size+1+1,3,none⟩ (.int .i64 (lmid a.c3 b.c3 n d))=WF at*
  go_wp2_with fail
  refine bodyPost_ret (results_tmp_cell rfl _ _ _ (ad:=⟨w.heap.size+1+1,0,none⟩) rfl (run_load_blk HZ.out 30 0 4 agg_color (by kernel_rfl) (by simp))) rfl ⟨by rw[HQ.out];rfl,HE.out⟩
end Go.Proofs.YtplljnfjkkloeaaGreatDoor
set_option linter.unusedVariables false
set_option linter.unusedSimpArgs false
namespace Go.Proofs.YtplljnfjkkloeaaGreatDoor
attribute [local go_sem] Go.Oper.semAt_some
open Go.RowKit
structure Co where
 ax:Int
 ay:Int
 bx:Int
 by_:Int
 flat:Bool
@[reducible] def Co.row (c:Co):Array Value:= #[.int .i64 c.ax,.int .i64 c.ay,.int .i64 c.bx,.int .i64 c.by_,.bool c.flat]
@[reducible] def Co.v (c:Co):Value:=.agg #[.int .i64 c.ax,.int .i64 c.ay,.int .i64 c.bx,.int .i64 c.by_,.bool c.flat]
def coreOf (a b:Wv) (n:Int):Co:=
 if max (b.x-a.x) (-(b.x-a.x))≥max (b.y-a.y) (-(b.y-a.y))then⟨a.x,a.y-(n-1)*128,b.x,b.y-(n-1)*128,true⟩else⟨a.x-(n-1)*128,a.y,b.x-(n-1)*128,b.y,false⟩
def Co.reach (c:Co) (r:Rc) (n:Int):Rc:=if c.flat=true then⟨r.x0,max (r.y0-n+1) (-4194304),r.x1,r.y1⟩else⟨max (r.x0-n+1) (-4194304),r.y0,r.x1,r.y1⟩
theorem reach_any (c:Co) (r:Rc) (n:Int) (w:World) (hr:r.Ok) (n0:1≤n) (n1:n≤64):Calls Tryz.prog 188 #[c.v,r.v,.int .i64 n] w fun e w'=>e=.returned (c.reach r n).v∧Ext w w':=by
 obtain⟨h1,h2,h3,h4,h5,h6⟩:=hr
 cases hf:c.flat
 ·have e:c.reach r n=⟨max (r.x0-n+1) (-4194304),r.y0,r.x1,r.y1⟩:=by unfold Co.reach;rw[if_neg (by rw[hf];simp)]
  rw[e]
  clear e
  unfold Co.v
  rw[hf]
  go_enter Tryz.func188,Tryz.ntmps188
  go_wp2_with fail
  refine bodyPost_ret (v:=Rc.v ⟨max (r.x0-n+1) (-4194304),r.y0,r.x1,r.y1⟩) (by simp[results,Tryz.results188,go_sem]) rfl ⟨rfl,by(repeat(first|with_reducible(first|exact eR_ _|assumption|refine eA_ ?_ _|refine eD_ ?_|refine eN_ ?_ _|refine eL_ ?_ _)|(with_reducible refine eS_ ?_ _ ?hp;case hp=>first|(simp;done)|(simp;omega)|omega)))⟩
 ·have e:c.reach r n=⟨r.x0,max (r.y0-n+1) (-4194304),r.x1,r.y1⟩:=by unfold Co.reach;rw[if_pos hf]
  rw[e]
  clear e
  unfold Co.v
  rw[hf]
  go_enter Tryz.func188,Tryz.ntmps188
  go_wp2_with fail
  refine bodyPost_ret (v:=Rc.v ⟨r.x0,max (r.y0-n+1) (-4194304),r.x1,r.y1⟩) (by simp[results,Tryz.results188,go_sem]) rfl ⟨rfl,by(repeat(first|with_reducible(first|exact eR_ _|assumption|refine eA_ ?_ _|refine eD_ ?_|refine eN_ ?_ _|refine eL_ ?_ _)|(with_reducible refine eS_ ?_ _ ?hp;case hp=>first|(simp;done)|(simp;omega)|omega)))⟩
set_option maxRecDepth 100000 in
theorem coreOf_any (a b:Wv) (n:Int) (w:World) (ha:a.Fits) (hb:b.Fits) (n0:1≤n) (n1:n≤64):Calls Tryz.prog 182 #[a.v,b.v,.int .i64 n] w fun e w'=>e=.returned (coreOf a b n).v∧Ext w w':=by
 obtain⟨⟨a1,a2⟩,⟨a3,a4⟩, -⟩:=ha
 obtain⟨⟨b1,b2⟩,⟨b3,b4⟩, -⟩:=hb
 unfold coreOf
 generalize hm1:max (b.x-a.x) (-(b.x-a.x))=m1
 generalize hm2:max (b.y-a.y) (-(b.y-a.y))=m2
 by_cases hf:m1≥m2
 ·rw[if_pos hf]
  have t1:decide (m1≥m2)=true:=by simpa using hf
  clear hf
  go_enter Tryz.func182,Tryz.ntmps182
  go_wp2_with fail
  refine wp_region_later (by kernel_rfl) (by kernel_rfl) ?_
  repeat(go_big_quiet_step ((first|fail|fail)))
  refine wpQuiet_nil ?_
  intro y1
  have D2:Hid (Blk y1.w (w.heap.size+1+1) 293 #[.int .i64 0,.int .i64 0,.int .i64 0,.int .i64 0,.bool false]):=Lib.hid (by(repeat(first|with_reducible exact Hid.out (by assumption)|(with_reducible refine Blk.new' _ _ _ ?_;(simp;done))|with_reducible(first|refine Blk.alloc ?_ _|refine Blk.drew ?_|refine Blk.drewN ?_ _|refine Blk.later ?_ _)|(with_reducible refine Blk.far ?_ ?hp _;case hp=>first|(simp;done)|(simp;omega)|omega))))
  have hs:=y1.le
  simp at hs
  have c5:=D2.out.c5
  have f5:=D2.out.f5
  have A0:Hid (Blk y1.w w.heap.size 177 a.row):=Lib.hid (by(repeat(first|with_reducible exact Hid.out (by assumption)|(with_reducible refine Blk.new' _ _ _ ?_;(simp;done))|with_reducible(first|refine Blk.alloc ?_ _|refine Blk.drew ?_|refine Blk.drewN ?_ _|refine Blk.later ?_ _)|(with_reducible refine Blk.far ?_ ?hp _;case hp=>first|(simp;done)|(simp;omega)|omega))))
  have A1:Hid (Blk y1.w (w.heap.size+1) 177 b.row):=Lib.hid (by(repeat(first|with_reducible exact Hid.out (by assumption)|(with_reducible refine Blk.new' _ _ _ ?_;(simp;done))|with_reducible(first|refine Blk.alloc ?_ _|refine Blk.drew ?_|refine Blk.drewN ?_ _|refine Blk.later ?_ _)|(with_reducible refine Blk.far ?_ ?hp _;case hp=>first|(simp;done)|(simp;omega)|omega))))
  have ca:=A0.out.c7
  have cb:=A1.out.c7
  have HE:Hid (Ext w y1.w):=Lib.hid (by(repeat(first|with_reducible(first|exact eR_ _|assumption|refine eA_ ?_ _|refine eD_ ?_|refine eN_ ?_ _|refine eL_ ?_ _)|(with_reducible refine eS_ ?_ _ ?hp;case hp=>first|(simp;done)|(simp;omega)|omega))))
  generalize y1.w=W1 at*
  go_wp2_with fail
  clear c5 f5
  obtain⟨s0,s1,s2,s3,s4⟩:=((D2.out.alloc (.cells #[.int .i64 a.x,.int .i64 (a.y-(n-1)*128),.int .i64 b.x,.int .i64 (b.y-(n-1)*128),.bool true] 293)).s5 (.int .i64 a.x) (.int .i64 (a.y-(n-1)*128)) (.int .i64 b.x) (.int .i64 (b.y-(n-1)*128)) (.bool true)).c5
  have HE:=HE.out
  refine bodyPost_ret (v:=.agg #[.int .i64 a.x,.int .i64 (a.y-(n-1)*128),.int .i64 b.x,.int .i64 (b.y-(n-1)*128),.bool true]) (by simp[results,Tryz.results182,go_sem,s0,s1,s2,s3,s4]) rfl ⟨rfl,by(repeat(first|with_reducible(first|exact eR_ _|assumption|refine eA_ ?_ _|refine eD_ ?_|refine eN_ ?_ _|refine eL_ ?_ _)|(with_reducible refine eS_ ?_ _ ?hp;case hp=>first|(simp;done)|(simp;omega)|omega)))⟩
 ·rw[if_neg hf]
  have t1:decide (m1≥m2)=false:=by simpa using hf
  clear hf
  go_enter Tryz.func182,Tryz.ntmps182
  go_wp2_with fail
  refine wp_region_later (by kernel_rfl) (by kernel_rfl) ?_
  repeat(go_big_quiet_step ((first|fail|fail)))
  refine wpQuiet_nil ?_
  intro y1
  have D2:Hid (Blk y1.w (w.heap.size+1+1) 293 #[.int .i64 0,.int .i64 0,.int .i64 0,.int .i64 0,.bool false]):=Lib.hid (by(repeat(first|with_reducible exact Hid.out (by assumption)|(with_reducible refine Blk.new' _ _ _ ?_;(simp;done))|with_reducible(first|refine Blk.alloc ?_ _|refine Blk.drew ?_|refine Blk.drewN ?_ _|refine Blk.later ?_ _)|(with_reducible refine Blk.far ?_ ?hp _;case hp=>first|(simp;done)|(simp;omega)|omega))))
  have hs:=y1.le
  simp at hs
  have c5:=D2.out.c5
  have f5:=D2.out.f5
  have A0:Hid (Blk y1.w w.heap.size 177 a.row):=Lib.hid (by(repeat(first|with_reducible exact Hid.out (by assumption)|(with_reducible refine Blk.new' _ _ _ ?_;(simp;done))|with_reducible(first|refine Blk.alloc ?_ _|refine Blk.drew ?_|refine Blk.drewN ?_ _|refine Blk.later ?_ _)|(with_reducible refine Blk.far ?_ ?hp _;case hp=>first|(simp;done)|(simp;omega)|omega))))
  have A1:Hid (Blk y1.w (w.heap.size+1) 177 b.row):=Lib.hid (by(repeat(first|with_reducible exact Hid.out (by assumption)|(with_reducible refine Blk.new' _ _ _ ?_;(simp;done))|with_reducible(first|refine Blk.alloc ?_ _|refine Blk.drew ?_|refine Blk.drewN ?_ _|refine Blk.later ?_ _)|(with_reducible refine Blk.far ?_ ?hp _;case hp=>first|(simp;done)|(simp;omega)|omega))))
  have ca:=A0.out.c7
  have cb:=A1.out.c7
  have HE:Hid (Ext w y1.w):=Lib.hid (by(repeat(first|with_reducible(first|exact eR_ _|assumption|refine eA_ ?_ _|refine eD_ ?_|refine eN_ ?_ _|refine eL_ ?_ _)|(with_reducible refine eS_ ?_ _ ?hp;case hp=>first|(simp;done)|(simp;omega)|omega))))
  generalize y1.w=W1 at*
  go_wp2_with fail
  clear c5 f5
  obtain⟨s0,s1,s2,s3,s4⟩:=((D2.out.alloc (.cells #[.int .i64 (a.x-(n-1)*128),.int .i64 a.y,.int .i64 (b.x-(n-1)*128),.int .i64 b.y,.bool false] 293)).s5 (.int .i64 (a.x-(n-1)*128)) (.int .i64 a.y) (.int .i64 (b.x-(n-1)*128)) (.int .i64 b.y) (.bool false)).c5
  have HE:=HE.out
  refine bodyPost_ret (v:=.agg #[.int .i64 (a.x-(n-1)*128),.int .i64 a.y,.int .i64 (b.x-(n-1)*128),.int .i64 b.y,.bool false]) (by simp[results,Tryz.results182,go_sem,s0,s1,s2,s3,s4]) rfl ⟨rfl,by(repeat(first|with_reducible(first|exact eR_ _|assumption|refine eA_ ?_ _|refine eD_ ?_|refine eN_ ?_ _|refine eL_ ?_ _)|(with_reducible refine eS_ ?_ _ ?hp;case hp=>first|(simp;done)|(simp;omega)|omega)))⟩
end Go.Proofs.YtplljnfjkkloeaaGreatDoor
set_option linter.unusedVariables false
set_option linter.unusedSimpArgs false
namespace Go.Proofs.YtplljnfjkkloeaaGreatDoor
attribute [local go_sem] Go.Oper.semAt_some
open Go.RowKit
structure Fr where
 x:Int
 y:Int
 z:Int
 c0:Int
 c1:Int
 c2:Int
 c3:Int
 m:Int
@[reducible] def Fr.v (f:Fr):Value:=.agg #[.int .i64 f.x,.int .i64 f.y,.int .i64 f.z,.int .i64 f.c0,.int .i64 f.c1,.int .i64 f.c2,.int .i64 f.c3,.int .i64 f.m]
def Fr.cells (f:Fr):List Value:=[.int .i64 f.x,.int .i64 f.y,.int .i64 f.z,.int .i64 f.c0,.int .i64 f.c1,.int .i64 f.c2,.int .i64 f.c3,.int .i64 f.m]
structure Kept (base B:Nat) (te:TypeId) (w w':World):Prop where
 blk: ∀g t cs,Blk w g t cs→t≠te→g≠B→Blk w' g t cs
 ext: ∀w0:World,w0.heap.size≤base→w0.heap.size≤B→Ext w0 w→Ext w0 w'
 size:w.heap.size≤w'.heap.size
theorem Kept.of_ext {base B:Nat} {te:TypeId} {w w':World} (h:Ext w w'):Kept base B te w w':=⟨fun _ _ _ hb _ _=>hb.ext h,fun _ _ _ e=>e.trans h,h.size⟩
theorem Kept.trans {base B:Nat} {te:TypeId} {a b c:World} (h:Kept base B te a b) (k:Kept base B te b c):Kept base B te a c:=
 ⟨fun g t cs hb h1 h2=>k.blk g t cs (h.blk g t cs hb h1 h2) h1 h2,fun w0 h1 h2 e=>k.ext w0 h1 h2 (h.ext w0 h1 h2 e),Nat.le_trans h.size k.size⟩
theorem Kept.push {α:Type} {base:Nat} {ts te:TypeId} {size:Nat} {f:α→List Value} {B:Nat} {L:List α} {v v':Value} {w w1:World} (h:SBox base ts te size f B L v w) (hg:w.grownBy w1 v.ownBlock):Kept base B te w (w1.setCell ⟨B,0,none⟩ v'):=by
 refine⟨fun g t cs hb ht hB=>(hb.grown' hg (own_ne_blk h.own hb ht)).far (by simpa using hB) _,fun w0 h1 h2 e=>?_,?_⟩
 ·have hk:Kp (fun k=>k<w0.heap.size) w (w1.setCell ⟨B,0,none⟩ v'):=kp_push h (Kp.refl _ _) hg (by simp;omega) (fun g hb=>by simp;omega)
  exact hk.ext e (fun k hk=>hk)
 ·have hk:Kp (fun k=>False) w (w1.setCell ⟨B,0,none⟩ v'):=kp_push h (Kp.refl _ _) hg (by simp) (fun g hb=>by simp)
  exact hk.size
theorem info_frag:(Tryz.prog.info? 68).map (fun i=>(i.zero,i.size,i.bytes))=some (some (.agg #[.int .i64 0,.int .i64 0,.int .i64 0,.int .i64 0,.int .i64 0,.int .i64 0,.int .i64 0,.int .i64 0]),8,64):=by kernel_rfl
set_option maxRecDepth 100000 in
theorem wput_any (f:Fr) (r:Rc) (C B base:Nat) (L:List Fr) (v:Value) (w:World) (hr:r.Ok) (hC:Blk w C 48 r.row) (hS:SBox base 63 68 8 Fr.cells B L v w) (hb:base≤w.heap.size) (hL:L.length<1000000000000):
  Calls Tryz.prog 185 #[f.v,.pointer (some ⟨C,0,none⟩),.pointer (some ⟨B,0,none⟩)] w fun e w'=>
   e=.returned (.tuple #[])∧(∃v',SBox base 63 68 8 Fr.cells B (if r.Has f.x f.y then L++[f]else L) v' w'∧ ∀E cs,v.ownBlock≠some E→E≠B→Blk w E 68 cs→Blk w' E 68 cs∧v'.ownBlock≠some E)∧Kept base B 68 w w':=by
 have HH:=Lib.hid (fun w=>has_any r f.x f.y w hr)
 have HC:=Lib.hid hC
 have HS:=Lib.hid hS
 have HL:=Lib.hid hL
 have HBS:=Lib.hid hb
 have cc:=hC.c4
 clear hC hS hL hr hb
 go_enter Tryz.func185,Tryz.ntmps185
 go_wp2_with fail
 refine(HH.out _).mono ?_
 rintro e w1 ⟨rfl,hE⟩
 obtain⟨z,rfl⟩:=Later.mk' hE
 clear hE
 by_cases hh:r.Has f.x f.y
 ·have hd:decide (r.Has f.x f.y)=true:=decide_eq_true hh
  rw[hd]
  have HHH:=Lib.hid hh
  clear hd cc hh
  have HV:=Lib.hid (HS.out.ext (((Ext.refl w).alloc (.cells #[.int .i64 f.x,.int .i64 f.y,.int .i64 f.z,.int .i64 f.c0,.int .i64 f.c1,.int .i64 f.c2,.int .i64 f.c3,.int .i64 f.m] 68)).trans z.ext))
  have HF:Hid (Blk z.w w.heap.size 68 #[.int .i64 f.x,.int .i64 f.y,.int .i64 f.z,.int .i64 f.c0,.int .i64 f.c1,.int .i64 f.c2,.int .i64 f.c3,.int .i64 f.m]):=Lib.hid (by(repeat(first|with_reducible exact Hid.out (by assumption)|(with_reducible refine Blk.new' _ _ _ ?_;(simp;done))|with_reducible(first|refine Blk.alloc ?_ _|refine Blk.drew ?_|refine Blk.drewN ?_ _|refine Blk.later ?_ _)|(with_reducible refine Blk.far ?_ ?hp _;case hp=>first|(simp;done)|(simp;omega)|omega))))
  have HE:Hid (Ext w z.w):=Lib.hid (by(repeat(first|with_reducible(first|exact eR_ _|assumption|refine eA_ ?_ _|refine eD_ ?_|refine eN_ ?_ _|refine eL_ ?_ _)|(with_reducible refine eS_ ?_ _ ?hp;case hp=>first|(simp;done)|(simp;omega)|omega))))
  have o0:=HV.out.blk.c1
  have oz:=HV.out.blk.frozen 0
  have cf:=HF.out.c8
  generalize z.w=w2 at*
  obtain⟨i0,hi0,hz0,hz1,hz2⟩:=info_parts info_frag
  go_wp2_with (refine wpList_append_lies _ rfl (.tmp 10) (.tmp 12) 63 rfl base 68 i0 _ 8 64 Tryz.underlying63 hi0 hz0 hz1 hz2 rfl (by decide) v L.length (L.flatMap Fr.cells) rfl (HV.out.own.alloc _) ⟨_,0,none⟩ 1 1 f.cells rfl rfl (news_at _ _ _) (by simp[Fr.cells,Value.oneCell']) (by decide) ?c3 ?c4 ?c6 _ rfl ?_)
  case c3=>have:=HL.out;unfold maxLen;omega
  case c4=>have:=HL.out;omega
  case c6=>have:=HBS.out;have:=HE.out.size;simp;omega
  intro gn cap w4 ho hg hlie _
  have HV1:=HV.out.ext ((Ext.refl w2).alloc (.cells f.cells.toArray 68))
  have HB4:=Lib.hid (HV1.push (x:=f) (by decide) ho hg)
  have HK4:=Lib.hid (Kept.push (v':=.slice (some ⟨gn,0,none⟩) (L.length+1) cap) HV1 hg)
  have HF4:Hid (∀E cs,v.ownBlock≠some E→E≠B→Blk w E 68 cs→Blk (w4.setCell ⟨B,0,none⟩ (.slice (some ⟨gn,0,none⟩) (L.length+1) cap)) E 68 cs∧(Value.slice (some ⟨gn,0,none⟩) (L.length+1) cap).ownBlock≠some E):=Lib.hid (by
   intro E cs h1 h2 h3
   refine⟨((h3.ext (HE.out.alloc (.cells f.cells.toArray 68))).grown' hg h1).far (by simpa using h2) _,?_⟩
   intro h4
   simp[Value.ownBlock]at h4
   subst h4
   rcases hlie with h5|h5
   ·exact h1 h5
   ·have h7:=h3.lt
    have h6:=HE.out.size
    have h8:(w2.alloc (.cells f.cells.toArray 68)).heap.size=w2.heap.size+1:=by simp
    omega)
  clear ho hg HV1 o0 oz cf hlie hi0 hz0 hz1 hz2
  have o0:=HB4.out.1.c1
  have oz:=HB4.out.1.frozen 0
  have HE4:=HE.out
  go_wp2_with fail
  refine bodyPost_end (results_none rfl _ _ _) rfl ⟨rfl,⟨.slice (some ⟨gn,0,none⟩) (L.length+1) cap,?_,HF4.out⟩,?_⟩
  ·first|exact HB4.out.2|(rw[if_pos HHH.out];exact HB4.out.2)
  ·exact(Kept.of_ext (HE4.alloc _)).trans HK4.out
 ·have hd:decide (r.Has f.x f.y)=false:=decide_eq_false hh
  rw[hd]
  have HHH:=Lib.hid hh
  clear hd hh
  go_wp2_with fail
  have HEX:Ext w z.w:=by(repeat(first|with_reducible(first|exact eR_ _|assumption|refine eA_ ?_ _|refine eD_ ?_|refine eN_ ?_ _|refine eL_ ?_ _)|(with_reducible refine eS_ ?_ _ ?hp;case hp=>first|(simp;done)|(simp;omega)|omega)))
  refine bodyPost_end (results_none rfl _ _ _) rfl ⟨rfl,⟨v,?_,fun E cs h1 _ h3=>⟨h3.ext HEX,h1⟩⟩,Kept.of_ext HEX⟩
  first|exact HS.out.ext (by(repeat(first|with_reducible(first|exact eR_ _|assumption|refine eA_ ?_ _|refine eD_ ?_|refine eN_ ?_ _|refine eL_ ?_ _)|(with_reducible refine eS_ ?_ _ ?hp;case hp=>first|(simp;done)|(simp;omega)|omega))))|(rw[if_neg HHH.out];exact HS.out.ext (by(repeat(first|with_reducible(first|exact eR_ _|assumption|refine eA_ ?_ _|refine eD_ ?_|refine eN_ ?_ _|refine eL_ ?_ _)|(with_reducible refine eS_ ?_ _ ?hp;case hp=>first|(simp;done)|(simp;omega)|omega)))))
end Go.Proofs.YtplljnfjkkloeaaGreatDoor
