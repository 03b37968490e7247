/- Plain: the pixels of a line between two points; the document's diamonds; strips that go to one side. By an AI agent. No condition beyond what each theorem states. -/
import Derived.Test.YtplljnfjkkloeaaGreatDoorQM
import Derived.Test.YtplljnfjkkloeaaGreatDoorXI
set_option linter.unusedVariables false
set_option linter.unusedSimpArgs false
set_option maxHeartbeats 4000000
namespace Go.Proofs.YtplljnfjkkloeaaGreatDoor
def wayOf (ax ay bx by_:Int):Way:=
 if max (bx-ax) (-(bx-ax))<max (by_-ay) (-(by_-ay))then⟨ay,ax,by_,bx,true,1⟩
 else⟨ax,ay,bx,by_,false,if(0<bx-ax∧0<by_-ay)∨(bx-ax<0∧by_-ay<0)then 0 else 1⟩
theorem wayOf_ok {ax ay bx by_:Int} (h: ¬(ax=bx∧ay=by_)):(wayOf ax ay bx by_).Ok:=by
 unfold wayOf
 split
 ·refine⟨?_,?_,?_,?_,?_⟩ <;>simp only[Way.du,Way.dv] <;>split <;>(try simp) <;>omega
 ·split
  ·refine⟨?_,?_,?_,?_,?_⟩ <;>simp only[Way.du,Way.dv] <;>split <;>(try simp) <;>omega
  ·refine⟨?_,?_,?_,?_,?_⟩ <;>simp only[Way.du,Way.dv] <;>split <;>(try simp) <;>omega
def rIn (px py x y:Int):Prop:=(px-256*x-128)+(py-256*y-128)≤128∧ -128<(px-256*x-128)+(py-256*y-128)∧
 (px-256*x-128)-(py-256*y-128)≤128∧ -128<(px-256*x-128)-(py-256*y-128)
def rOff (ax ay bx by_ x y:Int):Int:=(bx-ax)*(ay-256*y-128)-(by_-ay)*(ax-256*x-128)
def rFar (ax ay bx by_:Int):Int:=128*max (max (bx-ax) (-(bx-ax))) (max (by_-ay) (-(by_-ay)))
def rThrough (ax ay bx by_ x y:Int):Prop:=
 (rOff ax ay bx by_ x y-rFar ax ay bx by_<0∨(rOff ax ay bx by_ x y-rFar ax ay bx by_=0∧(by_-ay<0∨(by_-ay=0∧0<bx-ax))))∧
 (0<rOff ax ay bx by_ x y+rFar ax ay bx by_∨(rOff ax ay bx by_ x y+rFar ax ay bx by_=0∧(0<by_-ay∨(by_-ay=0∧bx-ax<0))))
def rMeets (ax ay bx by_ x y:Int):Prop:=
 (min ((ax-256*x-128)+(ay-256*y-128)) ((bx-256*x-128)+(by_-256*y-128))≤128∧
  -128<max ((ax-256*x-128)+(ay-256*y-128)) ((bx-256*x-128)+(by_-256*y-128)))∧
 (min ((ax-256*x-128)-(ay-256*y-128)) ((bx-256*x-128)-(by_-256*y-128))≤128∧
  -128<max ((ax-256*x-128)-(ay-256*y-128)) ((bx-256*x-128)-(by_-256*y-128)))∧
 ((ax=bx∧ay=by_)∨rThrough ax ay bx by_ x y)
def rExits (ax ay bx by_ x y:Int):Prop:=rMeets ax ay bx by_ x y∧ ¬rIn bx by_ x y
def lpix (ax ay bx by_:Int):List (Int×Int):=
 if ax=bx∧ay=by_ then[]else(wayOf ax ay bx by_).pix.map fun p=>if(wayOf ax ay bx by_).turned=true then(p.2,p.1)else p
theorem exits_same {ax ay x y:Int}: ¬rExits ax ay ax ay x y:=by
 rintro⟨⟨h1,h2,_⟩,h3⟩
 exact h3 ⟨by omega,by omega,by omega,by omega⟩
theorem abs_of {w h:Int}:(max w (-w)<max h (-h)→max (max w (-w)) (max h (-h))=max h (-h))∧(¬max w (-w)<max h (-h)→max (max w (-w)) (max h (-h))=max w (-w)):=by omega
theorem through_is {ax ay bx by_ x y:Int} (hne: ¬(ax=bx∧ay=by_)):
  rThrough ax ay bx by_ x y↔(if(wayOf ax ay bx by_).turned=true then(wayOf ax ay bx by_).L y x else(wayOf ax ay bx by_).L x y):=by
 unfold rThrough rFar wayOf
 by_cases ht:max (bx-ax) (-(bx-ax))<max (by_-ay) (-(by_-ay))
 ·rw[if_pos ht,abs_of.1 ht]
  simp only[if_true,Way.L,Way.off,Way.du,Way.dv]
  have e:rOff ax ay bx by_ x y=(bx-ax)*(ay-256*y-128)-(by_-ay)*(ax-256*x-128):=rfl
  by_cases hs:by_<ay
  ·simp only[if_pos hs]
   have e2:(ay-by_)*(ax-256*x-128)-(ax-bx)*(ay-256*y-128)=rOff ax ay bx by_ x y:=by rw[e];grind
   rw[e2]
   generalize rOff ax ay bx by_ x y=o
   omega
  ·simp only[if_neg hs]
   have e2:(by_-ay)*(ax-256*x-128)-(bx-ax)*(ay-256*y-128)= -rOff ax ay bx by_ x y:=by rw[e];grind
   rw[e2]
   generalize rOff ax ay bx by_ x y=o
   omega
 ·rw[if_neg ht,abs_of.2 ht]
  simp only[Bool.false_eq_true,if_false,Way.L,Way.off,Way.du,Way.dv]
  have e:rOff ax ay bx by_ x y=(bx-ax)*(ay-256*y-128)-(by_-ay)*(ax-256*x-128):=rfl
  by_cases hs:bx<ax
  ·simp only[if_pos hs]
   have e2:(ax-bx)*(ay-256*y-128)-(ay-by_)*(ax-256*x-128)= -rOff ax ay bx by_ x y:=by rw[e];grind
   rw[e2]
   generalize rOff ax ay bx by_ x y=o
   split <;>omega
  ·simp only[if_neg hs]
   rw[←e]
   generalize rOff ax ay bx by_ x y=o
   split <;>omega
theorem rIn_is {ax ay bx by_ x y px py:Int}:
  rIn px py x y↔(if(wayOf ax ay bx by_).turned=true then(wayOf ax ay bx by_).inW py px y x else(wayOf ax ay bx by_).inW px py x y):=by
 unfold rIn Way.inW
 split <;>omega
theorem rMeets_is {ax ay bx by_ x y:Int} (hne: ¬(ax=bx∧ay=by_)):
  rMeets ax ay bx by_ x y↔(if(wayOf ax ay bx by_).turned=true then(wayOf ax ay bx by_).meets y x else(wayOf ax ay bx by_).meets x y):=by
 have ht:=through_is (x:=x) (y:=y) hne
 unfold rMeets Way.meets
 rw[ht]
 have e:wayOf ax ay bx by_=wayOf ax ay bx by_:=rfl
 by_cases h:max (bx-ax) (-(bx-ax))<max (by_-ay) (-(by_-ay))
 ·have hw:wayOf ax ay bx by_=⟨ay,ax,by_,bx,true,1⟩:=by unfold wayOf;rw[if_pos h]
  rw[hw]
  simp only[if_true]
  generalize Way.L _ y x=l
  constructor
  ·rintro⟨h1,h2,h3|h3⟩
   ·exact absurd h3 hne
   ·exact⟨by omega,by omega,h3⟩
  ·rintro⟨h1,h2,h3⟩
   exact⟨by omega,by omega,.inr h3⟩
 ·have hw:(wayOf ax ay bx by_).turned=false∧(wayOf ax ay bx by_).au=ax∧(wayOf ax ay bx by_).av=ay∧(wayOf ax ay bx by_).bu=bx∧(wayOf ax ay bx by_).bv=by_:=by
   unfold wayOf;rw[if_neg h];exact⟨rfl,rfl,rfl,rfl,rfl⟩
  obtain⟨w1,w2,w3,w4,w5⟩:=hw
  rw[w1,w2,w3,w4,w5]
  simp only[Bool.false_eq_true,if_false]
  generalize Way.L _ x y=l
  constructor
  ·rintro⟨h1,h2,h3|h3⟩
   ·exact absurd h3 hne
   ·exact⟨by omega,by omega,h3⟩
  ·rintro⟨h1,h2,h3⟩
   exact⟨by omega,by omega,.inr h3⟩
theorem wayOf_end (ax ay bx by_:Int):(if(wayOf ax ay bx by_).turned=true then(wayOf ax ay bx by_).bu=by_∧(wayOf ax ay bx by_).bv=bx else(wayOf ax ay bx by_).bu=bx∧(wayOf ax ay bx by_).bv=by_):=by
 unfold wayOf
 by_cases h:max (bx-ax) (-(bx-ax))<max (by_-ay) (-(by_-ay))
 ·rw[if_pos h];exact⟨rfl,rfl⟩
 ·rw[if_neg h];exact⟨rfl,rfl⟩
theorem lpix_mem (ax ay bx by_ x y:Int):(x,y)∈lpix ax ay bx by_↔rExits ax ay bx by_ x y:=by
 unfold lpix
 by_cases he:ax=bx∧ay=by_
 ·rw[if_pos he]
  obtain⟨rfl,rfl⟩:=he
  exact⟨fun h=>(by cases h),fun h=>absurd h exits_same⟩
 ·rw[if_neg he]
  unfold rExits
  rw[rMeets_is he,rIn_is (ax:=ax) (ay:=ay) (bx:=bx) (by_:=by_)]
  have hend:=wayOf_end ax ay bx by_
  have hok:=wayOf_ok he
  generalize wayOf ax ay bx by_=W at*
  rw[List.mem_map]
  by_cases ht:W.turned=true
  ·simp only[ht,if_true]at hend ⊢
   obtain⟨e1,e2⟩:=hend
   rw[←e1,←e2,←Way.pix_mem hok]
   constructor
   ·rintro⟨⟨u,v⟩,hp,hq⟩
    simp only[Prod.mk.injEq]at hq
    obtain⟨rfl,rfl⟩:=hq
    exact hp
   ·intro hp
    exact⟨_,hp,rfl⟩
  ·simp only[ht]at hend ⊢
   simp only[Bool.false_eq_true,if_false]at hend ⊢
   obtain⟨e1,e2⟩:=hend
   rw[←e1,←e2,←Way.pix_mem hok]
   constructor
   ·rintro⟨⟨u,v⟩,hp,hq⟩
    simp only[Prod.mk.injEq]at hq
    obtain⟨rfl,rfl⟩:=hq
    exact hp
   ·intro hp
    exact⟨_,hp,rfl⟩
def Goes (d:Nat) (ax ay bx by_:Int):Prop:=
 (d=0∧bx-ax>by_-ay∧bx-ax>ay-by_)∨(d=1∧ax-bx>by_-ay∧ax-bx>ay-by_)∨
 (d=2∧by_-ay>bx-ax∧by_-ay>ax-bx)∨(d=3∧ay-by_>bx-ax∧ay-by_>ax-bx)
def GoesOn (d:Nat) (ax ay bx by_:Int):Prop:=
 (d=0∧bx-ax≥by_-ay∧bx-ax≥ay-by_)∨(d=1∧ax-bx≥by_-ay∧ax-bx≥ay-by_)∨
 (d=2∧by_-ay≥bx-ax∧by_-ay≥ax-bx)∨(d=3∧ay-by_≥bx-ax∧ay-by_≥ax-bx)
theorem GoesOn.refl {d:Nat} (h:d<4) (ax ay:Int):GoesOn d ax ay ax ay:=by
 unfold GoesOn
 omega
theorem GoesOn.trans {d:Nat} {ax ay bx by_ cx cy:Int} (h:GoesOn d ax ay bx by_) (k:GoesOn d bx by_ cx cy):GoesOn d ax ay cx cy:=by
 unfold GoesOn at*
 omega
theorem Goes.on {d:Nat} {ax ay bx by_:Int} (h:Goes d ax ay bx by_):GoesOn d ax ay bx by_:=by
 unfold Goes at h
 unfold GoesOn
 omega
end Go.Proofs.YtplljnfjkkloeaaGreatDoor
set_option linter.unusedVariables false
set_option linter.unusedSimpArgs false
namespace Go.Proofs.YtplljnfjkkloeaaGreatDoor
open Go.RowKit
theorem win_any (W:Way) (g:Nat) (fs ls:Int) (ex op:Bool) (pu pv px py:Int) (w:World) (hB:Blk w g 341 (wrow W fs ls ex op pu pv)) (hx:Pl px) (hy:Pl py):
  Calls Tryz.prog 286 #[.pointer (some ⟨g,0,none⟩),.agg #[.int .i64 px,.int .i64 py]] w fun e w'=>
   e=.returned (optV (if W.turned=true then(dIn px py).map (fun p=>(p.2,p.1))else dIn px py))∧Ext w w':=by
 have HC:=Lib.hid (fun W'=>in_any px py W' hx hy)
 have HB:=Lib.hid hB
 clear hB hx hy
 obtain⟨o,ho⟩: ∃o,o=dIn px py:=⟨_,rfl⟩
 rw[←ho]at HC ⊢
 clear ho
 cases ht:W.turned
 ·have HT:=Lib.hid ht;clear ht
  go_enter Tryz.func286,Tryz.ntmps286
  go_wp2_with fail
  refine(HC.out _).mono ?_
  rintro e w1 ⟨rfl,hE⟩
  obtain⟨x1,rfl⟩:=Later.mk' hE
  clear hE
  have B1:Hid (Blk x1.w g 341 (wrow W fs ls ex op pu pv)):=Lib.hid ((HB.out.alloc _).later x1)
  obtain⟨q0,q1,q2,q3,q4,q5,q6,q7,q8,q9,q10,q11⟩:=B1.out.c12
  clear q0 q1 q2 q3 q5 q6 q7 q8 q9 q10 q11
  rw[HT.out]at q4
  unfold optV
  go_wp2_with fail
  go_ret3
  exact⟨rfl,by(repeat(first|with_reducible(first|exact eR_ _|assumption|refine eA_ ?_ _|refine eD_ ?_|refine eN_ ?_ _|refine eL_ ?_ _)|(with_reducible refine eS_ ?_ _ ?hp;case hp=>first|(simp;done)|(simp;omega)|omega)))⟩
 ·have HT:=Lib.hid ht;clear ht
  go_enter Tryz.func286,Tryz.ntmps286
  go_wp2_with fail
  refine(HC.out _).mono ?_
  rintro e w1 ⟨rfl,hE⟩
  obtain⟨x1,rfl⟩:=Later.mk' hE
  clear hE
  have B1:Hid (Blk x1.w g 341 (wrow W fs ls ex op pu pv)):=Lib.hid ((HB.out.alloc _).later x1)
  obtain⟨q0,q1,q2,q3,q4,q5,q6,q7,q8,q9,q10,q11⟩:=B1.out.c12
  clear q0 q1 q2 q3 q5 q6 q7 q8 q9 q10 q11
  rw[HT.out]at q4
  unfold optV
  go_wp2_with fail
  go_ret3
  refine⟨?_,by(repeat(first|with_reducible(first|exact eR_ _|assumption|refine eA_ ?_ _|refine eD_ ?_|refine eN_ ?_ _|refine eL_ ?_ _)|(with_reducible refine eS_ ?_ _ ?hp;case hp=>first|(simp;done)|(simp;omega)|omega)))⟩
  cases o <;>rfl
def Way.xu (W:Way):Int:=if W.extra=true then(W.pa.getD (0,0)).1 else 0
def Way.xv (W:Way):Int:=if W.extra=true then(W.pa.getD (0,0)).2 else 0
def Way.px (W:Way) (u v:Int):Int:=if W.turned=true then v else u
def Way.py (W:Way) (u v:Int):Int:=if W.turned=true then u else v
theorem Way.in_pa (W:Way):(if W.turned=true then(dIn (W.px W.au W.av) (W.py W.au W.av)).map (fun p=>(p.2,p.1))else dIn (W.px W.au W.av) (W.py W.au W.av))=W.pa:=by
 unfold Way.pa dInW Way.px Way.py
 by_cases h:W.turned=true
 ·simp only[if_pos h]
 ·simp only[if_neg h]
theorem Way.in_pb (W:Way):(if W.turned=true then(dIn (W.px W.bu W.bv) (W.py W.bu W.bv)).map (fun p=>(p.2,p.1))else dIn (W.px W.bu W.bv) (W.py W.bu W.bv))=W.pb:=by
 unfold Way.pb dInW Way.px Way.py
 by_cases h:W.turned=true
 ·simp only[if_pos h]
 ·simp only[if_neg h]
theorem Way.In.first {W:Way} (h:W.In):Pl W.first∧Pl W.last:=by
 obtain⟨⟨a1,a2⟩, -,⟨c1,c2⟩, -⟩:=h
 unfold Way.first Way.last lst Pl
 split <;>omega
theorem Way.In.pp {W:Way} (h:W.In):Pl (W.px W.au W.av)∧Pl (W.py W.au W.av)∧Pl (W.px W.bu W.bv)∧Pl (W.py W.bu W.bv):=by
 unfold Way.px Way.py
 by_cases ht:W.turned=true
 ·simp only[if_pos ht];exact⟨h.av,h.au,h.bv,h.bu⟩
 ·simp only[if_neg ht];exact⟨h.au,h.av,h.bu,h.bv⟩
theorem tree_ex (a b c d e f:Bool):(a=false∧(a&&(b||c)&&!(d&&e&&f))=false)∨
  (a=true∧b=false∧c=false∧(a&&(b||c)&&!(d&&e&&f))=false)∨
  (a=true∧(b=true∨(b=false∧c=true))∧((d=false∧(a&&(b||c)&&!(d&&e&&f))=true)∨(d=true∧e=false∧(a&&(b||c)&&!(d&&e&&f))=true)∨
   (d=true∧e=true∧f=false∧(a&&(b||c)&&!(d&&e&&f))=true)∨(d=true∧e=true∧f=true∧(a&&(b||c)&&!(d&&e&&f))=false))):=by
 cases a <;>cases b <;>cases c <;>cases d <;>cases e <;>cases f <;>simp
theorem Way.extra_bool (W:Way):W.extra=(W.pa.isSome&&((((W.last-W.first).natAbs:Int)==0)||((W.pa.getD (0,0)).1 !=W.first))&&
  !(W.pb.isSome&&((W.pa.getD (0,0)).1==(W.pb.getD (0,0)).1)&&((W.pa.getD (0,0)).2==(W.pb.getD (0,0)).2))):=by
 unfold Way.extra Way.size
 cases ha:W.pa with
 |none=>simp
 |some p=>
  obtain⟨u,v⟩:=p
  cases hb:W.pb with
  |none=>
   rw[Bool.eq_iff_iff]
   simp
  |some q=>
   obtain⟨i,k⟩:=q
   rw[Bool.eq_iff_iff]
   simp
   intro _
   omega
theorem Way.open_bool (W:Way):W.open_=(decide (((W.last-W.first).natAbs:Int)>0)&&W.pb.isSome&&((W.pb.getD (0,0)).1==W.last-W.step)&&(W.across (W.pb.getD (0,0)).1==(W.pb.getD (0,0)).2)):=by
 unfold Way.open_ Way.size
 cases hb:W.pb with
 |none=>simp
 |some q=>
  obtain⟨i,k⟩:=q
  rw[Bool.eq_iff_iff]
  simp
  omega
theorem Way.nigh_mid {W:Way} (h:W.In) {u:Int} (hc:W.crossed u):W.Nigh u:=by
 obtain⟨⟨a1,a2⟩, -,⟨c1,c2⟩, -⟩:=h
 obtain⟨k1,k2⟩:=hc
 constructor <;>omega
theorem Way.nigh_last {W:Way} (h:W.In) (hs:0<W.size):W.Nigh (W.last-W.step):=by
 rw[W.last_is hs]
 exact Way.nigh_mid h ((W.crossed_is _).2 ⟨_,by omega,rfl⟩)
theorem Kp.new {F:Nat→Prop} {w wr w':World} (h:Kp F w wr) (k:Kp F wr w'):Kp F w w':=h.trans k
set_option maxRecDepth 100000 in
theorem ends_any (W:Way) (g:Nat) (w:World) (hB:Blk w g 341 (wrow W W.first W.last false false 0 0)) (hi:W.In) (hd:0<W.du):
  Calls Tryz.prog 266 #[.pointer (some ⟨g,0,none⟩),.agg #[.int .i64 (W.px W.au W.av),.int .i64 (W.py W.au W.av)],.agg #[.int .i64 (W.px W.bu W.bv),.int .i64 (W.py W.bu W.bv)]] w fun e w'=>
   e=.returned (.tuple #[])∧Blk w' g 341 (wrow W W.first W.last W.extra W.open_ W.xu W.xv)∧Kp (·≠g) w w':=by
 have HB:=Lib.hid hB
 obtain⟨p1,p2,p3,p4⟩:=hi.pp
 have HC1:=Lib.hid (fun W' (x:Blk W' g 341 (wrow W W.first W.last false false 0 0))=>win_any W g W.first W.last false false 0 0 (W.px W.au W.av) (W.py W.au W.av) W' x p1 p2)
 have HC2:=Lib.hid (fun W' (x:Blk W' g 341 (wrow W W.first W.last false false 0 0))=>win_any W g W.first W.last false false 0 0 (W.px W.bu W.bv) (W.py W.bu W.bv) W' x p3 p4)
 have HC0:=Lib.hid (fun W' (x:Blk W' g 341 (wrow W W.first W.last false false 0 0))=>size_any W g W.first W.last false false 0 0 W' x hi.first.1 hi.first.2)
 rw[W.in_pa]at HC1
 rw[W.in_pb]at HC2
 have HI:=Lib.hid hi
 have HDu:=Lib.hid hd
 clear hB p1 p2 p3 p4 hi hd
 generalize W.px W.au W.av=ax at*
 generalize W.py W.au W.av=ay at*
 generalize W.px W.bu W.bv=bx at*
 generalize W.py W.bu W.bv=by_ at*
 go_enter Tryz.func266,Tryz.ntmps266
 go_wp2_with fail
 have B0:Hid (Blk ((w.alloc (.cells #[.int .i64 ax,.int .i64 ay] 79)).alloc (.cells #[.int .i64 bx,.int .i64 by_] 79)) g 341 (wrow W W.first W.last false false 0 0)):=Lib.hid (by(repeat(first|with_reducible exact Hid.out (by assumption)|(with_reducible refine Blk.new' _ _ _ ?_;(simp;done))|with_reducible(first|refine Blk.alloc ?_ _|refine Blk.drew ?_|refine Blk.drewN ?_ _|refine Blk.later ?_ _)|(with_reducible refine Blk.far ?_ ?hp _;case hp=>first|(simp;done)|(simp;omega)|omega))))
 refine(HC0.out _ B0.out).mono ?_
 rintro e w1 ⟨rfl,hE⟩
 obtain⟨x1,rfl⟩:=Later.mk' hE
 clear hE
 have B1:Hid (Blk x1.w g 341 (wrow W W.first W.last false false 0 0)):=Lib.hid (by(repeat(first|with_reducible exact Hid.out (by assumption)|(with_reducible refine Blk.new' _ _ _ ?_;(simp;done))|with_reducible(first|refine Blk.alloc ?_ _|refine Blk.drew ?_|refine Blk.drewN ?_ _|refine Blk.later ?_ _)|(with_reducible refine Blk.far ?_ ?hp _;case hp=>first|(simp;done)|(simp;omega)|omega))))
 have P1:Hid (Blk x1.w w.heap.size 79 #[.int .i64 ax,.int .i64 ay]):=Lib.hid (by(repeat(first|with_reducible exact Hid.out (by assumption)|(with_reducible refine Blk.new' _ _ _ ?_;(simp;done))|with_reducible(first|refine Blk.alloc ?_ _|refine Blk.drew ?_|refine Blk.drewN ?_ _|refine Blk.later ?_ _)|(with_reducible refine Blk.far ?_ ?hp _;case hp=>first|(simp;done)|(simp;omega)|omega))))
 have P2:Hid (Blk x1.w (w.heap.size+1) 79 #[.int .i64 bx,.int .i64 by_]):=Lib.hid (by(repeat(first|with_reducible exact Hid.out (by assumption)|(with_reducible refine Blk.new' _ _ _ ?_;(simp;done))|with_reducible(first|refine Blk.alloc ?_ _|refine Blk.drew ?_|refine Blk.drewN ?_ _|refine Blk.later ?_ _)|(with_reducible refine Blk.far ?_ ?hp _;case hp=>first|(simp;done)|(simp;omega)|omega))))
 obtain⟨a0,a1⟩:=P1.out.c2
 go_wp2_with fail
 clear a0 a1
 refine(HC1.out _ B1.out).mono ?_
 rintro e w1 ⟨rfl,hE⟩
 obtain⟨x2,rfl⟩:=Later.mk' hE
 clear hE
 have B2:Hid (Blk x2.w g 341 (wrow W W.first W.last false false 0 0)):=Lib.hid (by(repeat(first|with_reducible exact Hid.out (by assumption)|(with_reducible refine Blk.new' _ _ _ ?_;(simp;done))|with_reducible(first|refine Blk.alloc ?_ _|refine Blk.drew ?_|refine Blk.drewN ?_ _|refine Blk.later ?_ _)|(with_reducible refine Blk.far ?_ ?hp _;case hp=>first|(simp;done)|(simp;omega)|omega))))
 have P3:Hid (Blk x2.w (w.heap.size+1) 79 #[.int .i64 bx,.int .i64 by_]):=Lib.hid (by(repeat(first|with_reducible exact Hid.out (by assumption)|(with_reducible refine Blk.new' _ _ _ ?_;(simp;done))|with_reducible(first|refine Blk.alloc ?_ _|refine Blk.drew ?_|refine Blk.drewN ?_ _|refine Blk.later ?_ _)|(with_reducible refine Blk.far ?_ ?hp _;case hp=>first|(simp;done)|(simp;omega)|omega))))
 obtain⟨a0,a1⟩:=P3.out.c2
 unfold optV
 go_wp2_with fail
 clear a0 a1
 refine(HC2.out _ B2.out).mono ?_
 rintro e w1 ⟨rfl,hE⟩
 obtain⟨x3,rfl⟩:=Later.mk' hE
 clear hE
 have B3:Hid (Blk x3.w g 341 (wrow W W.first W.last false false 0 0)):=Lib.hid (by(repeat(first|with_reducible exact Hid.out (by assumption)|(with_reducible refine Blk.new' _ _ _ ?_;(simp;done))|with_reducible(first|refine Blk.alloc ?_ _|refine Blk.drew ?_|refine Blk.drewN ?_ _|refine Blk.later ?_ _)|(with_reducible refine Blk.far ?_ ?hp _;case hp=>first|(simp;done)|(simp;omega)|omega))))
 have E3:Hid (Ext w x3.w):=Lib.hid (by(repeat(first|with_reducible(first|exact eR_ _|assumption|refine eA_ ?_ _|refine eD_ ?_|refine eN_ ?_ _|refine eL_ ?_ _)|(with_reducible refine eS_ ?_ _ ?hp;case hp=>first|(simp;done)|(simp;omega)|omega))))
 unfold optV
 go_upto_region 4 with fail
 clear B0 B1 B2 P1 P2 P3 HC0 HC1 HC2 HB
 have HEX:=Lib.hid W.extra_bool
 have HOP:=Lib.hid W.open_bool
 have HXU:=Lib.hid (show W.xu=if W.extra=true then(W.pa.getD (0,0)).1 else 0 from rfl)
 have HXV:=Lib.hid (show W.xv=if W.extra=true then(W.pa.getD (0,0)).2 else 0 from rfl)
 have HF:=Lib.hid HI.out.first
 have HN:Hid (0≤((W.last-W.first).natAbs:Int)∧((W.last-W.first).natAbs:Int)≤536900000):=Lib.hid (by
  obtain⟨⟨f1,f2⟩,l1,l2⟩:=HI.out.first
  omega)
 have HST:Hid (∀W',Blk W' g 341 (wrow W W.first W.last W.extra false W.xu W.xv)→Calls Tryz.prog 229 #[.pointer (some ⟨g,0,none⟩)] W' fun e w'=>e=.returned (.int .i64 W.step)∧Ext W' w'):=
  Lib.hid (fun W' x=>step_any W g W.first W.last W.extra false W.xu W.xv W' x)
 have HAC:Hid (∀W',0<W.size→Blk W' g 341 (wrow W W.first W.last W.extra false W.xu W.xv)→Calls Tryz.prog 269 #[.pointer (some ⟨g,0,none⟩),.int .i64 (W.last-W.step)] W' fun e w'=>e=.returned (.int .i64 (W.across (W.last-W.step)))∧Ext W' w'):=
  Lib.hid (fun W' hs x=>across_any W g W.first W.last W.extra false W.xu W.xv _ W' x HI.out (Way.nigh_last HI.out hs) HDu.out)
 generalize(W.pa.getD (0,0)).1=u at*
 generalize(W.pa.getD (0,0)).2=v at*
 generalize(W.pb.getD (0,0)).1=i at*
 generalize(W.pb.getD (0,0)).2=k at*
 generalize W.pa.isSome=ok at*
 generalize W.pb.isSome=is at*
 have hsz:W.size=(W.last-W.first).natAbs:=rfl
 have HSZ:Hid (0<((W.last-W.first).natAbs:Int)→0<W.size):=Lib.hid (by rw[hsz];omega)
 have hstep:W.step=1∨W.step= -1:=by unfold Way.step;split <;>simp
 have HSTEP:=Lib.hid hstep
 clear hsz hstep
 generalize((W.last-W.first).natAbs:Int)=n at*
 obtain⟨n1,n2⟩:=HN.out
 go_cut [55]from 29 to 54 (fun s wx=>s=.bool W.extra∧Hid (wx=x3.w))
 case first=>
  have q6:x3.w.cell? ⟨g,6,none⟩=some (.int .i64 W.first):=B3.out.cell 6
  clear HOP HAC HST
  rcases tree_ex ok (n==0) (u !=W.first) is (u==i) (v==k)with⟨t1,hx⟩|⟨t1,t2,t3,hx⟩|⟨t1,t2|⟨t2,t3⟩,⟨t4,hx⟩|⟨t4,t5,hx⟩|⟨t4,t5,t6,hx⟩|⟨t4,t5,t6,hx⟩⟩
  all_goals
   have HX:=Lib.hid (HEX.out.trans hx)
   clear hx HEX
   subst t1
   try subst t4
   go_wp2_with fail
   go_meet
   rw[HX.out]
   exact⟨rfl,Lib.hid rfl⟩
 case rest=>
 obtain⟨rfl,hw⟩:=hcut
 have hw:=hw.out
 subst hw
 go_upto_if 55 with(fail)
 go_cut []from 55 to 66 (fun wx=>Hid (Blk wx g 341 (wrow W W.first W.last W.extra false W.xu W.xv))∧Hid (Kp (·≠g) w wx))
 case first=>
  clear HOP HAC HST HEX
  cases hEx:W.extra
  ·have HEX:=Lib.hid hEx
   clear hEx
   go_wp2_with fail
   go_meet
   rw[HXU.out,HXV.out,HEX.out]
   exact⟨B3,Lib.hid (by(repeat(first|with_reducible exact Kp.refl _ _|with_reducible assumption|with_reducible exact Hid.out (by assumption)|with_reducible exact Kp.of_ext (Hid.out (by assumption))|with_reducible refine Kp.alloc ?_ _|with_reducible refine Kp.drew ?_|with_reducible refine Kp.drewN ?_ _|with_reducible refine Kp.later ?_ _|(with_reducible refine Kp.setCell ?_ _ ?hp;case hp=>first|(simp;done)|(simp;omega)|omega))))⟩
  ·have HEX:=Lib.hid hEx
   clear hEx
   obtain⟨q0,q1,q2,q3,q4,q5,q6,q7,q8,q9,q10,q11⟩:=B3.out.c12
   have z8:=B3.out.frozen 8
   have z10:=B3.out.frozen 10
   have z11:=B3.out.frozen 11
   clear q0 q1 q2 q3 q4 q5 q6 q7 q9
   go_wp2_with fail
   go_meet
   rw[HXU.out,HXV.out,HEX.out]
   refine⟨Lib.hid ?_,Lib.hid (by(repeat(first|with_reducible exact Kp.refl _ _|with_reducible assumption|with_reducible exact Hid.out (by assumption)|with_reducible exact Kp.of_ext (Hid.out (by assumption))|with_reducible refine Kp.alloc ?_ _|with_reducible refine Kp.drew ?_|with_reducible refine Kp.drewN ?_ _|with_reducible refine Kp.later ?_ _|(with_reducible refine Kp.setCell ?_ _ ?hp;case hp=>first|(simp;done)|(simp;omega)|omega))))⟩
   have:=((B3.out.set_ 8 (.bool true)).set_ 10 (.int .i64 u)).set_ 11 (.int .i64 v)
   simpa using this
 case rest=>
  obtain⟨HB4,HK4⟩:=hcut
  clear B3 E3 HEX HXU HXV
  obtain⟨W4,hW4⟩: ∃W4,W4=wc:=⟨_,rfl⟩
  rw[←hW4]at HB4 HK4 ⊢
  clear hW4
  obtain⟨⟨f1,f2⟩,l1,l2⟩:=HF.out
  have hopen:(decide (n>0)=false∧Hid (W.open_=false))∨(decide (n>0)=true∧is=false∧Hid (W.open_=false))∨(decide (n>0)=true∧is=true∧(i==W.last-W.step)=false∧Hid (W.open_=false))∨
    (decide (n>0)=true∧is=true∧(i==W.last-W.step)=true∧Hid (W.open_=(W.across (W.last-W.step)==k))):=by
   have h:=HOP.out
   cases c1:decide (n>0)
   ·exact .inl ⟨rfl,Lib.hid (by rw[h,c1];rfl)⟩
   ·cases c2:is
    ·exact .inr (.inl ⟨rfl,rfl,Lib.hid (by rw[h,c1,c2];rfl)⟩)
    ·cases c3:(i==W.last-W.step)
     ·exact .inr (.inr (.inl ⟨rfl,rfl,rfl,Lib.hid (by rw[h,c1,c2,c3];rfl)⟩))
     ·refine .inr (.inr (.inr ⟨rfl,rfl,rfl,Lib.hid ?_⟩))
      rw[h,c1,c2,c3]
      rw[beq_iff_eq]at c3
      rw[c3]
      rfl
  have ws:IntKind.i64.wrap (W.last-W.step)=W.last-W.step:=by
   rw[IntKind.wrap_i64]
   have:=HSTEP.out
   omega
  clear HOP
  rcases hopen with⟨t1,HO⟩|⟨t1,t2,HO⟩|⟨t1,t2,t3,HO⟩|⟨t1,t2,t3,HO⟩
  ·clear HF f1 f2 l1 l2 ws HAC HST HSZ HSTEP HN
   go_upto_region 6 with fail
   refine wp_region_later (by kernel_rfl) (by kernel_rfl) ?_
   repeat(go_big_quiet_step ((first|fail|fail)))
   refine wpQuiet_nil ?_
   intro y
   go_wp2_with fail
   go_end0
   rw[HO.out]
   exact⟨rfl,HB4.out.later y,by(repeat(first|with_reducible exact Kp.refl _ _|with_reducible assumption|with_reducible exact Hid.out (by assumption)|with_reducible exact Kp.of_ext (Hid.out (by assumption))|with_reducible refine Kp.alloc ?_ _|with_reducible refine Kp.drew ?_|with_reducible refine Kp.drewN ?_ _|with_reducible refine Kp.later ?_ _|(with_reducible refine Kp.setCell ?_ _ ?hp;case hp=>first|(simp;done)|(simp;omega)|omega)))⟩
  ·subst t2
   clear HF f1 f2 l1 l2 ws HAC HST HSZ HSTEP HN
   go_upto_region 6 with fail
   refine wp_region_later (by kernel_rfl) (by kernel_rfl) ?_
   repeat(go_big_quiet_step ((first|fail|fail)))
   refine wpQuiet_nil ?_
   intro y
   go_wp2_with fail
   go_end0
   rw[HO.out]
   exact⟨rfl,HB4.out.later y,by(repeat(first|with_reducible exact Kp.refl _ _|with_reducible assumption|with_reducible exact Hid.out (by assumption)|with_reducible exact Kp.of_ext (Hid.out (by assumption))|with_reducible refine Kp.alloc ?_ _|with_reducible refine Kp.drew ?_|with_reducible refine Kp.drewN ?_ _|with_reducible refine Kp.later ?_ _|(with_reducible refine Kp.setCell ?_ _ ?hp;case hp=>first|(simp;done)|(simp;omega)|omega)))⟩
  ·subst t2
   have hq7:=HB4.out.cell 7
   have q7:W4.cell? ⟨g,7,none⟩=some (.int .i64 W.last):=hq7
   clear hq7
   clear HF f1 f2 l1 l2 HAC HSZ HSTEP HN
   go_upto_region 6 with fail
   refine wp_region_later (by kernel_rfl) (by kernel_rfl) ?_
   repeat(go_big_quiet_step ((first|(go_at_call 229;with_reducible exact Calls.later _ (HST.out _ (HB4.out.later _)))|fail)))
   refine wpQuiet_nil ?_
   intro y
   clear q7
   go_wp2_with fail
   go_end0
   rw[HO.out]
   exact⟨rfl,HB4.out.later y,by(repeat(first|with_reducible exact Kp.refl _ _|with_reducible assumption|with_reducible exact Hid.out (by assumption)|with_reducible exact Kp.of_ext (Hid.out (by assumption))|with_reducible refine Kp.alloc ?_ _|with_reducible refine Kp.drew ?_|with_reducible refine Kp.drewN ?_ _|with_reducible refine Kp.later ?_ _|(with_reducible refine Kp.setCell ?_ _ ?hp;case hp=>first|(simp;done)|(simp;omega)|omega)))⟩
  ·subst t2
   have HSZ2:=Lib.hid (HSZ.out (by simpa using t1))
   have hq7:=HB4.out.cell 7
   have q7:W4.cell? ⟨g,7,none⟩=some (.int .i64 W.last):=hq7
   clear hq7
   have HI2:Hid (i=W.last-W.step):=Lib.hid (by simpa using t3)
   clear HF f1 f2 l1 l2 HSZ HSTEP HN
   go_upto_region 6 with fail
   refine wp_region_later (by kernel_rfl) (by kernel_rfl) ?_
   repeat(go_big_quiet_step ((first|(go_at_call 229;with_reducible exact Calls.later _ (HST.out _ (HB4.out.later _)))|fail)))
   refine wpQuiet_nil ?_
   intro y
   clear q7
   go_wp2_with fail
   clear t3 ws
   have hi2:=HI2.out
   subst hi2
   refine(HAC.out _ HSZ2.out (HB4.out.later _)).mono ?_
   rintro e w1 ⟨rfl,hE⟩
   obtain⟨z,rfl⟩:=Later.mk' hE
   clear hE
   have B6:=Lib.hid ((HB4.out.later y).later z)
   have z9:=B6.out.frozen 9
   have c9:z.w.cell? ⟨g,9,none⟩=some (.bool false):=B6.out.cell 9
   go_wp2_with fail
   go_end0
   rw[HO.out]
   refine⟨rfl,?_,by(repeat(first|with_reducible exact Kp.refl _ _|with_reducible assumption|with_reducible exact Hid.out (by assumption)|with_reducible exact Kp.of_ext (Hid.out (by assumption))|with_reducible refine Kp.alloc ?_ _|with_reducible refine Kp.drew ?_|with_reducible refine Kp.drewN ?_ _|with_reducible refine Kp.later ?_ _|(with_reducible refine Kp.setCell ?_ _ ?hp;case hp=>first|(simp;done)|(simp;omega)|omega)))⟩
   have:=B6.out.set_ 9 (.bool (W.across (W.last-W.step)==k))
   simpa using this
end Go.Proofs.YtplljnfjkkloeaaGreatDoor
