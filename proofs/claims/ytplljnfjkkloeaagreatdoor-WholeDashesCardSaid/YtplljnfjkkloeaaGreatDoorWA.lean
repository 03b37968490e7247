/- Plain: the pixels of a line (the way along its longer side), and which diamonds it meets. By an AI agent. No condition beyond what each theorem states. -/
import Derived.Test.YtplljnfjkkloeaaGreatDoorQA
set_option linter.unusedVariables false
set_option linter.unusedSimpArgs false
set_option maxHeartbeats 2000000
namespace Go.Proofs.YtplljnfjkkloeaaGreatDoor
structure Way where
 au:Int
 av:Int
 bu:Int
 bv:Int
 turned:Bool
 back:Int
namespace Way
def du (W:Way):Int:=if W.bu<W.au then W.au-W.bu else W.bu-W.au
def dv (W:Way):Int:=if W.bu<W.au then W.av-W.bv else W.bv-W.av
structure Ok (W:Way):Prop where
 pos:0<W.du
 lo: -W.du≤W.dv
 hi:W.dv≤W.du
 t1:W.turned=true→W.back=1∧W.dv<W.du∧ -W.du<W.dv
 b0:W.back=0∧0<W.dv∨W.back=1∧(W.turned=true∨W.dv≤0)
def off (W:Way) (u v:Int):Int:=W.du*(W.av-256*v-128)-W.dv*(W.au-256*u-128)
def L (W:Way) (u v:Int):Prop:= -128*W.du≤W.off u v-W.back∧W.off u v-W.back<128*W.du
def num (W:Way) (u:Int):Int:=W.av*W.du+W.dv*(256*u+128-W.au)-W.back
def across (W:Way) (u:Int):Int:=W.num u/(256*W.du)
def crossed (W:Way) (u:Int):Prop:=min W.au W.bu≤256*u+128∧256*u+128<max W.au W.bu
def inW (W:Way) (pu pv u v:Int):Prop:=
 -128<(pu-256*u-128)+(pv-256*v-128)∧(pu-256*u-128)+(pv-256*v-128)≤128∧
  (if W.turned=true then -128<(pv-256*v-128)-(pu-256*u-128)∧(pv-256*v-128)-(pu-256*u-128)≤128
   else -128<(pu-256*u-128)-(pv-256*v-128)∧(pu-256*u-128)-(pv-256*v-128)≤128)
def meets (W:Way) (u v:Int):Prop:=
 (min ((W.au-256*u-128)+(W.av-256*v-128)) ((W.bu-256*u-128)+(W.bv-256*v-128))≤128∧
  -128<max ((W.au-256*u-128)+(W.av-256*v-128)) ((W.bu-256*u-128)+(W.bv-256*v-128)))∧
 (if W.turned=true then
  min ((W.av-256*v-128)-(W.au-256*u-128)) ((W.bv-256*v-128)-(W.bu-256*u-128))≤128∧
  -128<max ((W.av-256*v-128)-(W.au-256*u-128)) ((W.bv-256*v-128)-(W.bu-256*u-128))
 else
  min ((W.au-256*u-128)-(W.av-256*v-128)) ((W.bu-256*u-128)-(W.bv-256*v-128))≤128∧
  -128<max ((W.au-256*u-128)-(W.av-256*v-128)) ((W.bu-256*u-128)-(W.bv-256*v-128)))∧W.L u v
end Way
theorem div_is {n d v:Int} (hd:0<d):n/d=v↔d*v≤n∧n<d*v+d:=by
 have h1:=Int.mul_ediv_add_emod n d
 have h2:=Int.emod_nonneg n (show d≠0 by omega)
 have h3:=Int.emod_lt_of_pos n hd
 constructor
 ·rintro rfl;omega
 ·rintro⟨h4,h5⟩
  have h6:d*(n/d)<d*(v+1):=by rw[Int.mul_add];omega
  have h7:d*v<d*(n/d+1):=by rw[Int.mul_add];omega
  have h8:=Int.lt_of_mul_lt_mul_left h6 (by omega)
  have h9:=Int.lt_of_mul_lt_mul_left h7 (by omega)
  omega
theorem Way.across_is {W:Way} (h:0<W.du) (u v:Int):W.across u=v↔W.L u v:=by
 unfold Way.across Way.L Way.off Way.num
 rw[div_is (by omega)]
 constructor <;>rintro⟨h1,h2⟩ <;>constructor <;>grind
theorem comb_le (qx px py qy A c:Int) (h1:0≤qx) (h2:px≤0) (h3:py≤A+c*px) (h4:qy≤A+c*qx):(qx-px)*py-(qy-py)*px≤A*(qx-px):=by
 have e1:=Int.mul_nonneg h1 (show 0≤A+c*px-py by omega)
 have e2:=Int.mul_nonneg (show 0≤ -px by omega) (show 0≤A+c*qx-qy by omega)
 grind
theorem comb_ge (qx px py qy A c:Int) (h1:0≤qx) (h2:px≤0) (h3:A+c*px≤py) (h4:A+c*qx≤qy):A*(qx-px)≤(qx-px)*py-(qy-py)*px:=by
 have e1:=Int.mul_nonneg h1 (show 0≤py-(A+c*px) by omega)
 have e2:=Int.mul_nonneg (show 0≤ -px by omega) (show 0≤qy-(A+c*qx) by omega)
 grind
theorem in_L_aux (du dv back px py:Int) (tn:Bool) (h0:0<du) (h1: -du≤dv) (h2:dv≤du) (ht:tn=true→back=1∧dv<du∧ -du<dv) (hb:back=0∧0<dv∨back=1∧(tn=true∨dv≤0))
  (i1: -128<px+py)(i2:px+py≤128)(i3:if tn=true then -128<py-px∧py-px≤128 else -128<px-py∧px-py≤128):
  -128*du≤du*py-dv*px-back∧du*py-dv*px-back<128*du:=by
 rcases Int.lt_or_le 0 px with hp|hp
 ·have m1:=Int.mul_nonneg (Int.le_of_lt h0) (show 0≤128-px-py by omega)
  have m2:=Int.mul_nonneg (show 0≤du+dv by omega) (Int.le_of_lt hp)
  have m3:=Int.mul_nonneg (show 0≤du-dv by omega) (Int.le_of_lt hp)
  cases tn with
  |true=>
   obtain⟨rfl,t2,t3⟩:=ht rfl
   simp only[if_true]at i3
   have m4:=Int.mul_nonneg (Int.le_of_lt h0) (show 0≤py-px+127 by omega)
   constructor <;>grind
  |false=>
   simp only[Bool.false_eq_true,if_false]at i3
   have m4:=Int.mul_nonneg (Int.le_of_lt h0) (show 0≤py-px+128 by omega)
   rcases hb with⟨rfl,b1⟩|⟨rfl,b1⟩
   ·have m5:=Int.mul_pos b1 hp
    have m6:=Int.mul_pos h0 hp
    constructor <;>grind
   ·have b2:dv≤0:=by simpa using b1
    have m5:=Int.mul_pos (show 0<du-dv by omega) hp
    constructor <;>grind
 ·have m1:=Int.mul_nonneg (Int.le_of_lt h0) (show 0≤px+py+127 by omega)
  have m2:=Int.mul_nonneg (show 0≤du+dv by omega) (show 0≤ -px by omega)
  have m3:=Int.mul_nonneg (show 0≤du-dv by omega) (show 0≤ -px by omega)
  cases tn with
  |true=>
   obtain⟨rfl,t2,t3⟩:=ht rfl
   simp only[if_true]at i3
   have m4:=Int.mul_nonneg (Int.le_of_lt h0) (show 0≤px-py+128 by omega)
   constructor <;>grind
  |false=>
   simp only[Bool.false_eq_true,if_false]at i3
   have m4:=Int.mul_nonneg (Int.le_of_lt h0) (show 0≤px-py+127 by omega)
   rcases hb with⟨rfl,b1⟩|⟨rfl,b1⟩ <;>constructor <;>grind
theorem Way.off_b (W:Way) (u v:Int):W.off u v=W.du*(W.bv-256*v-128)-W.dv*(W.bu-256*u-128):=by
 unfold Way.off Way.du Way.dv
 split <;>grind
theorem Way.in_meets {W:Way} (h:W.Ok) {u v:Int} (hi:W.inW W.au W.av u v∨W.inW W.bu W.bv u v):W.meets u v:=by
 have hL:W.L u v:=by
  rcases hi with⟨h1,h2,h3⟩|⟨h1,h2,h3⟩
  ·exact in_L_aux W.du W.dv W.back _ _ W.turned h.pos h.lo h.hi h.t1 h.b0 h1 h2 h3
  ·unfold Way.L
   rw[W.off_b]
   exact in_L_aux W.du W.dv W.back _ _ W.turned h.pos h.lo h.hi h.t1 h.b0 h1 h2 h3
 refine⟨?_,?_,hL⟩
 ·rcases hi with⟨h1,h2,h3⟩|⟨h1,h2,h3⟩ <;>omega
 ·by_cases ht:W.turned=true
  ·rw[if_pos ht]
   rcases hi with⟨h1,h2,h3⟩|⟨h1,h2,h3⟩ <;>rw[if_pos ht]at h3 <;>omega
  ·rw[if_neg ht]
   rcases hi with⟨h1,h2,h3⟩|⟨h1,h2,h3⟩ <;>rw[if_neg ht]at h3 <;>omega
theorem cross_aux (du dv back px py qx qy:Int) (tn:Bool) (hdu:du=qx-px) (hdv:dv=qy-py) (h0:0<du) (h1: -du≤dv) (h2:dv≤du) (ht:tn=true→back=1∧dv<du∧ -du<dv) (hb:back=0∧0<dv∨back=1∧(tn=true∨dv≤0))
  (hp:px≤0)(hq:0<qx)(l1: -128*du≤du*py-dv*px-back)(l2:du*py-dv*px-back<128*du):
  (px+py≤128∨qx+qy≤128)∧(-128<px+py∨ -128<qx+qy)∧
   (if tn=true then(py-px≤128∨qy-qx≤128)∧(-128<py-px∨ -128<qy-qx)else(px-py≤128∨qx-qy≤128)∧(-128<px-py∨ -128<qx-qy)):=by
 subst hdu hdv
 have hq':=Int.le_of_lt hq
 refine⟨?_,?_,?_⟩
 ·rcases Int.lt_or_le 128 (px+py)with h|h
  ·rcases Int.lt_or_le 128 (qx+qy)with h'|h'
   ·have:=comb_ge qx px py qy 129 (-1) hq' hp (by omega) (by omega)
    omega
   ·exact .inr h'
  ·exact .inl h
 ·rcases Int.lt_or_le (-128) (px+py)with h|h
  ·exact .inl h
  ·rcases Int.lt_or_le (-128) (qx+qy)with h'|h'
   ·exact .inr h'
   ·have:=comb_le qx px py qy (-128) (-1) hq' hp (by omega) (by omega)
    have hb0:back=0:=by omega
    have hpy:py= -128-px:=by
     rcases Int.lt_or_le py (-128-px)with h3|h3
     ·have e1:=Int.mul_pos hq (show 0< -128-px-py by omega)
      have e2:=Int.mul_nonneg (show 0≤ -px by omega) (show 0≤ -128-qx-qy by omega)
      grind
     ·omega
    omega
 ·cases tn with
  |true=>
   obtain⟨rfl,t2,t3⟩:=ht rfl
   simp only[if_true]
   constructor
   ·rcases Int.lt_or_le 128 (py-px)with h|h
    ·rcases Int.lt_or_le 128 (qy-qx)with h'|h'
     ·have:=comb_ge qx px py qy 129 1 hq' hp (by omega) (by omega)
      omega
     ·exact .inr h'
    ·exact .inl h
   ·rcases Int.lt_or_le (-128) (py-px)with h|h
    ·exact .inl h
    ·rcases Int.lt_or_le (-128) (qy-qx)with h'|h'
     ·exact .inr h'
     ·have:=comb_le qx px py qy (-128) 1 hq' hp (by omega) (by omega)
      omega
  |false=>
   simp only[Bool.false_eq_true,if_false]
   constructor
   ·rcases Int.lt_or_le 128 (px-py)with h|h
    ·rcases Int.lt_or_le 128 (qx-qy)with h'|h'
     ·have:=comb_le qx px py qy (-129) 1 hq' hp (by omega) (by omega)
      omega
     ·exact .inr h'
    ·exact .inl h
   ·rcases Int.lt_or_le (-128) (px-py)with h|h
    ·exact .inl h
    ·rcases Int.lt_or_le (-128) (qx-qy)with h'|h'
     ·exact .inr h'
     ·have:=comb_ge qx px py qy 128 1 hq' hp (by omega) (by omega)
      have hb1:back=1:=by omega
      have hpy:py=128+px:=by
       rcases Int.lt_or_le (128+px) py with h3|h3
       ·have e1:=Int.mul_le_mul_of_nonneg_left (show 1≤py-px-128 by omega) hq'
        have e2:=Int.mul_nonneg (show 0≤ -px by omega) (show 0≤qy-qx-128 by omega)
        rcases Int.lt_or_le px 0 with h4|h4
        ·rcases Int.lt_or_le (128+qx) qy with h5|h5
         ·have e3:=Int.mul_pos (show 0< -px by omega) (show 0<qy-qx-128 by omega)
          grind
         ·grind
        ·obtain rfl:px=0:=by omega
         grind
       ·omega
      simp at hb
      omega
theorem Way.cross_meets {W:Way} (h:W.Ok) {u v:Int} (hc:W.crossed u) (hL:W.L u v):W.meets u v:=by
 obtain⟨c1,c2⟩:=hc
 refine⟨?_,?_,hL⟩
 all_goals
  obtain⟨l1,l2⟩:=hL
  rcases Int.lt_or_le W.bu W.au with hlt|hlt
  ·have hdu:W.du=(W.au-256*u-128)-(W.bu-256*u-128):=by unfold Way.du;rw[if_pos hlt];omega
   have hdv:W.dv=(W.av-256*v-128)-(W.bv-256*v-128):=by unfold Way.dv;rw[if_pos hlt];omega
   rw[W.off_b]at l1 l2
   have:=cross_aux W.du W.dv W.back (W.bu-256*u-128) (W.bv-256*v-128) (W.au-256*u-128) (W.av-256*v-128) W.turned hdu hdv h.pos h.lo h.hi h.t1 h.b0 (by omega) (by omega) l1 l2
   by_cases ht:W.turned=true
   ·rw[if_pos ht]at this;(try rw[if_pos ht]);omega
   ·rw[if_neg ht]at this;(try rw[if_neg ht]);omega
  ·have hdu:W.du=(W.bu-256*u-128)-(W.au-256*u-128):=by unfold Way.du;rw[if_neg (by omega)];omega
   have hdv:W.dv=(W.bv-256*v-128)-(W.av-256*v-128):=by unfold Way.dv;rw[if_neg (by omega)];omega
   unfold Way.off at l1 l2
   have:=cross_aux W.du W.dv W.back (W.au-256*u-128) (W.av-256*v-128) (W.bu-256*u-128) (W.bv-256*v-128) W.turned hdu hdv h.pos h.lo h.hi h.t1 h.b0 (by omega) (by omega) l1 l2
   by_cases ht:W.turned=true
   ·rw[if_pos ht]at this;(try rw[if_pos ht]);omega
   ·rw[if_neg ht]at this;(try rw[if_neg ht]);omega
theorem Way.far_in {W:Way} (h:W.Ok) {u v:Int} (hc: ¬W.crossed u) (hm:W.meets u v):W.inW W.au W.av u v∨W.inW W.bu W.bv u v:=by
 obtain⟨⟨m1,m2⟩,m3, -⟩:=hm
 have h0:=h.pos
 have h1:=h.lo
 have h2:=h.hi
 unfold Way.du at h0 h1 h2
 unfold Way.dv at h1 h2
 unfold Way.crossed at hc
 unfold Way.inW
 by_cases ht:W.turned=true
 ·rw[if_pos ht]at m3 ⊢
  rw[if_pos ht]
  split at h0 <;>omega
 ·rw[if_neg ht]at m3 ⊢
  rw[if_neg ht]
  split at h0 <;>omega
theorem Way.exits {W:Way} (h:W.Ok) (u v:Int):(W.meets u v∧ ¬W.inW W.bu W.bv u v)↔
  (W.crossed u∧W.across u=v∧ ¬W.inW W.bu W.bv u v)∨(¬W.crossed u∧W.inW W.au W.av u v∧ ¬W.inW W.bu W.bv u v):=by
 constructor
 ·rintro⟨hm,hb⟩
  by_cases hc:W.crossed u
  ·exact .inl ⟨hc,(Way.across_is h.pos u v).2 hm.2.2,hb⟩
  ·rcases Way.far_in h hc hm with h1|h1
   ·exact .inr ⟨hc,h1,hb⟩
   ·exact absurd h1 hb
 ·rintro(⟨hc,ha,hb⟩|⟨hc,ha,hb⟩)
  ·exact⟨Way.cross_meets h hc ((Way.across_is h.pos u v).1 ha),hb⟩
  ·exact⟨Way.in_meets h (.inl ha),hb⟩
end Go.Proofs.YtplljnfjkkloeaaGreatDoor
set_option linter.unusedVariables false
set_option linter.unusedSimpArgs false
namespace Go.Proofs.YtplljnfjkkloeaaGreatDoor
def dIn (px py:Int):Option (Int×Int):=
 if px%256-128= -128∧py%256-128=0 then some (px/256-1,py/256)
 else if max (px%256-128) (-(px%256-128))+max (py%256-128) (-(py%256-128))<128∨(max (px%256-128) (-(px%256-128))+max (py%256-128) (-(py%256-128))=128∧0<px%256-128)then some (px/256,py/256)
 else none
theorem dIn_is (px py x y:Int):dIn px py=some (x,y)↔(-128<(px-256*x-128)+(py-256*y-128)∧(px-256*x-128)+(py-256*y-128)≤128∧ -128<(px-256*x-128)-(py-256*y-128)∧(px-256*x-128)-(py-256*y-128)≤128):=by
 unfold dIn
 split
 ·simp only[Option.some.injEq,Prod.mk.injEq];omega
 ·split
  ·simp only[Option.some.injEq,Prod.mk.injEq];omega
  ·simp only[reduceCtorEq,false_iff];omega
def dInW (turned:Bool) (pu pv:Int):Option (Int×Int):=if turned=true then(dIn pv pu).map fun p=>(p.2,p.1)else dIn pu pv
def lst (u:Int):Int:=(u+127)/256
namespace Way
def pa (W:Way):Option (Int×Int):=dInW W.turned W.au W.av
def pb (W:Way):Option (Int×Int):=dInW W.turned W.bu W.bv
theorem dInW_is (W:Way) (pu pv u v:Int):dInW W.turned pu pv=some (u,v)↔W.inW pu pv u v:=by
 unfold dInW inW
 by_cases ht:W.turned=true
 ·rw[if_pos ht,if_pos ht]
  have:=dIn_is pv pu v u
  constructor
  ·intro h
   cases hd:dIn pv pu with
   |none=>rw[hd]at h;simp at h
   |some p=>
    rw[hd]at h
    simp only[Option.map_some,Option.some.injEq,Prod.mk.injEq]at h
    have h2:=this.1 (by rw[hd,←h.1,←h.2])
    omega
  ·intro h
   rw[this.2 (by omega)]
   rfl
 ·rw[if_neg ht,if_neg ht]
  exact dIn_is pu pv u v
theorem pa_is (W:Way) (u v:Int):W.pa=some (u,v)↔W.inW W.au W.av u v:=W.dInW_is _ _ _ _
theorem pb_is (W:Way) (u v:Int):W.pb=some (u,v)↔W.inW W.bu W.bv u v:=W.dInW_is _ _ _ _
def first(W:Way):Int:=if lst W.bu<lst W.au then lst W.au-1 else lst W.au
def last (W:Way):Int:=if lst W.bu<lst W.au then lst W.bu-1 else lst W.bu
def size (W:Way):Nat:=(W.last-W.first).natAbs
def step (W:Way):Int:=if W.last<W.first then -1 else 1
def mid (W:Way) (n:Nat):Int:=W.first+n*W.step
def extra (W:Way):Bool:=match W.pa with
 |some p=>decide ((W.size=0∨p.1≠W.first)∧W.pb≠some p)
 |none=>false
def open_ (W:Way):Bool:=match W.pb with
 |some p=>decide (0<W.size∧p.1=W.last-W.step∧W.across p.1=p.2)
 |none=>false
def many (W:Way):Nat:=W.size-(if W.open_=true then 1 else 0)
def count (W:Way):Nat:=W.many+(if W.extra=true then 1 else 0)
def head (W:Way):List (Int×Int):=if W.extra=true then W.pa.toList else[]
def body (W:Way):List (Int×Int):=(List.range W.many).map fun n=>(W.mid n,W.across (W.mid n))
def pix (W:Way):List (Int×Int):=W.head++W.body
theorem head_len (W:Way):W.head.length=if W.extra=true then 1 else 0:=by
 unfold head
 split
 ·rename_i h
  unfold extra at h
  cases hp:W.pa with
  |none=>rw[hp]at h;simp at h
  |some p=>rfl
 ·rfl
theorem pix_len (W:Way):W.pix.length=W.count:=by
 unfold pix count
 rw[List.length_append,W.head_len,body,List.length_map,List.length_range]
 omega
theorem crossed_is (W:Way) (u:Int):W.crossed u↔ ∃n:Nat,n<W.size∧u=W.mid n:=by
 unfold crossed mid size step first last lst
 constructor
 ·rintro⟨h1,h2⟩
  by_cases h:(W.bu+127)/256<(W.au+127)/256
  ·simp only[if_pos h]
   refine⟨((W.au+127)/256-1-u).toNat,?_,?_⟩
   ·omega
   ·rw[if_pos (by omega)];omega
  ·simp only[if_neg h]
   refine⟨(u-(W.au+127)/256).toNat,?_,?_⟩
   ·omega
   ·omega
 ·rintro⟨n,h1,h2⟩
  by_cases h:(W.bu+127)/256<(W.au+127)/256
  ·simp only[if_pos h]at h1 h2
   rw[if_pos (by omega)]at h2
   omega
  ·simp only[if_neg h]at h1 h2
   omega
theorem mid_inj (W:Way) {i j:Nat} (h:W.mid i=W.mid j):i=j:=by
 unfold mid step at h
 split at h <;>omega
theorem last_is (W:Way) (h:0<W.size):W.last-W.step=W.mid (W.size-1):=by
 unfold size at h
 unfold mid step size
 split <;>omega
theorem pb_last {W:Way} {u v:Int} (hp:W.inW W.bu W.bv u v) (hc:W.crossed u):0<W.size∧u=W.last-W.step:=by
 obtain⟨n,hn,hu⟩:=(W.crossed_is u).1 hc
 refine⟨by omega,?_⟩
 rw[W.last_is (by omega),hu]
 obtain⟨h1,h2,h3⟩:=hp
 obtain⟨c1,c2⟩:=hc
 have hd: -128≤W.bu-256*u-128∧W.bu-256*u-128≤128:=by
  by_cases ht:W.turned=true
  ·rw[if_pos ht]at h3;omega
  ·rw[if_neg ht]at h3;omega
 have:n=W.size-1:=by
  unfold mid step size first last lst at*
  by_cases h:(W.bu+127)/256<(W.au+127)/256
  ·simp only[if_pos h]at*
   rw[if_pos (by omega)]at hu
   omega
  ·simp only[if_neg h]at*
   omega
 rw[this]
theorem pa_first {W:Way} {u v:Int} (hp:W.inW W.au W.av u v):W.crossed u↔ ¬(W.size=0∨u≠W.first):=by
 obtain⟨h1,h2,h3⟩:=hp
 have hd: -128≤W.au-256*u-128∧W.au-256*u-128≤128:=by
  by_cases ht:W.turned=true
  ·rw[if_pos ht]at h3;omega
  ·rw[if_neg ht]at h3;omega
 unfold crossed size first last lst
 by_cases h:(W.bu+127)/256<(W.au+127)/256
 ·simp only[if_pos h];omega
 ·simp only[if_neg h];omega
theorem extra_is (W:Way):W.extra=true↔ ∃u v,W.pa=some (u,v)∧ ¬W.crossed u∧ ¬W.inW W.bu W.bv u v:=by
 unfold extra
 cases hp:W.pa with
 |none=>simp
 |some p=>
  obtain⟨u,v⟩:=p
  have ha:=(W.pa_is u v).1 hp
  have hf:=pa_first ha
  have hb:=W.pb_is u v
  simp only[decide_eq_true_eq,Option.some.injEq,Prod.mk.injEq]
  constructor
  ·rintro⟨h1,h2⟩
   exact⟨u,v,⟨rfl,rfl⟩,fun hc=>hf.1 hc h1,fun hi=>h2 (hb.2 hi)⟩
  ·rintro⟨u',v',⟨rfl,rfl⟩,h1,h2⟩
   exact⟨Classical.byContradiction fun hn=>h1 (hf.2 hn),fun hi=>h2 (hb.1 hi)⟩
theorem head_mem (W:Way) (u v:Int):(u,v)∈W.head↔ ¬W.crossed u∧W.inW W.au W.av u v∧ ¬W.inW W.bu W.bv u v:=by
 unfold head
 constructor
 ·intro h
  split at h
  ·rename_i he
   obtain⟨u',v',hp,h1,h2⟩:=W.extra_is.1 he
   rw[hp]at h
   simp only[Option.toList_some,List.mem_singleton,Prod.mk.injEq]at h
   obtain⟨rfl,rfl⟩:=h
   exact⟨h1,(W.pa_is u v).1 hp,h2⟩
  ·cases h
 ·rintro⟨h1,h2,h3⟩
  have hp:=(W.pa_is u v).2 h2
  rw[if_pos (W.extra_is.2 ⟨u,v,hp,h1,h3⟩),hp]
  simp
theorem open_is (W:Way):W.open_=true↔0<W.size∧W.inW W.bu W.bv (W.last-W.step) (W.across (W.last-W.step)):=by
 unfold open_
 cases hp:W.pb with
 |none=>
  simp only[Bool.false_eq_true,false_iff,not_and]
  intro _ hi
  rw[(W.pb_is _ _).2 hi]at hp
  cases hp
 |some p=>
  obtain⟨u,v⟩:=p
  have hb:=(W.pb_is u v).1 hp
  simp only[decide_eq_true_eq]
  constructor
  ·rintro⟨h1,h2,h3⟩
   refine⟨h1,?_⟩
   rw[←h2,h3]
   exact hb
  ·rintro⟨h1,h2⟩
   have:=(W.pb_is _ _).2 h2
   rw[hp]at this
   simp only[Option.some.injEq,Prod.mk.injEq]at this
   exact⟨h1,this.1,by rw[this.1];exact this.2.symm⟩
theorem body_mem (W:Way) (u v:Int):(u,v)∈W.body↔W.crossed u∧W.across u=v∧ ¬W.inW W.bu W.bv u v:=by
 unfold body
 rw[List.mem_map]
 simp only[List.mem_range,Prod.mk.injEq]
 constructor
 ·rintro⟨n,hn,rfl,rfl⟩
  have hns:n<W.size:=by unfold many at hn;omega
  have hc:=(W.crossed_is _).2 ⟨n,hns,rfl⟩
  refine⟨hc,rfl,fun hi=>?_⟩
  obtain⟨h1,h2⟩:=pb_last hi hc
  have ho:W.open_=true:=W.open_is.2 ⟨h1,by rw[←h2];exact hi⟩
  rw[W.last_is h1]at h2
  have:=W.mid_inj h2
  unfold many at hn
  rw[if_pos ho]at hn
  omega
 ·rintro⟨hc,rfl,hi⟩
  obtain⟨n,hn,rfl⟩:=(W.crossed_is u).1 hc
  refine⟨n,?_,rfl,rfl⟩
  unfold many
  split
  ·rename_i ho
   obtain⟨h1,h2⟩:=W.open_is.1 ho
   rw[W.last_is h1]at h2
   have:n≠W.size-1:=fun e=>hi (by rw[e];exact h2)
   omega
  ·omega
theorem pix_mem {W:Way} (h:W.Ok) (u v:Int):(u,v)∈W.pix↔W.meets u v∧ ¬W.inW W.bu W.bv u v:=by
 unfold pix
 rw[List.mem_append,W.head_mem,W.body_mem,Way.exits h]
 constructor
 ·rintro(h|h)
  ·exact .inr h
  ·exact .inl h
 ·rintro(h|h)
  ·exact .inr h
  ·exact .inl h
end Way
end Go.Proofs.YtplljnfjkkloeaaGreatDoor
set_option linter.unusedVariables false
set_option linter.unusedSimpArgs false
namespace Go.Proofs.YtplljnfjkkloeaaGreatDoor
open Go.RowKit
@[reducible] def wrow (W:Way) (fst lst_:Int) (ex op:Bool) (u v:Int):Array Value:=
 #[.int .i64 W.au,.int .i64 W.av,.int .i64 W.bu,.int .i64 W.bv,.bool W.turned,.int .i64 W.back,.int .i64 fst,.int .i64 lst_,.bool ex,.bool op,.int .i64 u,.int .i64 v]
def Pl (x:Int):Prop:= -268450000≤x∧x≤268450000
structure Way.In (W:Way):Prop where
 au:Pl W.au
 av:Pl W.av
 bu:Pl W.bu
 bv:Pl W.bv
 back:W.back=0∨W.back=1
theorem least_any (u:Int) (w:World) (h:Pl u):Calls Tryz.prog 265 #[.int .i64 u] w fun e w'=>e=.returned (.int .i64 (lst u))∧w=w':=by
 obtain⟨h1,h2⟩:=h
 go_enter Tryz.func265,Tryz.ntmps265
 go_wp2_with fail
 go_ret
 exact⟨rfl,rfl⟩
theorem pixel_any (W:Way) (g:Nat) (fs ls:Int) (ex op:Bool) (pu pv u v:Int) (w:World) (hB:Blk w g 341 (wrow W fs ls ex op pu pv)):
  Calls Tryz.prog 227 #[.pointer (some ⟨g,0,none⟩),.int .i64 u,.int .i64 v] w fun e w'=>
   e=.returned (.tuple #[.int .i64 (if W.turned=true then v else u),.int .i64 (if W.turned=true then u else v)])∧w=w':=by
 obtain⟨q0,q1,q2,q3,q4,q5,q6,q7,q8,q9,q10,q11⟩:=hB.c12
 cases ht:W.turned
 all_goals
  rw[ht]at q4
  have HT:=Lib.hid ht
  clear ht
  clear q0 q1 q2 q3 q5 q6 q7 q8 q9 q10 q11
  go_enter Tryz.func227,Tryz.ntmps227
  go_wp2_with fail
  go_ret2
  exact⟨rfl,rfl⟩
theorem size_any (W:Way) (g:Nat) (fs ls:Int) (ex op:Bool) (pu pv:Int) (w:World) (hB:Blk w g 341 (wrow W fs ls ex op pu pv)) (hf:Pl fs) (hl:Pl ls):
  Calls Tryz.prog 228 #[.pointer (some ⟨g,0,none⟩)] w fun e w'=>e=.returned (.int .i64 ((ls-fs).natAbs:Nat))∧Ext w w':=by
 obtain⟨q0,q1,q2,q3,q4,q5,q6,q7,q8,q9,q10,q11⟩:=hB.c12
 clear q0 q1 q2 q3 q4 q5 q8 q9 q10 q11
 obtain⟨f1,f2⟩:=hf
 obtain⟨l1,l2⟩:=hl
 have e1:max (ls-fs) (fs-ls)=((ls-fs).natAbs:Nat):=by omega
 have HE:=Lib.hid e1;clear e1
 go_enter Tryz.func228,Tryz.ntmps228
 go_wp2_with fail
 go_quiet (fail)
 go_wp2_with fail
 go_ret
 rw[HE.out]
 exact⟨rfl,by(repeat(first|with_reducible(first|exact eR_ _|assumption|refine eA_ ?_ _|refine eD_ ?_|refine eN_ ?_ _|refine eL_ ?_ _)|(with_reducible refine eS_ ?_ _ ?hp;case hp=>first|(simp;done)|(simp;omega)|omega)))⟩
theorem step_any (W:Way) (g:Nat) (fs ls:Int) (ex op:Bool) (pu pv:Int) (w:World) (hB:Blk w g 341 (wrow W fs ls ex op pu pv)):
  Calls Tryz.prog 229 #[.pointer (some ⟨g,0,none⟩)] w fun e w'=>e=.returned (.int .i64 (if ls<fs then -1 else 1))∧Ext w w':=by
 obtain⟨q0,q1,q2,q3,q4,q5,q6,q7,q8,q9,q10,q11⟩:=hB.c12
 clear q0 q1 q2 q3 q4 q5 q8 q9 q10 q11
 by_cases h:ls<fs
 ·have d1:decide (ls<fs)=true:=by simpa using h
  rw[if_pos h]
  clear h
  go_enter Tryz.func229,Tryz.ntmps229
  go_wp2_with fail
  go_quiet (fail)
  go_wp2_with fail
  go_ret
  exact⟨rfl,by(repeat(first|with_reducible(first|exact eR_ _|assumption|refine eA_ ?_ _|refine eD_ ?_|refine eN_ ?_ _|refine eL_ ?_ _)|(with_reducible refine eS_ ?_ _ ?hp;case hp=>first|(simp;done)|(simp;omega)|omega)))⟩
 ·have d1:decide (ls<fs)=false:=by simpa using h
  rw[if_neg h]
  clear h
  go_enter Tryz.func229,Tryz.ntmps229
  go_wp2_with fail
  go_quiet (fail)
  go_wp2_with fail
  go_ret
  exact⟨rfl,by(repeat(first|with_reducible(first|exact eR_ _|assumption|refine eA_ ?_ _|refine eD_ ?_|refine eN_ ?_ _|refine eL_ ?_ _)|(with_reducible refine eS_ ?_ _ ?hp;case hp=>first|(simp;done)|(simp;omega)|omega)))⟩
theorem mul_pl {a b m n:Int} (h1: -m≤a) (h2:a≤m) (h3: -n≤b) (h4:b≤n) (hm:0≤m) (hn:0≤n): -(m*n)≤a*b∧a*b≤m*n:=by
 have h:(a*b).natAbs≤(m*n).natAbs:=by
  rw[Int.natAbs_mul,Int.natAbs_mul]
  exact Nat.mul_le_mul (by omega) (by omega)
 have hp:0≤m*n:=Int.mul_nonneg hm hn
 constructor <;>omega
def Way.Nigh (W:Way) (u:Int):Prop:= -536900300≤256*u+128-W.au∧256*u+128-W.au≤536900300
theorem Way.In.d {W:Way} (h:W.In): -536900000≤W.du∧W.du≤536900000∧ -536900000≤W.dv∧W.dv≤536900000:=by
 obtain⟨⟨a1,a2⟩,⟨b1,b2⟩,⟨c1,c2⟩,⟨d1,d2⟩, -⟩:=h
 unfold Way.du Way.dv
 split <;>omega
theorem Way.In.num {W:Way} (h:W.In) {u:Int} (hu:W.Nigh u):
  (-144130805000000000≤W.av*W.du∧W.av*W.du≤144130805000000000)∧(-288261771100000000≤W.dv*(256*u+128-W.au)∧W.dv*(256*u+128-W.au)≤288261771100000000):=by
 obtain⟨d1,d2,d3,d4⟩:=h.d
 have h1:=mul_pl h.av.1 h.av.2 d1 d2 (by omega) (by omega)
 have h2:=mul_pl d3 d4 hu.1 hu.2 (by omega) (by omega)
 omega
theorem under_any (W:Way) (g:Nat) (fs ls:Int) (ex op:Bool) (pu pv u:Int) (w:World) (hB:Blk w g 341 (wrow W fs ls ex op pu pv)) (hi:W.In) (hu:W.Nigh u):
  Calls Tryz.prog 268 #[.pointer (some ⟨g,0,none⟩),.int .i64 u] w fun e w'=>e=.returned (.tuple #[.int .i64 (W.num u),.int .i64 (256*W.du)])∧Ext w w':=by
 obtain⟨q0,q1,q2,q3,q4,q5,q6,q7,q8,q9,q10,q11⟩:=hB.c12
 clear q4 q6 q7 q8 q9 q10 q11
 obtain⟨⟨n1,n2⟩,n3,n4⟩:=hi.num hu
 obtain⟨d1,d2,d3,d4⟩:=hi.d
 obtain⟨⟨a1,a2⟩,⟨b1,b2⟩,⟨c1,c2⟩,⟨e1,e2⟩,hb⟩:=hi
 obtain⟨u1,u2⟩:=hu
 have hk:0≤W.back∧W.back≤1:=by omega
 obtain⟨k1,k2⟩:=hk
 clear hb hB
 by_cases h:W.bu-W.au<0
 ·have t1:decide (W.bu-W.au<0)=true:=by simpa using h
  have eu:W.du= -(W.bu-W.au):=by unfold Way.du;rw[if_pos (by omega)];omega
  have ev:W.dv= -(W.bv-W.av):=by unfold Way.dv;rw[if_pos (by omega)];omega
  unfold Way.num
  rw[eu]at n1 n2 ⊢
  rw[ev]at n3 n4 ⊢
  clear eu ev d1 d2 d3 d4
  have w1:IntKind.i64.wrap (W.av* -(W.bu-W.au))=W.av* -(W.bu-W.au):=by rw[IntKind.wrap_i64];omega
  have w2:IntKind.i64.wrap (-(W.bv-W.av)*(256*u+128-W.au))= -(W.bv-W.av)*(256*u+128-W.au):=by rw[IntKind.wrap_i64];omega
  have w3:IntKind.i64.wrap (W.av* -(W.bu-W.au)+ -(W.bv-W.av)*(256*u+128-W.au))=W.av* -(W.bu-W.au)+ -(W.bv-W.av)*(256*u+128-W.au):=by rw[IntKind.wrap_i64];omega
  have w4:IntKind.i64.wrap (W.av* -(W.bu-W.au)+ -(W.bv-W.av)*(256*u+128-W.au)-W.back)=W.av* -(W.bu-W.au)+ -(W.bv-W.av)*(256*u+128-W.au)-W.back:=by rw[IntKind.wrap_i64];omega
  clear n1 n2 n3 n4
  go_enter Tryz.func268,Tryz.ntmps268
  go_wp2_with fail
  go_quiet (fail)
  go_wp2_with fail
  go_quiet (fail)
  go_wp2_with fail
  go_ret2
  exact⟨rfl,by(repeat(first|with_reducible(first|exact eR_ _|assumption|refine eA_ ?_ _|refine eD_ ?_|refine eN_ ?_ _|refine eL_ ?_ _)|(with_reducible refine eS_ ?_ _ ?hp;case hp=>first|(simp;done)|(simp;omega)|omega)))⟩
 ·have t1:decide (W.bu-W.au<0)=false:=by simpa using h
  have eu:W.du=W.bu-W.au:=by unfold Way.du;rw[if_neg (by omega)]
  have ev:W.dv=W.bv-W.av:=by unfold Way.dv;rw[if_neg (by omega)]
  unfold Way.num
  rw[eu]at n1 n2 ⊢
  rw[ev]at n3 n4 ⊢
  clear eu ev d1 d2 d3 d4
  have w1:IntKind.i64.wrap (W.av*(W.bu-W.au))=W.av*(W.bu-W.au):=by rw[IntKind.wrap_i64];omega
  have w2:IntKind.i64.wrap ((W.bv-W.av)*(256*u+128-W.au))=(W.bv-W.av)*(256*u+128-W.au):=by rw[IntKind.wrap_i64];omega
  have w3:IntKind.i64.wrap (W.av*(W.bu-W.au)+(W.bv-W.av)*(256*u+128-W.au))=W.av*(W.bu-W.au)+(W.bv-W.av)*(256*u+128-W.au):=by rw[IntKind.wrap_i64];omega
  have w4:IntKind.i64.wrap (W.av*(W.bu-W.au)+(W.bv-W.av)*(256*u+128-W.au)-W.back)=W.av*(W.bu-W.au)+(W.bv-W.av)*(256*u+128-W.au)-W.back:=by rw[IntKind.wrap_i64];omega
  clear n1 n2 n3 n4
  go_enter Tryz.func268,Tryz.ntmps268
  go_wp2_with fail
  go_quiet (fail)
  go_wp2_with fail
  go_quiet (fail)
  go_wp2_with fail
  go_ret2
  exact⟨rfl,by(repeat(first|with_reducible(first|exact eR_ _|assumption|refine eA_ ?_ _|refine eD_ ?_|refine eN_ ?_ _|refine eL_ ?_ _)|(with_reducible refine eS_ ?_ _ ?hp;case hp=>first|(simp;done)|(simp;omega)|omega)))⟩
theorem tdiv_floor {n d:Int} (hd:0<d):(n.tmod d<0→n.tdiv d-1=n/d)∧(¬n.tmod d<0→n.tdiv d=n/d):=by
 have h1:=Int.mul_tdiv_add_tmod n d
 have h2:=Int.mul_ediv_add_emod n d
 have h3:=Int.emod_nonneg n (show d≠0 by omega)
 have h4:=Int.emod_lt_of_pos n hd
 have h5:=Int.tmod_lt_of_pos n hd
 have h6: -d<n.tmod d:=by
  have h7:=Int.tmod_lt_of_pos (-n) hd
  rw[Int.neg_tmod]at h7
  omega
 constructor
 ·intro h
  have:=(div_is (n:=n) (d:=d) (v:=n.tdiv d-1) hd).2 (by rw[Int.mul_sub,Int.mul_one];omega)
  exact this.symm
 ·intro h
  exact((div_is (n:=n) (d:=d) (v:=n.tdiv d) hd).2 (by omega)).symm
theorem across_any (W:Way) (g:Nat) (fs ls:Int) (ex op:Bool) (pu pv u:Int) (w:World) (hB:Blk w g 341 (wrow W fs ls ex op pu pv)) (hi:W.In) (hu:W.Nigh u) (hd:0<W.du):
  Calls Tryz.prog 269 #[.pointer (some ⟨g,0,none⟩),.int .i64 u] w fun e w'=>e=.returned (.int .i64 (W.across u))∧Ext w w':=by
 have HC:=Lib.hid (fun W' (x:Blk W' g 341 (wrow W fs ls ex op pu pv))=>under_any W g fs ls ex op pu pv u W' x hi hu)
 have HB:=Lib.hid hB;clear hB
 have hnum:=hi.num hu
 have hn1: -500000000000000000≤W.num u∧W.num u≤500000000000000000:=by
  unfold Way.num
  have:=hi.back
  omega
 have hd2:256*W.du≤137446400000:=by have:=hi.d;omega
 have hd1:0<256*W.du:=by omega
 obtain⟨ht1,ht2⟩:=tdiv_floor (n:=W.num u) hd1
 unfold Way.across
 have hq:W.num u/(256*W.du)≤500000000000000000∧ -500000000000000000≤W.num u/(256*W.du):=by
  obtain⟨k1,k2⟩:=hn1
  have h7:=Int.ediv_le_ediv hd1 k2
  have h8:=Int.ediv_le_ediv hd1 k1
  have h9:(500000000000000000:Int)/(256*W.du)≤500000000000000000:=Int.ediv_le_self _ (by omega)
  have h10: -500000000000000000≤(-500000000000000000:Int)/(256*W.du):=by
   rw[Int.le_ediv_iff_mul_le hd1]
   omega
  omega
 clear hnum hi hu hd
 obtain⟨n,hn⟩: ∃n,n=W.num u:=⟨_,rfl⟩
 obtain⟨d,hdd⟩: ∃d,d=256*W.du:=⟨_,rfl⟩
 rw[←hn,←hdd]at HC
 rw[←hn,←hdd]at ht1 ht2 hq ⊢
 rw[←hn]at hn1
 rw[←hdd]at hd1 hd2
 clear hn hdd
 have hne: ¬d=0:=by omega
 have hne':(d==0)=false:=by simpa using hne
 by_cases h:n.tmod d<0
 ·have t1:decide (n.tmod d<0)=true:=by simpa using h
  have HT:=Lib.hid (ht1 h)
  have b1: -499999999999999999≤n.tdiv d:=by have:=ht1 h;omega
  have b2:n.tdiv d≤500000000000000001:=by have:=ht1 h;omega
  clear h ht1 ht2 hq
  go_enter Tryz.func269,Tryz.ntmps269
  go_wp2_with fail
  refine(HC.out _ HB.out).mono ?_
  rintro e w1 ⟨rfl,hE⟩
  obtain⟨x1,rfl⟩:=Later.mk' hE
  clear hE
  go_wp2_with fail
  go_ret
  rw[HT.out]
  exact⟨rfl,by(repeat(first|with_reducible(first|exact eR_ _|assumption|refine eA_ ?_ _|refine eD_ ?_|refine eN_ ?_ _|refine eL_ ?_ _)|(with_reducible refine eS_ ?_ _ ?hp;case hp=>first|(simp;done)|(simp;omega)|omega)))⟩
 ·have t1:decide (n.tmod d<0)=false:=by simpa using h
  have HT:=Lib.hid (ht2 h)
  clear h ht1 ht2 hq
  go_enter Tryz.func269,Tryz.ntmps269
  go_wp2_with fail
  refine(HC.out _ HB.out).mono ?_
  rintro e w1 ⟨rfl,hE⟩
  obtain⟨x1,rfl⟩:=Later.mk' hE
  clear hE
  go_wp2_with fail
  go_ret
  rw[HT.out]
  exact⟨rfl,by(repeat(first|with_reducible(first|exact eR_ _|assumption|refine eA_ ?_ _|refine eD_ ?_|refine eN_ ?_ _|refine eL_ ?_ _)|(with_reducible refine eS_ ?_ _ ?hp;case hp=>first|(simp;done)|(simp;omega)|omega)))⟩
theorem count_any (W:Way) (g:Nat) (fs ls:Int) (ex op:Bool) (pu pv:Int) (w:World) (hB:Blk w g 341 (wrow W fs ls ex op pu pv)) (hf:Pl fs) (hl:Pl ls):
  Calls Tryz.prog 226 #[.pointer (some ⟨g,0,none⟩)] w fun e w'=>
   e=.returned (.int .i64 (((ls-fs).natAbs:Nat)-(if op=true then 1 else 0)+(if ex=true then 1 else 0)))∧Ext w w':=by
 have hn:0≤(((ls-fs).natAbs:Nat):Int)∧(((ls-fs).natAbs:Nat):Int)≤536900000:=by
  obtain⟨f1,f2⟩:=hf
  obtain⟨l1,l2⟩:=hl
  omega
 have HC:=Lib.hid (fun W' (x:Blk W' g 341 (wrow W fs ls ex op pu pv))=>size_any W g fs ls ex op pu pv W' x hf hl)
 have HB:=Lib.hid hB;clear hB
 clear hf hl
 obtain⟨n,hnn⟩: ∃n:Int,n=((ls-fs).natAbs:Nat):=⟨_,rfl⟩
 rw[←hnn]at hn HC ⊢
 clear hnn
 obtain⟨n1,n2⟩:=hn
 cases op <;>cases ex
 all_goals
  go_enter Tryz.func226,Tryz.ntmps226
  go_wp2_with fail
  refine(HC.out _ HB.out).mono ?_
  rintro e w1 ⟨rfl,hE⟩
  obtain⟨x1,rfl⟩:=Later.mk' hE
  clear hE
  have HB1:=Lib.hid (HB.out.later x1)
  obtain⟨q0,q1,q2,q3,q4,q5,q6,q7,q8,q9,q10,q11⟩:=HB1.out.c12
  clear q0 q1 q2 q3 q4 q5 q6 q7 q10 q11
  go_wp2_with fail
  go_ret
  exact⟨by simp,by(repeat(first|with_reducible(first|exact eR_ _|assumption|refine eA_ ?_ _|refine eD_ ?_|refine eN_ ?_ _|refine eL_ ?_ _)|(with_reducible refine eS_ ?_ _ ?hp;case hp=>first|(simp;done)|(simp;omega)|omega)))⟩
end Go.Proofs.YtplljnfjkkloeaaGreatDoor
