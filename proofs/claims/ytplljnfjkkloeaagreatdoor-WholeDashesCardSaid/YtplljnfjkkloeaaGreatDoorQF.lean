/- Proof text: a line's way (walk.newWay), how many pixels it has (walk.Count). By an AI agent. No condition beyond what each theorem states. -/
import Derived.Test.YtplljnfjkkloeaaGreatDoorWE
import Derived.BigRegion
import Derived.Test.YtplljnfjkkloeaaGreatDoorXI
import Derived.RangeFuncNested
import Derived.RangeFuncLeaves
import Derived.RangeFuncCalls
import Derived.RangeFuncBound
import Derived.TacticsInMore
import Derived.OwnWalkIn
import Derived.LoopNIn
import Derived.LoopIn
set_option linter.unusedVariables false
set_option linter.unusedSimpArgs false
set_option maxHeartbeats 4000000
namespace Go.Proofs.YtplljnfjkkloeaaGreatDoor
open Go.RowKit
theorem wayOf_pos (ax ay bx by_:Int):(wayOf ax ay bx by_).px (wayOf ax ay bx by_).au (wayOf ax ay bx by_).av=ax∧(wayOf ax ay bx by_).py (wayOf ax ay bx by_).au (wayOf ax ay bx by_).av=ay∧
  (wayOf ax ay bx by_).px (wayOf ax ay bx by_).bu (wayOf ax ay bx by_).bv=bx∧(wayOf ax ay bx by_).py (wayOf ax ay bx by_).bu (wayOf ax ay bx by_).bv=by_:=by
 unfold wayOf Way.px Way.py
 by_cases h:max (bx-ax) (-(bx-ax))<max (by_-ay) (-(by_-ay))
 ·rw[if_pos h];exact⟨rfl,rfl,rfl,rfl⟩
 ·rw[if_neg h];exact⟨rfl,rfl,rfl,rfl⟩
theorem wayOf_in {ax ay bx by_:Int} (h1:Pl ax) (h2:Pl ay) (h3:Pl bx) (h4:Pl by_):(wayOf ax ay bx by_).In:=by
 unfold wayOf
 split
 ·exact⟨h2,h1,h4,h3,.inr rfl⟩
 ·exact⟨h1,h2,h3,h4,by dsimp only;split <;>simp⟩
theorem least_ext (u:Int) (w:World) (h:Pl u):Calls Tryz.prog 265 #[.int .i64 u] w fun e w'=>e=.returned (.int .i64 (lst u))∧Ext w w':=
 (least_any u w h).mono fun _ _ h=>⟨h.1,h.2▸Ext.refl _⟩
def NewWay (W:Way) (w:World) (e:Ending) (w':World):Prop:=
 ∃g:Nat,e=.returned (.pointer (some ⟨g,0,none⟩))∧w.heap.size≤g∧Blk w' g 341 (wrow W W.first W.last W.extra W.open_ W.xu W.xv)∧Ext w w'
set_option maxRecDepth 100000 in
theorem newWay_any (ax ay bx by_:Int) (w:World) (h1:Pl ax) (h2:Pl ay) (h3:Pl bx) (h4:Pl by_) (hne: ¬(ax=bx∧ay=by_)):
  Calls Tryz.prog 225 #[.agg #[.int .i64 ax,.int .i64 ay],.agg #[.int .i64 bx,.int .i64 by_]] w (NewWay (wayOf ax ay bx by_) w):=by
 have HIN:=Lib.hid (wayOf_in h1 h2 h3 h4)
 have HOK:=Lib.hid (wayOf_ok hne)
 have HPP:=Lib.hid (wayOf_pos ax ay bx by_)
 have HWD:=Lib.hid (show wayOf ax ay bx by_=if max (bx-ax) (-(bx-ax))<max (by_-ay) (-(by_-ay))then⟨ay,ax,by_,bx,true,1⟩
  else⟨ax,ay,bx,by_,false,if(0<bx-ax∧0<by_-ay)∨(bx-ax<0∧by_-ay<0)then 0 else 1⟩from rfl)
 generalize wayOf ax ay bx by_=W at*
 obtain⟨a1,a2⟩:=h1
 obtain⟨b1,b2⟩:=h2
 obtain⟨c1,c2⟩:=h3
 obtain⟨d1,d2⟩:=h4
 clear hne
 go_enter Tryz.func225,Tryz.ntmps225
 go_wp2_with fail
 go_quiet (fail)
 go_upto_if 36 with(fail)
 generalize max (bx-ax) (-(bx-ax))=m1 at*
 generalize max (by_-ay) (-(by_-ay))=m2 at*
 go_cut [7]from 36 to 63 (fun s wx=> ∃g:Nat,s=.pointer (some ⟨g,0,none⟩)∧Hid (w.heap.size+1<g)∧Hid (Blk wx g 341 (wrow W 0 0 false false 0 0))∧Hid (Blk wx w.heap.size 79 #[.int .i64 ax,.int .i64 ay])∧Hid (Blk wx (w.heap.size+1) 79 #[.int .i64 bx,.int .i64 by_])∧Hid (Ext w wx))
 case first=>
  have hc:(decide (m1<m2)=true∧Hid (W=⟨ay,ax,by_,bx,true,1⟩))∨
    (decide (m1<m2)=false∧
     ((decide (bx-ax>0)=true∧decide (by_-ay>0)=true∧Hid (W=⟨ax,ay,bx,by_,false,0⟩))∨
      (decide (bx-ax>0)=true∧decide (by_-ay>0)=false∧decide (bx-ax<0)=false∧Hid (W=⟨ax,ay,bx,by_,false,1⟩))∨
      (decide (bx-ax>0)=false∧decide (bx-ax<0)=true∧decide (by_-ay<0)=true∧Hid (W=⟨ax,ay,bx,by_,false,0⟩))∨
      (decide (bx-ax>0)=false∧decide (bx-ax<0)=true∧decide (by_-ay<0)=false∧Hid (W=⟨ax,ay,bx,by_,false,1⟩))∨
      (decide (bx-ax>0)=false∧decide (bx-ax<0)=false∧Hid (W=⟨ax,ay,bx,by_,false,1⟩)))):=by
   have hw:=HWD.out
   simp only[decide_eq_true_eq,decide_eq_false_iff_not]
   by_cases k1:m1<m2
   ·rw[if_pos k1]at hw
    exact .inl ⟨k1,Lib.hid hw⟩
   ·rw[if_neg k1]at hw
    refine .inr ⟨k1,?_⟩
    by_cases k2:bx-ax>0
    ·by_cases k3:by_-ay>0
     ·rw[if_pos (.inl ⟨k2,k3⟩)]at hw
      exact .inl ⟨k2,k3,Lib.hid hw⟩
     ·rw[if_neg (by omega)]at hw
      exact .inr (.inl ⟨k2,k3,by omega,Lib.hid hw⟩)
    ·by_cases k3:bx-ax<0
     ·by_cases k4:by_-ay<0
      ·rw[if_pos (.inr ⟨k3,k4⟩)]at hw
       exact .inr (.inr (.inl ⟨k2,k3,k4,Lib.hid hw⟩))
      ·rw[if_neg (by omega)]at hw
       exact .inr (.inr (.inr (.inl ⟨k2,k3,k4,Lib.hid hw⟩)))
     ·rw[if_neg (by omega)]at hw
      exact .inr (.inr (.inr (.inr ⟨k2,k3,Lib.hid hw⟩)))
  rcases hc with⟨t1,HW⟩|⟨t1,⟨t2,t3,HW⟩|⟨t2,t3,t4,HW⟩|⟨t2,t3,t4,HW⟩|⟨t2,t3,t4,HW⟩|⟨t2,t3,HW⟩⟩
  all_goals
   clear HWD HIN HOK HPP
   rw[t1]
   clear t1
   (try simp only[decide_eq_true_eq,decide_eq_false_iff_not]at t2)
   (try simp only[decide_eq_true_eq,decide_eq_false_iff_not]at t3)
   (try simp only[decide_eq_true_eq,decide_eq_false_iff_not]at t4)
   try have u2:ax<bx:=by omega
   try have u3:ay<by_:=by omega
   try have u4:bx<ax:=by omega
   try have u5:by_<ay:=by omega
   try have v2:bx≤ax:=by omega
   try have v3:by_≤ay:=by omega
   try have v4:ax≤bx:=by omega
   try have v5:ay≤by_:=by omega
   try clear t2
   try clear t3
   try clear t4
   go_wp2_with fail
   go_meet
   rw[HW.out]
   refine⟨_,rfl,Lib.hid (by simp),Lib.hid ?_,Lib.hid (by(repeat(first|with_reducible exact Hid.out (by assumption)|(with_reducible refine Blk.new' _ _ _ ?_;(simp;done))|with_reducible(first|refine Blk.alloc ?_ _|refine Blk.drew ?_|refine Blk.drewN ?_ _|refine Blk.later ?_ _)|(with_reducible refine Blk.far ?_ ?hp _;case hp=>first|(simp;done)|(simp;omega)|omega)))),Lib.hid (by(repeat(first|with_reducible exact Hid.out (by assumption)|(with_reducible refine Blk.new' _ _ _ ?_;(simp;done))|with_reducible(first|refine Blk.alloc ?_ _|refine Blk.drew ?_|refine Blk.drewN ?_ _|refine Blk.later ?_ _)|(with_reducible refine Blk.far ?_ ?hp _;case hp=>first|(simp;done)|(simp;omega)|omega)))),Lib.hid (by(repeat(first|with_reducible(first|exact eR_ _|assumption|refine eA_ ?_ _|refine eD_ ?_|refine eN_ ?_ _|refine eL_ ?_ _)|(with_reducible refine eS_ ?_ _ ?hp;case hp=>first|(simp;done)|(simp;omega)|omega))))⟩
   first
    |(dsimp only[wrow];(repeat(first|with_reducible exact Hid.out (by assumption)|(with_reducible refine Blk.new' _ _ _ ?_;(simp;done))|with_reducible(first|refine Blk.alloc ?_ _|refine Blk.drew ?_|refine Blk.drewN ?_ _|refine Blk.later ?_ _)|(with_reducible refine Blk.far ?_ ?hp _;case hp=>first|(simp;done)|(simp;omega)|omega)));done)
    | (have:=(Blk.new (((w.alloc (.cells #[.int .i64 ax,.int .i64 ay] 79)).alloc (.cells #[.int .i64 bx,.int .i64 by_] 79)).drewN nq) 341 #[.int .i64 ax,.int .i64 ay,.int .i64 bx,.int .i64 by_,.bool false,.int .i64 1,.int .i64 0,.int .i64 0,.bool false,.bool false,.int .i64 0,.int .i64 0]).set_ 5 (.int .i64 0)
       simpa using this)
 case rest=>
  obtain⟨g,rfl,HG,HB,HP,HQ,HE⟩:=hcut
  have HL:=Lib.hid least_ext
  obtain⟨q0,q1,q2,q3,q4,q5,q6,q7,q8,q9,q10,q11⟩:=HB.out.c12
  clear q1 q3 q4 q5 q8 q9 q10 q11
  have z6:=HB.out.frozen 6
  have z7:=HB.out.frozen 7
  have HAU:=Lib.hid HIN.out.au
  have HBU:=Lib.hid HIN.out.bu
  have hfb: -1048750≤lst W.au∧lst W.au≤1048750∧ -1048750≤lst W.bu∧lst W.bu≤1048750:=by
   obtain⟨k1,k2⟩:=HAU.out
   obtain⟨k3,k4⟩:=HBU.out
   unfold lst
   omega
  obtain⟨o1,o2,o3,o4⟩:=hfb
  clear HWD
  go_upto_region 7 with fail
  go_cut []from 64 to 79 (fun wx=>Hid (wx=((wc.setCell ⟨g,6,none⟩ (.int .i64 (lst W.au))).setCell ⟨g,7,none⟩ (.int .i64 (lst W.bu))).drew))
  case first=>
   go_region_with (first|(go_at_call 265;with_reducible refine(least_any W.au _ HAU.out).mono ?_;rintro e w1 ⟨rfl,rfl⟩)|(go_at_call 265;with_reducible refine(least_any W.bu _ HBU.out).mono ?_;rintro e w1 ⟨rfl,rfl⟩))
   all_goals
    go_wp2_with fail
    go_meet
    exact Lib.hid rfl
  case rest=>
  have hw:=hcut.out
  subst hw
  clear q0 q2 q6 q7 z6 z7
  have HB2:Hid (Blk ((wc.setCell ⟨g,6,none⟩ (.int .i64 (lst W.au))).setCell ⟨g,7,none⟩ (.int .i64 (lst W.bu))).drew g 341 (wrow W (lst W.au) (lst W.bu) false false 0 0)):=
   Lib.hid (by have:=((HB.out.set_ 6 (.int .i64 (lst W.au))).set_ 7 (.int .i64 (lst W.bu))).drew;simpa using this)
  have HP2:Hid (Blk ((wc.setCell ⟨g,6,none⟩ (.int .i64 (lst W.au))).setCell ⟨g,7,none⟩ (.int .i64 (lst W.bu))).drew w.heap.size 79 #[.int .i64 ax,.int .i64 ay]):=
   Lib.hid (by have hg:=HG.out;exact((HP.out.far (by simp;omega) _).far (by simp;omega) _).drew)
  have HQ2:Hid (Blk ((wc.setCell ⟨g,6,none⟩ (.int .i64 (lst W.au))).setCell ⟨g,7,none⟩ (.int .i64 (lst W.bu))).drew (w.heap.size+1) 79 #[.int .i64 bx,.int .i64 by_]):=
   Lib.hid (by have hg:=HG.out;exact((HQ.out.far (by simp;omega) _).far (by simp;omega) _).drew)
  have HE2:Hid (Ext w ((wc.setCell ⟨g,6,none⟩ (.int .i64 (lst W.au))).setCell ⟨g,7,none⟩ (.int .i64 (lst W.bu))).drew):=
   Lib.hid (by have hg:=HG.out;exact((HE.out.setCell _ (by simp;omega)).setCell _ (by simp;omega)).drew)
  generalize((wc.setCell ⟨g,6,none⟩ (.int .i64 (lst W.au))).setCell ⟨g,7,none⟩ (.int .i64 (lst W.bu))).drew=W1 at*
  clear HB HP HQ HE
  obtain⟨q0,q1,q2,q3,q4,q5,q6,q7,q8,q9,q10,q11⟩:=HB2.out.c12
  clear q0 q1 q2 q3 q4 q5 q8 q9 q10 q11
  have z6:=HB2.out.frozen 6
  have z7:=HB2.out.frozen 7
  go_upto_region 8 with fail
  go_quiet (fail)
  go_upto_if 88 with(fail)
  have HB5:=Lib.hid (HB2.out.drewN nq)
  have HP5:=Lib.hid (HP2.out.drewN nq)
  have HQ5:=Lib.hid (HQ2.out.drewN nq)
  have HE5:=Lib.hid (HE2.out.drewN nq)
  clear HB2 HP2 HQ2 HE2
  go_cut []from 80 to 104 (fun wx=>Hid (Blk wx g 341 (wrow W W.first W.last false false 0 0))∧Hid (Blk wx w.heap.size 79 #[.int .i64 ax,.int .i64 ay])∧Hid (Blk wx (w.heap.size+1) 79 #[.int .i64 bx,.int .i64 by_])∧Hid (Ext w wx))
  case first=>
   by_cases k:lst W.bu<lst W.au
   ·have t1:decide (lst W.bu<lst W.au)=true:=by simpa using k
    have HF:Hid (W.first=lst W.au-1∧W.last=lst W.bu-1):=Lib.hid (by unfold Way.first Way.last;rw[if_pos k,if_pos k];exact⟨rfl,rfl⟩)
    clear k
    rw[t1]
    clear t1
    go_upto_region 9 with fail
    go_region
    go_wp2_with fail
    go_meet
    rw[HF.out.1,HF.out.2]
    have hg:=HG.out
    refine⟨Lib.hid ?_,Lib.hid ?_,Lib.hid ?_,Lib.hid ?_⟩
    ·have h5:Blk (W1.drewN (nq+1)) g 341 (wrow W (lst W.au) (lst W.bu) false false 0 0):=HB5.out
     have:=(h5.set_ 6 (.int .i64 (lst W.au-1))).set_ 7 (.int .i64 (lst W.bu-1))
     simpa using this
    ·have h5:Blk (W1.drewN (nq+1)) w.heap.size 79 #[.int .i64 ax,.int .i64 ay]:=HP5.out
     exact(h5.far (by simp;omega) _).far (by simp;omega) _
    ·have h5:Blk (W1.drewN (nq+1)) (w.heap.size+1) 79 #[.int .i64 bx,.int .i64 by_]:=HQ5.out
     exact(h5.far (by simp;omega) _).far (by simp;omega) _
    ·have h5:Ext w (W1.drewN (nq+1)):=HE5.out.drew
     exact(h5.setCell _ (by simp;omega)).setCell _ (by simp;omega)
   ·have t1:decide (lst W.bu<lst W.au)=false:=by simpa using k
    have HF:Hid (W.first=lst W.au∧W.last=lst W.bu):=Lib.hid (by unfold Way.first Way.last;rw[if_neg k,if_neg k];exact⟨rfl,rfl⟩)
    clear k
    rw[t1]
    clear t1
    go_wp2_with fail
    go_meet
    rw[HF.out.1,HF.out.2]
    exact⟨HB5,HP5,HQ5,HE5⟩
  case rest=>
   clear HB5 HP5 HQ5 HE5 q6 q7 z6 z7
   obtain⟨HB3,HP3,HQ3,HE3⟩:=hcut
   obtain⟨p0,p1⟩:=HP3.out.c2
   obtain⟨r0,r1⟩:=HQ3.out.c2
   have HEN:=Lib.hid (ends_any W g)
   go_wp2_with fail
   clear p0 p1 r0 r1
   have hpp:=HPP.out
   obtain⟨pp1,pp2,pp3,pp4⟩:=hpp
   have hen:=HEN.out wc HB3.out HIN.out HOK.out.pos
   rw[pp1,pp2,pp3,pp4]at hen
   clear pp1 pp2 pp3 pp4
   refine hen.mono ?_
   rintro e w2 ⟨rfl,hb,hk⟩
   have HB4:=Lib.hid hb
   have HK:=Lib.hid hk
   clear hb hk hen
   go_wp2_with fail
   go_ret
   have hg:=HG.out
   exact⟨g,rfl,by omega,HB4.out,HK.out.ext HE3.out (fun k hk=>by omega)⟩
def lcount (ax ay bx by_:Int):Nat:=if ax=bx∧ay=by_ then 0 else(wayOf ax ay bx by_).count
theorem lpix_len (ax ay bx by_:Int):(lpix ax ay bx by_).length=lcount ax ay bx by_:=by
 unfold lpix lcount
 split
 ·rfl
 ·rw[List.length_map,Way.pix_len]
end Go.Proofs.YtplljnfjkkloeaaGreatDoor
set_option linter.unusedVariables false
set_option linter.unusedSimpArgs false
namespace Go.Proofs.YtplljnfjkkloeaaGreatDoor
open Go.RowKit
def OnExt (J:Nat→Int→World→Prop):Prop:= ∀k u W W',J k u W→Ext W W'→J k u W'
def OnCell (Bu:Nat) (J:Nat→Int→World→Prop):Prop:= ∀k u u' W,J k u W→J k u' (W.setCell ⟨Bu,0,none⟩ (.int .i64 u'))
def Hands (P:Program) (gf:Nat) (lb:Array Value) (Bu:Nat) (enc:Nat→Array Value) (N:Nat) (J:Nat→Int→World→Prop) (u0:Int):Prop:=
 ∀(n l:Nat) (K:Nat→Int→World→Prop) (W:World),(∀k u W',K k u W'→J k u W')→OnExt K→OnCell Bu K→
  (∀k u W',K k u W'→k<N→YieldAt Fence.wide n P l (enc k) W' fun e W''=>e=.returned (.bool true)∧K (k+1) u W'')→K 0 u0 W→
  CallsIn Fence.wide (n+1) P gf (#[.func (.yield l) #[] #[]]++lb) W fun e W'=>(∃v,e=.returned v)∧ ∃u,K N u W'
theorem Kp.putObj {F:Nat→Prop} (w:World) (l:Nat) (o:Obj) (hf: ¬F l):Kp F w (w.putObj l o):=
 ⟨rfl,rfl,rfl,by simp,fun k _ hk=>World.putObj_heap_other (fun e=>hf (e▸hk))⟩
theorem setCell_other_heap (w:World) (p:Addr) (v:Value) (k:Nat) (h:k≠p.block):(w.setCell p v).heap[k]? =w.heap[k]? :=Below.heap_setCell w p v k h
theorem wp_range_all {P:Program} {g:Operand} {ps:Array Tmp} {assign body:Code} {Q:Exit→Act→World→Prop} {a:Act} {w:World} {gf:Nat} {lb:Array Value} (hg:a.eval g=.func (.func gf) #[] lb)
  (eg: ∀args w,(callFunc gf args).run P w=.ok (.enter gf args) w)(Bu:Nat)(hBu:Bu<w.heap.size)(enc:Nat→Array Value)(hps: ∀k,(enc k).size=ps.size)(N:Nat)(J:Nat→Int→World→Prop)(u0:Int)
  (hit:Hands P gf lb Bu enc N J u0)(hE:OnExt J)(hC:OnCell Bu J)
  (hL: ∀k u W o,J k u W→Kp (·≠w.heap.size+1) W (W.putObj (w.heap.size+1) o)→(∃r,W.heap[w.heap.size+1]? =some (.loop r))→J k u (W.putObj (w.heap.size+1) o))
  (h0:J 0 u0 w)(a₁:Nat→Act)
  (hassign: ∀(l k:Nat) (W:World) (K:Act→World→Prop),K (a₁ k) W→
   assign.wpIn (Fence.wide.inRound l) 2 P (Exit.then K (fun _ _ _=>False)) {tmps:=(ps.zip (enc k)).foldl (fun t (p,v)=>t.setIfInBounds p v) a.tmps,defers:=[]} W)
  (hbody: ∀(l k:Nat) (u:Int) (W:World),J k u W→k<N→body.wpIn (Fence.wide.inRound l) 2 P (fun e _ W'=>match e with
   |.normal=>KeepsOthers W W'∧J (k+1) u W'
   |_=>False) (a₁ k) W)
  (hdone: ∀(D:Nat) (u:Int) (W:World),w.heap.size≤D→J N u W→W.heap[D]? =some (.deferred (some []))→Q .normal {a with defers:={target:=.collected D,args:= #[]}::a.defers} W):
  (Code.rangeFunc g ps assign body).wp P Q a w:=by
 refine(wpIn_wide (n:=4)).1 ?_
 refine wpIn_rangeFunc ?_
 intro fn hfn
 obtain⟨rec,hrec⟩: ∃rec:LoopState→Option Code→Loop,rec=fun st pe=>{state:=st,pending:=pe,fn,tmps:=a.tmps,params:=ps,assign,body,defers:=w.heap.size}:=⟨_,rfl⟩
 obtain⟨W1,hW1⟩: ∃W1,(w.alloc (.deferred (some []))).alloc (.loop (rec .ready none))=W1:=⟨_,rfl⟩
 have hX1:Ext w W1:=by rw[←hW1];exact((Ext.refl w).alloc _).alloc _
 have hL1:W1.heap[w.heap.size+1]? =some (.loop (rec .ready none)):=by
  rw[←hW1];have:=World.alloc_heap_new (w.alloc (.deferred (some []))) (.loop (rec .ready none));rwa[World.size_alloc]at this
 have hK1:W1.heap[w.heap.size]? =some (.deferred (some [])):=by
  rw[←hW1];exact(Below.heap_alloc _ _ _ (by simp)).trans (World.alloc_heap_new w _)
 refine⟨w.heap.size+1,[{target:=.collected w.heap.size,args:= #[]}],W1,{target:=.fn (.func gf) lb,args:= #[.func (.yield (w.heap.size+1)) #[] #[]]},W1,gf,
  #[.func (.yield (w.heap.size+1)) #[] #[]]++lb,W1,?_,?_,?_,?_,fun _=>by omega,?_⟩
 ·rw[←hW1,hrec];exact run_enterLoop_outer _ _ _ _ _
 ·simp only[resolve,hg]
  simp[go_sem]
 ·intro f' _;trivial
 ·simp[invoke,go_sem,eg]
 ·
  refine(hit 2 (w.heap.size+1) (fun k u W=>J k u W∧W.heap[w.heap.size+1]? =some (.loop (rec .ready none))∧W.heap[w.heap.size]? =some (.deferred (some []))) W1
   (fun k u W' h=>h.1)
   (fun k u W W' h x=>⟨hE k u W W' h.1 x,(x.block (Array.getElem?_eq_some_iff.1 h.2.1).1).trans h.2.1,(x.block (Array.getElem?_eq_some_iff.1 h.2.2).1).trans h.2.2⟩)
   (fun k u u' W h=>⟨hC k u u' W h.1,(setCell_other_heap W _ _ _ (by simp;omega)).trans h.2.1,(setCell_other_heap W _ _ _ (by simp;omega)).trans h.2.2⟩)
   ?_ ⟨hE 0 u0 w W1 h0 hX1,hL1,hK1⟩).mono ?_
  ·
   rintro k u W ⟨hj,hl,hk⟩ hlt
   have hsz:w.heap.size+1<W.heap.size:=(Array.getElem?_eq_some_iff.1 hl).1
   have hy:=run_yield (P:=P) (args:=enc k) hl (by rw[hrec];exact hps k)
   rw[hrec]at hy
   refine⟨fn,_,assign,body,hy,roundIn_of_wpIn hfn (hassign _ k W _ ⟨_,run_beginRound hl (by rw[hrec]),?_⟩)⟩
   have hl2:(W.putObj (w.heap.size+1) (.loop {rec .ready none with state:=.busy})).heap[w.heap.size+1]? =some (.loop {rec .ready none with state:=.busy}):=World.putObj_heap_same hsz
   have hk2:(W.putObj (w.heap.size+1) (.loop {rec .ready none with state:=.busy})).heap[w.heap.size]? =some (.deferred (some [])):=(World.putObj_heap_other (by omega)).trans hk
   have hj2:=hL k u W (.loop {rec .ready none with state:=.busy}) hj (Kp.putObj _ _ _ (fun h=>h rfl)) ⟨_,hl⟩
   refine wpIn_mono (hbody _ k u _ hj2 hlt) ?_
   intro e a3 W3 hp
   cases e with
   |normal=>
    obtain⟨ho,hj3⟩:=hp
    have hl3:=ho.same _ _ hl2 rfl
    have hk3:=ho.same _ _ hk2 rfl
    have hsz3:w.heap.size+1<W3.heap.size:=(Array.getElem?_eq_some_iff.1 hl3).1
    have hend:=run_endRound (P:=P) none hl3
    refine⟨_,_,hend,rfl,hL (k+1) u W3 _ hj3 (Kp.putObj _ _ _ (fun h=>h rfl)) ⟨_,hl3⟩,?_,(World.putObj_heap_other (by omega)).trans hk3⟩
    rw[World.putObj_heap_same hsz3,hrec]
    rfl
   |ret=>exact hp.elim
   |exit id=>exact hp.elim
   |goto t=>exact hp.elim
   |panic ch=>exact hp.elim
   |outgrown=>exact hp.elim
  ·rintro e W2 ⟨⟨v,rfl⟩,u,hj,hl,hk⟩
   have hend:=run_endLoop (P:=P) hl (by rw[hrec];simp)
   rw[hrec]at hend
   refine⟨none,_,hend,hdone _ u _ (Nat.le_refl _) (hL N u W2 _ hj (Kp.putObj _ _ _ (fun h=>h rfl)) ⟨_,hl⟩) ((World.putObj_heap_other (by omega)).trans hk)⟩
end Go.Proofs.YtplljnfjkkloeaaGreatDoor
