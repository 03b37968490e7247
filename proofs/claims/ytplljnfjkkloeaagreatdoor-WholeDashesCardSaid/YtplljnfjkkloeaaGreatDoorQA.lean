/- Proof text: rectangles of pixels (rect.Right, Has, And; store.Box), where they may be. By an AI agent. No condition beyond what each theorem states. -/
import Derived.Test.YtplljnfjkkloeaaGreatDoorXI
import Derived.Deep.LoopGhost
import Derived.IntWalk
import Derived.Test.YtplljnfjkkloeaaGreatDoorChecked
set_option linter.unusedVariables false
set_option linter.unusedSimpArgs false
set_option maxHeartbeats 4000000
namespace Go.Proofs.YtplljnfjkkloeaaGreatDoor
open Go.RowKit
@[go_sem ↓ high] theorem run_max_i64 {P:Program} {w:World} (ts:Array TypeId) (t:TypeId) (x y:Int):(Builtin.max_ ts t #[.int .i64 x,.int .i64 y]).run P w=.ok (.int .i64 (max x y)) w:=by
 have:(if y>x then y else x)=max x y:=by omega
 rw[←this]
 simp[Builtin.max_,Builtin.max2,go_sem]
@[go_sem ↓ high] theorem run_min_i64 {P:Program} {w:World} (ts:Array TypeId) (t:TypeId) (x y:Int):(Builtin.min_ ts t #[.int .i64 x,.int .i64 y]).run P w=.ok (.int .i64 (min x y)) w:=by
 have:(if y<x then y else x)=min x y:=by omega
 rw[←this]
 simp[Builtin.min_,Builtin.min2,go_sem]
theorem and_mask (k:Nat) (hk:k≤62) (x m:Int) (hm:m=((2^k-1:Nat):Int)):bits .and .i64 x m=x%((2^k:Nat):Int):=by
 subst hm
 have hp:2^k≤2^62:=Nat.pow_le_pow_right (by omega) hk
 have hp0:0<2^k:=Nat.two_pow_pos k
 have h1:((BitVec.ofInt 64 x).toNat:Int)=x%18446744073709551616:=by
  rw[BitVec.toNat_ofInt]
  have:0≤x%(((2^64:Nat)):Int):=Int.emod_nonneg _ (by decide)
  omega
 have h2:(BitVec.ofInt 64 ((2^k-1:Nat):Int)).toNat=2^k-1:=by
  rw[BitVec.ofInt_natCast,BitVec.toNat_ofNat];exact Nat.mod_eq_of_lt (by omega)
 show IntKind.i64.wrap ((BitVec.ofInt 64 x&&&BitVec.ofInt 64 ((2^k-1:Nat):Int)).toNat:Int)=_
 rw[BitVec.toNat_and,h2,Nat.and_two_pow_sub_one_eq_mod,IntKind.wrap_i64]
 have h3:(((BitVec.ofInt 64 x).toNat%2^k:Nat):Int)=x%((2^k:Nat):Int):=by
  rw[Int.natCast_emod,h1]
  refine Int.emod_emod_of_dvd _ ?_
  rw[show(18446744073709551616:Int)=((2^64:Nat):Int) by decide]
  exact Int.natCast_dvd_natCast.2 (Nat.pow_dvd_pow 2 (by omega))
 rw[h3]
 have h4:x%((2^k:Nat):Int)<((2^k:Nat):Int):=Int.emod_lt_of_pos _ (by omega)
 have h5:0≤x%((2^k:Nat):Int):=Int.emod_nonneg _ (by omega)
 omega
@[go_sem] theorem and255 (x:Int):bits .and .i64 x 255=x%256:=and_mask 8 (by omega) x 255 (by decide)
@[go_sem] theorem and15 (x:Int):bits .and .i64 x 15=x%16:=and_mask 4 (by omega) x 15 (by decide)
@[go_sem] theorem and1 (x:Int):bits .and .i64 x 1=x%2:=and_mask 1 (by omega) x 1 (by decide)
structure Rc where
 x0:Int
 y0:Int
 x1:Int
 y1:Int
@[reducible] def Rc.row (r:Rc):Array Value:= #[.int .i64 r.x0,.int .i64 r.y0,.int .i64 r.x1,.int .i64 r.y1]
@[reducible] def Rc.v (r:Rc):Value:=.agg r.row
def Rc.Ok (r:Rc):Prop:= -4194304≤r.x0∧r.x0<r.x1∧r.x1≤4194304∧ -4194304≤r.y0∧r.y0<r.y1∧r.y1≤4194304
def Rc.Has (r:Rc) (x y:Int):Prop:=r.x0≤x∧x<r.x1∧r.y0≤y∧y<r.y1
instance (r:Rc) (x y:Int):Decidable (r.Has x y):=inferInstanceAs (Decidable (_∧_))
theorem rect_right (r:Rc) (w:World) (h:r.Ok):Calls Tryz.prog 56 #[r.v] w fun e w'=>e=.returned (.bool true)∧Ext w w':=by
 obtain⟨h1,h2,h3,h4,h5,h6⟩:=h
 have d1:decide (r.x0<r.x1)=true:=by simpa using h2
 have d2:decide (r.y0<r.y1)=true:=by simpa using h5
 go_enter Tryz.func56,Tryz.ntmps56
 go_wp2_with fail
 go_loop [4,14] (fun _ i=> ∃k:Nat,k≤4∧i=.int .i64 k) (fun _ i=>4-(intOf i).toNat)
 case atStart=>exact⟨0,by omega,rfl⟩
 case round=>
  obtain⟨k,hk,rfl⟩:=hrel
  by_cases hlt:k<4
  ·have hk4:k=0∨k=1∨k=2∨k=3:=by omega
   have e1:decide (r.x0< -4194304)=false:=by simp;omega
   have e2:decide (r.x0>4194304)=false:=by simp;omega
   have e3:decide (r.x1< -4194304)=false:=by simp;omega
   have e4:decide (r.x1>4194304)=false:=by simp;omega
   have e5:decide (r.y0< -4194304)=false:=by simp;omega
   have e6:decide (r.y0>4194304)=false:=by simp;omega
   have e7:decide (r.y1< -4194304)=false:=by simp;omega
   have e8:decide (r.y1>4194304)=false:=by simp;omega
   rcases hk4 with rfl|rfl|rfl|rfl
   all_goals
    clear hk hlt
    go_wp2_with fail
    go_round
    case rel=>first|exact⟨1,by decide,rfl⟩|exact⟨2,by decide,rfl⟩|exact⟨3,by decide,rfl⟩|exact⟨4,by decide,rfl⟩
    case measure=>simp[intOf]
  ·obtain rfl:k=4:=by omega
   go_wp2_with fail
   go_ret
   exact⟨rfl,by(repeat(first|with_reducible(first|exact eR_ _|assumption|refine eA_ ?_ _|refine eD_ ?_|refine eN_ ?_ _|refine eL_ ?_ _)|(with_reducible refine eS_ ?_ _ ?hp;case hp=>first|(simp;done)|(simp;omega)|omega)))⟩
theorem has_any (r:Rc) (x y:Int) (w:World) (h:r.Ok):Calls Tryz.prog 186 #[r.v,.int .i64 x,.int .i64 y] w fun e w'=>e=.returned (.bool (decide (r.Has x y)))∧Ext w w':=by
 have H:=Lib.hid h;clear h
 have hc:(decide (x≥r.x0)=false∧Hid (decide (r.Has x y)=false))∨(decide (x≥r.x0)=true∧decide (x<r.x1)=false∧Hid (decide (r.Has x y)=false))∨
   (decide (x≥r.x0)=true∧decide (x<r.x1)=true∧decide (y≥r.y0)=false∧Hid (decide (r.Has x y)=false))∨
   (decide (x≥r.x0)=true∧decide (x<r.x1)=true∧decide (y≥r.y0)=true∧decide (y<r.y1)=false∧Hid (decide (r.Has x y)=false))∨
   (decide (x≥r.x0)=true∧decide (x<r.x1)=true∧decide (y≥r.y0)=true∧decide (y<r.y1)=true∧Hid (decide (r.Has x y)=true)):=by
  by_cases p1:r.x0≤x
  ·by_cases p2:x<r.x1
   ·by_cases p3:r.y0≤y
    ·by_cases p4:y<r.y1
     ·exact .inr (.inr (.inr (.inr ⟨decide_eq_true p1,decide_eq_true p2,decide_eq_true p3,decide_eq_true p4,Lib.hid (decide_eq_true ⟨p1,p2,p3,p4⟩)⟩)))
     ·exact .inr (.inr (.inr (.inl ⟨decide_eq_true p1,decide_eq_true p2,decide_eq_true p3,decide_eq_false p4,Lib.hid (decide_eq_false fun h=>p4 h.2.2.2)⟩)))
    ·exact .inr (.inr (.inl ⟨decide_eq_true p1,decide_eq_true p2,decide_eq_false p3,Lib.hid (decide_eq_false fun h=>p3 h.2.2.1)⟩))
   ·exact .inr (.inl ⟨decide_eq_true p1,decide_eq_false p2,Lib.hid (decide_eq_false fun h=>p2 h.2.1)⟩)
  ·exact .inl ⟨decide_eq_false p1,Lib.hid (decide_eq_false fun h=>p1 h.1)⟩
 rcases hc with⟨d1,HD⟩|⟨d1,d2,HD⟩|⟨d1,d2,d3,HD⟩|⟨d1,d2,d3,d4,HD⟩|⟨d1,d2,d3,d4,HD⟩
 all_goals
  go_enter Tryz.func186,Tryz.ntmps186
  go_wp2_with fail
  refine(rect_right r _ H.out).mono ?_
  rintro e w1 ⟨rfl,hE⟩
  obtain⟨x1,rfl⟩:=Later.mk' hE
  clear hE
  go_wp2_with fail
  go_ret
  rw[HD.out]
  exact⟨rfl,by(repeat(first|with_reducible(first|exact eR_ _|assumption|refine eA_ ?_ _|refine eD_ ?_|refine eN_ ?_ _|refine eL_ ?_ _)|(with_reducible refine eS_ ?_ _ ?hp;case hp=>first|(simp;done)|(simp;omega)|omega)))⟩
def Rc.and (a b:Rc):Rc:=⟨max a.x0 b.x0,max a.y0 b.y0,min a.x1 b.x1,min a.y1 b.y1⟩
theorem and_yes (a b:Rc) (w:World) (ha:a.Ok) (hb:b.Ok) (hr:(a.and b).Ok):Calls Tryz.prog 35 #[a.v,b.v] w fun e w'=>e=.returned (a.and b).v∧Ext w w':=by
 have HA:=Lib.hid ha;clear ha
 have HB:=Lib.hid hb;clear hb
 have HR:=Lib.hid hr;clear hr
 go_enter Tryz.func35,Tryz.ntmps35
 go_wp2_with fail
 refine(rect_right a _ HA.out).mono ?_
 rintro e w1 ⟨rfl,hE⟩
 obtain⟨x1,rfl⟩:=Later.mk' hE
 clear hE
 have B1:Hid (Blk x1.w (w.heap.size+1) 48 b.row):=Lib.hid (by(repeat(first|with_reducible exact Hid.out (by assumption)|(with_reducible refine Blk.new' _ _ _ ?_;(simp;done))|with_reducible(first|refine Blk.alloc ?_ _|refine Blk.drew ?_|refine Blk.drewN ?_ _|refine Blk.later ?_ _)|(with_reducible refine Blk.far ?_ ?hp _;case hp=>first|(simp;done)|(simp;omega)|omega))))
 have B0:Hid (Blk x1.w w.heap.size 48 a.row):=Lib.hid (by(repeat(first|with_reducible exact Hid.out (by assumption)|(with_reducible refine Blk.new' _ _ _ ?_;(simp;done))|with_reducible(first|refine Blk.alloc ?_ _|refine Blk.drew ?_|refine Blk.drewN ?_ _|refine Blk.later ?_ _)|(with_reducible refine Blk.far ?_ ?hp _;case hp=>first|(simp;done)|(simp;omega)|omega))))
 have B2:Hid (Blk x1.w (w.heap.size+1+1) 48 (Rc.row ⟨0,0,0,0⟩)):=Lib.hid (by(repeat(first|with_reducible exact Hid.out (by assumption)|(with_reducible refine Blk.new' _ _ _ ?_;(simp;done))|with_reducible(first|refine Blk.alloc ?_ _|refine Blk.drew ?_|refine Blk.drewN ?_ _|refine Blk.later ?_ _)|(with_reducible refine Blk.far ?_ ?hp _;case hp=>first|(simp;done)|(simp;omega)|omega))))
 obtain⟨b0,b1,b2,b3⟩:=B1.out.four
 go_wp2_with fail
 clear b0 b1 b2 b3
 refine(rect_right b _ HB.out).mono ?_
 rintro e w1 ⟨rfl,hE⟩
 obtain⟨x2,rfl⟩:=Later.mk' hE
 clear hE
 have C0:Hid (Blk x2.w w.heap.size 48 a.row):=Lib.hid (by(repeat(first|with_reducible exact Hid.out (by assumption)|(with_reducible refine Blk.new' _ _ _ ?_;(simp;done))|with_reducible(first|refine Blk.alloc ?_ _|refine Blk.drew ?_|refine Blk.drewN ?_ _|refine Blk.later ?_ _)|(with_reducible refine Blk.far ?_ ?hp _;case hp=>first|(simp;done)|(simp;omega)|omega))))
 have C1:Hid (Blk x2.w (w.heap.size+1) 48 b.row):=Lib.hid (by(repeat(first|with_reducible exact Hid.out (by assumption)|(with_reducible refine Blk.new' _ _ _ ?_;(simp;done))|with_reducible(first|refine Blk.alloc ?_ _|refine Blk.drew ?_|refine Blk.drewN ?_ _|refine Blk.later ?_ _)|(with_reducible refine Blk.far ?_ ?hp _;case hp=>first|(simp;done)|(simp;omega)|omega))))
 have C2:Hid (Blk x2.w (w.heap.size+1+1) 48 (Rc.row ⟨0,0,0,0⟩)):=Lib.hid (by(repeat(first|with_reducible exact Hid.out (by assumption)|(with_reducible refine Blk.new' _ _ _ ?_;(simp;done))|with_reducible(first|refine Blk.alloc ?_ _|refine Blk.drew ?_|refine Blk.drewN ?_ _|refine Blk.later ?_ _)|(with_reducible refine Blk.far ?_ ?hp _;case hp=>first|(simp;done)|(simp;omega)|omega))))
 obtain⟨a0,a1,a2,a3⟩:=C0.out.four
 obtain⟨b0,b1,b2,b3⟩:=C1.out.four
 go_wp2_with fail
 clear a0 a1 a2 a3 b0 b1 b2 b3
 refine(rect_right (a.and b) _ HR.out).mono ?_
 rintro e w1 ⟨rfl,hE⟩
 obtain⟨x3,rfl⟩:=Later.mk' hE
 clear hE
 have D2:Hid (Blk x3.w (w.heap.size+1+1) 48 (Rc.row ⟨0,0,0,0⟩)):=Lib.hid (by(repeat(first|with_reducible exact Hid.out (by assumption)|(with_reducible refine Blk.new' _ _ _ ?_;(simp;done))|with_reducible(first|refine Blk.alloc ?_ _|refine Blk.drew ?_|refine Blk.drewN ?_ _|refine Blk.later ?_ _)|(with_reducible refine Blk.far ?_ ?hp _;case hp=>first|(simp;done)|(simp;omega)|omega))))
 have D3:Hid (Blk x3.w x2.w.heap.size 48 (Rc.row ⟨max a.x0 b.x0,max a.y0 b.y0,min a.x1 b.x1,min a.y1 b.y1⟩)):=Lib.hid (by(repeat(first|with_reducible exact Hid.out (by assumption)|(with_reducible refine Blk.new' _ _ _ ?_;(simp;done))|with_reducible(first|refine Blk.alloc ?_ _|refine Blk.drew ?_|refine Blk.drewN ?_ _|refine Blk.later ?_ _)|(with_reducible refine Blk.far ?_ ?hp _;case hp=>first|(simp;done)|(simp;omega)|omega))))
 obtain⟨a0,a1,a2,a3⟩:=D3.out.c4
 obtain⟨b0,b1,b2,b3⟩:=D2.out.c4
 obtain⟨f0,f1,f2,f3⟩:=D2.out.f4
 go_wp2_with fail
 obtain⟨s0,s1,s2,s3⟩:=(D2.out.s4 (.int .i64 (max a.x0 b.x0)) (.int .i64 (max a.y0 b.y0)) (.int .i64 (min a.x1 b.x1)) (.int .i64 (min a.y1 b.y1))).c4
 refine bodyPost_ret (v:=(a.and b).v) (by simp[results,Tryz.results35,go_sem,s0,s1,s2,s3,Rc.and]) rfl ⟨rfl,by(repeat(first|with_reducible(first|exact eR_ _|assumption|refine eA_ ?_ _|refine eD_ ?_|refine eN_ ?_ _|refine eL_ ?_ _)|(with_reducible refine eS_ ?_ _ ?hp;case hp=>first|(simp;done)|(simp;omega)|omega)))⟩
theorem box_any (W H:Int) (C Z:Value) (w:World):Calls Tryz.prog 34 #[.agg #[.int .i64 W,.int .i64 H,C,Z]] w fun e w'=>e=.returned (Rc.v ⟨0,0,W,H⟩)∧Ext w w':=by
 go_enter Tryz.func34,Tryz.ntmps34
 go_wp2_with fail
 refine bodyPost_ret (v:=Rc.v ⟨0,0,W,H⟩) (by simp[results,Tryz.results34,go_sem]) rfl ⟨rfl,by(repeat(first|with_reducible(first|exact eR_ _|assumption|refine eA_ ?_ _|refine eD_ ?_|refine eN_ ?_ _|refine eL_ ?_ _)|(with_reducible refine eS_ ?_ _ ?hp;case hp=>first|(simp;done)|(simp;omega)|omega)))⟩
end Go.Proofs.YtplljnfjkkloeaaGreatDoor
set_option linter.unusedVariables false
set_option linter.unusedSimpArgs false
namespace Go.Proofs.YtplljnfjkkloeaaGreatDoor
attribute [local go_sem] Go.Oper.semAt_some
open Go.RowKit
def lmid (p q n d:Int):Int:=if d<1∨n≤0 then p else if d≤n then q else mid p q n d
theorem lmid_same (p n d:Int):lmid p p n d=p:=by
 unfold lmid mid
 split
 ·rfl
 ·split
  ·rfl
  ·rw[show(p-p)*n=0 by rw[Int.sub_self,Int.zero_mul],Int.zero_ediv,Int.add_zero]
set_option maxRecDepth 100000 in
theorem lmid_cells (p q n d x a b c f g y r r':Int) (w:World) (e0:IntKind.i64.wrap (q-p)=x) (e1:IntKind.i64.wrap (p+y)=r) (n0:0<n) (nd:n<d) (d1:1≤d)
  (c1: ∀W,Calls Tryz.prog 174 #[.int .i64 x,.int .i64 n] W fun e w'=>e=.returned (.agg #[.int .i64 a,.int .u64 b])∧Ext W w')
  (c2: ∀W,Calls Tryz.prog 216 #[.agg #[.int .i64 a,.int .u64 b],.int .i64 d] W fun e w'=>e=.returned (.tuple #[.agg #[.int .i64 f,.int .u64 g],.int .i64 r',.bool true])∧Ext W w')
  (c3: ∀W,Calls Tryz.prog 217 #[.agg #[.int .i64 f,.int .u64 g]] W fun e w'=>e=.returned (.tuple #[.int .i64 y,.bool true])∧Ext W w'):
  Calls Tryz.prog 264 #[.int .i64 p,.int .i64 q,.int .i64 n,.int .i64 d] w fun e w'=>e=.returned (.int .i64 r)∧Ext w w':=by
 have C1:=Lib.hid c1;clear c1
 have C2:=Lib.hid c2;clear c2
 have C3:=Lib.hid c3;clear c3
 have t1:decide (d<1)=false:=by simp;omega
 have t2:decide (n≤0)=false:=by simp;omega
 have t3:decide (n≥d)=false:=by simp;omega
 go_enter Tryz.func264,Tryz.ntmps264
 go_wp2_with fail
 refine(C1.out _).mono ?_
 rintro e w1 ⟨rfl,hE⟩
 obtain⟨x1,rfl⟩:=Later.mk' hE
 clear hE
 go_wp2_with fail
 refine(C2.out _).mono ?_
 rintro e w1 ⟨rfl,hE⟩
 obtain⟨x2,rfl⟩:=Later.mk' hE
 clear hE
 go_wp2_with fail
 refine(C3.out _).mono ?_
 rintro e w1 ⟨rfl,hE⟩
 obtain⟨x3,rfl⟩:=Later.mk' hE
 clear hE
 go_wp2_with fail
 go_ret
 exact⟨rfl,by(repeat(first|with_reducible(first|exact eR_ _|assumption|refine eA_ ?_ _|refine eD_ ?_|refine eN_ ?_ _|refine eL_ ?_ _)|(with_reducible refine eS_ ?_ _ ?hp;case hp=>first|(simp;done)|(simp;omega)|omega)))⟩
set_option maxRecDepth 100000 in
theorem lmid_any (p q n d:Int) (w:World) (p1: -68719476736≤p) (p2:p≤68719476736) (q1: -68719476736≤q) (q2:q≤68719476736) (d2:d<9223372036854775808):
  Calls Tryz.prog 264 #[.int .i64 p,.int .i64 q,.int .i64 n,.int .i64 d] w fun e w'=>e=.returned (.int .i64 (lmid p q n d))∧Ext w w':=by
 by_cases hs:d<1∨n≤0
 ·have e:lmid p q n d=p:=by unfold lmid;rw[if_pos hs]
  rw[e]
  by_cases hd:d<1
  ·have t1:decide (d<1)=true:=by simp;omega
   go_enter Tryz.func264,Tryz.ntmps264
   go_wp2_with fail
   go_ret
   exact⟨rfl,Ext.refl _⟩
  ·have t1:decide (d<1)=false:=by simp;omega
   have t2:decide (n≤0)=true:=by simp;omega
   go_enter Tryz.func264,Tryz.ntmps264
   go_wp2_with fail
   go_ret
   exact⟨rfl,Ext.refl _⟩
 by_cases hn:d≤n
 ·have e:lmid p q n d=q:=by unfold lmid;rw[if_neg hs,if_pos hn]
  rw[e]
  have t1:decide (d<1)=false:=by simp;omega
  have t2:decide (n≤0)=false:=by simp;omega
  have t3:decide (n≥d)=true:=by simp;omega
  go_enter Tryz.func264,Tryz.ntmps264
  go_wp2_with fail
  go_ret
  exact⟨rfl,Ext.refl _⟩
 have e:lmid p q n d=mid p q n d:=by unfold lmid;rw[if_neg hs,if_neg hn]
 rw[e]
 clear e
 obtain⟨d,rfl⟩: ∃k:Nat,d=(k:Int):=⟨d.toNat,by omega⟩
 have hm:=mid_between (p:=p) (q:=q) (n:=n) (d:=d) (by omega) (by omega) (by omega)
 unfold mid at hm ⊢
 have b1:(q-p)*n≤137438953472*9223372036854775808:=by
  rcases Int.le_total 0 (q-p)with h|h
  ·exact Int.mul_le_mul (by omega) (by omega) (by omega) (by omega)
  ·have:=Int.mul_nonpos_of_nonpos_of_nonneg h (by omega:0≤n);omega
 have b2: -(137438953472*9223372036854775808)≤(q-p)*n:=by
  rcases Int.le_total 0 (q-p)with h|h
  ·have:=Int.mul_nonneg h (by omega:0≤n);omega
  ·have:=Int.mul_le_mul (a:=p-q) (b:=n) (c:=137438953472) (d:=9223372036854775808) (by omega) (by omega) (by omega) (by omega)
   have e:(q-p)*n= -((p-q)*n):=by rw[←Int.neg_mul];congr 1;omega
   omega
 generalize hN:(q-p)*n=N at*
 have d3:d<9223372036854775808:=by omega
 exact lmid_cells p q n d (q-p) _ _ 0 _ _ (N/d) _ _ w (by rw[IntKind.wrap_i64];omega) (by rw[IntKind.wrap_i64];generalize N/(d:Int)=k at hm ⊢;omega) (by omega) (by omega) (by omega)
  (fun W=>by have:=mul_any (q-p) n W (by omega) (by omega) (by omega) (by omega);rw[hN]at this;exact this)
  (fun W=>div_any N d W (by omega) (by omega) (by omega) d3)
  (fun W=>small_any (N/d) W (by generalize N/(d:Int)=k at hm ⊢;omega) (by generalize N/(d:Int)=k at hm ⊢;omega))
theorem mixes_any (B C:Nat) (p q n d:Int) (w:World) (hB:Blk w B 3 #[.int .i64 n]) (hC:Blk w C 3 #[.int .i64 d]) (p1: -68719476736≤p) (p2:p≤68719476736) (q1: -68719476736≤q) (q2:q≤68719476736) (d2:d<9223372036854775808):
  Calls Tryz.prog 263 #[.int .i64 p,.int .i64 q,.pointer (some ⟨B,0,none⟩),.pointer (some ⟨C,0,none⟩)] w fun e w'=>e=.returned (.int .i64 (lmid p q n d))∧Ext w w':=by
 have HM:=Lib.hid (fun w=>lmid_any p q n d w p1 p2 q1 q2 d2)
 have cB:=hB.c1
 have cC:=hC.c1
 clear p1 p2 q1 q2 d2
 go_enter Tryz.func263,Tryz.ntmps263
 go_wp2_with fail
 refine(HM.out _).mono ?_
 rintro e w1 ⟨rfl,hE⟩
 obtain⟨x,rfl⟩:=Later.mk' hE
 clear hE
 go_wp2_with fail
 go_ret
 exact⟨rfl,by(repeat(first|with_reducible(first|exact eR_ _|assumption|refine eA_ ?_ _|refine eD_ ?_|refine eN_ ?_ _|refine eL_ ?_ _)|(with_reducible refine eS_ ?_ _ ?hp;case hp=>first|(simp;done)|(simp;omega)|omega)))⟩
theorem mixer_any (n d:Int) (w:World):Calls Tryz.prog 224 #[.int .i64 n,.int .i64 d] w fun e w'=>
  e=.returned (.func (.func 263) #[] #[.pointer (some ⟨w.heap.size,0,none⟩),.pointer (some ⟨w.heap.size+1,0,none⟩)])∧(w.alloc (.cells #[.int .i64 n] 3)).alloc (.cells #[.int .i64 d] 3)=w':=by
 have hmf: ∀(fn:Fn) (first cap:Array Value) (w:World),(Instr.makeFunc fn first cap).run Tryz.prog w=.ok (.func fn first cap) w:=fun _ _ _ _=>rfl
 go_enter Tryz.func224,Tryz.ntmps224
 go_wp2_with fail
 go_ret
 exact⟨rfl,rfl⟩
structure Wv where
 x:Int
 y:Int
 z:Int
 c0:Int
 c1:Int
 c2:Int
 c3:Int
@[reducible] def Wv.row (v:Wv):Array Value:= #[.int .i64 v.x,.int .i64 v.y,.int .i64 v.z,.int .i64 v.c0,.int .i64 v.c1,.int .i64 v.c2,.int .i64 v.c3]
@[reducible] def Wv.v (v:Wv):Value:=.agg #[.int .i64 v.x,.int .i64 v.y,.int .i64 v.z,.int .i64 v.c0,.int .i64 v.c1,.int .i64 v.c2,.int .i64 v.c3]
def okc (c:Int):Prop:= -68719476736≤c∧c≤68719476736
structure Wv.Ok (v:Wv):Prop where
 z:okc v.z
 c0:okc v.c0
 c1:okc v.c1
 c2:okc v.c2
 c3:okc v.c3
theorem agg_color (W:World):(isAgg 30).run Tryz.prog W=.ok true W:=by kernel_rfl
theorem results_tmp_cell {fn:Func} {p u:Tmp} {ty:TypeId} (h:fn.results= #[.tmp u,.cell p ty]) (tmps:Array Value) (P:Program) (w:World) {ad:Addr} {v:Value}
  (hp:tmps.getD p undef=.pointer (some ad))(hl:(loadVar ty ad).run P w=.ok v w):(results fn tmps).run P w=.ok (.tuple #[tmps.getD u undef,v]) w:=by
 simp only[results,h]
 have hp':tmps[p]?.getD undef=.pointer (some ad):=by simpa using hp
 simp[Sem.run_bind,asAddr,hp',hl,Result.andThen]
structure Bo (a b:Wv) (w:World) (wx:World):Prop where
 a:Blk wx w.heap.size 177 a.row
 b:Blk wx (w.heap.size+1) 177 b.row
 r:Blk wx (w.heap.size+1+1) 30 #[.int .i64 0,.int .i64 0,.int .i64 0,.int .i64 0]
 e:Ext w wx
theorem Bo.step {a b:Wv} {w wx:World} (h:Bo a b w wx) (y:Later wx) (k:Nat) (u:Value):Bo a b w (y.w.setCell ⟨w.heap.size+1+1+1,k,none⟩ u):=
 ⟨(h.a.ext y.ext).far (by first|(simp;done)|(simp;omega)) _,(h.b.ext y.ext).far (by first|(simp;done)|(simp;omega)) _,(h.r.ext y.ext).far (by first|(simp;done)|(simp;omega)) _,(h.e.trans y.ext).setCell _ (by first|(simp;done)|(simp;omega))⟩
set_option maxRecDepth 100000 in
theorem both_any (B C:Nat) (a b:Wv) (n d:Int) (w:World) (hB:Blk w B 3 #[.int .i64 n]) (hC:Blk w C 3 #[.int .i64 d]) (ha:a.Ok) (hb:b.Ok) (d2:d<9223372036854775808):
  Calls Tryz.prog 223 #[a.v,b.v,.func (.func 263) #[] #[.pointer (some ⟨B,0,none⟩),.pointer (some ⟨C,0,none⟩)]] w fun e w'=>
   e=.returned (.tuple #[.int .i64 (lmid a.z b.z n d),.agg #[.int .i64 (lmid a.c0 b.c0 n d),.int .i64 (lmid a.c1 b.c1 n d),.int .i64 (lmid a.c2 b.c2 n d),.int .i64 (lmid a.c3 b.c3 n d)]])∧Ext w w':=by
 have HM:Hid (∀(p q:Int) w',okc p→okc q→Ext w w'→Calls Tryz.prog 263 #[.int .i64 p,.int .i64 q,.pointer (some ⟨B,0,none⟩),.pointer (some ⟨C,0,none⟩)] w' fun e w''=>e=.returned (.int .i64 (lmid p q n d))∧Ext w' w''):=
  Lib.hid (fun p q w' hp hq hE=>mixes_any B C p q n d w' (hB.ext hE) (hC.ext hE) hp.1 hp.2 hq.1 hq.2 d2)
 have HA:=Lib.hid ha
 have HB:=Lib.hid hb
 clear hB hC ha hb d2
 go_enter Tryz.func223,Tryz.ntmps223
 go_wp2_with fail
 have HO:Hid (Bo a b w ((((w.alloc (.cells #[.int .i64 a.x,.int .i64 a.y,.int .i64 a.z,.int .i64 a.c0,.int .i64 a.c1,.int .i64 a.c2,.int .i64 a.c3] 177)).alloc (.cells #[.int .i64 b.x,.int .i64 b.y,.int .i64 b.z,.int .i64 b.c0,.int .i64 b.c1,.int .i64 b.c2,.int .i64 b.c3] 177)).alloc (.cells #[.int .i64 0,.int .i64 0,.int .i64 0,.int .i64 0] 30)).alloc (.cells #[.int .i64 0,.int .i64 0,.int .i64 0,.int .i64 0] 30))):=Lib.hid ⟨by(repeat(first|with_reducible exact Hid.out (by assumption)|(with_reducible refine Blk.new' _ _ _ ?_;(simp;done))|with_reducible(first|refine Blk.alloc ?_ _|refine Blk.drew ?_|refine Blk.drewN ?_ _|refine Blk.later ?_ _)|(with_reducible refine Blk.far ?_ ?hp _;case hp=>first|(simp;done)|(simp;omega)|omega))),by(repeat(first|with_reducible exact Hid.out (by assumption)|(with_reducible refine Blk.new' _ _ _ ?_;(simp;done))|with_reducible(first|refine Blk.alloc ?_ _|refine Blk.drew ?_|refine Blk.drewN ?_ _|refine Blk.later ?_ _)|(with_reducible refine Blk.far ?_ ?hp _;case hp=>first|(simp;done)|(simp;omega)|omega))),by(repeat(first|with_reducible exact Hid.out (by assumption)|(with_reducible refine Blk.new' _ _ _ ?_;(simp;done))|with_reducible(first|refine Blk.alloc ?_ _|refine Blk.drew ?_|refine Blk.drewN ?_ _|refine Blk.later ?_ _)|(with_reducible refine Blk.far ?_ ?hp _;case hp=>first|(simp;done)|(simp;omega)|omega))),by(repeat(first|with_reducible(first|exact eR_ _|assumption|refine eA_ ?_ _|refine eD_ ?_|refine eN_ ?_ _|refine eL_ ?_ _)|(with_reducible refine eS_ ?_ _ ?hp;case hp=>first|(simp;done)|(simp;omega)|omega)))⟩
 have HT:Hid (Blk ((((w.alloc (.cells #[.int .i64 a.x,.int .i64 a.y,.int .i64 a.z,.int .i64 a.c0,.int .i64 a.c1,.int .i64 a.c2,.int .i64 a.c3] 177)).alloc (.cells #[.int .i64 b.x,.int .i64 b.y,.int .i64 b.z,.int .i64 b.c0,.int .i64 b.c1,.int .i64 b.c2,.int .i64 b.c3] 177)).alloc (.cells #[.int .i64 0,.int .i64 0,.int .i64 0,.int .i64 0] 30)).alloc (.cells #[.int .i64 0,.int .i64 0,.int .i64 0,.int .i64 0] 30)) (w.heap.size+1+1+1) 30 #[.int .i64 0,.int .i64 0,.int .i64 0,.int .i64 0]):=Lib.hid (by(repeat(first|with_reducible exact Hid.out (by assumption)|(with_reducible refine Blk.new' _ _ _ ?_;(simp;done))|with_reducible(first|refine Blk.alloc ?_ _|refine Blk.drew ?_|refine Blk.drewN ?_ _|refine Blk.later ?_ _)|(with_reducible refine Blk.far ?_ ?hp _;case hp=>first|(simp;done)|(simp;omega)|omega))))
 generalize(((w.alloc (.cells #[.int .i64 a.x,.int .i64 a.y,.int .i64 a.z,.int .i64 a.c0,.int .i64 a.c1,.int .i64 a.c2,.int .i64 a.c3] 177)).alloc (.cells #[.int .i64 b.x,.int .i64 b.y,.int .i64 b.z,.int .i64 b.c0,.int .i64 b.c1,.int .i64 b.c2,.int .i64 b.c3] 177)).alloc (.cells #[.int .i64 0,.int .i64 0,.int .i64 0,.int .i64 0] 30)).alloc (.cells #[.int .i64 0,.int .i64 0,.int .i64 0,.int .i64 0] 30)=W0 at*
 refine wp_loop_rounds 5 ?_
 rw[rounds_succ]
 have ca:=HO.out.a.c7
 have cb:=HO.out.b.c7
 have ct:=HT.out.c4
 have ft:=HT.out.f4
 go_wp2_with fail
 refine wp_region_later_tail 12 (by kernel_rfl) (by kernel_rfl) ?_
 simp only[List.take_succ_cons,List.take_zero,List.drop_succ_cons,List.drop_zero]
 repeat(go_big_quiet_step ((first|(go_at_call 263;exact Calls.later _ (HM.out _ _ _ HA.out.c0 HB.out.c0 (HO.out.e.later _)))|fail)))
 refine wpQuiet_nil ?_
 intro y0
 go_wp2_with fail
 clear ca cb ct ft
 have HO0:=Lib.hid (HO.out.step y0 0 (.int .i64 (lmid a.c0 b.c0 n d)))
 have HT0:Hid (Blk (y0.w.setCell ⟨w.heap.size+1+1+1,0,none⟩ (.int .i64 (lmid a.c0 b.c0 n d))) (w.heap.size+1+1+1) 30 #[.int .i64 (lmid a.c0 b.c0 n d),.int .i64 0,.int .i64 0,.int .i64 0]):=Lib.hid ((HT.out.ext y0.ext).set_ 0 _)
 generalize y0.w.setCell ⟨w.heap.size+1+1+1,0,none⟩ (.int .i64 (lmid a.c0 b.c0 n d))=W1 at*
 clear HO HT
 have HO:=HO0
 have HT:=HT0
 clear HO0 HT0
 rw[rounds_succ]
 have ca:=HO.out.a.c7
 have cb:=HO.out.b.c7
 have ct:=HT.out.c4
 have ft:=HT.out.f4
 go_wp2_with fail
 refine wp_region_later_tail 12 (by kernel_rfl) (by kernel_rfl) ?_
 simp only[List.take_succ_cons,List.take_zero,List.drop_succ_cons,List.drop_zero]
 repeat(go_big_quiet_step ((first|(go_at_call 263;exact Calls.later _ (HM.out _ _ _ HA.out.c1 HB.out.c1 (HO.out.e.later _)))|fail)))
 refine wpQuiet_nil ?_
 intro y1
 go_wp2_with fail
 clear ca cb ct ft
 have HO1:=Lib.hid (HO.out.step y1 1 (.int .i64 (lmid a.c1 b.c1 n d)))
 have HT1:Hid (Blk (y1.w.setCell ⟨w.heap.size+1+1+1,1,none⟩ (.int .i64 (lmid a.c1 b.c1 n d))) (w.heap.size+1+1+1) 30 #[.int .i64 (lmid a.c0 b.c0 n d),.int .i64 (lmid a.c1 b.c1 n d),.int .i64 0,.int .i64 0]):=Lib.hid ((HT.out.ext y1.ext).set_ 1 _)
 generalize y1.w.setCell ⟨w.heap.size+1+1+1,1,none⟩ (.int .i64 (lmid a.c1 b.c1 n d))=W2 at*
 clear HO HT
 have HO:=HO1
 have HT:=HT1
 clear HO1 HT1
 rw[rounds_succ]
 have ca:=HO.out.a.c7
 have cb:=HO.out.b.c7
 have ct:=HT.out.c4
 have ft:=HT.out.f4
 go_wp2_with fail
 refine wp_region_later_tail 12 (by kernel_rfl) (by kernel_rfl) ?_
 simp only[List.take_succ_cons,List.take_zero,List.drop_succ_cons,List.drop_zero]
 repeat(go_big_quiet_step ((first|(go_at_call 263;exact Calls.later _ (HM.out _ _ _ HA.out.c2 HB.out.c2 (HO.out.e.later _)))|fail)))
 refine wpQuiet_nil ?_
 intro y2
 go_wp2_with fail
 clear ca cb ct ft
 have HO2:=Lib.hid (HO.out.step y2 2 (.int .i64 (lmid a.c2 b.c2 n d)))
 have HT2:Hid (Blk (y2.w.setCell ⟨w.heap.size+1+1+1,2,none⟩ (.int .i64 (lmid a.c2 b.c2 n d))) (w.heap.size+1+1+1) 30 #[.int .i64 (lmid a.c0 b.c0 n d),.int .i64 (lmid a.c1 b.c1 n d),.int .i64 (lmid a.c2 b.c2 n d),.int .i64 0]):=Lib.hid ((HT.out.ext y2.ext).set_ 2 _)
 generalize y2.w.setCell ⟨w.heap.size+1+1+1,2,none⟩ (.int .i64 (lmid a.c2 b.c2 n d))=W3 at*
 clear HO HT
 have HO:=HO2
 have HT:=HT2
 clear HO2 HT2
 rw[rounds_succ]
 have ca:=HO.out.a.c7
 have cb:=HO.out.b.c7
 have ct:=HT.out.c4
 have ft:=HT.out.f4
 go_wp2_with fail
 refine wp_region_later_tail 12 (by kernel_rfl) (by kernel_rfl) ?_
 simp only[List.take_succ_cons,List.take_zero,List.drop_succ_cons,List.drop_zero]
 repeat(go_big_quiet_step ((first|(go_at_call 263;exact Calls.later _ (HM.out _ _ _ HA.out.c3 HB.out.c3 (HO.out.e.later _)))|fail)))
 refine wpQuiet_nil ?_
 intro y3
 go_wp2_with fail
 clear ca cb ct ft
 have HO3:=Lib.hid (HO.out.step y3 3 (.int .i64 (lmid a.c3 b.c3 n d)))
 have HT3:Hid (Blk (y3.w.setCell ⟨w.heap.size+1+1+1,3,none⟩ (.int .i64 (lmid a.c3 b.c3 n d))) (w.heap.size+1+1+1) 30 #[.int .i64 (lmid a.c0 b.c0 n d),.int .i64 (lmid a.c1 b.c1 n d),.int .i64 (lmid a.c2 b.c2 n d),.int .i64 (lmid a.c3 b.c3 n d)]):=Lib.hid ((HT.out.ext y3.ext).set_ 3 _)
 generalize y3.w.setCell ⟨w.heap.size+1+1+1,3,none⟩ (.int .i64 (lmid a.c3 b.c3 n d))=W4 at*
 clear HO HT
 have HO:=HO3
 have HT:=HT3
 clear HO3 HT3
 rw[rounds_succ]
 go_wp2_with fail
 have ca:=HO.out.a.c7
 have cb:=HO.out.b.c7
 have ct:=HT.out.c4
 have cr:=HO.out.r.c4
 have fr:=HO.out.r.f4
 refine wp_region_later_tail 8 (by kernel_rfl) (by kernel_rfl) ?_
 simp only[List.take_succ_cons,List.take_zero,List.drop_succ_cons,List.drop_zero]
 repeat(go_big_quiet_step ((first|(go_at_call 263;exact Calls.later _ (HM.out _ _ _ HA.out.z HB.out.z (HO.out.e.later _)))|fail)))
 refine wpQuiet_nil ?_
 intro z
 go_wp2_with fail
 clear ca cb ct cr fr
 have HZ:=Lib.hid ((HO.out.r.ext z.ext).s4 (.int .i64 (lmid a.c0 b.c0 n d)) (.int .i64 (lmid a.c1 b.c1 n d)) (.int .i64 (lmid a.c2 b.c2 n d)) (.int .i64 (lmid a.c3 b.c3 n d)))
 have HE:Hid (Ext w ((((z.w.setCell ⟨w.heap.size+1+1,0,none⟩ (.int .i64 (lmid a.c0 b.c0 n d))).setCell ⟨w.heap.size+1+1,1,none⟩ (.int .i64 (lmid a.c1 b.c1 n d))).setCell ⟨w.heap.size+1+1,2,none⟩ (.int .i64 (lmid a.c2 b.c2 n d))).setCell ⟨w.heap.size+1+1,3,none⟩ (.int .i64 (lmid a.c3 b.c3 n d)))):=
  Lib.hid (((((HO.out.e.trans z.ext).setCell _ (by simp;omega)).setCell _ (by simp;omega)).setCell _ (by simp;omega)).setCell _ (by simp;omega))
 generalize(((z.w.setCell ⟨w.heap.size+1+1,0,none⟩ (.int .i64 (lmid a.c0 b.c0 n d))).setCell ⟨w.heap.size+1+1,1,none⟩ (.int .i64 (lmid a.c1 b.c1 n d))).setCell ⟨w.heap.size+1+1,2,none⟩ (.int .i64 (lmid a.c2 b.c2 n d))).setCell ⟨w.heap.size+1+1,3,none⟩ (.int .i64 (lmid a.c3 b.c3 n d))=WF at*
 have cz:=HZ.out.c4
 go_wp2_with fail
 refine bodyPost_ret (results_tmp_cell rfl _ _ _ (ad:=⟨w.heap.size+1+1,0,none⟩) rfl (run_load_blk HZ.out 30 0 4 agg_color (by kernel_rfl) (by simp))) rfl ⟨rfl,HE.out⟩
end Go.Proofs.YtplljnfjkkloeaaGreatDoor
set_option linter.unusedVariables false
set_option linter.unusedSimpArgs false
namespace Go.Proofs.YtplljnfjkkloeaaGreatDoor
attribute [local go_sem] Go.Oper.semAt_some
open Go.RowKit
structure Da where
 bits:Int
 every:Int
 done:Int
@[reducible] def Da.v (d:Da):Value:=.agg #[.int .i64 d.bits,.int .i64 d.every,.int .i64 d.done]
structure Da.Ok (d:Da):Prop where
 b0:0≤d.bits
 b1:d.bits<65536
 e0:1≤d.every
 e1:d.every≤256
 d0:0≤d.done
 d1:d.done≤1099511627776
def Da.lit (d:Da) (n:Int):Bool:=(d.bits/2^(((d.done+n)/d.every)%16).toNat%2==1)
def Da.next (d:Da) (n:Int):Da:=⟨d.bits,d.every,(d.done+n)%(d.every*16)⟩
theorem bit_any (b i:Int) (w:World) (h0:0≤i) (b0:0≤b):Calls Tryz.prog 231 #[.int .i64 b,.int .i64 i] w fun e w'=>e=.returned (.bool (b/2^(i%16).toNat%2==1))∧w=w':=by
 go_enter Tryz.func231,Tryz.ntmps231
 go_wp2_with fail
 go_ret
 exact⟨rfl,rfl⟩
theorem dright_any (d:Da) (w:World) (h:d.Ok):Calls Tryz.prog 192 #[d.v] w fun e w'=>e=.returned (.bool true)∧Ext w w':=by
 obtain⟨b0,b1,e0,e1,d0,d1⟩:=h
 go_enter Tryz.func192,Tryz.ntmps192
 go_wp2_with fail
 go_ret
 exact⟨rfl,by(repeat(first|with_reducible(first|exact eR_ _|assumption|refine eA_ ?_ _|refine eD_ ?_|refine eN_ ?_ _|refine eL_ ?_ _)|(with_reducible refine eS_ ?_ _ ?hp;case hp=>first|(simp;done)|(simp;omega)|omega)))⟩
theorem dnext_any (d:Da) (n:Int) (w:World) (h:d.Ok) (n0:0≤n) (n1:n≤1099511627776):Calls Tryz.prog 183 #[d.v,.int .i64 n] w fun e w'=>e=.returned (d.next n).v∧Ext w w':=by
 obtain⟨b0,b1,e0,e1,d0,d1⟩:=h
 go_enter Tryz.func183,Tryz.ntmps183
 go_wp2_with fail
 refine bodyPost_ret (v:=(d.next n).v) (by simp[results,Tryz.results183,go_sem,Da.next]) rfl ⟨rfl,by(repeat(first|with_reducible(first|exact eR_ _|assumption|refine eA_ ?_ _|refine eD_ ?_|refine eN_ ?_ _|refine eL_ ?_ _)|(with_reducible refine eS_ ?_ _ ?hp;case hp=>first|(simp;done)|(simp;omega)|omega)))⟩
theorem lit_any (d:Da) (n:Int) (w:World) (h:d.Ok) (n0:0≤n) (n1:n≤1099511627776):Calls Tryz.prog 189 #[d.v,.int .i64 n] w fun e w'=>e=.returned (.bool (d.lit n))∧Ext w w':=by
 obtain⟨b0,b1,e0,e1,d0,d1⟩:=h
 have HBT:Hid (∀w',Calls Tryz.prog 231 #[.int .i64 d.bits,.int .i64 ((d.done+n)/d.every)] w' fun e w''=>e=.returned (.bool (d.lit n))∧Ext w' w''):=
  Lib.hid fun w'=>(bit_any d.bits ((d.done+n)/d.every) w' (Int.ediv_nonneg (by omega) (by omega)) b0).mono fun _ _ h=>⟨h.1,h.2▸Ext.refl _⟩
 have q1:0≤(d.done+n)/d.every:=Int.ediv_nonneg (by omega) (by omega)
 have q2:(d.done+n)/d.every≤d.done+n:=Int.ediv_le_self _ (by omega)
 have hz:d.every≠0:=by omega
 go_enter Tryz.func189,Tryz.ntmps189
 go_wp2_with fail
 refine wp_region_later (by kernel_rfl) (by kernel_rfl) ?_
 repeat(go_big_quiet_step ((first|(go_at_call 231;with_reducible exact Calls.later _ (HBT.out _))|fail)))
 refine wpQuiet_nil ?_
 intro y
 go_wp2_with fail
 go_ret
 exact⟨rfl,by(repeat(first|with_reducible(first|exact eR_ _|assumption|refine eA_ ?_ _|refine eD_ ?_|refine eN_ ?_ _|refine eL_ ?_ _)|(with_reducible refine eS_ ?_ _ ?hp;case hp=>first|(simp;done)|(simp;omega)|omega)))⟩
end Go.Proofs.YtplljnfjkkloeaaGreatDoor
