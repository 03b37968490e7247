/- Proof text: is a middle's pixel the line's? (rastrumref14.column). By an AI agent. No condition beyond what each theorem states. -/
import Derived.Test.YtplljnfjkkloeaaGreatDoorVC
set_option linter.unusedVariables false
set_option linter.unusedSimpArgs false
set_option maxHeartbeats 16000000
namespace Go.Proofs.YtplljnfjkkloeaaGreatDoor
attribute [local go_sem] Go.Oper.semAt_some
open Go.RowKit
def colB (ax ay bx by_ u c:Int):Prop:= ∃k,c-3≤k∧k≤c+3∧rExits ax ay bx by_ (if(wayOf ax ay bx by_).turned=true then k else u) (if(wayOf ax ay bx by_).turned=true then u else k)
set_option maxRecDepth 100000 in
theorem column_any (ax ay bx by_ u:Int) (w:World) (ha:Unit (ax,ay)) (hb:Unit (bx,by_)) (hne: ¬(ax=bx∧ay=by_)) (hu: -5000≤u∧u≤5000) (c q:Int)
  (hq:q=((256*u+128-(wayOf ax ay bx by_).au)*((wayOf ax ay bx by_).bv-(wayOf ax ay bx by_).av)).tdiv ((wayOf ax ay bx by_).bu-(wayOf ax ay bx by_).au))(hat: -1100000≤(wayOf ax ay bx by_).av+q∧(wayOf ax ay bx by_).av+q≤1100000)(hc:c=((wayOf ax ay bx by_).av+q).tdiv 256):
  Calls Tryz.prog 50 #[.agg (ptR ax ay),.agg (ptR bx by_),.int .i64 u] w fun e w'=> ∃X Y b,e=.returned (.tuple #[.int .i64 X,.int .i64 Y,.bool b])∧(b=true↔colB ax ay bx by_ u c)∧Ext w w':=by
 obtain⟨A,hA⟩: ∃P,P=w.heap.size:=⟨_,rfl⟩
 obtain⟨B,hB⟩: ∃P,P=A+1:=⟨_,rfl⟩
 have BA:Hid (Blk ((w.alloc (.cells (ptR ax ay) 79)).alloc (.cells (ptR bx by_) 79)) A 79 (ptR ax ay)):=Lib.hid (by rw[hA];exact(Blk.new _ _ _).alloc _)
 have BB:Hid (Blk ((w.alloc (.cells (ptR ax ay) 79)).alloc (.cells (ptR bx by_) 79)) B 79 (ptR bx by_)):=Lib.hid (by
  have:=Blk.new (w.alloc (.cells (ptR ax ay) 79)) 79 (ptR bx by_)
  rw[World.size_alloc,←hA,←hB]at this
  exact this)
 have HE:Hid (Ext w ((w.alloc (.cells (ptR ax ay) 79)).alloc (.cells (ptR bx by_) 79))):=Lib.hid (((Ext.refl w).alloc _).alloc _)
 have HWD:Hid (∀wz,Calls Tryz.prog 48 #[.agg (ptR ax ay),.agg (ptR bx by_)] wz fun e w'=>e=.returned (.bool (!(wayOf ax ay bx by_).turned))∧Ext wz w'):=Lib.hid (fun wz=>wide_any ax ay bx by_ wz ha hb)
 have HEX:Hid (∀x y wz, -5000≤x∧x≤5000→ -5000≤y∧y≤5000→Calls Tryz.prog 24 #[.agg (ptR ax ay),.agg (ptR bx by_),.int .i64 x,.int .i64 y] wz fun e w'=>e=.returned (.bool (decide (rExits ax ay bx by_ x y)))∧Ext wz w'):=Lib.hid (fun x y wz hx hy=>exits_any ax ay bx by_ x y wz ha hb hx hy)
 have hc1:=tdiv_256 ((wayOf ax ay bx by_).av+q)
 rw[←hc]at hc1
 have HC:Hid (-4400≤c∧c≤4400):=Lib.hid (by omega)
 have hbig:0<max (bx-ax) (-(bx-ax))∨0<max (by_-ay) (-(by_-ay)):=by omega
 unfold Unit at ha hb
 simp only at ha hb
 have HU:=Lib.hid hu
 unfold colB
 by_cases hT:max (bx-ax) (-(bx-ax))<max (by_-ay) (-(by_-ay))
 ·have hW:wayOf ax ay bx by_=⟨ay,ax,by_,bx,true,1⟩:=by unfold wayOf;rw[if_pos hT]
  rw[hW]at hq hat hc HWD
  simp only[hW,if_true]
  simp only[Bool.not_true,Bool.not_false]at HWD hq hat hc
  obtain⟨X,hX⟩: ∃X,X=bx-ax:=⟨_,rfl⟩
  obtain⟨Y,hY⟩: ∃Y,Y=by_-ay:=⟨_,rfl⟩
  have e1:Hid (wrap64 (bx-ax)=X∧wrap64 (by_-ay)=Y):=Lib.hid ⟨by rw[←hX];exact wrap64_of (by omega) (by omega),by rw[←hY];exact wrap64_of (by omega) (by omega)⟩
  have hnz:Y≠0:=by omega
  have hbX:(-2097152≤X∧X≤2097152)∧(-2097152≤Y∧Y≤2097152):=by omega
  rw[←hX,←hY]at hq
  obtain⟨m,hm⟩: ∃m,m=256*u+128-ay:=⟨_,rfl⟩
  rw[←hm]at hq
  have hbm: -2400000≤m∧m≤2400000:=by omega
  have bo:inMost (m*X) (2400000*2097152):=mul_bound ⟨by omega,by omega⟩ ⟨by omega,by omega⟩ (by omega) (by omega)
  unfold inMost at bo
  have f1:Hid (wrap64 (256*u)=256*u∧wrap64 (256*u+128)=256*u+128∧wrap64 (256*u+128-ay)=m):=Lib.hid ⟨wrap64_of (by omega) (by omega),wrap64_of (by omega) (by omega),by rw[←hm];exact wrap64_of (by omega) (by omega)⟩
  obtain⟨p,hp⟩: ∃p,p=m*X:=⟨_,rfl⟩
  rw[←hp]at hq bo
  have f2:Hid (wrap64 (m*X)=p):=Lib.hid (by rw[←hp];exact wrap64_of (by omega) (by omega))
  have f3:Hid (wrap64 q=q∧wrap64 (p.tdiv Y)=q∧p.tdiv Y=q):=Lib.hid (by
   have:wrap64 q=q:=wrap64_of (by omega) (by omega)
   exact⟨this,by rw[←hq];exact this,hq.symm⟩)
  obtain⟨t,ht⟩: ∃t,t=ax+q:=⟨_,rfl⟩
  rw[←ht]at hat hc
  have f4:Hid (wrap64 (ax+q)=t):=Lib.hid (by rw[←ht];exact wrap64_of (by omega) (by omega))
  have f5:Hid (t.tdiv 256=c∧wrap64 c=c∧wrap64 (c-3)=c-3∧wrap64 (c+3)=c+3):=Lib.hid (by have:=HC.out;exact⟨hc.symm,wrap64_of (by omega) (by omega),wrap64_of (by omega) (by omega),wrap64_of (by omega) (by omega)⟩)
  clear hX hY hbX hq hm hbm bo hp hat ht hc hc1 hbig ha hb hT hu hW hne
  go_enter Tryz.func50,Tryz.ntmps50
  go_upto_region 1 with fail
  simp only[←hA,←hB]
  clear hA hB
  generalize((w.alloc (.cells (ptR ax ay) 79)).alloc (.cells (ptR bx by_) 79))=W0 at*
  obtain⟨a0,a1⟩:=BA.out.c2
  obtain⟨b0,b1⟩:=BB.out.c2
  go_quiet (fail)
  obtain⟨g1,g2⟩:=e1.out
  simp only[g1,g2]
  clear g1 g2 a0 a1 b0 b1 e1
  obtain⟨a0,a1⟩:=(BA.out.drewN nq).c2
  obtain⟨b0,b1⟩:=(BB.out.drewN nq).c2
  go_wp2_with fail
  refine(HWD.out _).mono ?_
  rintro e w1 ⟨rfl,hE⟩
  have HE1:Hid (Ext W0 w1):=Lib.hid (Ext.trans (by(repeat(first|with_reducible(first|exact eR_ _|assumption|refine eA_ ?_ _|refine eD_ ?_|refine eN_ ?_ _|refine eL_ ?_ _)|(with_reducible refine eS_ ?_ _ ?hp;case hp=>first|(simp;done)|(simp;omega)|omega)))) hE)
  clear hE a0 a1 b0 b1
  obtain⟨a0,a1⟩:=(BA.out.ext HE1.out).c2
  obtain⟨b0,b1⟩:=(BB.out.ext HE1.out).c2
  have d0:(Y==0)=false:=by simpa using hnz
  have dn: ∀z:Int,(z==0)=false→(z !=0)=true:=fun z h=>by unfold bne;rw[h];rfl
  have dn:=dn _ d0
  go_upto_region 12 with fail
  go_quiet (fail)
  obtain⟨g1,g2,g3⟩:=f1.out
  obtain⟨g5,g6,g7⟩:=f3.out
  have g4:=f2.out
  have g8:=f4.out
  obtain⟨k1,k2,k3,k4⟩:=f5.out
  simp only[g1,g2,g3,g4,g5,g6,g7,g8]
  clear a0 a1 b0 b1 g1 g2 g3 g4 g5 g6 g7 g8 f1 f2 f3 f4 d0 hnz
  go_wp2_with fail
  simp only[k1,k2,k3]
  try simp only[dn]
  clear dn
  go_loopw [14] (fun i wr=> ∃m:Int,i=.int .i64 m∧Hid (Ext W0 wr∧(c-3≤m∧m≤c+4)∧ ∀k,c-3≤k→k<m→ ¬rExits ax ay bx by_ k u)) (fun i _=>(c+4-intOf i).toNat)
  case atStart=>exact⟨_,rfl,Lib.hid ⟨Ext.trans HE1.out (by(repeat(first|with_reducible(first|exact eR_ _|assumption|refine eA_ ?_ _|refine eD_ ?_|refine eN_ ?_ _|refine eL_ ?_ _)|(with_reducible refine eS_ ?_ _ ?hp;case hp=>first|(simp;done)|(simp;omega)|omega)))),⟨by omega,by omega⟩,fun k h1 h2=>absurd h2 (by omega)⟩⟩
  case round=>
   obtain⟨m,rfl,HX⟩:=hrel
   obtain⟨W1,rfl⟩: ∃W1:World,W1=wr:=⟨_,rfl⟩
   obtain⟨a0,a1⟩:=(BA.out.ext HX.out.1).c2
   obtain⟨b0,b1⟩:=(BB.out.ext HX.out.1).c2
   have hm:=HX.out.2.1
   have hc:=HC.out
   by_cases hlt:m≤c+3
   ·have d1:decide (m≤c+3)=true:=by simpa using hlt
    have HM:Hid ((-5000≤m∧m≤5000)∧c-3≤m∧m≤c+3):=Lib.hid (by omega)
    have m1:wrap64 (m+1)=m+1:=wrap64_of (by omega) (by omega)
    have HCE:=Lib.hid (HEX.out m u W1 HM.out.1 HU.out)
    obtain⟨D,hD⟩: ∃D,D=decide (rExits ax ay bx by_ m u):=⟨_,rfl⟩
    rw[←hD]at HCE
    have HDD:=Lib.hid hD
    clear hD hm hc hlt
    go_wp2_with fail
    refine HCE.out.mono ?_
    rintro e w2 ⟨rfl,hE⟩
    have HE2:=Lib.hid (HX.out.1.trans hE)
    clear hE a0 a1 b0 b1
    cases D
    ·have HNO:Hid (∀k,c-3≤k→k<m+1→ ¬rExits ax ay bx by_ k u):=Lib.hid (fun k h1 h2=>by
      rcases(by omega:k<m∨k=m)with h3|rfl
      ·exact HX.out.2.2 k h1 h3
      ·exact of_decide_eq_false HDD.out.symm)
     have HM2:Hid (c-3≤m+1∧m+1≤c+4):=Lib.hid (by have:=HM.out.2;omega)
     go_wp2_with fail
     simp only[m1]
     go_roundw
     case rel=>first|exact⟨m+1,rfl,Lib.hid ⟨HE2.out,HM2.out,HNO.out⟩⟩|((repeat apply Exists.intro);exact⟨⟨m+1,rfl,Lib.hid ⟨HE2.out,HM2.out,HNO.out⟩⟩,rfl⟩)
     case measure=>have:=HM2.out;simp[intOf];omega
    ·go_wp2_with fail
     exact bodyPost_ret (v:=.tuple #[.int .i64 m,.int .i64 u,.bool true]) (by simp[results,Tryz.results50,go_sem]) rfl ⟨_,_,_,rfl,⟨fun _=>⟨m,HM.out.2.1,HM.out.2.2,of_decide_eq_true HDD.out.symm⟩,fun _=>rfl⟩,HE.out.trans HE2.out⟩
   ·have d1:decide (m≤c+3)=false:=by simpa using hlt
    have HNO:Hid (¬ ∃k,c-3≤k∧k≤c+3∧rExits ax ay bx by_ k u):=Lib.hid (by rintro⟨k,h1,h2,h3⟩;exact HX.out.2.2 k h1 (by omega) h3)
    clear hm hc hlt
    go_wp2_with fail
    exact bodyPost_ret (v:=.tuple #[.int .i64 0,.int .i64 0,.bool false]) (by simp[results,Tryz.results50,go_sem]) rfl ⟨_,_,_,rfl,⟨fun h=>(by cases h),fun h=>absurd h HNO.out⟩,HE.out.trans HX.out.1⟩
 ·obtain⟨tb,hW⟩: ∃tb,wayOf ax ay bx by_=⟨ax,ay,bx,by_,false,tb⟩:=by unfold wayOf;rw[if_neg hT];exact⟨_,rfl⟩
  rw[hW]at hq hat hc HWD
  simp only[hW,if_false,Bool.false_eq_true]
  simp only[Bool.not_true,Bool.not_false]at HWD hq hat hc
  obtain⟨X,hX⟩: ∃X,X=bx-ax:=⟨_,rfl⟩
  obtain⟨Y,hY⟩: ∃Y,Y=by_-ay:=⟨_,rfl⟩
  have e1:Hid (wrap64 (bx-ax)=X∧wrap64 (by_-ay)=Y):=Lib.hid ⟨by rw[←hX];exact wrap64_of (by omega) (by omega),by rw[←hY];exact wrap64_of (by omega) (by omega)⟩
  have hnz:X≠0:=by omega
  have hbX:(-2097152≤X∧X≤2097152)∧(-2097152≤Y∧Y≤2097152):=by omega
  rw[←hX,←hY]at hq
  obtain⟨m,hm⟩: ∃m,m=256*u+128-ax:=⟨_,rfl⟩
  rw[←hm]at hq
  have hbm: -2400000≤m∧m≤2400000:=by omega
  have bo:inMost (m*Y) (2400000*2097152):=mul_bound ⟨by omega,by omega⟩ ⟨by omega,by omega⟩ (by omega) (by omega)
  unfold inMost at bo
  have f1:Hid (wrap64 (256*u)=256*u∧wrap64 (256*u+128)=256*u+128∧wrap64 (256*u+128-ax)=m):=Lib.hid ⟨wrap64_of (by omega) (by omega),wrap64_of (by omega) (by omega),by rw[←hm];exact wrap64_of (by omega) (by omega)⟩
  obtain⟨p,hp⟩: ∃p,p=m*Y:=⟨_,rfl⟩
  rw[←hp]at hq bo
  have f2:Hid (wrap64 (m*Y)=p):=Lib.hid (by rw[←hp];exact wrap64_of (by omega) (by omega))
  have f3:Hid (wrap64 q=q∧wrap64 (p.tdiv X)=q∧p.tdiv X=q):=Lib.hid (by
   have:wrap64 q=q:=wrap64_of (by omega) (by omega)
   exact⟨this,by rw[←hq];exact this,hq.symm⟩)
  obtain⟨t,ht⟩: ∃t,t=ay+q:=⟨_,rfl⟩
  rw[←ht]at hat hc
  have f4:Hid (wrap64 (ay+q)=t):=Lib.hid (by rw[←ht];exact wrap64_of (by omega) (by omega))
  have f5:Hid (t.tdiv 256=c∧wrap64 c=c∧wrap64 (c-3)=c-3∧wrap64 (c+3)=c+3):=Lib.hid (by have:=HC.out;exact⟨hc.symm,wrap64_of (by omega) (by omega),wrap64_of (by omega) (by omega),wrap64_of (by omega) (by omega)⟩)
  clear hX hY hbX hq hm hbm bo hp hat ht hc hc1 hbig ha hb hT hu hW hne
  go_enter Tryz.func50,Tryz.ntmps50
  go_upto_region 1 with fail
  simp only[←hA,←hB]
  clear hA hB
  generalize((w.alloc (.cells (ptR ax ay) 79)).alloc (.cells (ptR bx by_) 79))=W0 at*
  obtain⟨a0,a1⟩:=BA.out.c2
  obtain⟨b0,b1⟩:=BB.out.c2
  go_quiet (fail)
  obtain⟨g1,g2⟩:=e1.out
  simp only[g1,g2]
  clear g1 g2 a0 a1 b0 b1 e1
  obtain⟨a0,a1⟩:=(BA.out.drewN nq).c2
  obtain⟨b0,b1⟩:=(BB.out.drewN nq).c2
  go_wp2_with fail
  refine(HWD.out _).mono ?_
  rintro e w1 ⟨rfl,hE⟩
  have HE1:Hid (Ext W0 w1):=Lib.hid (Ext.trans (by(repeat(first|with_reducible(first|exact eR_ _|assumption|refine eA_ ?_ _|refine eD_ ?_|refine eN_ ?_ _|refine eL_ ?_ _)|(with_reducible refine eS_ ?_ _ ?hp;case hp=>first|(simp;done)|(simp;omega)|omega)))) hE)
  clear hE a0 a1 b0 b1
  obtain⟨a0,a1⟩:=(BA.out.ext HE1.out).c2
  obtain⟨b0,b1⟩:=(BB.out.ext HE1.out).c2
  have d0:(X==0)=false:=by simpa using hnz
  have dn: ∀z:Int,(z==0)=false→(z !=0)=true:=fun z h=>by unfold bne;rw[h];rfl
  have dn:=dn _ d0
  go_upto_region 5 with fail
  go_quiet (fail)
  obtain⟨g1,g2,g3⟩:=f1.out
  obtain⟨g5,g6,g7⟩:=f3.out
  have g4:=f2.out
  have g8:=f4.out
  obtain⟨k1,k2,k3,k4⟩:=f5.out
  simp only[g1,g2,g3,g4,g5,g6,g7,g8]
  clear a0 a1 b0 b1 g1 g2 g3 g4 g5 g6 g7 g8 f1 f2 f3 f4 d0 hnz
  go_wp2_with fail
  simp only[k1,k2,k3]
  try simp only[dn]
  clear dn
  go_loopw [12] (fun i wr=> ∃m:Int,i=.int .i64 m∧Hid (Ext W0 wr∧(c-3≤m∧m≤c+4)∧ ∀k,c-3≤k→k<m→ ¬rExits ax ay bx by_ u k)) (fun i _=>(c+4-intOf i).toNat)
  case atStart=>exact⟨_,rfl,Lib.hid ⟨Ext.trans HE1.out (by(repeat(first|with_reducible(first|exact eR_ _|assumption|refine eA_ ?_ _|refine eD_ ?_|refine eN_ ?_ _|refine eL_ ?_ _)|(with_reducible refine eS_ ?_ _ ?hp;case hp=>first|(simp;done)|(simp;omega)|omega)))),⟨by omega,by omega⟩,fun k h1 h2=>absurd h2 (by omega)⟩⟩
  case round=>
   obtain⟨m,rfl,HX⟩:=hrel
   obtain⟨W1,rfl⟩: ∃W1:World,W1=wr:=⟨_,rfl⟩
   obtain⟨a0,a1⟩:=(BA.out.ext HX.out.1).c2
   obtain⟨b0,b1⟩:=(BB.out.ext HX.out.1).c2
   have hm:=HX.out.2.1
   have hc:=HC.out
   by_cases hlt:m≤c+3
   ·have d1:decide (m≤c+3)=true:=by simpa using hlt
    have HM:Hid ((-5000≤m∧m≤5000)∧c-3≤m∧m≤c+3):=Lib.hid (by omega)
    have m1:wrap64 (m+1)=m+1:=wrap64_of (by omega) (by omega)
    have HCE:=Lib.hid (HEX.out u m W1 HU.out HM.out.1)
    obtain⟨D,hD⟩: ∃D,D=decide (rExits ax ay bx by_ u m):=⟨_,rfl⟩
    rw[←hD]at HCE
    have HDD:=Lib.hid hD
    clear hD hm hc hlt
    go_wp2_with fail
    refine HCE.out.mono ?_
    rintro e w2 ⟨rfl,hE⟩
    have HE2:=Lib.hid (HX.out.1.trans hE)
    clear hE a0 a1 b0 b1
    cases D
    ·have HNO:Hid (∀k,c-3≤k→k<m+1→ ¬rExits ax ay bx by_ u k):=Lib.hid (fun k h1 h2=>by
      rcases(by omega:k<m∨k=m)with h3|rfl
      ·exact HX.out.2.2 k h1 h3
      ·exact of_decide_eq_false HDD.out.symm)
     have HM2:Hid (c-3≤m+1∧m+1≤c+4):=Lib.hid (by have:=HM.out.2;omega)
     go_wp2_with fail
     simp only[m1]
     go_roundw
     case rel=>first|exact⟨m+1,rfl,Lib.hid ⟨HE2.out,HM2.out,HNO.out⟩⟩|((repeat apply Exists.intro);exact⟨⟨m+1,rfl,Lib.hid ⟨HE2.out,HM2.out,HNO.out⟩⟩,rfl⟩)
     case measure=>have:=HM2.out;simp[intOf];omega
    ·go_wp2_with fail
     exact bodyPost_ret (v:=.tuple #[.int .i64 u,.int .i64 m,.bool true]) (by simp[results,Tryz.results50,go_sem]) rfl ⟨_,_,_,rfl,⟨fun _=>⟨m,HM.out.2.1,HM.out.2.2,of_decide_eq_true HDD.out.symm⟩,fun _=>rfl⟩,HE.out.trans HE2.out⟩
   ·have d1:decide (m≤c+3)=false:=by simpa using hlt
    have HNO:Hid (¬ ∃k,c-3≤k∧k≤c+3∧rExits ax ay bx by_ u k):=Lib.hid (by rintro⟨k,h1,h2,h3⟩;exact HX.out.2.2 k h1 (by omega) h3)
    clear hm hc hlt
    go_wp2_with fail
    exact bodyPost_ret (v:=.tuple #[.int .i64 0,.int .i64 0,.bool false]) (by simp[results,Tryz.results50,go_sem]) rfl ⟨_,_,_,rfl,⟨fun h=>(by cases h),fun h=>absurd h HNO.out⟩,HE.out.trans HX.out.1⟩
end Go.Proofs.YtplljnfjkkloeaaGreatDoor
set_option linter.unusedVariables false
set_option linter.unusedSimpArgs false
namespace Go.Proofs.YtplljnfjkkloeaaGreatDoor
attribute [local go_sem] Go.Oper.semAt_some
open Go.RowKit
theorem dIn_of {ax ay:Int} (h:inB ax ay=true):dIn ax ay=some (inX ax ay,inY ax ay):=by
 unfold inB at h
 unfold inX inY
 cases hd:dIn ax ay with
 |none=>rw[hd]at h;cases h
 |some p=>rfl
theorem of_extra {ax ay bx by_:Int} (hne: ¬(ax=bx∧ay=by_)):ofE ax ay bx by_=(wayOf ax ay bx by_).extra:=by
 rw[Bool.eq_iff_iff,extra_exits hne _ rfl]
 unfold ofE ofB ofC
 simp only[Bool.and_eq_true,Bool.not_eq_true',decide_eq_true_eq,Bool.and_eq_false_iff,decide_eq_false_iff_not,beq_eq_false_iff_ne,ne_eq]
 constructor
 ·rintro⟨⟨⟨h1,h2⟩,h3⟩,h4⟩
  refine⟨_,_,dIn_of h1,h3,?_⟩
  rw[crossed_lst]
  unfold ofU at h4
  omega
 ·rintro⟨x,y,h1,h2,h3⟩
  obtain⟨e1,e2,e3⟩:=in_some ((dIn_rIn ax ay x y).1 h1)
  rw[crossed_lst]at h3
  unfold ofU
  rw[e1,e2,e3]
  refine⟨⟨⟨rfl,?_⟩,h2⟩,?_⟩
  ·by_cases h:ax=bx
   ·exact .inr (fun k=>hne ⟨h,k⟩)
   ·exact .inl h
  ·omega
theorem tdiv_among {m D v:Int} (hD:0<D) (h0:0≤m) (h1:m≤D):min 0 v≤(m*v).tdiv D∧(m*v).tdiv D≤max 0 v:=by
 have key: ∀v:Int,0≤v→0≤(m*v).tdiv D∧(m*v).tdiv D≤v:=fun v hv=>by
  have a0:0≤m*v:=Int.mul_nonneg h0 hv
  have a1:m*v≤D*v:=Int.mul_le_mul_of_nonneg_right h1 hv
  rw[Int.tdiv_eq_ediv_of_nonneg a0]
  refine⟨Int.ediv_nonneg a0 (by omega),?_⟩
  have:=Int.ediv_le_ediv hD a1
  rw[Int.mul_ediv_cancel_left v (by omega)]at this
  exact this
 rcases Int.le_total 0 v with hv|hv
 ·have:=key v hv
  omega
 ·have h:=key (-v) (by omega)
  rw[Int.mul_neg,Int.neg_tdiv]at h
  omega
theorem way_among {W:Way} {u q:Int} (hc:W.crossed u) (hq:q=((256*u+128-W.au)*(W.bv-W.av)).tdiv (W.bu-W.au)):min W.av W.bv≤W.av+q∧W.av+q≤max W.av W.bv:=by
 unfold Way.crossed at hc
 have h:min 0 (W.bv-W.av)≤q∧q≤max 0 (W.bv-W.av):=by
  rw[hq]
  rcases Int.le_total W.au W.bu with h|h
  ·exact tdiv_among (by omega) (by omega) (by omega)
  ·have e:((256*u+128-W.au)*(W.bv-W.av)).tdiv (W.bu-W.au)=((W.au-(256*u+128))*(W.bv-W.av)).tdiv (W.au-W.bu):=by
    rw[show W.au-(256*u+128)= -(256*u+128-W.au) by omega,show W.au-W.bu= -(W.bu-W.au) by omega,Int.neg_mul,Int.neg_tdiv,Int.tdiv_neg,Int.neg_neg]
   rw[e]
   exact tdiv_among (by omega) (by omega) (by omega)
 omega
def lastU (ax ay bx by_:Int):Int:=if lst (wayOf ax ay bx by_).bu<lst (wayOf ax ay bx by_).au then lst (wayOf ax ay bx by_).bu else lst (wayOf ax ay bx by_).bu-1
theorem way_unit {ax ay bx by_:Int} (ha:Unit (ax,ay)) (hb:Unit (bx,by_)):((-1048576≤(wayOf ax ay bx by_).au∧(wayOf ax ay bx by_).au≤1048576)∧(-1048576≤(wayOf ax ay bx by_).av∧(wayOf ax ay bx by_).av≤1048576))∧((-1048576≤(wayOf ax ay bx by_).bu∧(wayOf ax ay bx by_).bu≤1048576)∧(-1048576≤(wayOf ax ay bx by_).bv∧(wayOf ax ay bx by_).bv≤1048576)):=by
 unfold Unit at ha hb
 unfold wayOf
 split <;>exact⟨by simp only at *;omega,by simp only at *;omega⟩
theorem column_last (ax ay bx by_:Int) (w:World) (ha:Unit (ax,ay)) (hb:Unit (bx,by_)) (hne: ¬(ax=bx∧ay=by_)) (hs:0<(wayOf ax ay bx by_).size):
  Calls Tryz.prog 50 #[.agg (ptR ax ay),.agg (ptR bx by_),.int .i64 (lastU ax ay bx by_)] w fun e w'=> ∃X Y,e=.returned (.tuple #[.int .i64 X,.int .i64 Y,.bool (!(wayOf ax ay bx by_).open_)])∧Ext w w':=by
 obtain⟨W,hW⟩: ∃W,W=wayOf ax ay bx by_:=⟨_,rfl⟩
 have hok:=wayOf_ok hne
 rw[←hW]at hok
 have hu:=way_unit ha hb
 rw[←hW]at hu hs
 have hl:lastU ax ay bx by_=W.last-W.step:=by unfold lastU;rw[←hW,last_lst W hs]
 have hcr:=last_crossed W hs
 have hcr':=hcr
 rw[crossed_lst]at hcr'
 have b1:=lst_in hu.1.1.1 hu.1.1.2
 have b2:=lst_in hu.2.1.1 hu.2.1.2
 obtain⟨q,hq⟩: ∃q,q=((256*(W.last-W.step)+128-W.au)*(W.bv-W.av)).tdiv (W.bu-W.au):=⟨_,rfl⟩
 have hat:=way_among hcr hq
 have hn:=across_near hok _ q hq
 have h:=column_any ax ay bx by_ (W.last-W.step) w ha hb hne (by omega) ((W.av+q).tdiv 256) q (by rw[←hW];exact hq) (by rw[←hW];omega) (by rw[←hW])
 rw[hl]
 refine h.mono ?_
 rintro e w' ⟨X,Y,b,rfl,hb',hE⟩
 refine⟨X,Y,?_,hE⟩
 have ho:=col_open hne W hW.symm hs ((W.av+q).tdiv 256) hn
 unfold colB at hb'
 rw[←hW]at hb'
 rw[ho]at hb'
 have:b=!W.open_:=by
  cases b <;>cases hO:W.open_ <;>simp_all
 rw[this,hW]
set_option maxRecDepth 100000 in
theorem rcount_any (ax ay bx by_:Int) (w:World) (ha:Unit (ax,ay)) (hb:Unit (bx,by_)):Calls Tryz.prog 28 #[.agg (ptR ax ay),.agg (ptR bx by_)] w fun e w'=>e=.returned (.int .i64 ((lpix ax ay bx by_).length:Int))∧Ext w w':=by
 obtain⟨A,hA⟩: ∃P,P=w.heap.size:=⟨_,rfl⟩
 obtain⟨B,hB⟩: ∃P,P=A+1:=⟨_,rfl⟩
 have BA:Hid (Blk ((w.alloc (.cells (ptR ax ay) 79)).alloc (.cells (ptR bx by_) 79)) A 79 (ptR ax ay)):=Lib.hid (by rw[hA];exact(Blk.new _ _ _).alloc _)
 have BB:Hid (Blk ((w.alloc (.cells (ptR ax ay) 79)).alloc (.cells (ptR bx by_) 79)) B 79 (ptR bx by_)):=Lib.hid (by
  have:=Blk.new (w.alloc (.cells (ptR ax ay) 79)) 79 (ptR bx by_)
  rw[World.size_alloc,←hA,←hB]at this
  exact this)
 have HE:Hid (Ext w ((w.alloc (.cells (ptR ax ay) 79)).alloc (.cells (ptR bx by_) 79))):=Lib.hid (((Ext.refl w).alloc _).alloc _)
 have he: ∀W',(Op.equalIn 10000 79 (.agg #[.int .i64 ax,.int .i64 ay]) (.agg #[.int .i64 bx,.int .i64 by_])).run Tryz.prog W'=.ok (ax==bx&&ay==by_) W':=fun W'=>eq_pt ax ay bx by_ W'
 obtain⟨r,hr⟩: ∃r:Int,r=((lpix ax ay bx by_).length:Int):=⟨_,rfl⟩
 rw[←hr]
 by_cases hne:ax=bx∧ay=by_
 ·have d0:(ax==bx&&ay==by_)=true:=by simpa using hne
  have HR:Hid (r=0):=Lib.hid (by rw[hr];unfold lpix;rw[if_pos hne];rfl)
  rw[d0]at he
  clear hr hne ha hb d0
  go_enter Tryz.func28,Tryz.ntmps28
  go_upto_region 1 with fail
  simp only[←hA,←hB]
  clear hA hB
  generalize((w.alloc (.cells (ptR ax ay) 79)).alloc (.cells (ptR bx by_) 79))=W0 at*
  obtain⟨a0,a1⟩:=BA.out.c2
  obtain⟨b0,b1⟩:=BB.out.c2
  go_wp2_with fail
  go_ret
  exact⟨by rw[HR.out];rfl,HE.out⟩
 have d0:(ax==bx&&ay==by_)=false:=by
  rw[Bool.and_eq_false_iff]
  by_cases h:ax=bx
  ·exact .inr (by simpa using fun k=>hne ⟨h,k⟩)
  ·exact .inl (by simpa using h)
 have HOF:Hid (∀wz,Calls Tryz.prog 47 #[.agg (ptR ax ay),.agg (ptR bx by_)] wz fun e w'=>e=.returned (.agg (ofR ax ay bx by_))∧Ext wz w'):=Lib.hid (fun wz=>rof_any ax ay bx by_ wz ha hb)
 have HCO:Hid (0<(wayOf ax ay bx by_).size→ ∀wz,Calls Tryz.prog 50 #[.agg (ptR ax ay),.agg (ptR bx by_),.int .i64 (lastU ax ay bx by_)] wz fun e w'=> ∃X Y,e=.returned (.tuple #[.int .i64 X,.int .i64 Y,.bool (!(wayOf ax ay bx by_).open_)])∧Ext wz w'):=Lib.hid (fun h wz=>column_last ax ay bx by_ wz ha hb hne h)
 have hlen:=lpix_length hne _ rfl
 have hsz:=size_lst (wayOf ax ay bx by_)
 have hop:(wayOf ax ay bx by_).open_=true→0<(wayOf ax ay bx by_).size:=fun h=>((wayOf ax ay bx by_).open_is.1 h).1
 have hu:=way_unit ha hb
 have b1:=lst_in hu.1.1.1 hu.1.1.2
 have b2:=lst_in hu.2.1.1 hu.2.1.2
 unfold ofR at HOF
 rw[of_extra hne]at HOF
 unfold lastU at HCO
 rw[←hr]at hlen
 rw[d0]at he
 clear hr ha hb d0 hu hne
 generalize(wayOf ax ay bx by_).extra=E1 at*
 generalize(wayOf ax ay bx by_).open_=O1 at*
 generalize(wayOf ax ay bx by_).size=S1 at*
 generalize lst (wayOf ax ay bx by_).au=F at*
 generalize lst (wayOf ax ay bx by_).bu=G at*
 generalize(if ofB ax ay bx by_=true then inX ax ay else 0)=X0 at*
 generalize(if ofB ax ay bx by_=true then inY ax ay else 0)=Y0 at*
 obtain⟨S,hS⟩: ∃S,S=max F G-min F G:=⟨_,rfl⟩
 rw[←hS]at hlen hsz
 have e1:wrap64 (max F G-min F G)=S:=by rw[←hS];exact wrap64_of (by omega) (by omega)
 have e2:wrap64 (G-1)=G-1:=wrap64_of (by omega) (by omega)
 have e3:wrap64 (S-1)=S-1:=wrap64_of (by omega) (by omega)
 have e4:wrap64 (S-1+1)=S-1+1:=wrap64_of (by omega) (by omega)
 have e6:wrap64 S=S:=wrap64_of (by omega) (by omega)
 have e5:wrap64 (S+1)=S+1:=wrap64_of (by omega) (by omega)
 have HLEN:=Lib.hid (And.intro hlen (And.intro hsz hop))
 clear hlen hsz hop hS b1 b2
 go_enter Tryz.func28,Tryz.ntmps28
 go_upto_region 1 with fail
 simp only[←hA,←hB]
 clear hA hB
 generalize((w.alloc (.cells (ptR ax ay) 79)).alloc (.cells (ptR bx by_) 79))=W0 at*
 obtain⟨a0,a1⟩:=BA.out.c2
 obtain⟨b0,b1⟩:=BB.out.c2
 go_wp2_with fail
 refine(HOF.out _).mono ?_
 rintro e w1 ⟨rfl,hE⟩
 have HE1:=Lib.hid hE
 clear hE a0 a1 b0 b1
 go_upto_region 4 with fail
 have HL:Hid (Blk (w1.alloc (.cells #[.int .i64 F,.int .i64 G,.int .i64 X0,.int .i64 Y0,.bool E1] 123)) w1.heap.size 123 (liC F G X0 Y0 E1)):=Lib.hid (Blk.new _ _ _)
 have HE2:Hid (Ext W0 (w1.alloc (.cells #[.int .i64 F,.int .i64 G,.int .i64 X0,.int .i64 Y0,.bool E1] 123))):=Lib.hid (HE1.out.alloc _)
 generalize(w1.alloc (.cells #[.int .i64 F,.int .i64 G,.int .i64 X0,.int .i64 Y0,.bool E1] 123))=W1 at*
 generalize w1.heap.size=P at*
 clear HE1
 obtain⟨a0,a1⟩:=(BA.out.ext HE2.out).c2
 obtain⟨b0,b1⟩:=(BB.out.ext HE2.out).c2
 obtain⟨l0,l1,l2,l3,l4⟩:=HL.out.c5
 go_upto_region 5 with fail
 try simp only[e1]
 by_cases hs:0<S
 ·have d1:decide (S>0)=true:=by simpa using hs
  have HCO2:=Lib.hid (HCO.out (by have:=HLEN.out.2.1;omega))
  clear HCO hs
  by_cases hg:G<F
  ·have d2:decide (G<F)=true:=by simpa using hg
   rw[if_pos hg]at HCO2
   clear hg
   go_wp2_with fail
   refine(HCO2.out _).mono ?_
   rintro e w2 ⟨X,Y,rfl,hE⟩
   have HE3:=Lib.hid (HE2.out.trans hE)
   have HL3:=Lib.hid (HL.out.ext hE)
   clear hE a0 a1 b0 b1 l0 l1 l2 l3 l4
   obtain⟨l0,l1,l2,l3,l4⟩:=HL3.out.c5
   cases O1 <;>cases E1
   ·have HRV:Hid (r=S):=Lib.hid (by have:=HLEN.out.1;simpa using this)
    go_wp2_with fail
    go_ret
    exact⟨by rw[HRV.out];rfl,HE.out.trans HE3.out⟩
   ·have HRV:Hid (r=S+1):=Lib.hid (by have:=HLEN.out.1;simpa using this)
    go_wp2_with fail
    go_ret
    exact⟨by rw[HRV.out];first|rfl|exact congrArg (fun z=>Ending.returned (.int .i64 z)) e5,HE.out.trans HE3.out⟩
   ·have HRV:Hid (r=S-1):=Lib.hid (by have:=HLEN.out.1;simpa using this)
    go_wp2_with fail
    go_ret
    exact⟨by rw[HRV.out];first|rfl|exact congrArg (fun z=>Ending.returned (.int .i64 z)) e3,HE.out.trans HE3.out⟩
   ·have HRV:Hid (r=S):=Lib.hid (by have:=HLEN.out.1;simp only[if_true]at this;omega)
    go_wp2_with fail
    go_ret
    exact⟨by rw[HRV.out];first|rfl|exact congrArg (fun z=>Ending.returned (.int .i64 z)) e6,HE.out.trans HE3.out⟩
  ·have d2:decide (G<F)=false:=by simpa using hg
   rw[if_neg hg]at HCO2
   clear hg
   go_wp2_with fail
   refine(HCO2.out _).mono ?_
   rintro e w2 ⟨X,Y,rfl,hE⟩
   have HE3:=Lib.hid (HE2.out.trans hE)
   have HL3:=Lib.hid (HL.out.ext hE)
   clear hE a0 a1 b0 b1 l0 l1 l2 l3 l4
   obtain⟨l0,l1,l2,l3,l4⟩:=HL3.out.c5
   cases O1 <;>cases E1
   ·have HRV:Hid (r=S):=Lib.hid (by have:=HLEN.out.1;simpa using this)
    go_wp2_with fail
    go_ret
    exact⟨by rw[HRV.out];rfl,HE.out.trans HE3.out⟩
   ·have HRV:Hid (r=S+1):=Lib.hid (by have:=HLEN.out.1;simpa using this)
    go_wp2_with fail
    go_ret
    exact⟨by rw[HRV.out];first|rfl|exact congrArg (fun z=>Ending.returned (.int .i64 z)) e5,HE.out.trans HE3.out⟩
   ·have HRV:Hid (r=S-1):=Lib.hid (by have:=HLEN.out.1;simpa using this)
    go_wp2_with fail
    go_ret
    exact⟨by rw[HRV.out];first|rfl|exact congrArg (fun z=>Ending.returned (.int .i64 z)) e3,HE.out.trans HE3.out⟩
   ·have HRV:Hid (r=S):=Lib.hid (by have:=HLEN.out.1;simp only[if_true]at this;omega)
    go_wp2_with fail
    go_ret
    exact⟨by rw[HRV.out];first|rfl|exact congrArg (fun z=>Ending.returned (.int .i64 z)) e6,HE.out.trans HE3.out⟩
 ·have d1:decide (S>0)=false:=by simpa using hs
  have HO:Hid (O1=false):=Lib.hid (by
   cases O1 with
   |false=>rfl
   |true=>have h1:=HLEN.out.2.2 rfl;have h2:=HLEN.out.2.1;omega)
  clear HCO hs
  cases E1
  ·have HRV:Hid (r=S):=Lib.hid (by have:=HLEN.out.1;rw[HO.out]at this;simpa using this)
   go_wp2_with fail
   go_ret
   exact⟨by rw[HRV.out];rfl,HE.out.trans HE2.out⟩
  ·have HRV:Hid (r=S+1):=Lib.hid (by have:=HLEN.out.1;rw[HO.out]at this;simpa using this)
   go_wp2_with fail
   go_ret
   exact⟨by rw[HRV.out];first|rfl|exact congrArg (fun z=>Ending.returned (.int .i64 z)) e5,HE.out.trans HE2.out⟩
end Go.Proofs.YtplljnfjkkloeaaGreatDoor
