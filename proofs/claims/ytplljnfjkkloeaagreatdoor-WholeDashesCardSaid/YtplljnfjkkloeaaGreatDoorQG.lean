/- Proof text: the pixels of a line's way, one by one, each out of the one ahead ((*way).from and its iterator). By an AI agent. No condition beyond what each theorem states. -/
import Derived.Test.YtplljnfjkkloeaaGreatDoorWE
import Derived.Test.YtplljnfjkkloeaaGreatDoorQF
import Derived.Deep.CutBlock
import Derived.Test.YtplljnfjkkloeaaGreatDoorXI
import Derived.Laws.StructEq
import Derived.ChangeKeysEq
set_option linter.unusedVariables false
set_option linter.unusedSimpArgs false
set_option maxHeartbeats 4000000
namespace Go.Proofs.YtplljnfjkkloeaaGreatDoor
open Go.RowKit
def Way.at_ (W:Way) (u0:Int) (k:Nat):Int:=u0+k*W.step
structure It (W:Way) (g Bw Bu Bn:Nat) (N:Nat) (u:Int) (w:World):Prop where
 p:Blk w Bw 337 #[.pointer (some ⟨g,0,none⟩)]
 y:Blk w g 341 (wrow W W.first W.last W.extra W.open_ W.xu W.xv)
 u:Blk w Bu 3 #[.int .i64 u]
 n:Blk w Bn 3 #[.int .i64 N]
theorem num_step {W:Way} (h:W.dv*W.step=W.bv-W.av) (u:Int):W.num (u+W.step)=W.num u+256*(W.bv-W.av):=by
 unfold Way.num
 rw[←h]
 grind
theorem two_steps {v r a d n:Int} (hd:0<d) (h0:n=v*d+r) (h1:0≤r) (h2:r<d):
  let v1:=v+a.tdiv d
  let r1:=r+a.tmod d
  (r1≥d∧(n+a)/d=v1+1∧(n+a)=(v1+1)*d+(r1-d)∧0≤r1-d∧r1-d<d)∨(¬r1≥d∧r1<0∧(n+a)/d=v1-1∧(n+a)=(v1-1)*d+(r1+d)∧0≤r1+d∧r1+d<d)∨
   (¬r1≥d∧ ¬r1<0∧(n+a)/d=v1∧(n+a)=v1*d+r1):=by
 have e:=Int.mul_tdiv_add_tmod a d
 have t1:=Int.tmod_lt_of_pos a hd
 have t2: -d<a.tmod d:=by
  have h7:=Int.tmod_lt_of_pos (-a) hd
  rw[Int.neg_tmod]at h7
  omega
 intro v1 r1
 have hn:n+a=v1*d+r1:=by
  rw[h0]
  show v*d+r+a=(v+a.tdiv d)*d+(r+a.tmod d)
  rw[Int.add_mul,Int.mul_comm (a.tdiv d) d]
  omega
 have hvd:(v1+1)*d=v1*d+d∧(v1-1)*d=v1*d-d:=by
  constructor
  ·rw[Int.add_mul];omega
  ·rw[Int.sub_mul];omega
 clear_value v1
 have hr1:r1=r+a.tmod d:=rfl
 rw[hn]
 have q: ∀x y:Int,0≤y→y<d→(x*d+y)/d=x:=fun x y hy0 hy1=>(div_is hd).2 (by rw[Int.mul_comm d x];omega)
 by_cases c1:r1≥d
 ·refine .inl ⟨c1,?_,?_,by omega,by omega⟩
  ·rw[show v1*d+r1=(v1+1)*d+(r1-d) by omega]
   exact q _ _ (by omega) (by omega)
  ·omega
 ·by_cases c2:r1<0
  ·refine .inr (.inl ⟨c1,c2,?_,?_,by omega,by omega⟩)
   ·rw[show v1*d+r1=(v1-1)*d+(r1+d) by omega]
    exact q _ _ (by omega) (by omega)
   ·omega
  ·exact .inr (.inr ⟨c1,c2,q _ _ (by omega) (by omega),rfl⟩)
set_option maxRecDepth 100000 in
theorem from_hands (W:Way) (g Bw Bu Bn N:Nat) (u0:Int) (J:Nat→Int→World→Prop) (hIt: ∀k u w,J k u w→It W g Bw Bu Bn N u w) (hi:W.In) (hd:0<W.du) (hs:W.dv*W.step=W.bv-W.av) (hN:N≤2200000)
  (hnigh: ∀k,k≤N→W.Nigh (W.at_ u0 k)):
  Hands Tryz.prog 267 #[.pointer (some ⟨Bw,0,none⟩),.pointer (some ⟨Bu,0,none⟩),.pointer (some ⟨Bn,0,none⟩)] Bu (fun k=> #[.int .i64 (W.at_ u0 k),.int .i64 (W.across (W.at_ u0 k))]) N J u0:=by
 intro n l K w hKJ hKe hKc hY h0
 have HIt:=Lib.hid (fun k u w' h=>hIt k u w' (hKJ k u w' h))
 have HY:=Lib.hid hY
 have HKe:=Lib.hid hKe
 have HKc:=Lib.hid hKc
 have HS:=Lib.hid hs
 have HNI:=Lib.hid hnigh
 have HI:=Lib.hid hi
 have HD:=Lib.hid hd
 have H0:=Lib.hid h0
 clear hIt hKJ hKe hKc hY h0 hs hnigh hi hd
 refine callsIn_wide.2 ?_
 have it0:=HIt.out 0 u0 w H0.out
 have p0:=it0.p.c1
 have u00:=it0.u.c1
 have hn0:W.at_ u0 0=u0:=by unfold Way.at_;omega
 have hnum:=HI.out.num (by have:=HNI.out 0 (by omega);rwa[hn0]at this)
 clear hnum
 have HU0:=Lib.hid (fun W' (x:Blk W' g 341 (wrow W W.first W.last W.extra W.open_ W.xu W.xv))=>under_any W g W.first W.last W.extra W.open_ W.xu W.xv u0 W' x HI.out (by have:=HNI.out 0 (by omega);rwa[hn0]at this))
 have HA0:=Lib.hid (fun W' (x:Blk W' g 341 (wrow W W.first W.last W.extra W.open_ W.xu W.xv))=>across_any W g W.first W.last W.extra W.open_ W.xu W.xv u0 W' x HI.out (by have:=HNI.out 0 (by omega);rwa[hn0]at this) HD.out)
 have HSP:=Lib.hid (fun W' (x:Blk W' g 341 (wrow W W.first W.last W.extra W.open_ W.xu W.xv))=>step_any W g W.first W.last W.extra W.open_ W.xu W.xv W' x)
 have HSW:=Lib.hid (show(if W.last<W.first then(-1:Int)else 1)=W.step from rfl)
 rw[HSW.out]at HSP
 clear HSW
 have hdb:0<256*W.du∧256*W.du≤137446400000:=by have:=HI.out.d;have:=HD.out;omega
 obtain⟨d1,d2⟩:=hdb
 have hrest: ∀u,0≤W.num u-W.across u*(256*W.du)∧W.num u-W.across u*(256*W.du)<256*W.du:=by
  intro u
  have e1:=Int.mul_ediv_add_emod (W.num u) (256*W.du)
  have e2:=Int.emod_nonneg (W.num u) (show 256*W.du≠0 by omega)
  have e3:=Int.emod_lt_of_pos (W.num u) d1
  have e4:W.across u*(256*W.du)=256*W.du*(W.num u/(256*W.du)):=Int.mul_comm _ _
  omega
 have HR:=Lib.hid hrest
 have hnb: ∀k,k≤N→ -500000000000000000≤W.num (W.at_ u0 k)∧W.num (W.at_ u0 k)≤500000000000000000:=by
  intro k hk
  have:=HI.out.num (HNI.out k hk)
  unfold Way.num
  have:=HI.out.back
  omega
 have HNB:=Lib.hid hnb
 have hab: ∀k,k≤N→ -500000000000000001≤W.across (W.at_ u0 k)∧W.across (W.at_ u0 k)≤500000000000000001:=by
  intro k hk
  obtain⟨k1,k2⟩:=hnb k hk
  have h7:=Int.ediv_le_ediv d1 k2
  have h8:=Int.ediv_le_ediv d1 k1
  have h9:(500000000000000000:Int)/(256*W.du)≤500000000000000000:=Int.ediv_le_self _ (by omega)
  have h10: -500000000000000000≤(-500000000000000000:Int)/(256*W.du):=by
   rw[Int.le_ediv_iff_mul_le d1]
   omega
  unfold Way.across
  omega
 have HAB:=Lib.hid hab
 have hstep: ∀k,W.at_ u0 (k+1)=W.at_ u0 k+W.step:=by
  intro k;unfold Way.at_;rw[Int.natCast_add,Int.add_mul];omega
 have HST:=Lib.hid hstep
 have ab0:=hab 0 (by omega)
 have nb0:=hnb 0 (by omega)
 rw[hn0]at ab0 nb0
 obtain⟨a1,a2⟩:=ab0
 obtain⟨n1,n2⟩:=nb0
 have r0:=hrest u0
 have w1:IntKind.i64.wrap (W.across u0*(256*W.du))=W.across u0*(256*W.du):=by rw[IntKind.wrap_i64];omega
 have w2:IntKind.i64.wrap (W.num u0-W.across u0*(256*W.du))=W.num u0-W.across u0*(256*W.du):=by rw[IntKind.wrap_i64];omega
 have hbv:(-268450000≤W.bv∧W.bv≤268450000)∧(-268450000≤W.av∧W.av≤268450000):=⟨HI.out.bv,HI.out.av⟩
 obtain⟨⟨v1,v2⟩,v3,v4⟩:=hbv
 have HAD:Hid (∀k,W.across (W.at_ u0 k)=W.num (W.at_ u0 k)/(256*W.du)):=Lib.hid (fun k=>rfl)
 have HNS:Hid (∀k,W.num (W.at_ u0 (k+1))=W.num (W.at_ u0 k)+256*(W.bv-W.av)):=Lib.hid (fun k=>by rw[HST.out,num_step HS.out])
 clear hrest hnb hab hstep r0
 generalize 256*W.du=d at*
 have hne: ¬d=0:=by omega
 have hne':(d==0)=false:=by simpa using hne
 have hsb: -1≤W.step∧W.step≤1:=by unfold Way.step;split <;>omega
 obtain⟨s1,s2⟩:=hsb
 go_enter Tryz.func267,Tryz.ntmps267
 go_wp2_with fail
 refine(HU0.out _ it0.y).mono ?_
 rintro e w1 ⟨rfl,hE⟩
 obtain⟨x1,rfl⟩:=Later.mk' hE
 clear hE
 have K1:=Lib.hid (HKe.out 0 u0 _ _ H0.out x1.ext)
 have it1:=HIt.out _ _ _ K1.out
 clear p0 u00 it0
 have p0:=it1.p.c1
 have u00:=it1.u.c1
 go_wp2_with fail
 refine(HA0.out _ it1.y).mono ?_
 rintro e w1 ⟨rfl,hE⟩
 obtain⟨x2,rfl⟩:=Later.mk' hE
 clear hE
 have K2:=Lib.hid (HKe.out 0 u0 _ _ K1.out x2.ext)
 have it2:=HIt.out _ _ _ K2.out
 clear p0 u00 it1
 obtain⟨q0,q1,q2,q3,q4,q5,q6,q7,q8,q9,q10,q11⟩:=it2.y.c12
 clear q0 q2 q4 q5 q6 q7 q8 q9 q10 q11
 have p0:=it2.p.c1
 have n0:=it2.n.c1
 clear HU0 HA0 it2
 go_wp2_with fail
 go_quiet (fail)
 clear q1 q3 w1 w2 p0
 go_wp2_with fail
 have K3:=Lib.hid (HKe.out 0 u0 _ _ K2.out ((Ext.refl x2.w).drewN nq))
 clear n0 a1 a2 n1 n2 K1 K2 H0
 obtain⟨qk,hqk⟩: ∃q,q=(256*(W.bv-W.av)).tdiv d:=⟨_,rfl⟩
 obtain⟨mk,hmk⟩: ∃q,q=(256*(W.bv-W.av)).tmod d:=⟨_,rfl⟩
 rw[←hqk,←hmk]
 have HQK:=Lib.hid hqk
 have HMK:=Lib.hid hmk
 clear hqk hmk
 go_loopw [7,8,42] (fun v r c wr=> ∃k:Nat,k≤N∧v=.int .i64 (W.across (W.at_ u0 k))∧r=.int .i64 (W.num (W.at_ u0 k)-W.across (W.at_ u0 k)*d)∧c=.int .i64 k∧Hid (K k (W.at_ u0 k) wr)) (fun _ _ c _=>N-(intOf c).toNat)
 case atStart=>
  refine⟨0,Nat.zero_le _,?_,?_,rfl,?_⟩
  ·rw[hn0]
  ·rw[hn0]
  ·rw[hn0];exact K3
 case round=>
  clear K3
  obtain⟨k,hk,rfl,rfl,rfl,HK⟩:=hrel
  by_cases hlt:k<N
  ·obtain⟨uk,huk⟩: ∃uk,uk=W.at_ u0 k:=⟨_,rfl⟩
   have hyk:=HY.out k uk wr (by rw[huk];exact HK.out) hlt
   have itk:=HIt.out k uk wr (by rw[huk];exact HK.out)
   rw[←huk]at hyk
   have uc:=itk.u.c1
   rw[←huk]
   have HUK:=Lib.hid huk
   clear huk
   obtain⟨fn,tmps,assign,body,hy,hR⟩:=hyk
   have HR2:=Lib.hid hR
   clear hR
   go_upto_region 8 with fail
   refine(wpIn_wide (n:=n+1)).1 ?_
   gi_wp2
   refine HR2.out.mono ?_
   rintro e W3 ⟨rfl,hk3⟩
   have HK3:=Lib.hid hk3
   clear hk3 uc itk
   have it3:=HIt.out _ _ _ HK3.out
   gi_wp2
   have HIT3:=Lib.hid it3
   have uc3:=it3.u.c1
   have uz3:=it3.u.frozen 0
   have pc3:=it3.p.c1
   clear it3 hy HR2 HK
   have hub: -3200000≤uk∧uk≤3200000:=by
    have h1:=HNI.out k (by omega)
    have h2:=HI.out.au
    rw[←HUK.out]at h1
    unfold Way.Nigh at h1
    unfold Pl at h2
    omega
   obtain⟨ub1,ub2⟩:=hub
   have HTS:=Lib.hid (two_steps (v:=W.across uk) (r:=W.num uk-W.across uk*d) (a:=256*(W.bv-W.av)) (n:=W.num uk) d1 (by omega) (HR.out uk).1 (HR.out uk).2)
   have HN1:Hid (W.num (W.at_ u0 (k+1))=W.num uk+256*(W.bv-W.av)):=Lib.hid (by rw[HNS.out,←HUK.out])
   have HA1:Hid (W.across (W.at_ u0 (k+1))=(W.num uk+256*(W.bv-W.av))/d):=Lib.hid (by rw[HAD.out,HN1.out])
   have HU1:Hid (W.at_ u0 (k+1)=uk+W.step):=Lib.hid (by rw[HST.out,←HUK.out])
   have hvb: -500000000000000001≤W.across uk∧W.across uk≤500000000000000001:=by have:=HAB.out k (by omega);rwa[←HUK.out]at this
   have hrb:=HR.out uk
   have e:=Int.mul_tdiv_add_tmod (256*(W.bv-W.av)) d
   have t1:=Int.tmod_lt_of_pos (256*(W.bv-W.av)) d1
   have t2: -d<(256*(W.bv-W.av)).tmod d:=by
    have h7:=Int.tmod_lt_of_pos (-(256*(W.bv-W.av))) d1
    rw[Int.neg_tmod]at h7
    omega
   have hqb: -274900000000≤(256*(W.bv-W.av)).tdiv d∧(256*(W.bv-W.av)).tdiv d≤274900000000:=by
    have h1:(256*(W.bv-W.av)).tdiv d*1≤274900000000:=by
     rcases Int.lt_or_le 0 ((256*(W.bv-W.av)).tdiv d)with h|h
     ·have:=Int.mul_le_mul_of_nonneg_right (show(1:Int)≤d by omega) (Int.le_of_lt h)
      omega
     ·omega
    have h2: -274900000000≤(256*(W.bv-W.av)).tdiv d*1:=by
     rcases Int.lt_or_le ((256*(W.bv-W.av)).tdiv d) 0 with h|h
     ·have:=Int.mul_le_mul_of_nonneg_right (show(1:Int)≤d by omega) (show 0≤ -((256*(W.bv-W.av)).tdiv d) by omega)
      have e2:d* -((256*(W.bv-W.av)).tdiv d)= -(d*(256*(W.bv-W.av)).tdiv d):=by rw[Int.mul_neg]
      omega
     ·omega
    omega
   clear e
   have HPR:Hid (W.across uk*d=W.num uk-(W.num uk-W.across uk*d)):=Lib.hid (by omega)
   generalize hrk:W.num uk-W.across uk*d=rk at*
   generalize W.across uk=vk at*
   generalize W.num uk=nk at*
   rw[←HQK.out,←HMK.out]at HTS
   rw[←HQK.out]at hqb
   rw[←HMK.out]at t1 t2
   clear hrk
   obtain⟨vb1,vb2⟩:=hvb
   obtain⟨rb1,rb2⟩:=hrb
   obtain⟨qb1,qb2⟩:=hqb
   go_wp2_with fail
   refine wp_region_later_tail 4 (by kernel_rfl) (by kernel_rfl) ?_
   simp only[List.take_succ_cons,List.take_zero,List.drop_succ_cons,List.drop_zero]
   repeat(go_big_quiet_step ((first|(go_at_call 229;with_reducible exact Calls.later _ (HSP.out _ (HIT3.out.y.later _)))|fail)))
   refine wpQuiet_nil ?_
   intro y
   go_wp2_with fail
   have HK4:Hid (K (k+1) (W.at_ u0 (k+1)) (y.w.setCell ⟨Bu,0,none⟩ (.int .i64 (uk+W.step)))):=Lib.hid (by
    rw[HU1.out]
    exact HKc.out _ uk _ _ (HKe.out _ _ _ _ HK3.out y.ext))
   generalize y.w.setCell ⟨Bu,0,none⟩ (.int .i64 (uk+W.step))=W5 at*
   have HFIN: ∀v r,(nk+256*(W.bv-W.av))/d=v→nk+256*(W.bv-W.av)=v*d+r→Value.int .i64 v=.int .i64 (W.across (W.at_ u0 (k+1)))∧Value.int .i64 r=.int .i64 (W.num (W.at_ u0 (k+1))-W.across (W.at_ u0 (k+1))*d):=by
    intro v r e1 e2
    rw[HA1.out,HN1.out,e1]
    exact⟨rfl,by congr 1;omega⟩
   have HFIN:=Lib.hid HFIN
   clear uc3 uz3 pc3 HK3 HIT3
   rcases HTS.out with⟨c1,e1,e2,e3,e4⟩|⟨c1,c2,e1,e2,e3,e4⟩|⟨c1,c2,e1,e2⟩
   ·have HE:=Lib.hid (HFIN.out _ _ e1 e2)
    clear HTS e1 e2
    go_loop [7,8] (fun v r=>(v=.int .i64 (vk+qk)∧r=.int .i64 (rk+mk))∨(v=.int .i64 (vk+qk+1)∧r=.int .i64 (rk+mk-d))) (fun _ r=>(intOf r).toNat)
    case atStart=>exact .inl ⟨rfl,rfl⟩
    case round=>
     rcases hrel with⟨rfl,rfl⟩|⟨rfl,rfl⟩
     ·have t5:decide (rk+mk≥d)=true:=by simpa using c1
      go_wp2_with fail
      go_round
      case rel=>exact .inr ⟨rfl,rfl⟩
      case measure=>simp[intOf];omega
     ·have t5:decide (rk+mk-d≥d)=false:=by simp;omega
      have t6:decide (rk+mk-d<0)=false:=by simp;omega
      go_wp2_with fail
      go_loop [7,8] (fun v r=>v=.int .i64 (vk+qk+1)∧r=.int .i64 (rk+mk-d)) (fun _ r=>(intOf r).toNat)
      case atStart=>exact⟨rfl,rfl⟩
      case round=>
       obtain⟨rfl,rfl⟩:=hrel
       go_wp2_with fail
       go_roundw
       case rel=>first|exact⟨k+1,by omega,HE.out.1,HE.out.2,by go_num,HK4⟩|((repeat apply Exists.intro);exact⟨⟨k+1,by omega,HE.out.1,HE.out.2,by go_num,HK4⟩,rfl⟩)
       case measure=>simp[intOf];omega
   ·have HE:=Lib.hid (HFIN.out _ _ e1 e2)
    clear HTS e1 e2
    have t5:decide (rk+mk≥d)=false:=by simpa using c1
    go_loop [7,8] (fun v r=>v=.int .i64 (vk+qk)∧r=.int .i64 (rk+mk)) (fun _ r=>(intOf r).toNat)
    case atStart=>exact⟨rfl,rfl⟩
    case round=>
     obtain⟨rfl,rfl⟩:=hrel
     go_wp2_with fail
     go_loop [7,8] (fun v r=>(v=.int .i64 (vk+qk)∧r=.int .i64 (rk+mk))∨(v=.int .i64 (vk+qk-1)∧r=.int .i64 (rk+mk+d))) (fun _ r=>(0-(intOf r)).toNat)
     case atStart=>exact .inl ⟨rfl,rfl⟩
     case round=>
      rcases hrel with⟨rfl,rfl⟩|⟨rfl,rfl⟩
      ·have t6:decide (rk+mk<0)=true:=by simpa using c2
       go_wp2_with fail
       go_round
       case rel=>exact .inr ⟨rfl,rfl⟩
       case measure=>simp[intOf];omega
      ·have t6:decide (rk+mk+d<0)=false:=by simp;omega
       go_wp2_with fail
       go_roundw
       case rel=>first|exact⟨k+1,by omega,HE.out.1,HE.out.2,by go_num,HK4⟩|((repeat apply Exists.intro);exact⟨⟨k+1,by omega,HE.out.1,HE.out.2,by go_num,HK4⟩,rfl⟩)
       case measure=>simp[intOf];omega
   ·have HE:=Lib.hid (HFIN.out _ _ e1 e2)
    clear HTS e1 e2
    have t5:decide (rk+mk≥d)=false:=by simpa using c1
    have t6:decide (rk+mk<0)=false:=by simpa using c2
    go_loop [7,8] (fun v r=>v=.int .i64 (vk+qk)∧r=.int .i64 (rk+mk)) (fun _ r=>(intOf r).toNat)
    case atStart=>exact⟨rfl,rfl⟩
    case round=>
     obtain⟨rfl,rfl⟩:=hrel
     go_wp2_with fail
     go_loop [7,8] (fun v r=>v=.int .i64 (vk+qk)∧r=.int .i64 (rk+mk)) (fun _ r=>(intOf r).toNat)
     case atStart=>exact⟨rfl,rfl⟩
     case round=>
      obtain⟨rfl,rfl⟩:=hrel
      go_wp2_with fail
      go_roundw
      case rel=>first|exact⟨k+1,by omega,HE.out.1,HE.out.2,by go_num,HK4⟩|((repeat apply Exists.intro);exact⟨⟨k+1,by omega,HE.out.1,HE.out.2,by go_num,HK4⟩,rfl⟩)
      case measure=>simp[intOf];omega
  ·obtain rfl:k=N:=by omega
   go_wp2_with fail
   go_end0
   exact⟨⟨_,rfl⟩,_,HK.out⟩
end Go.Proofs.YtplljnfjkkloeaaGreatDoor
set_option linter.unusedVariables false
set_option linter.unusedSimpArgs false
namespace Go.Proofs.YtplljnfjkkloeaaGreatDoor
open Go.RowKit
structure SBox {α:Type} (base:Nat) (ts te:TypeId) (size:Nat) (f:α→List Value) (B:Nat) (L:List α) (v:Value) (w:World):Prop where
 blk:Blk w B ts #[v]
 own:w.ownsRow base te size v L.length (L.flatMap f)
section
variable {α:Type} {base:Nat} {ts te:TypeId} {size:Nat} {f:α→List Value} {B:Nat} {L:List α} {v:Value} {w w':World}
theorem own_ne_blk {xs:List Value} {n:Nat} {g:Nat} {t:TypeId} {cs:Array Value} (h:w.ownsRow base te size v n xs) (hb:Blk w g t cs) (hne:t≠te):v.ownBlock≠some g:=by
 intro e
 obtain⟨cur,hc⟩:=ownsRow_block h e
 unfold Blk at hb
 rw[hb]at hc
 simp at hc
 exact hne hc.2
theorem SBox.ext (h:SBox base ts te size f B L v w) (e:Ext w w'):SBox base ts te size f B L v w':=⟨h.blk.ext e,ownsRow_ext h.own e⟩
theorem SBox.far (h:SBox base ts te size f B L v w) {g:Nat} {t:TypeId} {cs:Array Value} (hb:Blk w g t cs) (ht:t≠te) (hne:g≠B) (i:Nat) (u:Value):SBox base ts te size f B L v (w.setCell ⟨g,i,none⟩ u):=
 ⟨h.blk.far (fun e=>hne e.symm) _,own_kp h.own ((Kp.refl (·≠g) w).setCell (p:=⟨g,i,none⟩) u (fun h=>h rfl)) (fun k hk e=>own_ne_blk h.own hb ht (by rw[hk,e]))⟩
theorem SBox.putObj (h:SBox base ts te size f B L v w) {l:Nat} {r:Loop} (hl:w.heap[l]? =some (.loop r)) (o:Obj):SBox base ts te size f B L v (w.putObj l o):=by
 have k:Kp (·≠l) w (w.putObj l o):=Kp.putObj w l o (fun h=>h rfl)
 refine⟨h.blk.kp k ?_,own_kp h.own k ?_⟩
 ·rintro rfl
  have:=h.blk
  unfold Blk at this
  rw[hl]at this
  cases this
 ·rintro g hg rfl
  obtain⟨cur,hc⟩:=ownsRow_block h.own hg
  rw[hl]at hc
  cases hc
theorem Blk.putObj {g:Nat} {t:TypeId} {cs:Array Value} (h:Blk w g t cs) {l:Nat} {r:Loop} (hl:w.heap[l]? =some (.loop r)) (o:Obj):Blk (w.putObj l o) g t cs:=by
 refine h.kp (Kp.putObj w l o (fun h=>h rfl):Kp (·≠l) w (w.putObj l o)) ?_
 rintro rfl
 unfold Blk at h
 rw[hl]at h
 cases h
theorem SBox.push (h:SBox base ts te size f B L v w) {v':Value} {w1:World} {x:α} (ht:ts≠te) (ho:w1.ownsRow base te size v' (L.length+1) (L.flatMap f++f x)) (hg:w.grownBy w1 v.ownBlock):
  Blk w1 B ts #[v]∧SBox base ts te size f B (L++[x]) v' (w1.setCell ⟨B,0,none⟩ v'):=by
 have hb1:Blk w1 B ts #[v]:=h.blk.grown' hg (own_ne_blk h.own h.blk ht)
 refine⟨hb1,?_,?_⟩
 ·have:=hb1.set_ 0 v'
  simpa using this
 ·have ho2:w1.ownsRow base te size v' (L++[x]).length ((L++[x]).flatMap f):=by
   rw[List.length_append,List.flatMap_append]
   simpa using ho
  exact own_kp ho2 ((Kp.refl (·≠B) w1).setCell (p:=⟨B,0,none⟩) v' (fun h=>h rfl)) (fun k hk e=>own_ne_blk ho2 hb1 ht (by rw[hk,e]))
theorem kp_push {F:Nat→Prop} {w0:World} {v':Value} {w1:World} (h:SBox base ts te size f B L v w) (hk:Kp F w0 w) (hg:w.grownBy w1 v.ownBlock) (hB: ¬F B) (hF: ∀g,base≤g→ ¬F g):Kp F w0 (w1.setCell ⟨B,0,none⟩ v'):=by
 refine(hk.grown hg (fun k hk=>?_)).setCell _ hB
 rcases h.own.2 with⟨rfl,_⟩|⟨g,cap,cur,rfl,hb,_⟩
 ·simp[Value.ownBlock]at hk
 ·simp[Value.ownBlock]at hk
  subst hk
  exact hF _ hb
theorem SBox.nil (hb:Blk w B ts #[.slice none 0 0]):SBox base ts te size f B ([]:List α) (.slice none 0 0) w:=⟨hb,by simpa using World.ownsRow_nil w base te size⟩
end
end Go.Proofs.YtplljnfjkkloeaaGreatDoor
set_option linter.unusedVariables false
set_option linter.unusedSimpArgs false
namespace Go.Proofs.YtplljnfjkkloeaaGreatDoor
open Go.RowKit
structure Vx where
 x:Int
 y:Int
 z:Int
 w:Int
 c0:Int
 c1:Int
 c2:Int
 c3:Int
structure Sd where
 k:Int
 p0:Int
 p1:Int
 p2:Int
 p3:Int
@[reducible] def Vx.v (v:Vx):Value:=.agg #[.int .i64 v.x,.int .i64 v.y,.int .i64 v.z,.int .i64 v.w,.int .i64 v.c0,.int .i64 v.c1,.int .i64 v.c2,.int .i64 v.c3]
@[reducible] def Sd.v (s:Sd):Value:=.agg #[.int .i64 s.k,.int .i64 s.p0,.int .i64 s.p1,.int .i64 s.p2,.int .i64 s.p3]
def Vx.e (v:Vx):Nat→Int
 |0=>v.x
 |1=>v.y
 |2=>v.z
 |_=>v.w
def Vx.c (v:Vx):Nat→Int
 |0=>v.c0
 |1=>v.c1
 |2=>v.c2
 |_=>v.c3
def Sd.p (s:Sd):Nat→Int
 |0=>s.p0
 |1=>s.p1
 |2=>s.p2
 |_=>s.p3
theorem four_cases {P:Nat→Prop} (h:P 0∧P 1∧P 2∧P 3): ∀k,k<4→P k
 |0,_=>h.1
 |1,_=>h.2.1
 |2,_=>h.2.2.1
 |3,_=>h.2.2.2
 |k+4,h=>by omega
theorem index_lit (v:Vx) (w:World):(Instr.index 29 (.agg #[.int .i64 v.x,.int .i64 v.y,.int .i64 v.z,.int .i64 v.w]) (.int .i64 0)).run Tryz.prog w=.ok (.int .i64 v.x) w∧
  (Instr.index 29 (.agg #[.int .i64 v.x,.int .i64 v.y,.int .i64 v.z,.int .i64 v.w]) (.int .i64 1)).run Tryz.prog w=.ok (.int .i64 v.y) w∧
  (Instr.index 29 (.agg #[.int .i64 v.x,.int .i64 v.y,.int .i64 v.z,.int .i64 v.w]) (.int .i64 2)).run Tryz.prog w=.ok (.int .i64 v.z) w∧
  (Instr.index 29 (.agg #[.int .i64 v.x,.int .i64 v.y,.int .i64 v.z,.int .i64 v.w]) (.int .i64 3)).run Tryz.prog w=.ok (.int .i64 v.w) w:=⟨by kernel_rfl,by kernel_rfl,by kernel_rfl,by kernel_rfl⟩
theorem index_p (s:Sd) (w:World): ∀k:Nat,k<4→(Instr.index 29 (.agg #[.int .i64 s.p0,.int .i64 s.p1,.int .i64 s.p2,.int .i64 s.p3]) (.int .i64 (k:Int))).run Tryz.prog w=.ok (.int .i64 (s.p k)) w:=
 four_cases ⟨by kernel_rfl,by kernel_rfl,by kernel_rfl,by kernel_rfl⟩
def inMost (n m:Int):Prop:= -m≤n∧n≤m
theorem far_no (n m:Int) (w:World) (m0:0≤m) (m1:m≤68719476736) (h:inMost n m):Calls Tryz.prog 118 #[.int .i64 n,.int .i64 m] w fun e w'=>e=.returned (.bool false)∧w=w':=by
 obtain⟨h1,h2⟩:=h
 have d1:decide (n>m)=false:=by simp;omega
 have d2:decide (n< -m)=false:=by simp;omega
 go_enter Tryz.func118,Tryz.ntmps118
 go_wp2
 go_ret
 exact⟨rfl,rfl⟩
theorem four_any (v:Vx) (w:World):Calls Tryz.prog 119 #[v.v] w fun e w'=>e=.returned (.agg #[.int .i64 v.x,.int .i64 v.y,.int .i64 v.z,.int .i64 v.w])∧Ext w w':=by
 go_enter Tryz.func119,Tryz.ntmps119
 go_wp2
 go_returns
 exact⟨rfl,by(repeat(first|with_reducible(first|exact eR_ _|assumption|refine eA_ ?_ _|refine eD_ ?_|refine eN_ ?_ _|refine eL_ ?_ _)|(with_reducible refine eS_ ?_ _ ?hp;case hp=>first|(simp;done)|(simp;omega)|omega)))⟩
def Vx.Fit (v:Vx):Prop:=(∀k,k<4→inMost (v.e k) 68719476736)∧ ∀k,k<4→0≤v.c k∧v.c k≤255
end Go.Proofs.YtplljnfjkkloeaaGreatDoor
set_option linter.unusedVariables false
set_option linter.unusedSimpArgs false
namespace Go.Proofs.YtplljnfjkkloeaaGreatDoor
open Go.RowKit
theorem eqIn_int {P:Program} {t:TypeId} (ht:P.underlying t=some (.int .i64)) (d:Nat) (a b:Int) (w:World):(Op.equalIn (d+1) t (.int .i64 a) (.int .i64 b)).run P w=.ok (a==b) w:=by
 simp[Op.equalIn,run_underlying ht]
theorem part_int {P:Program} {e:TypeId} (he:P.underlying e=some (.int .i64)) {xs:Array Value} {off:Nat} {v:Value} (hx:xs[off]? =some v) (w:World):(part e xs off).run P w=.ok v w:=by
 simp[part,isAgg,run_underlying he,hx]
theorem eqIn_arr4 {P:Program} {t e:TypeId} (ht:P.underlying t=some (.array 4 e)) (he:P.underlying e=some (.int .i64)) (hs:(P.info? e).map (fun i=>(i.size))=some 1) (D:Nat) (a0 a1 a2 a3 b0 b1 b2 b3:Int) (w:World):
  (Op.equalIn (D+1+1) t (.agg #[.int .i64 a0,.int .i64 a1,.int .i64 a2,.int .i64 a3]) (.agg #[.int .i64 b0,.int .i64 b1,.int .i64 b2,.int .i64 b3])).run P w=.ok (a0==b0&&(a1==b1&&(a2==b2&&a3==b3))) w:=by
 obtain⟨i,hi,hz⟩:=Option.map_eq_some_iff.1 hs
 have E:=fun a b w=>eqIn_int he D a b w
 generalize D+1=F at*
 have p0:=fun(x0 x1 x2 x3:Value) w=>part_int he (xs:= #[x0,x1,x2,x3]) (off:=0) (v:=x0) rfl w
 have p1:=fun(x0 x1 x2 x3:Value) w=>part_int he (xs:= #[x0,x1,x2,x3]) (off:=1) (v:=x1) rfl w
 have p2:=fun(x0 x1 x2 x3:Value) w=>part_int he (xs:= #[x0,x1,x2,x3]) (off:=2) (v:=x2) rfl w
 have p3:=fun(x0 x1 x2 x3:Value) w=>part_int he (xs:= #[x0,x1,x2,x3]) (off:=3) (v:=x3) rfl w
 simp[Op.equalIn,run_underlying ht,sizeOf,typeInfo,hi,hz,Std.Legacy.Range.forIn_eq_forIn_range',Std.Legacy.Range.size,List.range',p0,p1,p2,p3,E]
 cases h0:(a0==b0) <;>cases h1:(a1==b1) <;>cases h2:(a2==b2) <;>cases h3:(a3==b3) <;>simp_all
theorem fieldsOf_of {P:Program} {t:TypeId} {fs:Array Field} (h:P.underlying t=some (.struct fs)):P.fieldsOf t=fs:=by unfold Program.fieldsOf;rw[h]
theorem size_int:(Tryz.prog.info? 3).map (fun i=>(i.size))=some 1:=by kernel_rfl
theorem eq_arr (a0 a1 a2 a3 b0 b1 b2 b3:Int) (w:World):
  (Op.equalIn 10000 29 (.agg #[.int .i64 a0,.int .i64 a1,.int .i64 a2,.int .i64 a3]) (.agg #[.int .i64 b0,.int .i64 b1,.int .i64 b2,.int .i64 b3])).run Tryz.prog w=.ok (a0==b0&&(a1==b1&&(a2==b2&&a3==b3))) w:=
 eqIn_arr4 Tryz.underlying29 Tryz.underlying3 size_int 9998 a0 a1 a2 a3 b0 b1 b2 b3 w
def Sd.same (s t:Sd):Bool:=s.k==t.k&&(s.p0==t.p0&&(s.p1==t.p1&&(s.p2==t.p2&&s.p3==t.p3)))
def Vx.same (v u:Vx):Bool:=v.x==u.x&&(v.y==u.y&&(v.z==u.z&&(v.w==u.w&&(v.c0==u.c0&&(v.c1==u.c1&&(v.c2==u.c2&&v.c3==u.c3))))))
end Go.Proofs.YtplljnfjkkloeaaGreatDoor
