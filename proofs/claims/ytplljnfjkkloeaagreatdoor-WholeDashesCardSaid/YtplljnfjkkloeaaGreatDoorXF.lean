/- Proof text: math/bits.Div64, its long way. By an AI agent. No condition beyond what each theorem states. -/
import Derived.Test.YtplljnfjkkloeaaGreatDoorXA
import Derived.Deep.CutBlock
import Derived.Deep.CutRange
import Derived.Lib.ItoaNum
set_option linter.unusedVariables false
set_option linter.unusedSimpArgs false
set_option maxHeartbeats 4000000
namespace Go.Proofs.YtplljnfjkkloeaaGreatDoor
open Go.RowKit
theorem u64_nat {n:Nat} (h:n<18446744073709551616):IntKind.u64.wrap (n:Int)=n:=by rw[IntKind.wrap_u64];omega
def Bnd (u y1 y0 n:Nat):Prop:=2147483648≤y1∧y1<4294967296∧y0<4294967296∧n<4294967296∧u<y1*4294967296+y0
def Hd (u y1 y0 n q r:Nat):Prop:=Dg u y1 y0 n q r∧r<4294967296
def Dn (u y1 y0 n q:Nat):Prop:=q=(u*4294967296+n)/(y1*4294967296+y0)
theorem dig_mul {q y0:Nat} (hq:q≤4294967296) (h0:y0<4294967296):q*y0<18446744073709551616:=by
 have h1:q*y0≤4294967296*y0:=Nat.mul_le_mul_right _ hq
 omega
theorem hd_start {u y1 y0 n:Nat} (b:Bnd u y1 y0 n):Hd u y1 y0 n (u/y1) (u%y1):=by
 obtain⟨b1,b2,b3,b4,b5⟩:=b
 refine⟨dg_start b1 b3 b4 b5,?_⟩
 have:=Nat.mod_lt u (show 0<y1 by omega)
 omega
theorem bnd_u {u y1 y0 n:Nat} (b:Bnd u y1 y0 n):(u:Int)<18446744073709551616:=by
 obtain⟨b1,b2,b3,b4,b5⟩:=b;omega
theorem start_q {u y1 y0 n:Nat}:Value.int .u64 ((u:Int)/y1)=.int .u64 ((u/y1:Nat):Int):=rfl
theorem start_r {u y1 y0 n:Nat} (b:Bnd u y1 y0 n):IntKind.u64.wrap ((u:Int)-IntKind.u64.wrap ((u:Int)/y1*y1))=((u%y1:Nat):Int):=by
 have hu:=bnd_u b
 have e:=Nat.div_add_mod u y1
 have e1:(u:Int)/y1*y1=((y1*(u/y1):Nat):Int):=by rw[Nat.mul_comm,Int.natCast_mul];rfl
 rw[e1,u64_nat (by omega),show(u:Int)-((y1*(u/y1):Nat):Int)=((u%y1:Nat):Int) by omega,u64_nat (by omega)]
theorem quot_u {u y1 y0 n:Nat} (b:Bnd u y1 y0 n):IntKind.u64.wrap ((u:Int)/y1)=(u:Int)/y1:=by
 have hu:=bnd_u b
 have:u/y1≤u:=Nat.div_le_self _ _
 have e:(u:Int)/y1=((u/y1:Nat):Int):=rfl
 rw[e,u64_nat (by omega)]
theorem hd_high {u y1 y0 n k r:Nat} (b:Bnd u y1 y0 n) (h:Hd u y1 y0 n (k+1) r) (hc:4294967296≤k+1):
  (k:Int)≤4294967296∧(r:Int)<4294967296∧(y1:Int)<4294967296∧(2147483648:Int)≤(y1:Int)∧(4294967296:Int)≤(k:Int)+1:=by
 obtain⟨⟨h1,h2,h3⟩,h4⟩:=h
 obtain⟨b1,b2,b3,b4,b5⟩:=b
 omega
theorem hd_out {u y1 y0 n k r:Nat} (b:Bnd u y1 y0 n) (h:Hd u y1 y0 n (k+1) r) (hc:4294967296≤k+1∨(k+1)*y0>4294967296*r+n) (hr:4294967296≤r+y1):Dn u y1 y0 n k:=by
 obtain⟨b1,b2,b3,b4,b5⟩:=b
 have:=(dg_down h.1 b1 b3 b4 b5 hc).2
 exact dg_break this b1 b3 (by have:=h.1.2.2;omega) hr
theorem hd_on {u y1 y0 n k r:Nat} (b:Bnd u y1 y0 n) (h:Hd u y1 y0 n (k+1) r) (hc:4294967296≤k+1∨(k+1)*y0>4294967296*r+n) (hr: ¬4294967296≤r+y1):Hd u y1 y0 n k (r+y1):=by
 obtain⟨b1,b2,b3,b4,b5⟩:=b
 have:=(dg_down h.1 b1 b3 b4 b5 hc).2
 exact⟨this,by omega⟩
theorem hd_test {u y1 y0 n q r:Nat} (b:Bnd u y1 y0 n) (h:Hd u y1 y0 n q r) (hc: ¬4294967296≤q):
  (q:Int)<4294967296∧(r:Int)<4294967296∧(y1:Int)<4294967296∧(2147483648:Int)≤(y1:Int)∧(n:Int)<4294967296∧IntKind.u64.wrap ((q:Int)*y0)=(q:Int)*y0∧0≤(q:Int)*y0:=by
 obtain⟨⟨h1,h2,h3⟩,h4⟩:=h
 obtain⟨b1,b2,b3,b4,b5⟩:=b
 refine⟨by omega,by omega,by omega,by omega,by omega,?_,?_⟩
 ·rw[←Int.natCast_mul];exact u64_nat (dig_mul (by omega) b3)
 ·rw[←Int.natCast_mul];omega
theorem test_of {q r y0 n:Nat} (h:q*y0>4294967296*r+n):decide ((q:Int)*y0>4294967296*(r:Int)+n)=true:=by
 rw[←Int.natCast_mul];simp only[decide_eq_true_eq];omega
theorem hd_test1 {u y1 y0 n k r:Nat} (b:Bnd u y1 y0 n) (h:Hd u y1 y0 n (k+1) r) (hc: ¬4294967296≤k+1):
  (k:Int)+1<4294967296∧(r:Int)<4294967296∧(y1:Int)<4294967296∧(2147483648:Int)≤(y1:Int)∧(n:Int)<4294967296∧IntKind.u64.wrap (((k:Int)+1)*y0)=((k:Int)+1)*y0∧0≤((k:Int)+1)*y0:=by
 have:=hd_test b h hc
 rw[Int.natCast_add,Int.natCast_one]at this
 exact this
theorem test_of1 {k r y0 n:Nat} (h:(k+1)*y0>4294967296*r+n):decide (((k:Int)+1)*y0>4294967296*(r:Int)+n)=true:=by
 have:=test_of h
 rw[Int.natCast_add,Int.natCast_one]at this
 exact this
theorem test_not {q r y0 n:Nat} (h: ¬q*y0>4294967296*r+n):decide ((q:Int)*y0>4294967296*(r:Int)+n)=false:=by
 rw[←Int.natCast_mul];simp only[decide_eq_false_iff_not];omega
set_option maxRecDepth 100000 in
theorem div64_cells (h l y s:Int) (Y a b t:Int) (y1 y0 u n1 n0 v:Nat) (Q R:Nat) (w:World) (e0:(y==0)=false) (e1:decide (y≤h)=false) (e2:(h==0)=false)
  (hs0:0≤s)(hs1:s≤63)(hl:0≤l)(hy:0<y)
  (c0: ∀W,Calls Tryz.prog 285 #[.int .u64 y] W fun e w'=>e=.returned (.int .i64 s)∧w'=W)
  (k0:IntKind.u64.wrap s=s)(k00:IntKind.u64.wrap (64-s)=64-s)
  (k1:IntKind.u64.wrap (y*2^s.toNat)=Y)(k2:Y/4294967296=y1)(k3:bits .and .u64 Y 4294967295=y0)
  (k4:IntKind.u64.wrap (h*2^s.toNat)=a)(k5:l/2^(64-s).toNat=b)(k6:bits .or .u64 a b=u)
  (k7:IntKind.u64.wrap (l*2^s.toNat)=t)(k8:t/4294967296=n1)(k9:bits .and .u64 t 4294967295=n0)(hy1:(y1:Int)≠0)
  (B1:Hid (Bnd u y1 y0 n1))(B2:Hid (Bnd v y1 y0 n0))
  (F1:Hid (∀q1,Dn u y1 y0 n1 q1→IntKind.u64.wrap (IntKind.u64.wrap (IntKind.u64.wrap ((u:Int)*4294967296)+n1)-IntKind.u64.wrap ((q1:Int)*Y))=v))
  (F2:Hid (∀q1 q0,Dn u y1 y0 n1 q1→Dn v y1 y0 n0 q0→IntKind.u64.wrap (IntKind.u64.wrap ((q1:Int)*4294967296)+(q0:Int))=Q∧
   IntKind.u64.wrap (IntKind.u64.wrap (IntKind.u64.wrap ((v:Int)*4294967296)+n0)-IntKind.u64.wrap ((q0:Int)*Y))/2^s.toNat=R)):
  Calls Tryz.prog 259 #[.int .u64 h,.int .u64 l,.int .u64 y] w fun e w'=>e=.returned (.tuple #[.int .u64 Q,.int .u64 R])∧ ∃n,w'=w.drewN n:=by
 have C0:=Lib.hid c0;clear c0
 have k10:=quot_u B1.out
 go_enter Tryz.func259,Tryz.ntmps259
 go_upto_block 0 with(go_at_call 285;refine(C0.out _).mono ?_;rintro e w1 ⟨rfl,rfl⟩)
 clear k10 C0 k0 k00 k1 k2 k3 k4 k5 k6 k7 k8 k9 e0 e1 e2
 go_cut [15,16]from 67 to 85 (fun q r wx=>wx=w1∧ ∃qn rn:Nat,q=.int .u64 qn∧r=.int .u64 rn∧Dn u y1 y0 n1 qn)
 case first=>
  go_wp2_with fail
  go_loop [15,16] (fun q r=> ∃qn rn:Nat,q=.int .u64 qn∧r=.int .u64 rn∧Hd u y1 y0 n1 qn rn) (fun q _=>(intOf q).toNat)
  case atStart=>exact⟨u/y1,u%y1,by first|rfl|exact start_q,by first|(rw[start_r B1.out])|skip,hd_start B1.out⟩
  case round=>
   obtain⟨qn,rn,rfl,rfl,hD⟩:=hrel
   have HD:=Lib.hid hD;clear hD
   by_cases hA:4294967296≤qn
   ·obtain⟨k,rfl⟩: ∃k,qn=k+1:=⟨qn-1,by omega⟩
    obtain⟨i1,i2,i3,i4,i5⟩:=hd_high B1.out HD.out hA
    have HA:=Lib.hid hA;clear hA
    by_cases hB:4294967296≤rn+y1
    ·have iB:(4294967296:Int)≤(rn:Int)+y1:=by omega
     have HB:=Lib.hid hB;clear hB
     go_wp2_with fail
     go_meet
     exact⟨rfl,k,rn+y1,by go_num,by go_num,hd_out B1.out HD.out (.inl HA.out) HB.out⟩
    ·have iB: ¬(4294967296:Int)≤(rn:Int)+y1:=by omega
     have HB:=Lib.hid hB;clear hB
     go_wp2_with fail
     go_round
     case rel=>exact⟨k,rn+y1,by go_num,by go_num,hd_on B1.out HD.out (.inl HA.out) HB.out⟩
     case measure=>simp[intOf]
   ·have HA:=Lib.hid hA;clear hA
    by_cases hC:qn*y0>4294967296*rn+n1
    ·obtain⟨k,rfl⟩: ∃k,qn=k+1:=by
      rcases qn with _|k
      ·simp at hC
      ·exact⟨k,rfl⟩
     obtain⟨i1,i2,i3,i4,i5,i6,i7⟩:=hd_test1 B1.out HD.out HA.out
     have iA: ¬(4294967296:Int)≤(k:Int)+1:=by omega
     have dC:=test_of1 hC
     have HC:=Lib.hid hC;clear hC
     by_cases hB:4294967296≤rn+y1
     ·have iB:(4294967296:Int)≤(rn:Int)+y1:=by omega
      have HB:=Lib.hid hB;clear hB
      go_wp2_with fail
      go_meet
      exact⟨rfl,k,rn+y1,by go_num,by go_num,hd_out B1.out HD.out (.inr HC.out) HB.out⟩
     ·have iB: ¬(4294967296:Int)≤(rn:Int)+y1:=by omega
      have HB:=Lib.hid hB;clear hB
      go_wp2_with fail
      go_round
      case rel=>exact⟨k,rn+y1,by go_num,by go_num,hd_on B1.out HD.out (.inr HC.out) HB.out⟩
      case measure=>simp[intOf]
    ·obtain⟨i1,i2,i3,i4,i5,i6,i7⟩:=hd_test B1.out HD.out HA.out
     have iA: ¬(4294967296:Int)≤(qn:Int):=by omega
     have dC:=test_not hC
     have HC:=Lib.hid hC;clear hC
     go_wp2_with fail
     go_meet
     exact⟨rfl,qn,rn,rfl,rfl,dg_done HD.out.1 B1.out.1 HC.out⟩
 case rest=>
  obtain⟨rfl,q1,r1,rfl,rfl,hdn⟩:=hcut
  have HF:=Lib.hid (F2.out q1);clear F2
  have h17:=F1.out q1 hdn
  have HN:=Lib.hid hdn;clear hdn
  obtain⟨A1,m1⟩: ∃A,IntKind.u64.wrap ((u:Int)*4294967296)=A:=⟨_,rfl⟩
  rw[m1]at h17
  obtain⟨A2,m2⟩: ∃A,IntKind.u64.wrap (A1+(n1:Int))=A:=⟨_,rfl⟩
  rw[m2]at h17
  obtain⟨A3,m3⟩: ∃A,IntKind.u64.wrap ((q1:Int)*Y)=A:=⟨_,rfl⟩
  rw[m3]at h17
  have k11:=quot_u B2.out
  go_upto_block 2 with fail
  clear m1 m2 m3 h17 k11
  go_cut [18,16]from 102 to 120 (fun q r wx=>wx=wc∧ ∃qn rn:Nat,q=.int .u64 qn∧r=.int .u64 rn∧Dn v y1 y0 n0 qn)
  case first=>
   go_wp2_with fail
   go_loop [18,16] (fun q r=> ∃qn rn:Nat,q=.int .u64 qn∧r=.int .u64 rn∧Hd v y1 y0 n0 qn rn) (fun q _=>(intOf q).toNat)
   case atStart=>exact⟨v/y1,v%y1,by first|rfl|exact start_q,by first|(rw[start_r B2.out])|skip,hd_start B2.out⟩
   case round=>
    obtain⟨qn,rn,rfl,rfl,hD⟩:=hrel
    have HD:=Lib.hid hD;clear hD
    by_cases hA:4294967296≤qn
    ·obtain⟨k,rfl⟩: ∃k,qn=k+1:=⟨qn-1,by omega⟩
     obtain⟨i1,i2,i3,i4,i5⟩:=hd_high B2.out HD.out hA
     have HA:=Lib.hid hA;clear hA
     by_cases hB:4294967296≤rn+y1
     ·have iB:(4294967296:Int)≤(rn:Int)+y1:=by omega
      have HB:=Lib.hid hB;clear hB
      go_wp2_with fail
      go_meet
      exact⟨rfl,k,rn+y1,by go_num,by go_num,hd_out B2.out HD.out (.inl HA.out) HB.out⟩
     ·have iB: ¬(4294967296:Int)≤(rn:Int)+y1:=by omega
      have HB:=Lib.hid hB;clear hB
      go_wp2_with fail
      go_round
      case rel=>exact⟨k,rn+y1,by go_num,by go_num,hd_on B2.out HD.out (.inl HA.out) HB.out⟩
      case measure=>simp[intOf]
    ·have HA:=Lib.hid hA;clear hA
     by_cases hC:qn*y0>4294967296*rn+n0
     ·obtain⟨k,rfl⟩: ∃k,qn=k+1:=by
       rcases qn with _|k
       ·simp at hC
       ·exact⟨k,rfl⟩
      obtain⟨i1,i2,i3,i4,i5,i6,i7⟩:=hd_test1 B2.out HD.out HA.out
      have iA: ¬(4294967296:Int)≤(k:Int)+1:=by omega
      have dC:=test_of1 hC
      have HC:=Lib.hid hC;clear hC
      by_cases hB:4294967296≤rn+y1
      ·have iB:(4294967296:Int)≤(rn:Int)+y1:=by omega
       have HB:=Lib.hid hB;clear hB
       go_wp2_with fail
       go_meet
       exact⟨rfl,k,rn+y1,by go_num,by go_num,hd_out B2.out HD.out (.inr HC.out) HB.out⟩
      ·have iB: ¬(4294967296:Int)≤(rn:Int)+y1:=by omega
       have HB:=Lib.hid hB;clear hB
       go_wp2_with fail
       go_round
       case rel=>exact⟨k,rn+y1,by go_num,by go_num,hd_on B2.out HD.out (.inr HC.out) HB.out⟩
       case measure=>simp[intOf]
     ·obtain⟨i1,i2,i3,i4,i5,i6,i7⟩:=hd_test B2.out HD.out HA.out
      have iA: ¬(4294967296:Int)≤(qn:Int):=by omega
      have dC:=test_not hC
      have HC:=Lib.hid hC;clear hC
      go_wp2_with fail
      go_meet
      exact⟨rfl,qn,rn,rfl,rfl,dg_done HD.out.1 B2.out.1 HC.out⟩
  case rest=>
   obtain⟨rfl,q0,r0,rfl,rfl,hdn⟩:=hcut
   obtain⟨hQ,hR⟩:=HF.out q0 HN.out hdn
   clear hdn
   obtain⟨D1,m1⟩: ∃A,IntKind.u64.wrap ((q1:Int)*4294967296)=A:=⟨_,rfl⟩
   obtain⟨D2,m2⟩: ∃A,IntKind.u64.wrap ((v:Int)*4294967296)=A:=⟨_,rfl⟩
   obtain⟨D4,m4⟩: ∃A,IntKind.u64.wrap ((q0:Int)*Y)=A:=⟨_,rfl⟩
   rw[m1]at hQ
   rw[m2,m4]at hR
   obtain⟨D3,m3⟩: ∃A,IntKind.u64.wrap (D2+(n0:Int))=A:=⟨_,rfl⟩
   rw[m3]at hR
   obtain⟨D5,m5⟩: ∃A,IntKind.u64.wrap (D3-D4)=A:=⟨_,rfl⟩
   rw[m5]at hR
   go_wp2_with fail
   go_ret2
   exact⟨rfl,0,rfl⟩
end Go.Proofs.YtplljnfjkkloeaaGreatDoor
set_option linter.unusedVariables false
set_option linter.unusedSimpArgs false
namespace Go.Proofs.YtplljnfjkkloeaaGreatDoor
open Go.RowKit
theorem moved_up {h l S:Nat} (hS:S≤63) (hl:l<18446744073709551616):
  (h*18446744073709551616+l)*2^S=(h*2^S+l/2^(64-S))*18446744073709551616+l*2^S%18446744073709551616∧l/2^(64-S)<2^S:=by
 have e64:(18446744073709551616:Nat)=2^(64-S)*2^S:=by
  rw[←Nat.pow_add,show 64-S+S=64 by omega]
 have hp:0<2^S:=Nat.two_pow_pos S
 have hd:l*2^S/18446744073709551616=l/2^(64-S):=by
  rw[e64];exact Nat.mul_div_mul_right _ _ hp
 have e:=Nat.div_add_mod (l*2^S) 18446744073709551616
 rw[hd]at e
 constructor
 ·have e1:(h*18446744073709551616+l)*2^S=h*2^S*18446744073709551616+l*2^S:=by
   rw[Nat.add_mul,Nat.mul_assoc,Nat.mul_comm 18446744073709551616,←Nat.mul_assoc]
  rw[e1]
  generalize h*2^S=a at*
  generalize l*2^S%18446744073709551616=b at*
  generalize l/2^(64-S)=c at*
  omega
 ·rw[Nat.div_lt_iff_lt_mul (Nat.two_pow_pos _),Nat.mul_comm,←e64]
  exact hl
theorem norm_lt {h y l S:Nat} (hh:h<y) (hS:S≤63) (hl:l<18446744073709551616):h*2^S+l/2^(64-S)<y*2^S:=by
 have h1:=(moved_up (h:=h) hS hl).2
 have h2:(h+1)*2^S≤y*2^S:=Nat.mul_le_mul_right _ hh
 rw[Nat.add_mul,Nat.one_mul]at h2
 omega
theorem sub_digit {u n P v:Nat} (e:P+v=u*4294967296+n) (hv:v<18446744073709551616):
  IntKind.u64.wrap (IntKind.u64.wrap (IntKind.u64.wrap ((u:Int)*4294967296)+n)-IntKind.u64.wrap (P:Int))=v:=by
 simp only[IntKind.wrap_u64]
 omega
theorem pow_int (S:Nat):((2:Int)^S)=((2^S:Nat):Int):=by simp
set_option maxRecDepth 100000 in
theorem div64_high (h l y S:Nat) (w:World) (h0:0<h) (hh:h<y) (hl:l<18446744073709551616) (hS:S≤63) (hn1:9223372036854775808≤y*2^S) (hn2:y*2^S<18446744073709551616)
  (c0: ∀W,Calls Tryz.prog 285 #[.int .u64 y] W fun e w'=>e=.returned (.int .i64 (S:Int))∧w'=W):
  Calls Tryz.prog 259 #[.int .u64 h,.int .u64 l,.int .u64 y] w fun e w'=>e=.returned (.tuple #[.int .u64 (((h*18446744073709551616+l)/y:Nat):Int),.int .u64 (((h*18446744073709551616+l)%y:Nat):Int)])∧ ∃n,w'=w.drewN n:=by
 obtain⟨m1,m2⟩:=moved_up (h:=h) hS hl
 have m3:=norm_lt hh hS hl
 have hp:0<2^S:=Nat.two_pow_pos S
 have hp2:2^S≤9223372036854775808:=by
  have:=Nat.pow_le_pow_right (show 0<2 by omega) hS
  simpa using this
 have g1:=(moved (N:=h*18446744073709551616+l) (d:=y) hp).1
 have g2:=(moved (N:=h*18446744073709551616+l) (d:=y) hp).2
 have hq64:(h*18446744073709551616+l)/y<18446744073709551616:=digit_lt (by omega) hh hl
 have hr64:(h*18446744073709551616+l)%y<y:=Nat.mod_lt _ (by omega)
 have ha:h*2^S<18446744073709551616:=by
  have:h*2^S≤y*2^S:=Nat.mul_le_mul_right _ (by omega)
  omega
 obtain⟨Y,hY⟩: ∃Y,y*2^S=Y:=⟨_,rfl⟩
 obtain⟨a,hA⟩: ∃a,h*2^S=a:=⟨_,rfl⟩
 obtain⟨b,hB⟩: ∃b,l/2^(64-S)=b:=⟨_,rfl⟩
 obtain⟨t,hT⟩: ∃t,l*2^S%18446744073709551616=t:=⟨_,rfl⟩
 have hor:a|||b=a+b:=by
  have:=Nat.two_pow_add_eq_or_of_lt (b:=b) (i:=S) (by omega) h
  rw[Nat.mul_comm,hA]at this
  exact this.symm
 have t64:t<18446744073709551616:=by rw[←hT];exact Nat.mod_lt _ (by omega)
 rw[hA,hB,hT,show(a+b)*18446744073709551616+t=((a+b)*4294967296+t/4294967296)*4294967296+t%4294967296 by omega]at m1
 rw[hA,hB,hY]at m3
 rw[hY]at hn1 hn2 g1 g2
 obtain⟨d1,d2⟩:=two_digits (un32:=a+b) (un1:=t/4294967296) (un0:=t%4294967296) (y:=Y) (B:=4294967296) (by omega) (by omega)
 rw[←m1,g1]at d1
 rw[←m1,g2]at d2
 have ey:Y/4294967296*4294967296+Y%4294967296=Y:=by omega
 have v1:((a+b)*4294967296+t/4294967296)%Y<Y:=Nat.mod_lt _ (by omega)
 refine div64_cells (h:Int) l y S Y a b t (Y/4294967296) (Y%4294967296) (a+b) (t/4294967296) (t%4294967296) (((a+b)*4294967296+t/4294967296)%Y) ((h*18446744073709551616+l)/y) ((h*18446744073709551616+l)%y) w ?_ ?_ ?_ (by omega) (by omega) (by omega) (by omega) c0 ?_ ?_ ?_ ?_ ?_ ?_ ?_ ?_ ?_ ?_ ?_ ?_ ?_ ?_ ?_ ?_
 ·simp;omega
 ·simp;omega
 ·simp;omega
 ·rw[IntKind.wrap_u64];omega
 ·rw[IntKind.wrap_u64];omega
 ·rw[Int.toNat_natCast,pow_int,←Int.natCast_mul,hY];exact u64_nat hn2
 ·rfl
 ·exact Mul64.maskN Y hn2
 ·rw[Int.toNat_natCast,pow_int,←Int.natCast_mul,hA];exact u64_nat (by omega)
 ·rw[show(64-(S:Int)).toNat=64-S by omega,pow_int,←Int.natCast_ediv,hB]
 ·rw[u64_or_nat _ _ (by omega) (by omega),hor]
 ·rw[Int.toNat_natCast,pow_int,←Int.natCast_mul,IntKind.wrap_u64,←hT];rfl
 ·rfl
 ·exact Mul64.maskN t t64
 ·omega
 ·exact⟨by omega,by omega,by omega,by omega,by omega⟩
 ·exact⟨by omega,by omega,by omega,by omega,by rw[ey];exact v1⟩
 ·intro q1 hq
  unfold Dn at hq
  rw[ey]at hq
  have e:=Nat.div_add_mod ((a+b)*4294967296+t/4294967296) Y
  rw[←hq]at e
  have:=sub_digit (P:=q1*Y) (by rw[Nat.mul_comm];exact e) (Nat.lt_trans v1 hn2)
  rw[Int.natCast_mul]at this
  exact this
 ·intro q1 q0 hq hq0
  unfold Dn at hq hq0
  rw[ey]at hq hq0
  rw[←hq,←hq0]at d1
  have e:=Nat.div_add_mod (((a+b)*4294967296+t/4294967296)%Y*4294967296+t%4294967296) Y
  rw[←hq0]at e
  refine⟨?_,?_⟩
  ·rw[d1]at hq64 ⊢
   simp only[IntKind.wrap_u64]
   omega
  ·have r64:=Nat.mod_lt (((a+b)*4294967296+t/4294967296)%Y*4294967296+t%4294967296) (show 0<Y by omega)
   have:=sub_digit (P:=q0*Y) (by rw[Nat.mul_comm];exact e) (Nat.lt_trans r64 hn2)
   rw[Int.natCast_mul]at this
   rw[this,←d2,Int.toNat_natCast,pow_int,←Int.natCast_ediv,Nat.mul_div_cancel _ hp]
theorem div64_any (h l y:Nat) (w:World) (hh:h<y) (hl:l<18446744073709551616) (hy:y<18446744073709551616):
  Calls Tryz.prog 259 #[.int .u64 h,.int .u64 l,.int .u64 y] w fun e w'=>e=.returned (.tuple #[.int .u64 (((h*18446744073709551616+l)/y:Nat):Int),.int .u64 (((h*18446744073709551616+l)%y:Nat):Int)])∧ ∃n,w'=w.drewN n:=by
 rcases Nat.eq_zero_or_pos h with h0|h0
 ·subst h0
  rw[Nat.zero_mul,Nat.zero_add]
  exact div64_low l y w (by simp;omega) (by simp;omega) (by omega) (by omega) (by omega)
 ·have c:=fun W=>Any.bits_LeadingZeros64 lays134 (y:Int) W (by omega) (by omega)
  rw[Int.toNat_natCast]at c
  obtain⟨b1,b2,b3⟩:=Lib.bitLenAux_bounds 64 y hy (by omega)
  have b4:Lib.bitLen y≤64:=Lib.bitLen_le y 64 (by omega) hy
  have b5:1≤Lib.bitLen y:=b1
  have e:(64-(Lib.bitLen y:Int))=((64-Lib.bitLen y:Nat):Int):=by omega
  rw[e]at c
  refine div64_high h l y (64-Lib.bitLen y) w h0 hh hl (by omega) ?_ ?_ c
  ·have:=Nat.mul_le_mul_right (2^(64-Lib.bitLen y)) (show 2^(Lib.bitLen y-1)≤y from b2)
   rw[←Nat.pow_add,show Lib.bitLen y-1+(64-Lib.bitLen y)=63 by omega]at this
   exact this
  ·have:=Nat.mul_lt_mul_of_pos_right (show y<2^Lib.bitLen y from b3) (Nat.two_pow_pos (64-Lib.bitLen y))
   rw[←Nat.pow_add,show Lib.bitLen y+(64-Lib.bitLen y)=64 by omega]at this
   exact this
end Go.Proofs.YtplljnfjkkloeaaGreatDoor
set_option linter.unusedVariables false
set_option linter.unusedSimpArgs false
namespace Go.Proofs.YtplljnfjkkloeaaGreatDoor
open Go.RowKit
set_option maxRecDepth 100000 in
theorem div_up (h l d m hq hr lq r h' r':Int) (w:World) (e1:decide (d<1)=false) (e2:decide (h<0)=false) (e3:decide (h≥0)=true) (e4:IntKind.u64.wrap d=m) (e5:IntKind.u64.wrap h=h) (em:m≠0)
  (q1:IntKind.u64.wrap (h.tdiv m)=hq)(q2:h%m=hr)(k0:0≤h)(k1:1≤m)
  (c0: ∀W,Calls Tryz.prog 259 #[.int .u64 hr,.int .u64 l,.int .u64 m] W fun e w'=>e=.returned (.tuple #[.int .u64 lq,.int .u64 r])∧ ∃n,w'=W.drewN n)
  (e6:wrap64 hq=h')(e7:IntKind.i64.wrap r=r'):
  Calls Tryz.prog 216 #[.agg #[.int .i64 h,.int .u64 l],.int .i64 d] w fun e w'=>e=.returned (.tuple #[.agg #[.int .i64 h',.int .u64 lq],.int .i64 r',.bool true])∧Ext w w':=by
 have C0:=Lib.hid c0;clear c0
 go_enter Tryz.func216,Tryz.ntmps216
 go_wp2_with fail
 go_quiet ((go_at_call 259;exact Calls.quiet_of (C0.out _)))
 go_wp2_with fail
 go_returns
 exact⟨rfl,by(repeat(first|with_reducible(first|exact eR_ _|assumption|refine eA_ ?_ _|refine eD_ ?_|refine eN_ ?_ _|refine eL_ ?_ _)|(with_reducible refine eS_ ?_ _ ?hp;case hp=>first|(simp;done)|(simp;omega)|omega)))⟩
set_option maxRecDepth 100000 in
theorem div_down0 (h l d m xh xl hq hr lq h' h2 l2:Int) (w:World) (e1:decide (d<1)=false) (e2:decide (h<0)=true) (e3:decide (h≥0)=false) (e4:IntKind.u64.wrap d=m) (e5:IntKind.u64.wrap xh=xh) (em:m≠0)
  (q1:IntKind.u64.wrap (xh.tdiv m)=hq)(q2:xh%m=hr)(k0:0≤xh)(k1:1≤m)
  (c1: ∀W,Calls Tryz.prog 258 #[.agg #[.int .i64 h,.int .u64 l]] W fun e w'=>e=.returned (.agg #[.int .i64 xh,.int .u64 xl])∧Ext W w')
  (c0: ∀W,Calls Tryz.prog 259 #[.int .u64 hr,.int .u64 xl,.int .u64 m] W fun e w'=>e=.returned (.tuple #[.int .u64 lq,.int .u64 0])∧ ∃n,w'=W.drewN n)
  (e6:wrap64 hq=h')
  (c2: ∀W,Calls Tryz.prog 258 #[.agg #[.int .i64 h',.int .u64 lq]] W fun e w'=>e=.returned (.agg #[.int .i64 h2,.int .u64 l2])∧Ext W w'):
  Calls Tryz.prog 216 #[.agg #[.int .i64 h,.int .u64 l],.int .i64 d] w fun e w'=>e=.returned (.tuple #[.agg #[.int .i64 h2,.int .u64 l2],.int .i64 0,.bool true])∧Ext w w':=by
 have C0:=Lib.hid c0;clear c0
 have C1:=Lib.hid c1;clear c1
 have C2:=Lib.hid c2;clear c2
 go_enter Tryz.func216,Tryz.ntmps216
 go_wp2_with fail
 refine(C1.out _).mono ?_
 rintro e w1 ⟨rfl,hE⟩
 obtain⟨x1,rfl⟩:=Later.mk' hE
 clear hE
 obtain⟨k0,f0⟩:=later_cel x1 (w.heap.size+1+1) 0 (v:=.int .i64 h) ⟨by simp[go_sem],by simp[go_sem]⟩
 obtain⟨k1,f1⟩:=later_cel x1 (w.heap.size+1+1) 1 (v:=.int .u64 l) ⟨by simp[go_sem],by simp[go_sem]⟩
 have z0:=x1.le
 simp at z0
 have z1:w.heap.size<x1.w.heap.size:=by omega
 have z2:w.heap.size+1<x1.w.heap.size:=by omega
 have z3:w.heap.size+1+1<x1.w.heap.size:=by omega
 clear z0
 go_wp2_with fail
 go_quiet ((go_at_call 259;exact Calls.quiet_of (C0.out _)))
 go_wp2_with fail
 refine(C2.out _).mono ?_
 rintro e w1 ⟨rfl,hE⟩
 obtain⟨x2,rfl⟩:=Later.mk' hE
 clear hE
 obtain⟨k2,f2⟩:=later_cel x2 x1.w.heap.size 0 (v:=.int .i64 h') ⟨by simp[go_sem],by simp[go_sem]⟩
 obtain⟨k3,f3⟩:=later_cel x2 x1.w.heap.size 1 (v:=.int .u64 lq) ⟨by simp[go_sem],by simp[go_sem]⟩
 obtain⟨k4,f4⟩:=later_cel x2 (w.heap.size+1) 0 (v:=.int .i64 0) ⟨by simp[go_sem,z2],by simp[go_sem,z2]⟩
 obtain⟨k5,f5⟩:=later_cel x2 (w.heap.size+1) 1 (v:=.int .u64 0) ⟨by simp[go_sem,z2],by simp[go_sem,z2]⟩
 have z4:x1.w.heap.size≠w.heap.size+1:=by omega
 go_wp2_with fail
 obtain⟨p0,p1⟩:=two_cells (W:=(x2.w.setCell ⟨x1.w.heap.size,0,none⟩ (.int .i64 h2)).setCell ⟨x1.w.heap.size,1,none⟩ (.int .u64 l2)) (b:=w.heap.size+1) (u0:=.int .i64 0) (u1:=.int .u64 0) (by simp[go_sem,k4,z4]) (by simp[go_sem,k5,z4]) (.int .i64 h2) (.int .u64 l2)
 refine bodyPost_ret (v:=.tuple #[.agg #[.int .i64 h2,.int .u64 l2],.int .i64 0,.bool true]) (by simp[results,Tryz.results216,p0,p1,go_sem]) rfl ⟨rfl,by(repeat(first|with_reducible(first|exact eR_ _|assumption|refine eA_ ?_ _|refine eD_ ?_|refine eN_ ?_ _|refine eL_ ?_ _)|(with_reducible refine eS_ ?_ _ ?hp;case hp=>first|(simp;done)|(simp;omega)|omega)))⟩
set_option maxRecDepth 100000 in
theorem div_down1 (h l d m xh xl hq hr lq h' h2 l2 r h3 l3 r':Int) (w:World) (e1:decide (d<1)=false) (e2:decide (h<0)=true) (e3:decide (h≥0)=false) (e4:IntKind.u64.wrap d=m) (e5:IntKind.u64.wrap xh=xh) (em:m≠0)
  (q1:IntKind.u64.wrap (xh.tdiv m)=hq)(q2:xh%m=hr)(k0:0≤xh)(k1:1≤m)
  (c1: ∀W,Calls Tryz.prog 258 #[.agg #[.int .i64 h,.int .u64 l]] W fun e w'=>e=.returned (.agg #[.int .i64 xh,.int .u64 xl])∧Ext W w')
  (c0: ∀W,Calls Tryz.prog 259 #[.int .u64 hr,.int .u64 xl,.int .u64 m] W fun e w'=>e=.returned (.tuple #[.int .u64 lq,.int .u64 r])∧ ∃n,w'=W.drewN n)
  (e6:wrap64 hq=h')
  (c2: ∀W,Calls Tryz.prog 258 #[.agg #[.int .i64 h',.int .u64 lq]] W fun e w'=>e=.returned (.agg #[.int .i64 h2,.int .u64 l2])∧Ext W w')
  (e7:(r==0)=false)(e8:IntKind.u64.wrap (m-r)=m-r)(e9:IntKind.i64.wrap (m-r)=r')
  (c3: ∀W,Calls Tryz.prog 260 #[.agg #[.int .i64 h2,.int .u64 l2],.agg #[.int .i64 0,.int .u64 1]] W fun e w'=>e=.returned (.tuple #[.agg #[.int .i64 h3,.int .u64 l3],.bool true])∧Ext W w'):
  Calls Tryz.prog 216 #[.agg #[.int .i64 h,.int .u64 l],.int .i64 d] w fun e w'=>e=.returned (.tuple #[.agg #[.int .i64 h3,.int .u64 l3],.int .i64 r',.bool true])∧Ext w w':=by
 have C0:=Lib.hid c0;clear c0
 have C1:=Lib.hid c1;clear c1
 have C2:=Lib.hid c2;clear c2
 have C3:=Lib.hid c3;clear c3
 go_enter Tryz.func216,Tryz.ntmps216
 go_wp2_with fail
 refine(C1.out _).mono ?_
 rintro e w1 ⟨rfl,hE⟩
 obtain⟨x1,rfl⟩:=Later.mk' hE
 clear hE
 obtain⟨k0,f0⟩:=later_cel x1 (w.heap.size+1+1) 0 (v:=.int .i64 h) ⟨by simp[go_sem],by simp[go_sem]⟩
 obtain⟨k1,f1⟩:=later_cel x1 (w.heap.size+1+1) 1 (v:=.int .u64 l) ⟨by simp[go_sem],by simp[go_sem]⟩
 have z0:=x1.le
 simp at z0
 have z1:w.heap.size<x1.w.heap.size:=by omega
 have z2:w.heap.size+1<x1.w.heap.size:=by omega
 have z3:w.heap.size+1+1<x1.w.heap.size:=by omega
 clear z0
 go_wp2_with fail
 go_quiet ((go_at_call 259;exact Calls.quiet_of (C0.out _)))
 go_wp2_with fail
 refine(C2.out _).mono ?_
 rintro e w1 ⟨rfl,hE⟩
 obtain⟨x2,rfl⟩:=Later.mk' hE
 clear hE
 obtain⟨k2,f2⟩:=later_cel x2 x1.w.heap.size 0 (v:=.int .i64 h') ⟨by simp[go_sem],by simp[go_sem]⟩
 obtain⟨k3,f3⟩:=later_cel x2 x1.w.heap.size 1 (v:=.int .u64 lq) ⟨by simp[go_sem],by simp[go_sem]⟩
 obtain⟨k4,f4⟩:=later_cel x2 (w.heap.size+1) 0 (v:=.int .i64 0) ⟨by simp[go_sem,z2],by simp[go_sem,z2]⟩
 obtain⟨k5,f5⟩:=later_cel x2 (w.heap.size+1) 1 (v:=.int .u64 0) ⟨by simp[go_sem,z2],by simp[go_sem,z2]⟩
 have z4:x1.w.heap.size≠w.heap.size+1:=by omega
 have z5:=x2.le
 simp at z5
 have z6:x1.w.heap.size<x2.w.heap.size:=by omega
 clear z5
 have z7:w.heap.size+1≠x1.w.heap.size:=by omega
 go_wp2_with fail
 refine(C3.out _).mono ?_
 rintro e w1 ⟨rfl,hE⟩
 obtain⟨x3,rfl⟩:=Later.mk' hE
 clear hE
 obtain⟨k6,f6⟩:=later_cel x3 x1.w.heap.size 0 (v:=.int .i64 h2) ⟨by simp[go_sem,k2,k3],by simp[go_sem,f2]⟩
 obtain⟨k7,f7⟩:=later_cel x3 x1.w.heap.size 1 (v:=.int .u64 l2) ⟨by simp[go_sem,k2,k3],by simp[go_sem,f3]⟩
 obtain⟨k8,f8⟩:=later_cel x3 (w.heap.size+1) 0 (v:=.int .i64 0) ⟨by simp[go_sem,k4,z4],by simp[go_sem,f4]⟩
 obtain⟨k9,f9⟩:=later_cel x3 (w.heap.size+1) 1 (v:=.int .u64 0) ⟨by simp[go_sem,k5,z4],by simp[go_sem,f5]⟩
 go_wp2_with fail
 obtain⟨p0,p1⟩:=two_cells (W:=(x3.w.setCell ⟨x1.w.heap.size,0,none⟩ (.int .i64 h3)).setCell ⟨x1.w.heap.size,1,none⟩ (.int .u64 l3)) (b:=w.heap.size+1) (u0:=.int .i64 0) (u1:=.int .u64 0) (by simp[go_sem,k8,z4]) (by simp[go_sem,k9,z4]) (.int .i64 h3) (.int .u64 l3)
 refine bodyPost_ret (v:=.tuple #[.agg #[.int .i64 h3,.int .u64 l3],.int .i64 r',.bool true]) (by simp[results,Tryz.results216,p0,p1,go_sem]) rfl ⟨rfl,by(repeat(first|with_reducible(first|exact eR_ _|assumption|refine eA_ ?_ _|refine eD_ ?_|refine eN_ ?_ _|refine eL_ ?_ _)|(with_reducible refine eS_ ?_ _ ?hp;case hp=>first|(simp;done)|(simp;omega)|omega)))⟩
end Go.Proofs.YtplljnfjkkloeaaGreatDoor
