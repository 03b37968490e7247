/- Proof text: numbers of 128 bits (package xint), on: Div, all of it; Mul and Div together. By an AI agent. No condition beyond what each theorem states. -/
import Derived.Test.YtplljnfjkkloeaaGreatDoorXF
import Derived.Test.YtplljnfjkkloeaaGreatDoorSH
set_option linter.unusedVariables false
set_option linter.unusedSimpArgs false
namespace Go.Proofs.YtplljnfjkkloeaaGreatDoor
open Go.RowKit
theorem nat_parts (X d:Nat) (hd:0<d):
  X/d=X/18446744073709551616/d*18446744073709551616+(X/18446744073709551616%d*18446744073709551616+X%18446744073709551616)/d∧
  X%d=(X/18446744073709551616%d*18446744073709551616+X%18446744073709551616)%d∧
  (X/18446744073709551616%d*18446744073709551616+X%18446744073709551616)/d<18446744073709551616:=by
 have h:=two_digits (un32:=0) (un1:=X/18446744073709551616) (un0:=X%18446744073709551616) (y:=d) (B:=18446744073709551616) hd (by omega)
 simp only[Nat.zero_mul,Nat.zero_add]at h
 have e:X/18446744073709551616*18446744073709551616+X%18446744073709551616=X:=by omega
 rw[e]at h
 exact⟨h.1,h.2,digit_lt hd (Nat.mod_lt _ hd) (by omega)⟩
theorem hi_nat (X:Nat):hi (X:Int)=((X/18446744073709551616:Nat):Int):=by unfold hi;omega
theorem lo_nat (X:Nat):lo (X:Int)=((X%18446744073709551616:Nat):Int):=by unfold lo;omega
theorem hi_div (X d:Nat) (hd:0<d):hi ((X/d:Nat):Int)=((X/18446744073709551616/d:Nat):Int)∧lo ((X/d:Nat):Int)=(((X/18446744073709551616%d*18446744073709551616+X%18446744073709551616)/d:Nat):Int):=by
 obtain⟨h1,_,h3⟩:=nat_parts X d hd
 rw[h1]
 generalize(X/18446744073709551616%d*18446744073709551616+X%18446744073709551616)/d=a at*
 generalize X/18446744073709551616/d=b at*
 exact halves (by omega) (by omega) (by omega)
theorem neg_div (X d:Nat) (hd:0<d) (h:X%d=0):(-(X:Int))/d= -((X/d:Nat):Int)∧(-(X:Int))%d=0:=by
 have e:=Nat.div_add_mod X d
 have e2:(X:Int)=(d:Int)*((X/d:Nat):Int):=by rw[←Int.natCast_mul];omega
 constructor
 ·have: -(X:Int)= -((X/d:Nat):Int)*d:=by rw[Int.neg_mul,Int.mul_comm];omega
  rw[this,Int.mul_ediv_cancel _ (by omega)]
 ·rw[Int.emod_eq_zero_of_dvd]
  exact Int.dvd_neg.2 ⟨_,e2⟩
theorem neg_div1 (X d:Nat) (hd:0<d) (h:0<X%d):(-(X:Int))/d= -((X/d:Nat):Int)-1∧(-(X:Int))%d=d-((X%d:Nat):Int):=by
 have e:=Nat.div_add_mod X d
 have hl:=Nat.mod_lt X hd
 have e2:(X:Int)=(d:Int)*((X/d:Nat):Int)+((X%d:Nat):Int):=by rw[←Int.natCast_mul];omega
 have e3: -(X:Int)=(d-((X%d:Nat):Int))+(-((X/d:Nat):Int)-1)*d:=by
  rw[Int.sub_mul,Int.neg_mul,Int.mul_comm ((X/d:Nat):Int)];omega
 constructor
 ·rw[e3,Int.add_mul_ediv_right _ _ (by omega),Int.ediv_eq_zero_of_lt (by omega) (by omega)];omega
 ·rw[e3,Int.add_mul_emod_self_right,Int.emod_eq_of_lt (by omega) (by omega)]
theorem wrap64_of {n:Int} (h1: -9223372036854775808≤n) (h2:n<9223372036854775808):wrap64 n=n:=by unfold wrap64;omega
theorem div_any (z:Int) (d:Nat) (w:World) (h1: -170141183460469231731687303715884105728<z) (h2:z<170141183460469231731687303715884105728) (d1:1≤d) (d2:d<9223372036854775808):
  Calls Tryz.prog 216 #[I z,.int .i64 (d:Int)] w fun e w'=>e=.returned (.tuple #[I (z/d),.int .i64 (z%d),.bool true])∧Ext w w':=by
 have ed:IntKind.u64.wrap (d:Int)=d:=u64_nat (by omega)
 have core: ∀X:Nat,X<170141183460469231731687303715884105728→ ∀W,Calls Tryz.prog 259 #[.int .u64 ((X/18446744073709551616:Nat)%(d:Int)),.int .u64 ((X%18446744073709551616:Nat):Int),.int .u64 d] W fun e w'=>e=.returned (.tuple #[.int .u64 (lo ((X/d:Nat):Int)),.int .u64 ((X%d:Nat):Int)])∧ ∃n,w'=W.drewN n:=by
  intro X hX W
  have:=div64_any (X/18446744073709551616%d) (X%18446744073709551616) d W (Nat.mod_lt _ (by omega)) (by omega) (by omega)
  rw[←(nat_parts X d (by omega)).2.1,←(hi_div X d (by omega)).2]at this
  exact this
 have quot: ∀X:Nat,X<170141183460469231731687303715884105728→IntKind.u64.wrap (((X/18446744073709551616:Nat):Int).tdiv d)=hi ((X/d:Nat):Int)∧wrap64 (hi ((X/d:Nat):Int))=hi ((X/d:Nat):Int):=by
  intro X hX
  have e:=(hi_div X d (by omega)).1
  have hle:X/18446744073709551616/d≤X/18446744073709551616:=Nat.div_le_self _ _
  rw[e,Int.tdiv_eq_ediv_of_nonneg (by omega),←Int.natCast_ediv]
  generalize X/18446744073709551616/d=k at hle
  exact⟨u64_nat (by omega),wrap64_of (by omega) (by omega)⟩
 by_cases hz:0≤z
 ·obtain⟨X,rfl⟩:=Int.eq_ofNat_of_zero_le hz
  have hX:X<170141183460469231731687303715884105728:=by omega
  obtain⟨q1,q2⟩:=quot X hX
  have hr:=Nat.mod_lt X (show 0<d by omega)
  have key:=div_up (hi (X:Int)) (lo (X:Int)) d d _ _ _ ((X%d:Nat):Int) _ ((X%d:Nat):Int) w (by simp;omega) (by rw[hi_nat];simp;omega) (by rw[hi_nat];simp only[ge_iff_le,decide_eq_true_eq];exact Int.natCast_nonneg _) ed (by rw[hi_nat];exact u64_nat (by omega)) (by omega)
   (by rw[hi_nat];exact q1) rfl (by rw[hi_nat];omega) (by omega) (by rw[hi_nat,lo_nat];exact core X hX) q2 (by rw[IntKind.wrap_i64];omega)
  exact key
 ·obtain⟨X,hX⟩: ∃X:Nat,z= -(X:Int):=⟨z.natAbs,by omega⟩
  subst hX
  have hX:X<170141183460469231731687303715884105728:=by omega
  have hX0:0<X:=by omega
  obtain⟨q1,q2⟩:=quot X hX
  have hneg:hi (-(X:Int))<0:=by unfold hi;omega
  have hle:X/d≤X:=Nat.div_le_self _ _
  have t1:=fun W=>turned_any (-(X:Int)) W h1 h2
  rw[Int.neg_neg]at t1
  have t2:=fun W=>turned_any ((X/d:Nat):Int) W (by generalize X/d=k at hle;omega) (by generalize X/d=k at hle;omega)
  rcases Nat.eq_zero_or_pos (X%d)with h0|h0
  ·obtain⟨g1,g2⟩:=neg_div X d (by omega) h0
   rw[g1,g2]
   have c:=core X hX
   rw[h0]at c
   exact div_down0 (hi (-(X:Int))) (lo (-(X:Int))) d d (hi (X:Int)) (lo (X:Int)) _ _ _ _ _ _ w (by simp;omega) (by simpa using hneg) (by simp;omega) ed (by rw[hi_nat];exact u64_nat (by omega)) (by omega)
    (by rw[hi_nat];exact q1) rfl (by rw[hi_nat];omega) (by omega) t1 (by rw[hi_nat,lo_nat];exact c) q2 t2
  ·obtain⟨g1,g2⟩:=neg_div1 X d (by omega) h0
   rw[g1,g2]
   have hr:=Nat.mod_lt X (show 0<d by omega)
   have d3:2≤d:=by
    rcases Nat.lt_or_ge d 2 with h|h
    ·obtain rfl:d=1:=by omega
     rw[Nat.mod_one]at h0;omega
    ·exact h
   have hle2:X/d≤X/2:=Nat.div_le_div_left d3 (by omega)
   exact div_down1 (hi (-(X:Int))) (lo (-(X:Int))) d d (hi (X:Int)) (lo (X:Int)) _ _ _ _ _ _ ((X%d:Nat):Int) _ _ _ w (by simp;omega) (by simpa using hneg) (by simp;omega) ed (by rw[hi_nat];exact u64_nat (by omega)) (by omega)
    (by rw[hi_nat];exact q1) rfl (by rw[hi_nat];omega) (by omega) t1 (by rw[hi_nat,lo_nat];exact core X hX) q2 t2 (by simp;omega) (by rw[IntKind.wrap_u64];omega) (by rw[IntKind.wrap_i64];omega)
    (fun W=>sub_one _ W (by generalize X/d=k at hle hle2;omega) (by generalize X/d=k at hle hle2;omega))
end Go.Proofs.YtplljnfjkkloeaaGreatDoor
set_option linter.unusedVariables false
set_option linter.unusedSimpArgs false
namespace Go.Proofs.YtplljnfjkkloeaaGreatDoor
def mid (p q n d:Int):Int:=p+(q-p)*n/d
theorem part_low {x n d:Int} (hx:0≤x) (hn:0≤n) (hd:1≤d):0≤x*n/d:=Int.ediv_nonneg (Int.mul_nonneg hx hn) (by omega)
theorem part_high {x n d:Int} (hx:0≤x) (hn:n≤d) (hd:1≤d):x*n/d≤x:=by
 have h1:x*n≤x*d:=Int.mul_le_mul_of_nonneg_left hn hx
 have h2:=Int.ediv_le_ediv (by omega:0<d) h1
 rwa[Int.mul_ediv_cancel _ (by omega)]at h2
theorem neg_low {x n d:Int} (hx:x≤0) (hn:n≤d) (hd:1≤d):x≤x*n/d:=by
 have h1:x*d≤x*n:=Int.mul_le_mul_of_nonpos_left hx hn
 have h2:=Int.ediv_le_ediv (by omega:0<d) h1
 rwa[Int.mul_ediv_cancel _ (by omega)]at h2
theorem neg_high {x n d:Int} (hx:x≤0) (hn:0≤n) (hd:1≤d):x*n/d≤0:=by
 have h1:x*n≤0:=Int.mul_nonpos_of_nonpos_of_nonneg hx hn
 have h2:=Int.ediv_le_ediv (by omega:0<d) h1
 simpa using h2
theorem mid_between {p q n d:Int} (hn:0≤n) (hnd:n≤d) (hd:1≤d):min p q≤mid p q n d∧mid p q n d≤max p q:=by
 unfold mid
 rcases Int.le_total p q with h|h
 ·have h1:=part_low (x:=q-p) (by omega) hn hd
  have h2:=part_high (x:=q-p) (by omega) hnd hd
  omega
 ·have h1:=neg_low (x:=q-p) (by omega) hnd hd
  have h2:=neg_high (x:=q-p) (by omega) hn hd
  omega
end Go.Proofs.YtplljnfjkkloeaaGreatDoor
set_option linter.unusedVariables false
set_option linter.unusedSimpArgs false
namespace Go.Proofs.YtplljnfjkkloeaaGreatDoor
open Go.RowKit
end Go.Proofs.YtplljnfjkkloeaaGreatDoor
set_option linter.unusedVariables false
set_option linter.unusedSimpArgs false
namespace Go.Proofs.YtplljnfjkkloeaaGreatDoor
open Go.RowKit
section
variable {w:World} {g:Nat} {t:TypeId}
theorem Blk.c1 {x0:Value} (h:Blk w g t #[x0]):w.cell? ⟨g,0,none⟩=some x0:=
 h.cell 0
theorem Blk.f1 {cs:Array Value} (h:Blk w g t cs):w.frozen? ⟨g,0,none⟩=false:=
 h.frozen 0
theorem Blk.s1 {x0:Value} (h:Blk w g t #[x0]) (y0:Value):Blk (w.setCell ⟨g,0,none⟩ y0) g t #[y0]:=by
 simpa using(h.set_ 0 y0)
theorem Blk.c2 {x0 x1:Value} (h:Blk w g t #[x0,x1]):w.cell? ⟨g,0,none⟩=some x0∧w.cell? ⟨g,1,none⟩=some x1:=
 ⟨h.cell 0,h.cell 1⟩
theorem Blk.f2 {cs:Array Value} (h:Blk w g t cs):w.frozen? ⟨g,0,none⟩=false∧w.frozen? ⟨g,1,none⟩=false:=
 ⟨h.frozen 0,h.frozen 1⟩
theorem Blk.s2 {x0 x1:Value} (h:Blk w g t #[x0,x1]) (y0 y1:Value):Blk ((w.setCell ⟨g,0,none⟩ y0).setCell ⟨g,1,none⟩ y1) g t #[y0,y1]:=by
 simpa using((h.set_ 0 y0).set_ 1 y1)
theorem Blk.c3 {x0 x1 x2:Value} (h:Blk w g t #[x0,x1,x2]):w.cell? ⟨g,0,none⟩=some x0∧w.cell? ⟨g,1,none⟩=some x1∧w.cell? ⟨g,2,none⟩=some x2:=
 ⟨h.cell 0,h.cell 1,h.cell 2⟩
theorem Blk.f3 {cs:Array Value} (h:Blk w g t cs):w.frozen? ⟨g,0,none⟩=false∧w.frozen? ⟨g,1,none⟩=false∧w.frozen? ⟨g,2,none⟩=false:=
 ⟨h.frozen 0,h.frozen 1,h.frozen 2⟩
theorem Blk.s3 {x0 x1 x2:Value} (h:Blk w g t #[x0,x1,x2]) (y0 y1 y2:Value):Blk (((w.setCell ⟨g,0,none⟩ y0).setCell ⟨g,1,none⟩ y1).setCell ⟨g,2,none⟩ y2) g t #[y0,y1,y2]:=by
 simpa using(((h.set_ 0 y0).set_ 1 y1).set_ 2 y2)
theorem Blk.c4 {x0 x1 x2 x3:Value} (h:Blk w g t #[x0,x1,x2,x3]):w.cell? ⟨g,0,none⟩=some x0∧w.cell? ⟨g,1,none⟩=some x1∧w.cell? ⟨g,2,none⟩=some x2∧w.cell? ⟨g,3,none⟩=some x3:=
 ⟨h.cell 0,h.cell 1,h.cell 2,h.cell 3⟩
theorem Blk.f4 {cs:Array Value} (h:Blk w g t cs):w.frozen? ⟨g,0,none⟩=false∧w.frozen? ⟨g,1,none⟩=false∧w.frozen? ⟨g,2,none⟩=false∧w.frozen? ⟨g,3,none⟩=false:=
 ⟨h.frozen 0,h.frozen 1,h.frozen 2,h.frozen 3⟩
theorem Blk.s4 {x0 x1 x2 x3:Value} (h:Blk w g t #[x0,x1,x2,x3]) (y0 y1 y2 y3:Value):Blk ((((w.setCell ⟨g,0,none⟩ y0).setCell ⟨g,1,none⟩ y1).setCell ⟨g,2,none⟩ y2).setCell ⟨g,3,none⟩ y3) g t #[y0,y1,y2,y3]:=by
 simpa using((((h.set_ 0 y0).set_ 1 y1).set_ 2 y2).set_ 3 y3)
theorem Blk.c5 {x0 x1 x2 x3 x4:Value} (h:Blk w g t #[x0,x1,x2,x3,x4]):w.cell? ⟨g,0,none⟩=some x0∧w.cell? ⟨g,1,none⟩=some x1∧w.cell? ⟨g,2,none⟩=some x2∧w.cell? ⟨g,3,none⟩=some x3∧w.cell? ⟨g,4,none⟩=some x4:=
 ⟨h.cell 0,h.cell 1,h.cell 2,h.cell 3,h.cell 4⟩
theorem Blk.f5 {cs:Array Value} (h:Blk w g t cs):w.frozen? ⟨g,0,none⟩=false∧w.frozen? ⟨g,1,none⟩=false∧w.frozen? ⟨g,2,none⟩=false∧w.frozen? ⟨g,3,none⟩=false∧w.frozen? ⟨g,4,none⟩=false:=
 ⟨h.frozen 0,h.frozen 1,h.frozen 2,h.frozen 3,h.frozen 4⟩
theorem Blk.s5 {x0 x1 x2 x3 x4:Value} (h:Blk w g t #[x0,x1,x2,x3,x4]) (y0 y1 y2 y3 y4:Value):Blk (((((w.setCell ⟨g,0,none⟩ y0).setCell ⟨g,1,none⟩ y1).setCell ⟨g,2,none⟩ y2).setCell ⟨g,3,none⟩ y3).setCell ⟨g,4,none⟩ y4) g t #[y0,y1,y2,y3,y4]:=by
 simpa using(((((h.set_ 0 y0).set_ 1 y1).set_ 2 y2).set_ 3 y3).set_ 4 y4)
theorem Blk.c6 {x0 x1 x2 x3 x4 x5:Value} (h:Blk w g t #[x0,x1,x2,x3,x4,x5]):w.cell? ⟨g,0,none⟩=some x0∧w.cell? ⟨g,1,none⟩=some x1∧w.cell? ⟨g,2,none⟩=some x2∧w.cell? ⟨g,3,none⟩=some x3∧w.cell? ⟨g,4,none⟩=some x4∧w.cell? ⟨g,5,none⟩=some x5:=
 ⟨h.cell 0,h.cell 1,h.cell 2,h.cell 3,h.cell 4,h.cell 5⟩
theorem Blk.f6 {cs:Array Value} (h:Blk w g t cs):w.frozen? ⟨g,0,none⟩=false∧w.frozen? ⟨g,1,none⟩=false∧w.frozen? ⟨g,2,none⟩=false∧w.frozen? ⟨g,3,none⟩=false∧w.frozen? ⟨g,4,none⟩=false∧w.frozen? ⟨g,5,none⟩=false:=
 ⟨h.frozen 0,h.frozen 1,h.frozen 2,h.frozen 3,h.frozen 4,h.frozen 5⟩
theorem Blk.s6 {x0 x1 x2 x3 x4 x5:Value} (h:Blk w g t #[x0,x1,x2,x3,x4,x5]) (y0 y1 y2 y3 y4 y5:Value):Blk ((((((w.setCell ⟨g,0,none⟩ y0).setCell ⟨g,1,none⟩ y1).setCell ⟨g,2,none⟩ y2).setCell ⟨g,3,none⟩ y3).setCell ⟨g,4,none⟩ y4).setCell ⟨g,5,none⟩ y5) g t #[y0,y1,y2,y3,y4,y5]:=by
 simpa using((((((h.set_ 0 y0).set_ 1 y1).set_ 2 y2).set_ 3 y3).set_ 4 y4).set_ 5 y5)
theorem Blk.c7 {x0 x1 x2 x3 x4 x5 x6:Value} (h:Blk w g t #[x0,x1,x2,x3,x4,x5,x6]):w.cell? ⟨g,0,none⟩=some x0∧w.cell? ⟨g,1,none⟩=some x1∧w.cell? ⟨g,2,none⟩=some x2∧w.cell? ⟨g,3,none⟩=some x3∧w.cell? ⟨g,4,none⟩=some x4∧w.cell? ⟨g,5,none⟩=some x5∧w.cell? ⟨g,6,none⟩=some x6:=
 ⟨h.cell 0,h.cell 1,h.cell 2,h.cell 3,h.cell 4,h.cell 5,h.cell 6⟩
theorem Blk.f7 {cs:Array Value} (h:Blk w g t cs):w.frozen? ⟨g,0,none⟩=false∧w.frozen? ⟨g,1,none⟩=false∧w.frozen? ⟨g,2,none⟩=false∧w.frozen? ⟨g,3,none⟩=false∧w.frozen? ⟨g,4,none⟩=false∧w.frozen? ⟨g,5,none⟩=false∧w.frozen? ⟨g,6,none⟩=false:=
 ⟨h.frozen 0,h.frozen 1,h.frozen 2,h.frozen 3,h.frozen 4,h.frozen 5,h.frozen 6⟩
theorem Blk.s7 {x0 x1 x2 x3 x4 x5 x6:Value} (h:Blk w g t #[x0,x1,x2,x3,x4,x5,x6]) (y0 y1 y2 y3 y4 y5 y6:Value):Blk (((((((w.setCell ⟨g,0,none⟩ y0).setCell ⟨g,1,none⟩ y1).setCell ⟨g,2,none⟩ y2).setCell ⟨g,3,none⟩ y3).setCell ⟨g,4,none⟩ y4).setCell ⟨g,5,none⟩ y5).setCell ⟨g,6,none⟩ y6) g t #[y0,y1,y2,y3,y4,y5,y6]:=by
 simpa using(((((((h.set_ 0 y0).set_ 1 y1).set_ 2 y2).set_ 3 y3).set_ 4 y4).set_ 5 y5).set_ 6 y6)
theorem Blk.c8 {x0 x1 x2 x3 x4 x5 x6 x7:Value} (h:Blk w g t #[x0,x1,x2,x3,x4,x5,x6,x7]):w.cell? ⟨g,0,none⟩=some x0∧w.cell? ⟨g,1,none⟩=some x1∧w.cell? ⟨g,2,none⟩=some x2∧w.cell? ⟨g,3,none⟩=some x3∧w.cell? ⟨g,4,none⟩=some x4∧w.cell? ⟨g,5,none⟩=some x5∧w.cell? ⟨g,6,none⟩=some x6∧w.cell? ⟨g,7,none⟩=some x7:=
 ⟨h.cell 0,h.cell 1,h.cell 2,h.cell 3,h.cell 4,h.cell 5,h.cell 6,h.cell 7⟩
theorem Blk.f8 {cs:Array Value} (h:Blk w g t cs):w.frozen? ⟨g,0,none⟩=false∧w.frozen? ⟨g,1,none⟩=false∧w.frozen? ⟨g,2,none⟩=false∧w.frozen? ⟨g,3,none⟩=false∧w.frozen? ⟨g,4,none⟩=false∧w.frozen? ⟨g,5,none⟩=false∧w.frozen? ⟨g,6,none⟩=false∧w.frozen? ⟨g,7,none⟩=false:=
 ⟨h.frozen 0,h.frozen 1,h.frozen 2,h.frozen 3,h.frozen 4,h.frozen 5,h.frozen 6,h.frozen 7⟩
theorem Blk.s8 {x0 x1 x2 x3 x4 x5 x6 x7:Value} (h:Blk w g t #[x0,x1,x2,x3,x4,x5,x6,x7]) (y0 y1 y2 y3 y4 y5 y6 y7:Value):Blk ((((((((w.setCell ⟨g,0,none⟩ y0).setCell ⟨g,1,none⟩ y1).setCell ⟨g,2,none⟩ y2).setCell ⟨g,3,none⟩ y3).setCell ⟨g,4,none⟩ y4).setCell ⟨g,5,none⟩ y5).setCell ⟨g,6,none⟩ y6).setCell ⟨g,7,none⟩ y7) g t #[y0,y1,y2,y3,y4,y5,y6,y7]:=by
 simpa using((((((((h.set_ 0 y0).set_ 1 y1).set_ 2 y2).set_ 3 y3).set_ 4 y4).set_ 5 y5).set_ 6 y6).set_ 7 y7)
theorem Blk.c12 {x0 x1 x2 x3 x4 x5 x6 x7 x8 x9 x10 x11:Value} (h:Blk w g t #[x0,x1,x2,x3,x4,x5,x6,x7,x8,x9,x10,x11]):w.cell? ⟨g,0,none⟩=some x0∧w.cell? ⟨g,1,none⟩=some x1∧w.cell? ⟨g,2,none⟩=some x2∧w.cell? ⟨g,3,none⟩=some x3∧w.cell? ⟨g,4,none⟩=some x4∧w.cell? ⟨g,5,none⟩=some x5∧w.cell? ⟨g,6,none⟩=some x6∧w.cell? ⟨g,7,none⟩=some x7∧w.cell? ⟨g,8,none⟩=some x8∧w.cell? ⟨g,9,none⟩=some x9∧w.cell? ⟨g,10,none⟩=some x10∧w.cell? ⟨g,11,none⟩=some x11:=
 ⟨h.cell 0,h.cell 1,h.cell 2,h.cell 3,h.cell 4,h.cell 5,h.cell 6,h.cell 7,h.cell 8,h.cell 9,h.cell 10,h.cell 11⟩
theorem Blk.f12 {cs:Array Value} (h:Blk w g t cs):w.frozen? ⟨g,0,none⟩=false∧w.frozen? ⟨g,1,none⟩=false∧w.frozen? ⟨g,2,none⟩=false∧w.frozen? ⟨g,3,none⟩=false∧w.frozen? ⟨g,4,none⟩=false∧w.frozen? ⟨g,5,none⟩=false∧w.frozen? ⟨g,6,none⟩=false∧w.frozen? ⟨g,7,none⟩=false∧w.frozen? ⟨g,8,none⟩=false∧w.frozen? ⟨g,9,none⟩=false∧w.frozen? ⟨g,10,none⟩=false∧w.frozen? ⟨g,11,none⟩=false:=
 ⟨h.frozen 0,h.frozen 1,h.frozen 2,h.frozen 3,h.frozen 4,h.frozen 5,h.frozen 6,h.frozen 7,h.frozen 8,h.frozen 9,h.frozen 10,h.frozen 11⟩
theorem Blk.c15 {x0 x1 x2 x3 x4 x5 x6 x7 x8 x9 x10 x11 x12 x13 x14:Value} (h:Blk w g t #[x0,x1,x2,x3,x4,x5,x6,x7,x8,x9,x10,x11,x12,x13,x14]):w.cell? ⟨g,0,none⟩=some x0∧w.cell? ⟨g,1,none⟩=some x1∧w.cell? ⟨g,2,none⟩=some x2∧w.cell? ⟨g,3,none⟩=some x3∧w.cell? ⟨g,4,none⟩=some x4∧w.cell? ⟨g,5,none⟩=some x5∧w.cell? ⟨g,6,none⟩=some x6∧w.cell? ⟨g,7,none⟩=some x7∧w.cell? ⟨g,8,none⟩=some x8∧w.cell? ⟨g,9,none⟩=some x9∧w.cell? ⟨g,10,none⟩=some x10∧w.cell? ⟨g,11,none⟩=some x11∧w.cell? ⟨g,12,none⟩=some x12∧w.cell? ⟨g,13,none⟩=some x13∧w.cell? ⟨g,14,none⟩=some x14:=
 ⟨h.cell 0,h.cell 1,h.cell 2,h.cell 3,h.cell 4,h.cell 5,h.cell 6,h.cell 7,h.cell 8,h.cell 9,h.cell 10,h.cell 11,h.cell 12,h.cell 13,h.cell 14⟩
end
end Go.Proofs.YtplljnfjkkloeaaGreatDoor
set_option linter.unusedVariables false
set_option linter.unusedSimpArgs false
namespace Go.Proofs.YtplljnfjkkloeaaGreatDoor
open Go.RowKit
structure Kp (F:Nat→Prop) (w w':World):Prop where
 os:w'.os=w.os
 tape:w'.tape=w.tape
 output:w'.output=w.output
 size:w.heap.size≤w'.heap.size
 block: ∀k,k<w.heap.size→F k→w'.heap[k]? =w.heap[k]?
namespace Kp
variable {F G:Nat→Prop} {a b c w w' w0:World}
theorem refl (F:Nat→Prop) (w:World):Kp F w w:=⟨rfl,rfl,rfl,Nat.le_refl _,fun _ _ _=>rfl⟩
theorem trans (h:Kp F a b) (k:Kp F b c):Kp F a c:=
 ⟨k.os.trans h.os,k.tape.trans h.tape,k.output.trans h.output,Nat.le_trans h.size k.size,fun j hj hf=>(k.block j (Nat.lt_of_lt_of_le hj h.size) hf).trans (h.block j hj hf)⟩
theorem mono (h:Kp F a b) (hg: ∀k,G k→F k):Kp G a b:=⟨h.os,h.tape,h.output,h.size,fun k hk hf=>h.block k hk (hg k hf)⟩
theorem of_ext (h:Ext w w'):Kp F w w':=⟨h.os,h.tape,h.output,h.size,fun k hk _=>h.block hk⟩
theorem ext (h:Kp F w w') (e:Ext w0 w) (hf: ∀k,k<w0.heap.size→F k):Ext w0 w':=
 ⟨h.os.trans e.os,h.tape.trans e.tape,h.output.trans e.output,Nat.le_trans e.size h.size,fun k hk=>(h.block k (Nat.lt_of_lt_of_le hk e.size) (hf k hk)).trans (e.block hk)⟩
theorem setCell (h:Kp F a b) {p:Addr} (u:Value) (hp: ¬F p.block):Kp F a (b.setCell p u):=
 h.trans ⟨rfl,rfl,rfl,by simp,fun k hk hf=>Below.heap_setCell b p u k (fun e=>hp (e▸hf))⟩
theorem alloc (h:Kp F a b) (o:Obj):Kp F a (b.alloc o):=h.trans (of_ext ((Ext.refl b).alloc o))
theorem drew (h:Kp F a b):Kp F a b.drew:=h.trans (of_ext (Ext.refl b).drew)
theorem drewN (h:Kp F a b) (n:Nat):Kp F a (b.drewN n):=h.trans (of_ext ((Ext.refl b).drewN n))
theorem later (h:Kp F a b) (x:Later b):Kp F a x.w:=h.trans (of_ext x.ext)
theorem andExt (h:Kp F a b) (e:Ext b c):Kp F a c:=h.trans (of_ext e)
theorem grown (h:Kp F a b) {row:Option Nat} (hg:b.grownBy c row) (hr: ∀k,row=some k→ ¬F k):Kp F a c:=
 h.trans ⟨hg.os,hg.tape,hg.output,hg.size,fun k hk hf=>hg.block k hk (fun e=>hr k e.symm hf)⟩
end Kp
theorem Blk.kp {w w':World} {g:Nat} {t:TypeId} {cs:Array Value} {F:Nat→Prop} (h:Blk w g t cs) (k:Kp F w w') (hf:F g):Blk w' g t cs:=(k.block g h.lt hf).trans h
theorem own_kp {w w':World} {base:Nat} {e:TypeId} {size:Nat} {v:Value} {n:Nat} {xs:List Value} {F:Nat→Prop} (h:w.ownsRow base e size v n xs) (k:Kp F w w') (hf: ∀g,v.ownBlock=some g→F g):w'.ownsRow base e size v n xs:=by
 refine⟨h.1,?_⟩
 rcases h.2 with h0|⟨g,cap,cur,rfl,hb,hg,r⟩
 ·exact .inl h0
 ·refine .inr ⟨g,cap,cur,rfl,hb,?_,r⟩
  rw[k.block g (Array.getElem?_eq_some_iff.1 hg).1 (hf g rfl)]
  exact hg
theorem Rd.kp {w w':World} {size:Nat} {a:Option Addr} {n cap:Nat} {xs:List Value} {F:Nat→Prop} (h:Rd w size a n cap xs) (k:Kp F w w') (hf: ∀ad,a=some ad→F ad.block):Rd w' size a n cap xs:=
 ⟨h.len,h.le,h.mx,fun h0=>by
  obtain⟨b,off,ha,hb,hc⟩:=h.at_ h0
  exact⟨b,off,ha,Nat.lt_of_lt_of_le hb k.size,fun j hj=>(World.cell?_of_block (w:=w) (a:=⟨b,off+j,none⟩) (k.block b hb (hf _ ha))).trans (hc j hj)⟩⟩
def spl (cs:Array Value) (off:Nat) (vs:Array Value):Array Value:=(cs.toList.take off++vs.toList++cs.toList.drop (off+vs.size)).toArray
section
variable {P:Program} {w:World} {g:Nat} {e:TypeId} {cs:Array Value}
theorem run_load_blk (h:Blk w g e cs) (t:TypeId) (off n:Nat) (hagg: ∀W:World,(isAgg t).run P W=.ok true W) (hs:(P.info? t).map (·.size)=some n) (hfit:off+n≤cs.size):
  (loadVar t ⟨g,off,none⟩).run P w=.ok (.agg (cs.extract off (off+n))) w:=by
 cases hi:P.info? t with
 |none=>simp[hi]at hs
 |some i=>
  have hsi:i.size=n:=by simpa[hi]using hs
  have hl:=run_loadCells_list (P:=P) w ⟨g,off,none⟩ (cs.extract off (off+n)).toList (fun j v hv=>by
   have hadd:(⟨g,off,none⟩:Addr).add j=⟨g,off+j,none⟩:=by unfold Addr.add;split <;>simp_all
   rw[hadd,h.cell]
   simp only[Array.toList_extract,List.extract_eq_take_drop,List.getElem?_take,List.getElem?_drop]at hv
   split at hv
   ·simpa using hv
   ·cases hv)
  have hlen:(cs.extract off (off+n)).toList.length=n:=by simp;omega
  rw[hlen,Array.toArray_toList]at hl
  simp[loadVar,hagg,sizeOf,typeInfo,hi,hsi,Sem.run_bind,hl]
theorem run_store_blk (h:Blk w g e cs) (t:TypeId) (off:Nat) (v:Value) (hs:(P.info? t).map (·.size)=some v.cells.size) (h1: ∀u∈v.cells.toList,u.oneCell'=true) (hfit:off+v.cells.size≤cs.size):
  (storeVar t ⟨g,off,none⟩ v).run P w=.ok () (w.setRow g (spl cs off v.cells)):=by
 have hst:=run_storeCells_at P g off e v.cells.toList 0 cs w h (by simpa using hfit) h1
 cases hq:P.info? t with
 |none=>simp[hq]at hs
 |some i=>
  have hsi:i.size=v.cells.size:=by simpa[hq]using hs
  simp only[Nat.add_zero,Array.length_toList]at hst
  simp[storeVar,sizeOf,typeInfo,hq,hsi,hst,spl]
theorem Blk.row {cs':Array Value} (h:Blk w g e cs):Blk (w.setRow g cs') g e cs':=setRow_heap w g cs _ e _ h
theorem Kp.setRow {F:Nat→Prop} (cs':Array Value) (hf: ¬F g):Kp F w (w.setRow g cs'):=
 ⟨rfl,rfl,rfl,by simp,fun k _ hk=>setRow_other w g k _ (fun e=>hf (e▸hk))⟩
theorem wpList_store_blk {ops:Array Oper} {rest:List Oper} {o:Oper} {a:Act} {Q:Exit→Act→World→Prop} (hgd:o.guard=none) (x y:Operand) (t:TypeId) (ho:o.op=.store t x y) (off:Nat) (hx:a.eval x=.pointer (some ⟨g,off,none⟩)) (v:Value) (hy:a.eval y=v)
  (h:Blk w g e cs)(hs:(P.info? t).map (·.size)=some v.cells.size)(h1: ∀u∈v.cells.toList,u.oneCell'=true)(hfit:off+v.cells.size≤cs.size)
  (hK: ∀w',Blk w' g e (spl cs off v.cells)→Kp (·≠g) w w'→wpList P ops Q rest (a.put o.dst undef) w'):wpList P ops Q (o::rest) a w:=by
 refine wpList_plain hgd fun K hK'=>?_
 have hso:=run_store_blk (P:=P) h t off v hs h1 hfit
 unfold Oper.wp execOp
 simp only[ho,hx,hy,Instr.storeAt,Instr.sureAddr,Sem.run_bind,Sem.run_pure,Result.andThen_ok,hso]
 exact hK' _ _ (hK _ h.row (Kp.setRow _ (fun hf=>hf rfl)))
theorem wpList_load_blk {ops:Array Oper} {rest:List Oper} {o:Oper} {a:Act} {Q:Exit→Act→World→Prop} (hgd:o.guard=none) (x:Operand) (t:TypeId) (ho:o.op=.load t x) (off:Nat) (hx:a.eval x=.pointer (some ⟨g,off,none⟩))
  (h:Blk w g e cs)(n:Nat)(hagg: ∀W:World,(isAgg t).run P W=.ok true W)(hs:(P.info? t).map (·.size)=some n)(hfit:off+n≤cs.size)(r:Array Value)(hr:cs.extract off (off+n)=r)
  (hK:wpList P ops Q rest (a.put o.dst (.agg r)) w):wpList P ops Q (o::rest) a w:=by
 refine wpList_plain hgd fun K hK'=>?_
 have hso:=run_load_blk (P:=P) h t off n hagg hs hfit
 subst hr
 unfold Oper.wp execOp
 simp only[ho,hx,Instr.loadAt,Instr.sureAddr,Sem.run_bind,Sem.run_pure,Result.andThen_ok,hso]
 exact hK' _ _ hK
end
end Go.Proofs.YtplljnfjkkloeaaGreatDoor
