/- Proof text: numbers of 128 bits (package xint). By an AI agent. No condition beyond what each theorem states. -/
import Derived.Test.YtplljnfjkkloeaaGreatDoorProg
import Derived.Test.YtplljnfjkkloeaaGreatDoorL
import Derived.Handy
import Derived.Shelf.Bits.Mul64
import Derived.Shelf.Small.Bits
set_option linter.unusedVariables false
set_option linter.unusedSimpArgs false
set_option maxHeartbeats 1000000
namespace Go.Proofs.YtplljnfjkkloeaaGreatDoor
open Go.RowKit
def hi (z:Int):Int:=z/18446744073709551616
def lo (z:Int):Int:=z%18446744073709551616
theorem lo_pos (z:Int):0≤lo z:=by unfold lo;omega
theorem lo_lt (z:Int):lo z<18446744073709551616:=by unfold lo;omega
theorem halves {h l:Int} {z:Int} (e:z=18446744073709551616*h+l) (h1:0≤l) (h2:l<18446744073709551616):hi z=h∧lo z=l:=by
 unfold hi lo;omega
theorem hi_lt {z:Int} (h:z<170141183460469231731687303715884105728):hi z<9223372036854775808:=by unfold hi;omega
@[reducible] def I (z:Int):Value:=.agg #[.int .i64 (hi z),.int .u64 (lo z)]
theorem sub64_run (x y b:Int) (w:World) (hx:0≤x) (hy:0≤y) (hy':y<18446744073709551616) (hb:0≤b) (hb':b≤1):
  (callFunc 284 #[.int .u64 x,.int .u64 y,.int .u64 b]).run Tryz.prog w=.ok (.value (.tuple #[.int .u64 ((x-y-b)%18446744073709551616),.int .u64 (if x<y+b then 1 else 0)])) w:=by
 obtain⟨x,rfl⟩:=Int.eq_ofNat_of_zero_le hx
 obtain⟨y,rfl⟩:=Int.eq_ofNat_of_zero_le hy
 obtain⟨b,rfl⟩:=Int.eq_ofNat_of_zero_le hb
 have hb2:b≤1:=by omega
 have h:=@run_callFunc_extern Tryz.prog 284 _ (fun args=>do
  let(x,y,b) ←Extern.MathBitsCarry.three "Sub64" args
  pure (Extern.MathBitsCarry.pair ((x+Extern.MathBitsCarry.m64-y-b)%Extern.MathBitsCarry.m64) (if x<y+b then 1 else 0))) Tryz.func284 (by kernel_rfl) (by kernel_rfl) (by kernel_rfl) (by kernel_rfl) #[.int .u64 (x:Int),.int .u64 (y:Int),.int .u64 (b:Int)] w
 have hr:((fun args=>do
  let(x,y,b) ←Extern.MathBitsCarry.three "Sub64" args
  pure (Extern.MathBitsCarry.pair ((x+Extern.MathBitsCarry.m64-y-b)%Extern.MathBitsCarry.m64) (if x<y+b then 1 else 0)):Array Value→Sem Value) #[.int .u64 (x:Int),.int .u64 (y:Int),.int .u64 (b:Int)]).run Tryz.prog w=.ok (.tuple #[.int .u64 (((x+18446744073709551616-y-b)%18446744073709551616:Nat):Int),.int .u64 ((if x<y+b then 1 else 0:Nat):Int)]) w:=by
  have:b=0∨b=1:=by omega
  rcases this with rfl|rfl <;>rfl
 rw[h,hr]
 show Result.ok _ _=_
 have e1:(((x+18446744073709551616-y-b)%18446744073709551616:Nat):Int)=((x:Int)-y-b)%18446744073709551616:=by omega
 have e2:((if x<y+b then 1 else 0:Nat):Int)=if(x:Int)<y+b then 1 else 0:=by
  by_cases hc:x<y+b
  ·rw[if_pos hc,if_pos (by omega)];rfl
  ·rw[if_neg hc,if_neg (by omega)];rfl
 rw[e1,e2]
theorem bare_any (n:Int) (w:World) (h1: -9223372036854775808≤n) (h2:n<9223372036854775808):Calls Tryz.prog 214 #[.int .i64 n] w fun e w'=>e=.returned (.int .u64 n.natAbs)∧w'=w:=by
 by_cases h:n<0
 ·have hd:decide (n<0)=true:=by simpa using h
  have e1:IntKind.u64.wrap (-IntKind.u64.wrap n)=(n.natAbs:Int):=by simp only[IntKind.wrap_u64];omega
  go_enter Tryz.func214,Tryz.ntmps214
  go_wp2
  go_ret
  exact⟨by first|rfl|(rw[e1];rfl),rfl⟩
 ·have hd:decide (n<0)=false:=by simpa using h
  have e1:IntKind.u64.wrap n=(n.natAbs:Int):=by simp only[IntKind.wrap_u64];omega
  go_enter Tryz.func214,Tryz.ntmps214
  go_wp2
  go_ret
  exact⟨by first|rfl|(rw[e1];rfl),rfl⟩
theorem turned_hi {z:Int} (h1: -170141183460469231731687303715884105728<z) (h2:z<170141183460469231731687303715884105728):
  IntKind.i64.wrap ((0-IntKind.u64.wrap (hi z)-if(0:Int)<lo z+0 then 1 else 0)%18446744073709551616)=hi (-z)∧(0-lo z-0)%18446744073709551616=lo (-z):=by
 simp only[IntKind.wrap_u64,IntKind.wrap_i64]
 unfold hi lo
 split <;>omega
theorem turned_cells (h l c l' u x c2 h':Int) (w:World) (hu:IntKind.u64.wrap h=u)
  (s1: ∀W,(callFunc 284 #[.int .u64 0,.int .u64 l,.int .u64 0]).run Tryz.prog W=.ok (.value (.tuple #[.int .u64 l',.int .u64 c])) W)
  (s2: ∀W,(callFunc 284 #[.int .u64 0,.int .u64 u,.int .u64 c]).run Tryz.prog W=.ok (.value (.tuple #[.int .u64 x,.int .u64 c2])) W)
  (hx:IntKind.i64.wrap x=h'):
  Calls Tryz.prog 258 #[.agg #[.int .i64 h,.int .u64 l]] w fun e w'=>e=.returned (.agg #[.int .i64 h',.int .u64 l'])∧Ext w w':=by
 go_enter Tryz.func258,Tryz.ntmps258
 go_wp2
 go_returns
 exact⟨rfl,by(repeat(first|with_reducible(first|exact eR_ _|assumption|refine eA_ ?_ _|refine eD_ ?_|refine eN_ ?_ _|refine eL_ ?_ _)|(with_reducible refine eS_ ?_ _ ?hp;case hp=>first|(simp;done)|(simp;omega)|omega)))⟩
theorem turned_any (z:Int) (w:World) (h1: -170141183460469231731687303715884105728<z) (h2:z<170141183460469231731687303715884105728):
  Calls Tryz.prog 258 #[I z] w fun e w'=>e=.returned (I (-z))∧Ext w w':=by
 obtain⟨e1,e2⟩:=turned_hi h1 h2
 have l1:=lo_pos z
 have l2:=lo_lt z
 have hc:0≤(if(0:Int)<lo z+0 then 1 else 0:Int)∧(if(0:Int)<lo z+0 then 1 else 0:Int)≤1:=by split <;>omega
 have s1:=fun W=>sub64_run 0 (lo z) 0 W (by omega) l1 l2 (by omega) (by omega)
 have s2:=fun W=>sub64_run 0 (IntKind.u64.wrap (hi z)) (if(0:Int)<lo z+0 then 1 else 0) W (by omega) (by simp only[IntKind.wrap_u64];omega) (by simp only[IntKind.wrap_u64];omega) hc.1 hc.2
 rw[e2]at s1
 exact turned_cells _ _ _ _ _ _ _ _ w rfl s1 s2 e1
theorem sub_one_up (h l c l' u x c2 h':Int) (w:World) (hu:IntKind.u64.wrap h=u)
  (s1: ∀W,(callFunc 284 #[.int .u64 l,.int .u64 1,.int .u64 0]).run Tryz.prog W=.ok (.value (.tuple #[.int .u64 l',.int .u64 c])) W)
  (s2: ∀W,(callFunc 284 #[.int .u64 u,.int .u64 0,.int .u64 c]).run Tryz.prog W=.ok (.value (.tuple #[.int .u64 x,.int .u64 c2])) W)
  (hx:IntKind.i64.wrap x=h')(e1:decide (h<0)=false):
  Calls Tryz.prog 260 #[.agg #[.int .i64 h,.int .u64 l],.agg #[.int .i64 0,.int .u64 1]] w fun e w'=>e=.returned (.tuple #[.agg #[.int .i64 h',.int .u64 l'],.bool true])∧Ext w w':=by
 go_enter Tryz.func260,Tryz.ntmps260
 go_wp2
 go_returns
 exact⟨rfl,by(repeat(first|with_reducible(first|exact eR_ _|assumption|refine eA_ ?_ _|refine eD_ ?_|refine eN_ ?_ _|refine eL_ ?_ _)|(with_reducible refine eS_ ?_ _ ?hp;case hp=>first|(simp;done)|(simp;omega)|omega)))⟩
theorem sub_one_down (h l c l' u x c2 h':Int) (w:World) (hu:IntKind.u64.wrap h=u)
  (s1: ∀W,(callFunc 284 #[.int .u64 l,.int .u64 1,.int .u64 0]).run Tryz.prog W=.ok (.value (.tuple #[.int .u64 l',.int .u64 c])) W)
  (s2: ∀W,(callFunc 284 #[.int .u64 u,.int .u64 0,.int .u64 c]).run Tryz.prog W=.ok (.value (.tuple #[.int .u64 x,.int .u64 c2])) W)
  (hx:IntKind.i64.wrap x=h')(e1:decide (h<0)=true)(e3:decide (h'<0)=true):
  Calls Tryz.prog 260 #[.agg #[.int .i64 h,.int .u64 l],.agg #[.int .i64 0,.int .u64 1]] w fun e w'=>e=.returned (.tuple #[.agg #[.int .i64 h',.int .u64 l'],.bool true])∧Ext w w':=by
 go_enter Tryz.func260,Tryz.ntmps260
 go_wp2
 go_returns
 exact⟨rfl,by(repeat(first|with_reducible(first|exact eR_ _|assumption|refine eA_ ?_ _|refine eD_ ?_|refine eN_ ?_ _|refine eL_ ?_ _)|(with_reducible refine eS_ ?_ _ ?hp;case hp=>first|(simp;done)|(simp;omega)|omega)))⟩
theorem sub_hi {z:Int} (h1: -170141183460469231731687303715884105727<z) (h2:z<170141183460469231731687303715884105728):
  IntKind.i64.wrap ((IntKind.u64.wrap (hi z)-0-if lo z<1+0 then 1 else 0)%18446744073709551616)=hi (z-1)∧(lo z-1-0)%18446744073709551616=lo (z-1):=by
 simp only[IntKind.wrap_u64,IntKind.wrap_i64]
 unfold hi lo
 split <;>omega
theorem sub_one (z:Int) (w:World) (h1: -170141183460469231731687303715884105727<z) (h2:z<170141183460469231731687303715884105728):
  Calls Tryz.prog 260 #[I z,.agg #[.int .i64 0,.int .u64 1]] w fun e w'=>e=.returned (.tuple #[I (z-1),.bool true])∧Ext w w':=by
 obtain⟨e1,e2⟩:=sub_hi h1 h2
 have l1:=lo_pos z
 have l2:=lo_lt z
 have hc:0≤(if lo z<1+0 then 1 else 0:Int)∧(if lo z<1+0 then 1 else 0:Int)≤1:=by split <;>omega
 have s1:=fun W=>sub64_run (lo z) 1 0 W l1 (by omega) (by omega) (by omega) (by omega)
 have s2:=fun W=>sub64_run (IntKind.u64.wrap (hi z)) 0 (if lo z<1+0 then 1 else 0) W (by simp only[IntKind.wrap_u64];omega) (by omega) (by omega) hc.1 hc.2
 rw[e2]at s1
 by_cases hz:hi z<0
 ·have hz':hi (z-1)<0:=by unfold hi at *;omega
  exact sub_one_down _ _ _ _ _ _ _ _ w rfl s1 s2 e1 (by simpa using hz) (by simpa using hz')
 ·exact sub_one_up _ _ _ _ _ _ _ _ w rfl s1 s2 e1 (by simpa using hz)
end Go.Proofs.YtplljnfjkkloeaaGreatDoor
set_option linter.unusedVariables false
set_option linter.unusedSimpArgs false
namespace Go.Proofs.YtplljnfjkkloeaaGreatDoor
open Go.RowKit
theorem signed_up (h l h':Int) (w:World) (hx:IntKind.i64.wrap h=h') (e1:decide (h'≥0)=true):
  Calls Tryz.prog 215 #[.int .u64 h,.int .u64 l,.bool false] w fun e w'=>e=.returned (.tuple #[.agg #[.int .i64 h',.int .u64 l],.bool true])∧Ext w w':=by
 go_enter Tryz.func215,Tryz.ntmps215
 go_wp2
 go_region
 all_goals(try go_wp2)
 all_goals go_returns
 all_goals exact⟨rfl,by(repeat(first|with_reducible(first|exact eR_ _|assumption|refine eA_ ?_ _|refine eD_ ?_|refine eN_ ?_ _|refine eL_ ?_ _)|(with_reducible refine eS_ ?_ _ ?hp;case hp=>first|(simp;done)|(simp;omega)|omega)))⟩
theorem signed_down (h l x h' l':Int) (w:World) (hx:IntKind.i64.wrap h=x)
  (hc: ∀W,Calls Tryz.prog 258 #[.agg #[.int .i64 x,.int .u64 l]] W fun e w'=>e=.returned (.agg #[.int .i64 h',.int .u64 l'])∧Ext W w')(e1:decide (h'<0)=true):
  Calls Tryz.prog 215 #[.int .u64 h,.int .u64 l,.bool true] w fun e w'=>e=.returned (.tuple #[.agg #[.int .i64 h',.int .u64 l'],.bool true])∧Ext w w':=by
 go_enter Tryz.func215,Tryz.ntmps215
 go_wp2_with (go_at_call 258;refine(hc _).mono ?_;rintro e w1 ⟨rfl,hE⟩;obtain⟨x1,rfl⟩:=Later.mk' hE;clear hE)
 go_region
 all_goals(try go_wp2)
 all_goals go_returns
 all_goals exact⟨rfl,by(repeat(first|with_reducible(first|exact eR_ _|assumption|refine eA_ ?_ _|refine eD_ ?_|refine eN_ ?_ _|refine eL_ ?_ _)|(with_reducible refine eS_ ?_ _ ?hp;case hp=>first|(simp;done)|(simp;omega)|omega)))⟩
theorem signed_zero (w:World)
  (hc: ∀W,Calls Tryz.prog 258 #[.agg #[.int .i64 0,.int .u64 0]] W fun e w'=>e=.returned (.agg #[.int .i64 0,.int .u64 0])∧Ext W w'):
  Calls Tryz.prog 215 #[.int .u64 0,.int .u64 0,.bool true] w fun e w'=>e=.returned (.tuple #[.agg #[.int .i64 0,.int .u64 0],.bool true])∧Ext w w':=by
 go_enter Tryz.func215,Tryz.ntmps215
 go_wp2_with (go_at_call 258;refine(hc _).mono ?_;rintro e w1 ⟨rfl,hE⟩;obtain⟨x1,rfl⟩:=Later.mk' hE;clear hE)
 go_region
 all_goals(try go_wp2)
 all_goals go_returns
 all_goals exact⟨rfl,by(repeat(first|with_reducible(first|exact eR_ _|assumption|refine eA_ ?_ _|refine eD_ ?_|refine eN_ ?_ _|refine eL_ ?_ _)|(with_reducible refine eS_ ?_ _ ?hp;case hp=>first|(simp;done)|(simp;omega)|omega)))⟩
end Go.Proofs.YtplljnfjkkloeaaGreatDoor
set_option linter.unusedVariables false
set_option linter.unusedSimpArgs false
namespace Go.Proofs.YtplljnfjkkloeaaGreatDoor
open Go.RowKit
def lays264_ren:Go.Shelf.Ren:=⟨fun x=>match x with|264=>157|n=>n,fun x=>match x with|46=>226|53=>259|n=>n,fun n=>n⟩
theorem lays264:Lays.n264 Tryz.prog lays264_ren:={
 mixed:=by kernel_rfl
 f264:=by kernel_rfl
 t46:=by kernel_rfl
 a46:=fun w=>by kernel_rfl
 z46:=fun w=>by kernel_rfl
 v46:=fun w=>by kernel_rfl
 t53:=by kernel_rfl
 a53:=fun w=>by kernel_rfl
 z53:=fun w=>by kernel_rfl
 v53:=fun w=>by kernel_rfl}
def lays134_ren:Go.Shelf.Ren:=⟨fun x=>match x with|129=>301|134=>285|n=>n,fun x=>match x with|3=>3|4=>4|5=>5|9=>9|46=>226|53=>259|n=>n,fun n=>n⟩
theorem lays134:Lays.n134 Tryz.prog lays134_ren:={
 mixed:=by kernel_rfl
 f129:=by kernel_rfl
 f134:=by kernel_rfl
 t3:=by kernel_rfl
 a3:=fun w=>by kernel_rfl
 z3:=fun w=>by kernel_rfl
 v3:=fun w=>by kernel_rfl
 t4:=by kernel_rfl
 a4:=fun w=>by kernel_rfl
 z4:=fun w=>by kernel_rfl
 v4:=fun w=>by kernel_rfl
 t5:=by kernel_rfl
 a5:=fun w=>by kernel_rfl
 z5:=fun w=>by kernel_rfl
 v5:=fun w=>by kernel_rfl
 t9:=by kernel_rfl
 a9:=fun w=>by kernel_rfl
 z9:=fun w=>by kernel_rfl
 v9:=fun w=>by kernel_rfl
 t46:=by kernel_rfl
 a46:=fun w=>by kernel_rfl
 z46:=fun w=>by kernel_rfl
 v46:=fun w=>by kernel_rfl
 t53:=by kernel_rfl
 a53:=fun w=>by kernel_rfl
 z53:=fun w=>by kernel_rfl
 v53:=fun w=>by kernel_rfl}
theorem mul64_any (x y:Nat) (hx:x<18446744073709551616) (hy:y<18446744073709551616) (w:World):
  Calls Tryz.prog 157 #[.int .u64 x,.int .u64 y] w fun e w'=>e=.returned (.tuple #[.int .u64 (hi ((x:Int)*y)),.int .u64 (lo ((x:Int)*y))])∧w'=w:=by
 have h:=Any.bits_Mul64 lays264 x y hx hy w
 have e1:hi ((x:Int)*y)=((x*y/18446744073709551616:Nat):Int):=by unfold hi;rw[←Int.natCast_mul];omega
 have e2:lo ((x:Int)*y)=((x*y%18446744073709551616:Nat):Int):=by unfold lo;rw[←Int.natCast_mul];omega
 rw[e1,e2]
 exact h
theorem two_cells {W:World} {b:Nat} {u0 u1:Value} (k0:W.cell? ⟨b,0,none⟩=some u0) (k1:W.cell? ⟨b,1,none⟩=some u1) (v0 v1:Value):
  ((W.setCell ⟨b,0,none⟩ v0).setCell ⟨b,1,none⟩ v1).cell? ⟨b,0,none⟩=some v0∧((W.setCell ⟨b,0,none⟩ v0).setCell ⟨b,1,none⟩ v1).cell? ⟨b,1,none⟩=some v1:=by
 constructor
 ·rw[World.cell?_setCell_other,World.cell?_setCell_same (h:=k0)]
  simp
 ·rw[World.cell?_setCell_same (u:=u1)]
  rw[World.cell?_setCell_other,k1]
  simp
theorem signed_any (n:Int) (m:Bool) (w:World) (h0:0≤n) (h1:n<170141183460469231731687303715884105728):
  Calls Tryz.prog 215 #[.int .u64 (hi n),.int .u64 (lo n),.bool m] w fun e w'=>e=.returned (.tuple #[I (if m then -n else n),.bool true])∧Ext w w':=by
 have g1:=hi_lt h1
 have g0:0≤hi n:=by unfold hi;omega
 have hw:IntKind.i64.wrap (hi n)=hi n:=by rw[IntKind.wrap_i64];omega
 cases m
 ·exact signed_up (hi n) (lo n) (hi n) w hw (by simpa using g0)
 ·by_cases hn:n=0
  ·subst hn
   exact signed_zero w (fun W=>turned_any 0 W (by omega) (by omega))
  ·have hneg:hi (-n)<0:=by unfold hi;omega
   exact signed_down (hi n) (lo n) (hi n) (hi (-n)) (lo (-n)) w hw (fun W=>turned_any n W (by omega) h1) (by simpa using hneg)
theorem mul_cells_tt (a b h l:Int) (w:World) (a1: -9223372036854775808≤a) (a2:a<9223372036854775808) (d1: -9223372036854775808≤b) (d2:b<9223372036854775808) (e1:decide (a<0)=true) (e2:decide (b<0)=true)
  (c3: ∀W,Calls Tryz.prog 157 #[.int .u64 a.natAbs,.int .u64 b.natAbs] W fun e w'=>e=.returned (.tuple #[.int .u64 h,.int .u64 l])∧w'=W)
  (h' l':Int)(c4: ∀W,Calls Tryz.prog 215 #[.int .u64 h,.int .u64 l,.bool false] W fun e w'=>e=.returned (.tuple #[.agg #[.int .i64 h',.int .u64 l'],.bool true])∧Ext W w'):
  Calls Tryz.prog 174 #[.int .i64 a,.int .i64 b] w fun e w'=>e=.returned (.agg #[.int .i64 h',.int .u64 l'])∧Ext w w':=by
 have C1:=Lib.hid (fun W=>bare_any a W a1 a2)
 have C2:=Lib.hid (fun W=>bare_any b W d1 d2)
 have C3:=Lib.hid c3;clear c3
 have C4:=Lib.hid c4;clear c4
 clear a1 a2 d1 d2
 go_enter Tryz.func174,Tryz.ntmps174
 go_wp2_with (go_at_call 214;refine(C1.out _).mono ?_;rintro e w1 ⟨rfl,rfl⟩;clear C1)
 refine(C2.out _).mono ?_
 rintro e w1 ⟨rfl,rfl⟩
 go_wp2_with (first|(go_at_call 157;refine(C3.out _).mono ?_;rintro e w1 ⟨rfl,rfl⟩)|(go_at_call 215;refine(C4.out _).mono ?_;rintro e w1 ⟨rfl,hE⟩;obtain⟨x1,rfl⟩:=Later.mk' hE;clear hE))
 have k0:(x1.w.alloc (Obj.cells #[.int .i64 h',.int .u64 l'] 280)).cell? ⟨w.heap.size,0,none⟩=some (.int .i64 0):=by rw[alloc_cell _ _ _ (by rw[x1.cell _ _ (by simp)];simp),x1.cell _ _ (by simp)];simp
 have k1:(x1.w.alloc (Obj.cells #[.int .i64 h',.int .u64 l'] 280)).cell? ⟨w.heap.size,1,none⟩=some (.int .u64 0):=by rw[alloc_cell _ _ _ (by rw[x1.cell _ _ (by simp)];simp),x1.cell _ _ (by simp)];simp
 obtain⟨q0,q1⟩:=two_cells k0 k1 (.int .i64 h') (.int .u64 l')
 (try simp only[Exit.inBlock,Exit.then])
 refine bodyPost_ret (v:=.agg #[.int .i64 h',.int .u64 l']) (by simp[results,Tryz.results174,q0,q1,go_sem]) rfl ?_
 exact⟨rfl,by(repeat(first|with_reducible(first|exact eR_ _|assumption|refine eA_ ?_ _|refine eD_ ?_|refine eN_ ?_ _|refine eL_ ?_ _)|(with_reducible refine eS_ ?_ _ ?hp;case hp=>first|(simp;done)|(simp;omega)|omega)))⟩
theorem mul_cells_tf (a b h l:Int) (w:World) (a1: -9223372036854775808≤a) (a2:a<9223372036854775808) (d1: -9223372036854775808≤b) (d2:b<9223372036854775808) (e1:decide (a<0)=true) (e2:decide (b<0)=false)
  (c3: ∀W,Calls Tryz.prog 157 #[.int .u64 a.natAbs,.int .u64 b.natAbs] W fun e w'=>e=.returned (.tuple #[.int .u64 h,.int .u64 l])∧w'=W)
  (h' l':Int)(c4: ∀W,Calls Tryz.prog 215 #[.int .u64 h,.int .u64 l,.bool true] W fun e w'=>e=.returned (.tuple #[.agg #[.int .i64 h',.int .u64 l'],.bool true])∧Ext W w'):
  Calls Tryz.prog 174 #[.int .i64 a,.int .i64 b] w fun e w'=>e=.returned (.agg #[.int .i64 h',.int .u64 l'])∧Ext w w':=by
 have C1:=Lib.hid (fun W=>bare_any a W a1 a2)
 have C2:=Lib.hid (fun W=>bare_any b W d1 d2)
 have C3:=Lib.hid c3;clear c3
 have C4:=Lib.hid c4;clear c4
 clear a1 a2 d1 d2
 go_enter Tryz.func174,Tryz.ntmps174
 go_wp2_with (go_at_call 214;refine(C1.out _).mono ?_;rintro e w1 ⟨rfl,rfl⟩;clear C1)
 refine(C2.out _).mono ?_
 rintro e w1 ⟨rfl,rfl⟩
 go_wp2_with (first|(go_at_call 157;refine(C3.out _).mono ?_;rintro e w1 ⟨rfl,rfl⟩)|(go_at_call 215;refine(C4.out _).mono ?_;rintro e w1 ⟨rfl,hE⟩;obtain⟨x1,rfl⟩:=Later.mk' hE;clear hE))
 have k0:(x1.w.alloc (Obj.cells #[.int .i64 h',.int .u64 l'] 280)).cell? ⟨w.heap.size,0,none⟩=some (.int .i64 0):=by rw[alloc_cell _ _ _ (by rw[x1.cell _ _ (by simp)];simp),x1.cell _ _ (by simp)];simp
 have k1:(x1.w.alloc (Obj.cells #[.int .i64 h',.int .u64 l'] 280)).cell? ⟨w.heap.size,1,none⟩=some (.int .u64 0):=by rw[alloc_cell _ _ _ (by rw[x1.cell _ _ (by simp)];simp),x1.cell _ _ (by simp)];simp
 obtain⟨q0,q1⟩:=two_cells k0 k1 (.int .i64 h') (.int .u64 l')
 (try simp only[Exit.inBlock,Exit.then])
 refine bodyPost_ret (v:=.agg #[.int .i64 h',.int .u64 l']) (by simp[results,Tryz.results174,q0,q1,go_sem]) rfl ?_
 exact⟨rfl,by(repeat(first|with_reducible(first|exact eR_ _|assumption|refine eA_ ?_ _|refine eD_ ?_|refine eN_ ?_ _|refine eL_ ?_ _)|(with_reducible refine eS_ ?_ _ ?hp;case hp=>first|(simp;done)|(simp;omega)|omega)))⟩
theorem mul_cells_ft (a b h l:Int) (w:World) (a1: -9223372036854775808≤a) (a2:a<9223372036854775808) (d1: -9223372036854775808≤b) (d2:b<9223372036854775808) (e1:decide (a<0)=false) (e2:decide (b<0)=true)
  (c3: ∀W,Calls Tryz.prog 157 #[.int .u64 a.natAbs,.int .u64 b.natAbs] W fun e w'=>e=.returned (.tuple #[.int .u64 h,.int .u64 l])∧w'=W)
  (h' l':Int)(c4: ∀W,Calls Tryz.prog 215 #[.int .u64 h,.int .u64 l,.bool true] W fun e w'=>e=.returned (.tuple #[.agg #[.int .i64 h',.int .u64 l'],.bool true])∧Ext W w'):
  Calls Tryz.prog 174 #[.int .i64 a,.int .i64 b] w fun e w'=>e=.returned (.agg #[.int .i64 h',.int .u64 l'])∧Ext w w':=by
 have C1:=Lib.hid (fun W=>bare_any a W a1 a2)
 have C2:=Lib.hid (fun W=>bare_any b W d1 d2)
 have C3:=Lib.hid c3;clear c3
 have C4:=Lib.hid c4;clear c4
 clear a1 a2 d1 d2
 go_enter Tryz.func174,Tryz.ntmps174
 go_wp2_with (go_at_call 214;refine(C1.out _).mono ?_;rintro e w1 ⟨rfl,rfl⟩;clear C1)
 refine(C2.out _).mono ?_
 rintro e w1 ⟨rfl,rfl⟩
 go_wp2_with (first|(go_at_call 157;refine(C3.out _).mono ?_;rintro e w1 ⟨rfl,rfl⟩)|(go_at_call 215;refine(C4.out _).mono ?_;rintro e w1 ⟨rfl,hE⟩;obtain⟨x1,rfl⟩:=Later.mk' hE;clear hE))
 have k0:(x1.w.alloc (Obj.cells #[.int .i64 h',.int .u64 l'] 280)).cell? ⟨w.heap.size,0,none⟩=some (.int .i64 0):=by rw[alloc_cell _ _ _ (by rw[x1.cell _ _ (by simp)];simp),x1.cell _ _ (by simp)];simp
 have k1:(x1.w.alloc (Obj.cells #[.int .i64 h',.int .u64 l'] 280)).cell? ⟨w.heap.size,1,none⟩=some (.int .u64 0):=by rw[alloc_cell _ _ _ (by rw[x1.cell _ _ (by simp)];simp),x1.cell _ _ (by simp)];simp
 obtain⟨q0,q1⟩:=two_cells k0 k1 (.int .i64 h') (.int .u64 l')
 (try simp only[Exit.inBlock,Exit.then])
 refine bodyPost_ret (v:=.agg #[.int .i64 h',.int .u64 l']) (by simp[results,Tryz.results174,q0,q1,go_sem]) rfl ?_
 exact⟨rfl,by(repeat(first|with_reducible(first|exact eR_ _|assumption|refine eA_ ?_ _|refine eD_ ?_|refine eN_ ?_ _|refine eL_ ?_ _)|(with_reducible refine eS_ ?_ _ ?hp;case hp=>first|(simp;done)|(simp;omega)|omega)))⟩
theorem mul_cells_ff (a b h l:Int) (w:World) (a1: -9223372036854775808≤a) (a2:a<9223372036854775808) (d1: -9223372036854775808≤b) (d2:b<9223372036854775808) (e1:decide (a<0)=false) (e2:decide (b<0)=false)
  (c3: ∀W,Calls Tryz.prog 157 #[.int .u64 a.natAbs,.int .u64 b.natAbs] W fun e w'=>e=.returned (.tuple #[.int .u64 h,.int .u64 l])∧w'=W)
  (h' l':Int)(c4: ∀W,Calls Tryz.prog 215 #[.int .u64 h,.int .u64 l,.bool false] W fun e w'=>e=.returned (.tuple #[.agg #[.int .i64 h',.int .u64 l'],.bool true])∧Ext W w'):
  Calls Tryz.prog 174 #[.int .i64 a,.int .i64 b] w fun e w'=>e=.returned (.agg #[.int .i64 h',.int .u64 l'])∧Ext w w':=by
 have C1:=Lib.hid (fun W=>bare_any a W a1 a2)
 have C2:=Lib.hid (fun W=>bare_any b W d1 d2)
 have C3:=Lib.hid c3;clear c3
 have C4:=Lib.hid c4;clear c4
 clear a1 a2 d1 d2
 go_enter Tryz.func174,Tryz.ntmps174
 go_wp2_with (go_at_call 214;refine(C1.out _).mono ?_;rintro e w1 ⟨rfl,rfl⟩;clear C1)
 refine(C2.out _).mono ?_
 rintro e w1 ⟨rfl,rfl⟩
 go_wp2_with (first|(go_at_call 157;refine(C3.out _).mono ?_;rintro e w1 ⟨rfl,rfl⟩)|(go_at_call 215;refine(C4.out _).mono ?_;rintro e w1 ⟨rfl,hE⟩;obtain⟨x1,rfl⟩:=Later.mk' hE;clear hE))
 have k0:(x1.w.alloc (Obj.cells #[.int .i64 h',.int .u64 l'] 280)).cell? ⟨w.heap.size,0,none⟩=some (.int .i64 0):=by rw[alloc_cell _ _ _ (by rw[x1.cell _ _ (by simp)];simp),x1.cell _ _ (by simp)];simp
 have k1:(x1.w.alloc (Obj.cells #[.int .i64 h',.int .u64 l'] 280)).cell? ⟨w.heap.size,1,none⟩=some (.int .u64 0):=by rw[alloc_cell _ _ _ (by rw[x1.cell _ _ (by simp)];simp),x1.cell _ _ (by simp)];simp
 obtain⟨q0,q1⟩:=two_cells k0 k1 (.int .i64 h') (.int .u64 l')
 (try simp only[Exit.inBlock,Exit.then])
 refine bodyPost_ret (v:=.agg #[.int .i64 h',.int .u64 l']) (by simp[results,Tryz.results174,q0,q1,go_sem]) rfl ?_
 exact⟨rfl,by(repeat(first|with_reducible(first|exact eR_ _|assumption|refine eA_ ?_ _|refine eD_ ?_|refine eN_ ?_ _|refine eL_ ?_ _)|(with_reducible refine eS_ ?_ _ ?hp;case hp=>first|(simp;done)|(simp;omega)|omega)))⟩
theorem mul_any (a b:Int) (w:World) (a1: -9223372036854775808≤a) (a2:a<9223372036854775808) (d1: -9223372036854775808≤b) (d2:b<9223372036854775808):
  Calls Tryz.prog 174 #[.int .i64 a,.int .i64 b] w fun e w'=>e=.returned (I (a*b))∧Ext w w':=by
 have c3:=fun W=>mul64_any a.natAbs b.natAbs (by omega) (by omega) W
 have hN:(a.natAbs:Int)*b.natAbs≤9223372036854775808*9223372036854775808:=by
  have:=Nat.mul_le_mul (show a.natAbs≤9223372036854775808 by omega) (show b.natAbs≤9223372036854775808 by omega)
  rw[←Int.natCast_mul]
  generalize a.natAbs*b.natAbs=N at this ⊢
  omega
 have hN0:(0:Int)≤(a.natAbs:Int)*b.natAbs:=Int.mul_nonneg (by omega) (by omega)
 have c4:=fun m W=>signed_any ((a.natAbs:Int)*b.natAbs) m W hN0 (by omega)
 by_cases ha:a<0 <;>by_cases hb:b<0
 ·have e:(a.natAbs:Int)*b.natAbs=a*b:=by
   rw[show(a.natAbs:Int)= -a by omega,show(b.natAbs:Int)= -b by omega,Int.neg_mul_neg]
  have k:=c4 false
  rw[show(if(false:Bool)=true then -((a.natAbs:Int)*b.natAbs)else(a.natAbs:Int)*b.natAbs)=a*b from e]at k
  exact mul_cells_tt a b _ _ w a1 a2 d1 d2 (by simpa using ha) (by simpa using hb) c3 _ _ k
 ·have e: -((a.natAbs:Int)*b.natAbs)=a*b:=by
   rw[show(a.natAbs:Int)= -a by omega,show(b.natAbs:Int)=b by omega,Int.neg_mul,Int.neg_neg]
  have k:=c4 true
  rw[show(if(true:Bool)=true then -((a.natAbs:Int)*b.natAbs)else(a.natAbs:Int)*b.natAbs)=a*b from e]at k
  exact mul_cells_tf a b _ _ w a1 a2 d1 d2 (by simpa using ha) (by simpa using hb) c3 _ _ k
 ·have e: -((a.natAbs:Int)*b.natAbs)=a*b:=by
   rw[show(a.natAbs:Int)=a by omega,show(b.natAbs:Int)= -b by omega,Int.mul_neg,Int.neg_neg]
  have k:=c4 true
  rw[show(if(true:Bool)=true then -((a.natAbs:Int)*b.natAbs)else(a.natAbs:Int)*b.natAbs)=a*b from e]at k
  exact mul_cells_ft a b _ _ w a1 a2 d1 d2 (by simpa using ha) (by simpa using hb) c3 _ _ k
 ·have e:(a.natAbs:Int)*b.natAbs=a*b:=by
   rw[show(a.natAbs:Int)=a by omega,show(b.natAbs:Int)=b by omega]
  have k:=c4 false
  rw[show(if(false:Bool)=true then -((a.natAbs:Int)*b.natAbs)else(a.natAbs:Int)*b.natAbs)=a*b from e]at k
  exact mul_cells_ff a b _ _ w a1 a2 d1 d2 (by simpa using ha) (by simpa using hb) c3 _ _ k
end Go.Proofs.YtplljnfjkkloeaaGreatDoor
set_option linter.unusedVariables false
set_option linter.unusedSimpArgs false
namespace Go.Proofs.YtplljnfjkkloeaaGreatDoor
open Go.RowKit
theorem small_hi {z:Int} (h1: -9223372036854775808≤z) (h2:z<9223372036854775808):IntKind.i64.wrap (lo z)=z∧z/9223372036854775808=hi z:=by
 rw[IntKind.wrap_i64];unfold lo hi;omega
theorem small_cells (h l z:Int) (w:World) (e0:IntKind.i64.wrap l=z) (e1:z/9223372036854775808=h):
  Calls Tryz.prog 217 #[.agg #[.int .i64 h,.int .u64 l]] w fun e w'=>e=.returned (.tuple #[.int .i64 z,.bool true])∧Ext w w':=by
 have en:(h !=h)=false:=by simp
 go_enter Tryz.func217,Tryz.ntmps217
 go_wp2
 go_ret2
 exact⟨rfl,by(repeat(first|with_reducible(first|exact eR_ _|assumption|refine eA_ ?_ _|refine eD_ ?_|refine eN_ ?_ _|refine eL_ ?_ _)|(with_reducible refine eS_ ?_ _ ?hp;case hp=>first|(simp;done)|(simp;omega)|omega)))⟩
theorem small_any (z:Int) (w:World) (h1: -9223372036854775808≤z) (h2:z<9223372036854775808):
  Calls Tryz.prog 217 #[I z] w fun e w'=>e=.returned (.tuple #[.int .i64 z,.bool true])∧Ext w w':=
 small_cells _ _ z w (small_hi h1 h2).1 (small_hi h1 h2).2
end Go.Proofs.YtplljnfjkkloeaaGreatDoor
set_option linter.unusedVariables false
set_option linter.unusedSimpArgs false
namespace Go.Proofs.YtplljnfjkkloeaaGreatDoor
theorem digit_test {u q r y1 y0 n B:Nat} (h:u=q*y1+r):q*y0>B*r+n↔q*(y1*B+y0)>u*B+n:=by
 subst h
 have e1:q*(y1*B+y0)=q*y1*B+q*y0:=by rw[Nat.mul_add,Nat.mul_assoc]
 have e2:(q*y1+r)*B=q*y1*B+B*r:=by rw[Nat.add_mul,Nat.mul_comm r B]
 rw[e1,e2]
 omega
theorem digit_lt {u y n B:Nat} (hy:0<y) (hu:u<y) (hn:n<B):(u*B+n)/y<B:=by
 rw[Nat.div_lt_iff_lt_mul hy]
 have:(u+1)*B≤y*B:=Nat.mul_le_mul_right _ hu
 rw[Nat.add_mul,Nat.one_mul]at this
 rw[Nat.mul_comm B y]
 omega
theorem digit_guess {u y1 y0 n B:Nat} (hy1:0<y1) (hn:n<B):(u*B+n)/(y1*B+y0)≤u/y1:=by
 have hB:0<B:=by omega
 have h1:(u*B+n)/(y1*B+y0)≤(u*B+n)/(y1*B):=Nat.div_le_div_left (by omega) (Nat.mul_pos hy1 hB)
 have h2:(u*B+n)/(y1*B)=u/y1:=by
  rw[Nat.mul_comm y1 B,←Nat.div_div_eq_div_mul,Nat.mul_comm u B,Nat.mul_add_div hB,Nat.div_eq_of_lt hn,Nat.add_zero]
 omega
theorem digit_down {N y q:Nat} (hy:0<y) (h:q*y>N):N/y≤q-1:=by
 have:N/y<q:=by rw[Nat.div_lt_iff_lt_mul hy];rw[Nat.mul_comm];rw[Nat.mul_comm]at h;exact h
 omega
theorem digit_done {N y q:Nat} (hy:0<y) (h1:N/y≤q) (h2: ¬q*y>N):q=N/y:=by
 have:q≤N/y:=by rw[Nat.le_div_iff_mul_le hy];omega
 omega
theorem two_digits {un32 un1 un0 y B:Nat} (hy:0<y) (h0:un0<B):
  ((un32*B+un1)*B+un0)/y=(un32*B+un1)/y*B+((un32*B+un1)%y*B+un0)/y∧
  ((un32*B+un1)*B+un0)%y=((un32*B+un1)%y*B+un0)%y:=by
 have e:=Nat.div_add_mod (un32*B+un1) y
 generalize(un32*B+un1)/y=q at*
 generalize(un32*B+un1)%y=r at*
 have:(un32*B+un1)*B+un0=y*(q*B)+(r*B+un0):=by
  rw[←e,Nat.add_mul,Nat.mul_assoc];omega
 rw[this,Nat.mul_add_div hy,Nat.mul_add_mod]
 exact⟨rfl,rfl⟩
theorem moved {N d s:Nat} (hs:0<s):N*s/(d*s)=N/d∧N*s%(d*s)=N%d*s:=by
 constructor
 ·exact Nat.mul_div_mul_right _ _ hs
 ·exact Nat.mul_mod_mul_right _ _ _
def Dg (u y1 y0 n q r:Nat):Prop:=u=q*y1+r∧(u*4294967296+n)/(y1*4294967296+y0)≤q∧q≤4294967297
theorem dg_start {u y1 y0 n:Nat} (hy1:2147483648≤y1) (hy0:y0<4294967296) (hn:n<4294967296) (hu:u<y1*4294967296+y0):
  Dg u y1 y0 n (u/y1) (u%y1):=by
 refine⟨?_,digit_guess (by omega) hn,?_⟩
 ·rw[Nat.mul_comm];exact(Nat.div_add_mod u y1).symm
 ·have:u/y1<4294967298:=by
   rw[Nat.div_lt_iff_lt_mul (by omega)]
   omega
  omega
theorem dg_down {u y1 y0 n q r:Nat} (h:Dg u y1 y0 n q r) (hy1:2147483648≤y1) (hy0:y0<4294967296) (hn:n<4294967296) (hu:u<y1*4294967296+y0)
  (hc:4294967296≤q∨q*y0>4294967296*r+n):1≤q∧Dg u y1 y0 n (q-1) (r+y1):=by
 obtain⟨h1,h2,h3⟩:=h
 have hq:1≤q:=by
  rcases hc with hc|hc
  ·omega
  ·rcases Nat.eq_zero_or_pos q with h0|h0
   ·subst h0;simp at hc
   ·omega
 refine⟨hq,?_,?_,by omega⟩
 ·obtain⟨k,rfl⟩: ∃k,q=k+1:=⟨q-1,by omega⟩
  rw[h1,Nat.add_sub_cancel,Nat.add_mul,Nat.one_mul];omega
 ·rcases hc with hc|hc
  ·have:=digit_lt (y:=y1*4294967296+y0) (by omega) hu hn
   omega
  ·exact digit_down (by omega) ((digit_test h1).1 hc)
theorem dg_done {u y1 y0 n q r:Nat} (h:Dg u y1 y0 n q r) (hy1:2147483648≤y1) (hc: ¬q*y0>4294967296*r+n):
  q=(u*4294967296+n)/(y1*4294967296+y0):=
 digit_done (by omega) h.2.1 (fun k=>hc ((digit_test h.1).2 k))
theorem dg_break {u y1 y0 n q r:Nat} (h:Dg u y1 y0 n q r) (hy1:2147483648≤y1) (hy0:y0<4294967296) (hq:q≤4294967296) (hr:4294967296≤r):
  q=(u*4294967296+n)/(y1*4294967296+y0):=by
 refine dg_done h hy1 ?_
 have h1:q*y0≤4294967296*y0:=Nat.mul_le_mul_right _ hq
 omega
end Go.Proofs.YtplljnfjkkloeaaGreatDoor
set_option linter.unusedVariables false
set_option linter.unusedSimpArgs false
namespace Go.Proofs.YtplljnfjkkloeaaGreatDoor
open Go.RowKit
theorem div64_low (l y:Int) (w:World) (e0:(y==0)=false) (e1:decide (y≤0)=false) (hl:0≤l) (hl2:l<18446744073709551616) (hy:0<y):
  Calls Tryz.prog 259 #[.int .u64 0,.int .u64 l,.int .u64 y] w fun e w'=>e=.returned (.tuple #[.int .u64 (l/y),.int .u64 (l%y)])∧ ∃n,w'=w.drewN n:=by
 have hq:l.tdiv y=l/y:=Int.tdiv_eq_ediv_of_nonneg hl
 have hr:l.tmod y=l%y:=Int.tmod_eq_emod_of_nonneg hl
 have hy0:y≠0:=by omega
 have hw:IntKind.u64.wrap (l/y)=l/y:=by
  have h1:0≤l/y:=Int.ediv_nonneg hl (by omega)
  have h2:l/y≤l:=Int.ediv_le_self _ hl
  rw[IntKind.wrap_u64];omega
 go_enter Tryz.func259,Tryz.ntmps259
 go_wp2
 go_quiet (fail)
 all_goals(try go_wp2)
 all_goals go_ret2
 all_goals exact⟨by first|rfl|(simp only[hq,hr];rfl)|(rw[hq,hr];rfl),_,rfl⟩
end Go.Proofs.YtplljnfjkkloeaaGreatDoor
