/- Proof text: an image copied (store.Copy). By an AI agent. No condition beyond what each theorem states. -/
import Derived.Test.YtplljnfjkkloeaaGreatDoorGF
import Derived.Laws.CopyOwn
set_option linter.unusedVariables false
set_option linter.unusedSimpArgs false
set_option maxHeartbeats 8000000
namespace Go.Proofs.YtplljnfjkkloeaaGreatDoor
attribute [local go_sem] Go.Oper.semAt_some
open Go.RowKit
theorem own_blk {w:World} {base:Nat} {e:TypeId} {X n:Nat} {xs:List Value} (h:w.ownsRow base e 1 (.slice (some ⟨X,0,none⟩) n n) n xs):Blk w X e xs.toArray∧base≤X:=by
 obtain⟨hl,hr⟩:=h
 rcases hr with⟨h0, -⟩|⟨g,cap,cur,h0,hb,hg,hnc,hcm,hcs,ht⟩
 ·cases h0
 ·simp only[Value.slice.injEq,Option.some.injEq,Addr.mk.injEq,and_true,true_and]at h0
  obtain⟨rfl,rfl⟩:=h0
  have:cur.toList=xs:=by
   rw[←ht,List.take_of_length_le (by simp;omega)]
  refine⟨?_,hb⟩
  unfold Blk
  rw[hg,←this]
theorem size_int1:(Tryz.prog.info? 3).map (·.size)=some 1:=by kernel_rfl
theorem wpList_copy_all {w:World} {ops:Array Oper} {rest:List Oper} {o:Oper} {a:Act} {Q:Exit→Act→World→Prop} (hgd:o.guard=none) (d s:Operand) (ho:o.op=.call {callee:=.builtin .copy,args:= #[d,s],argTypes:= #[26,26]})
  (g n:Nat)(sp:Option Addr)(cap:Nat)(hd:a.eval d=.slice (some ⟨g,0,none⟩) n n)(hs:a.eval s=.slice sp n cap)(xs C:List Int)(hg:Blk w g 3 (irow xs))(hx:xs.length=n)(hC:C.length=n)(h0:0<n)(hr:Rd w 1 sp n cap (ivs C))
  (h: ∀w',Blk w' g 3 (irow C)→Kp (·≠g) w w'→wpList Tryz.prog ops Q rest (a.put o.dst (.int .i64 (n:Int))) w'):wpList Tryz.prog ops Q (o::rest) a w:=by
 obtain⟨b,off,rfl, -, -⟩:=hr.at_ h0
 have hl:(ivs C).length=n:=by simp[hC]
 refine wpList_copy_own hgd d s _ _ ho 3 Tryz.underlying26 size_int1 g 0 n n _ n cap hd hs (irow xs) 3 hg (ivs C) (by rw[hl];exact(Nat.min_self n).symm) hr.news (by rw[irow_size,hl,hx];omega) (ivs_one C) ?_
 have hrow:((irow xs).toList.take 0++(ivs C++(irow xs).toList.drop (0+(ivs C).length))).toArray=irow C:=by
  rw[List.take_zero,List.nil_append,Nat.zero_add,hl,List.drop_eq_nil_of_le (by rw[Array.length_toList,irow_size,hx];exact Nat.le_refl _),List.append_nil]
  rfl
 rw[hrow,hl]
 exact h _ (hg.row) (Kp.setRow _ (fun h=>h rfl))
def CopyP (w:World) (W H:Int) (n:Nat) (C Z:List Int) (e:Ending) (w':World):Prop:=
 ∃X Y:Nat,e=.returned (.agg #[.int .i64 W,.int .i64 H,.slice (some ⟨X,0,none⟩) n n,.slice (some ⟨Y,0,none⟩) n n])∧Blk w' X 3 (irow C)∧Blk w' Y 3 (irow Z)∧X≠Y∧w.heap.size≤X∧w.heap.size≤Y∧Ext w w'
structure Cpy (w wr:World) (W H:Int) (n X Y P:Nat) (A B:Option Addr) (ca cb:Nat) (C Z C0 Z0:List Int):Prop where
 m:Blk wr w.heap.size 28 #[.int .i64 W,.int .i64 H,.slice A n ca,.slice B n cb]
 r:Blk wr (w.heap.size+1) 28 #[.int .i64 0,.int .i64 0,.slice none 0 0,.slice none 0 0]
 p:Blk wr P 28 #[.int .i64 W,.int .i64 H,.slice (some ⟨X,0,none⟩) n n,.slice (some ⟨Y,0,none⟩) n n]
 x:Blk wr X 3 (irow C0)
 y:Blk wr Y 3 (irow Z0)
 a:Rd wr 1 A n ca (ivs C)
 b:Rd wr 1 B n cb (ivs Z)
 e:Ext w wr
 ne:X≠Y∧P≠X∧P≠Y
 lt:w.heap.size+1<X∧w.heap.size+1<Y∧w.heap.size+1<P
 at_:(∀ad,A=some ad→ad.block<w.heap.size)∧(∀ad,B=some ad→ad.block<w.heap.size)
theorem Cpy.putX {w wr w':World} {W H:Int} {n X Y P:Nat} {A B:Option Addr} {ca cb:Nat} {C Z C0 Z0 C1:List Int} (h:Cpy w wr W H n X Y P A B ca cb C Z C0 Z0) (k:Kp (·≠X) wr w') (hx:Blk w' X 3 (irow C1)):Cpy w w' W H n X Y P A B ca cb C Z C1 Z0:=by
 obtain⟨n1,n2,n3⟩:=h.ne
 obtain⟨l1,l2,l3⟩:=h.lt
 exact⟨h.m.kp k (by omega),h.r.kp k (by omega),h.p.kp k n2,hx,h.y.kp k n1.symm,h.a.kp k (fun ad he=>by have:=h.at_.1 ad he;omega),h.b.kp k (fun ad he=>by have:=h.at_.2 ad he;omega),k.ext h.e (fun j hj=>by omega),h.ne,h.lt,h.at_⟩
theorem Cpy.putY {w wr w':World} {W H:Int} {n X Y P:Nat} {A B:Option Addr} {ca cb:Nat} {C Z C0 Z0 Z1:List Int} (h:Cpy w wr W H n X Y P A B ca cb C Z C0 Z0) (k:Kp (·≠Y) wr w') (hx:Blk w' Y 3 (irow Z1)):Cpy w w' W H n X Y P A B ca cb C Z C0 Z1:=by
 obtain⟨n1,n2,n3⟩:=h.ne
 obtain⟨l1,l2,l3⟩:=h.lt
 exact⟨h.m.kp k (by omega),h.r.kp k (by omega),h.p.kp k n3,h.x.kp k n1,hx,h.a.kp k (fun ad he=>by have:=h.at_.1 ad he;omega),h.b.kp k (fun ad he=>by have:=h.at_.2 ad he;omega),k.ext h.e (fun j hj=>by omega),h.ne,h.lt,h.at_⟩
theorem new_row {cur:Array Value} {n:Nat} (M: ∀W:World,∀base,base≤W.heap.size→(W.alloc (.cells cur 3)).ownsRow base 3 1 (.slice (some ⟨W.heap.size,0,none⟩) n n) n (ivs (List.replicate n 0))) (W:World) (X:Nat) (hX:X=W.heap.size):
  Blk (W.alloc (.cells cur 3)) X 3 (irow (List.replicate n 0)):=hX▸(own_blk (M W 0 (by omega))).1
theorem Rd.block_lt {w:World} {size:Nat} {a:Option Addr} {n cap:Nat} {xs:List Value} (h:Rd w size a n cap xs) (h0:0<n): ∀ad,a=some ad→ad.block<w.heap.size:=by
 intro ad ha
 obtain⟨b,off,hb,hl, -⟩:=h.at_ h0
 rw[ha]at hb
 injection hb with hb
 subst hb
 exact hl
set_option maxRecDepth 100000 in
theorem copy_any (W H:Int) (C Z:List Int) (n:Nat) (A B:Option Addr) (ca cb:Nat) (w:World) (hC:C.length=n) (hZ:Z.length=n) (h0:0<n) (h1:n≤1048576) (ra:Rd w 1 A n ca (ivs C)) (rb:Rd w 1 B n cb (ivs Z)):
  Calls Tryz.prog 153 #[.agg #[.int .i64 W,.int .i64 H,.slice A n ca,.slice B n cb]] w (CopyP w W H n C Z):=by
 obtain⟨cur,hcur⟩:=make_ints n h1
 have m1:=fun W=>(hcur W).1
 have M1:=Lib.hid (fun W=>(hcur W).2)
 clear hcur
 have hni:(n:Int)≤1048576:=by omega
 have HAT:=Lib.hid (And.intro (ra.block_lt h0) (rb.block_lt h0))
 have HRA:=Lib.hid ra
 have HRB:=Lib.hid rb
 have HLC:=Lib.hid hC
 have HLZ:=Lib.hid hZ
 have B0:Hid (Blk ((w.alloc (.cells #[.int .i64 W,.int .i64 H,.slice A n ca,.slice B n cb] 28)).alloc (.cells #[.int .i64 0,.int .i64 0,.slice none 0 0,.slice none 0 0] 28)) w.heap.size 28 #[.int .i64 W,.int .i64 H,.slice A n ca,.slice B n cb]):=Lib.hid (by(repeat(first|with_reducible exact Hid.out (by assumption)|(with_reducible refine Blk.new' _ _ _ ?_;(simp;done))|with_reducible(first|refine Blk.alloc ?_ _|refine Blk.drew ?_|refine Blk.drewN ?_ _|refine Blk.later ?_ _)|(with_reducible refine Blk.far ?_ ?hp _;case hp=>first|(simp;done)|(simp;omega)|omega))))
 have B1:Hid (Blk ((w.alloc (.cells #[.int .i64 W,.int .i64 H,.slice A n ca,.slice B n cb] 28)).alloc (.cells #[.int .i64 0,.int .i64 0,.slice none 0 0,.slice none 0 0] 28)) (w.heap.size+1) 28 #[.int .i64 0,.int .i64 0,.slice none 0 0,.slice none 0 0]):=Lib.hid (by(repeat(first|with_reducible exact Hid.out (by assumption)|(with_reducible refine Blk.new' _ _ _ ?_;(simp;done))|with_reducible(first|refine Blk.alloc ?_ _|refine Blk.drew ?_|refine Blk.drewN ?_ _|refine Blk.later ?_ _)|(with_reducible refine Blk.far ?_ ?hp _;case hp=>first|(simp;done)|(simp;omega)|omega))))
 have BE:Hid (Ext w ((w.alloc (.cells #[.int .i64 W,.int .i64 H,.slice A n ca,.slice B n cb] 28)).alloc (.cells #[.int .i64 0,.int .i64 0,.slice none 0 0,.slice none 0 0] 28))):=Lib.hid (by(repeat(first|with_reducible(first|exact eR_ _|assumption|refine eA_ ?_ _|refine eD_ ?_|refine eN_ ?_ _|refine eL_ ?_ _)|(with_reducible refine eS_ ?_ _ ?hp;case hp=>first|(simp;done)|(simp;omega)|omega))))
 have BS:((w.alloc (.cells #[.int .i64 W,.int .i64 H,.slice A n ca,.slice B n cb] 28)).alloc (.cells #[.int .i64 0,.int .i64 0,.slice none 0 0,.slice none 0 0] 28)).heap.size=w.heap.size+2:=by simp
 clear hC hZ ra rb h1
 go_enter Tryz.func153,Tryz.ntmps153
 go_upto_region 1 with fail
 generalize(w.alloc (.cells #[.int .i64 W,.int .i64 H,.slice A n ca,.slice B n cb] 28)).alloc (.cells #[.int .i64 0,.int .i64 0,.slice none 0 0,.slice none 0 0] 28)=W0 at*
 have cm:=B0.out.c4
 go_cut [3]from 4 to 16 (fun s3 wx=> ∃X Y P:Nat,s3=.pointer (some ⟨P,0,none⟩)∧Hid (Cpy w wx W H n X Y P A B ca cb C Z (List.replicate n 0) (List.replicate n 0)))
 case first=>
  go_region
  all_goals
   go_wp2_with fail
   go_meet
   have BEO:=BE.out
   first
    |(refine⟨w.heap.size+2,w.heap.size+2+1,w.heap.size+2+1+1,rfl,Lib.hid ⟨?_,?_,?_,?_,?_,?_,?_,?_,?_,?_,HAT.out⟩⟩ <;>(first|((repeat(first|with_reducible exact Hid.out (by assumption)|with_reducible refine Blk.drew ?_|(with_reducible refine Blk.new' _ _ _ ?_;(simp[BS];done))|(refine new_row M1.out _ _ ?_;(simp[BS];done))|with_reducible refine Blk.alloc ?_ _));done)|(refine HRA.out.ext ?_;(repeat(first|with_reducible(first|exact eR_ _|assumption|refine eA_ ?_ _|refine eD_ ?_|refine eN_ ?_ _|refine eL_ ?_ _)|(with_reducible refine eS_ ?_ _ ?hp;case hp=>first|(simp;done)|(simp;omega)|omega)));done)|(refine HRB.out.ext ?_;(repeat(first|with_reducible(first|exact eR_ _|assumption|refine eA_ ?_ _|refine eD_ ?_|refine eN_ ?_ _|refine eL_ ?_ _)|(with_reducible refine eS_ ?_ _ ?hp;case hp=>first|(simp;done)|(simp;omega)|omega)));done)|((repeat(first|with_reducible(first|exact eR_ _|assumption|refine eA_ ?_ _|refine eD_ ?_|refine eN_ ?_ _|refine eL_ ?_ _)|(with_reducible refine eS_ ?_ _ ?hp;case hp=>first|(simp;done)|(simp;omega)|omega)));done)|(refine⟨?_,?_,?_⟩ <;>omega));done)
    |(refine⟨w.heap.size+2,w.heap.size+2+1+1,w.heap.size+2+1,rfl,Lib.hid ⟨?_,?_,?_,?_,?_,?_,?_,?_,?_,?_,HAT.out⟩⟩ <;>(first|((repeat(first|with_reducible exact Hid.out (by assumption)|with_reducible refine Blk.drew ?_|(with_reducible refine Blk.new' _ _ _ ?_;(simp[BS];done))|(refine new_row M1.out _ _ ?_;(simp[BS];done))|with_reducible refine Blk.alloc ?_ _));done)|(refine HRA.out.ext ?_;(repeat(first|with_reducible(first|exact eR_ _|assumption|refine eA_ ?_ _|refine eD_ ?_|refine eN_ ?_ _|refine eL_ ?_ _)|(with_reducible refine eS_ ?_ _ ?hp;case hp=>first|(simp;done)|(simp;omega)|omega)));done)|(refine HRB.out.ext ?_;(repeat(first|with_reducible(first|exact eR_ _|assumption|refine eA_ ?_ _|refine eD_ ?_|refine eN_ ?_ _|refine eL_ ?_ _)|(with_reducible refine eS_ ?_ _ ?hp;case hp=>first|(simp;done)|(simp;omega)|omega)));done)|((repeat(first|with_reducible(first|exact eR_ _|assumption|refine eA_ ?_ _|refine eD_ ?_|refine eN_ ?_ _|refine eL_ ?_ _)|(with_reducible refine eS_ ?_ _ ?hp;case hp=>first|(simp;done)|(simp;omega)|omega)));done)|(refine⟨?_,?_,?_⟩ <;>omega));done)
    |(refine⟨w.heap.size+2+1,w.heap.size+2,w.heap.size+2+1+1,rfl,Lib.hid ⟨?_,?_,?_,?_,?_,?_,?_,?_,?_,?_,HAT.out⟩⟩ <;>(first|((repeat(first|with_reducible exact Hid.out (by assumption)|with_reducible refine Blk.drew ?_|(with_reducible refine Blk.new' _ _ _ ?_;(simp[BS];done))|(refine new_row M1.out _ _ ?_;(simp[BS];done))|with_reducible refine Blk.alloc ?_ _));done)|(refine HRA.out.ext ?_;(repeat(first|with_reducible(first|exact eR_ _|assumption|refine eA_ ?_ _|refine eD_ ?_|refine eN_ ?_ _|refine eL_ ?_ _)|(with_reducible refine eS_ ?_ _ ?hp;case hp=>first|(simp;done)|(simp;omega)|omega)));done)|(refine HRB.out.ext ?_;(repeat(first|with_reducible(first|exact eR_ _|assumption|refine eA_ ?_ _|refine eD_ ?_|refine eN_ ?_ _|refine eL_ ?_ _)|(with_reducible refine eS_ ?_ _ ?hp;case hp=>first|(simp;done)|(simp;omega)|omega)));done)|((repeat(first|with_reducible(first|exact eR_ _|assumption|refine eA_ ?_ _|refine eD_ ?_|refine eN_ ?_ _|refine eL_ ?_ _)|(with_reducible refine eS_ ?_ _ ?hp;case hp=>first|(simp;done)|(simp;omega)|omega)));done)|(refine⟨?_,?_,?_⟩ <;>omega));done)
    |(refine⟨w.heap.size+2+1,w.heap.size+2+1+1,w.heap.size+2,rfl,Lib.hid ⟨?_,?_,?_,?_,?_,?_,?_,?_,?_,?_,HAT.out⟩⟩ <;>(first|((repeat(first|with_reducible exact Hid.out (by assumption)|with_reducible refine Blk.drew ?_|(with_reducible refine Blk.new' _ _ _ ?_;(simp[BS];done))|(refine new_row M1.out _ _ ?_;(simp[BS];done))|with_reducible refine Blk.alloc ?_ _));done)|(refine HRA.out.ext ?_;(repeat(first|with_reducible(first|exact eR_ _|assumption|refine eA_ ?_ _|refine eD_ ?_|refine eN_ ?_ _|refine eL_ ?_ _)|(with_reducible refine eS_ ?_ _ ?hp;case hp=>first|(simp;done)|(simp;omega)|omega)));done)|(refine HRB.out.ext ?_;(repeat(first|with_reducible(first|exact eR_ _|assumption|refine eA_ ?_ _|refine eD_ ?_|refine eN_ ?_ _|refine eL_ ?_ _)|(with_reducible refine eS_ ?_ _ ?hp;case hp=>first|(simp;done)|(simp;omega)|omega)));done)|((repeat(first|with_reducible(first|exact eR_ _|assumption|refine eA_ ?_ _|refine eD_ ?_|refine eN_ ?_ _|refine eL_ ?_ _)|(with_reducible refine eS_ ?_ _ ?hp;case hp=>first|(simp;done)|(simp;omega)|omega)));done)|(refine⟨?_,?_,?_⟩ <;>omega));done)
    |(refine⟨w.heap.size+2+1+1,w.heap.size+2,w.heap.size+2+1,rfl,Lib.hid ⟨?_,?_,?_,?_,?_,?_,?_,?_,?_,?_,HAT.out⟩⟩ <;>(first|((repeat(first|with_reducible exact Hid.out (by assumption)|with_reducible refine Blk.drew ?_|(with_reducible refine Blk.new' _ _ _ ?_;(simp[BS];done))|(refine new_row M1.out _ _ ?_;(simp[BS];done))|with_reducible refine Blk.alloc ?_ _));done)|(refine HRA.out.ext ?_;(repeat(first|with_reducible(first|exact eR_ _|assumption|refine eA_ ?_ _|refine eD_ ?_|refine eN_ ?_ _|refine eL_ ?_ _)|(with_reducible refine eS_ ?_ _ ?hp;case hp=>first|(simp;done)|(simp;omega)|omega)));done)|(refine HRB.out.ext ?_;(repeat(first|with_reducible(first|exact eR_ _|assumption|refine eA_ ?_ _|refine eD_ ?_|refine eN_ ?_ _|refine eL_ ?_ _)|(with_reducible refine eS_ ?_ _ ?hp;case hp=>first|(simp;done)|(simp;omega)|omega)));done)|((repeat(first|with_reducible(first|exact eR_ _|assumption|refine eA_ ?_ _|refine eD_ ?_|refine eN_ ?_ _|refine eL_ ?_ _)|(with_reducible refine eS_ ?_ _ ?hp;case hp=>first|(simp;done)|(simp;omega)|omega)));done)|(refine⟨?_,?_,?_⟩ <;>omega));done)
    |(refine⟨w.heap.size+2+1+1,w.heap.size+2+1,w.heap.size+2,rfl,Lib.hid ⟨?_,?_,?_,?_,?_,?_,?_,?_,?_,?_,HAT.out⟩⟩ <;>(first|((repeat(first|with_reducible exact Hid.out (by assumption)|with_reducible refine Blk.drew ?_|(with_reducible refine Blk.new' _ _ _ ?_;(simp[BS];done))|(refine new_row M1.out _ _ ?_;(simp[BS];done))|with_reducible refine Blk.alloc ?_ _));done)|(refine HRA.out.ext ?_;(repeat(first|with_reducible(first|exact eR_ _|assumption|refine eA_ ?_ _|refine eD_ ?_|refine eN_ ?_ _|refine eL_ ?_ _)|(with_reducible refine eS_ ?_ _ ?hp;case hp=>first|(simp;done)|(simp;omega)|omega)));done)|(refine HRB.out.ext ?_;(repeat(first|with_reducible(first|exact eR_ _|assumption|refine eA_ ?_ _|refine eD_ ?_|refine eN_ ?_ _|refine eL_ ?_ _)|(with_reducible refine eS_ ?_ _ ?hp;case hp=>first|(simp;done)|(simp;omega)|omega)));done)|((repeat(first|with_reducible(first|exact eR_ _|assumption|refine eA_ ?_ _|refine eD_ ?_|refine eN_ ?_ _|refine eL_ ?_ _)|(with_reducible refine eS_ ?_ _ ?hp;case hp=>first|(simp;done)|(simp;omega)|omega)));done)|(refine⟨?_,?_,?_⟩ <;>omega));done)
 case rest=>
  obtain⟨X,Y,P,rfl,HM0⟩:=hcut
  clear m1 M1 cm B0 B1 BE BS HRA HRB
  generalize wc=W1 at*
  have cp:=HM0.out.p.c4
  have cm:=HM0.out.m.c4
  go_wp2_with (refine wpList_copy_all rfl (.tmp 18) (.tmp 20) rfl X n A ca rfl rfl (List.replicate n 0) C HM0.out.x (by simp) HLC.out h0 HM0.out.a ?_)
  intro w2 hb hk
  have HM1:=Lib.hid (HM0.out.putX hk hb)
  clear hb hk cp cm HM0
  have cp:=HM1.out.p.c4
  have cm:=HM1.out.m.c4
  go_wp2_with (refine wpList_copy_all rfl (.tmp 23) (.tmp 25) rfl Y n B cb rfl rfl (List.replicate n 0) Z HM1.out.y (by simp) HLZ.out h0 HM1.out.b ?_)
  intro w3 hb hk
  have HM2:=Lib.hid (HM1.out.putY hk hb)
  clear hb hk cp cm HM1
  have cp:=HM2.out.p.c4
  have cr:=HM2.out.r.c4
  have fr:=HM2.out.r.f4
  go_wp2_with fail
  obtain⟨l1,l2,l3⟩:=HM2.out.lt
  have HS:=HM2.out.r.s4 (.int .i64 W) (.int .i64 H) (.slice (some ⟨X,0,none⟩) n n) (.slice (some ⟨Y,0,none⟩) n n)
  obtain⟨s0,s1,s2,s3⟩:=HS.c4
  have kk:Kp (·≠w.heap.size+1) w3 ((((w3.setCell ⟨w.heap.size+1,0,none⟩ (.int .i64 W)).setCell ⟨w.heap.size+1,1,none⟩ (.int .i64 H)).setCell ⟨w.heap.size+1,2,none⟩ (.slice (some ⟨X,0,none⟩) n n)).setCell ⟨w.heap.size+1,3,none⟩ (.slice (some ⟨Y,0,none⟩) n n)):=
   ((((Kp.refl _ _).setCell (p:=⟨w.heap.size+1,0,none⟩) _ (fun h=>h rfl)).setCell (p:=⟨w.heap.size+1,1,none⟩) _ (fun h=>h rfl)).setCell (p:=⟨w.heap.size+1,2,none⟩) _ (fun h=>h rfl)).setCell (p:=⟨w.heap.size+1,3,none⟩) _ (fun h=>h rfl)
  refine bodyPost_ret (v:=.agg #[.int .i64 W,.int .i64 H,.slice (some ⟨X,0,none⟩) n n,.slice (some ⟨Y,0,none⟩) n n]) (by simp[results,Tryz.results153,go_sem,s0,s1,s2,s3]) rfl ⟨X,Y,rfl,HM2.out.x.kp kk (by omega),HM2.out.y.kp kk (by omega),HM2.out.ne.1,by omega,by omega,kk.ext HM2.out.e (fun j hj=>by omega)⟩
end Go.Proofs.YtplljnfjkkloeaaGreatDoor
set_option linter.unusedVariables false
set_option linter.unusedSimpArgs false
namespace Go.Proofs.YtplljnfjkkloeaaGreatDoor
attribute [local go_sem] Go.Oper.semAt_some
open Go.RowKit
def front (C:List Int) (v:Int) (j:Nat):List Int:=List.replicate j v++C.drop j
theorem front_len {C:List Int} {v:Int} {j:Nat} (h:j≤C.length):(front C v j).length=C.length:=by
 unfold front
 rw[List.length_append,List.length_replicate,List.length_drop]
 omega
theorem front_set {C:List Int} {v:Int} {j:Nat} (h:j<C.length):(front C v j).set j v=front C v (j+1):=by
 unfold front
 rw[List.set_append_right _ _ (by simp),List.length_replicate,Nat.sub_self,List.replicate_succ',List.append_assoc]
 rw[List.drop_eq_getElem_cons h,List.set_cons_zero]
 rfl
theorem front_get {C:List Int} {v:Int} {j:Nat} (h:j<C.length):(front C v j).getD j 0=C.getD j 0:=by
 unfold front
 simp only[List.getD_eq_getElem?_getD]
 rw[List.getElem?_append_right (by simp),List.length_replicate,Nat.sub_self,List.getElem?_drop,Nat.add_zero]
theorem front_zero (C:List Int) (v:Int):front C v 0=C:=by simp[front]
theorem front_all (C:List Int) (v:Int):front C v C.length=List.replicate C.length v:=by simp[front]
structure Cle (w wx:World) (W H n O X Y:Nat) (m:Array Value) (r:Rc) (c:C4) (C Z:List Int):Prop where
 m:Blk wx w.heap.size 28 m
 r:Blk wx (w.heap.size+1) 48 r.row
 c:Blk wx (w.heap.size+2) 30 #[.int .i64 c.a,.int .i64 c.b,.int .i64 c.c,.int .i64 c.d]
 k:Blk wx (w.heap.size+3) 49 #[.bool true,.bool true,.bool true,.bool true]
 q:Blk wx (w.heap.size+4) 28 #[.int .i64 0,.int .i64 0,.slice none 0 0,.slice none 0 0]
 o:Blk wx O 28 #[.int .i64 (W:Int),.int .i64 (H:Int),.slice (some ⟨X,0,none⟩) n n,.slice (some ⟨Y,0,none⟩) n n]
 x:Blk wx X 3 (irow C)
 y:Blk wx Y 3 (irow Z)
 e:Ext w wx
 ne:X≠Y∧O≠X∧O≠Y
 lt:w.heap.size+4<X∧w.heap.size+4<Y∧w.heap.size+4<O
section
variable {w wx wy:World} {W H n O X Y:Nat} {m:Array Value} {r:Rc} {c:C4} {C Z:List Int}
theorem Cle.ext (h:Cle w wx W H n O X Y m r c C Z) (e:Ext wx wy):Cle w wy W H n O X Y m r c C Z:=
 ⟨h.m.ext e,h.r.ext e,h.c.ext e,h.k.ext e,h.q.ext e,h.o.ext e,h.x.ext e,h.y.ext e,h.e.trans e,h.ne,h.lt⟩
theorem Cle.setX (h:Cle w wx W H n O X Y m r c C Z) (i:Nat) (v:Int):Cle w (wx.setCell ⟨X,i,none⟩ (.int .i64 v)) W H n O X Y m r c (C.set i v) Z:=by
 obtain⟨n1,n2,n3⟩:=h.ne
 obtain⟨l1,l2,l3⟩:=h.lt
 have hx:=h.x.set_ i (.int .i64 v)
 rw[irow_set]at hx
 exact⟨h.m.far (by simp;omega) _,h.r.far (by simp;omega) _,h.c.far (by simp;omega) _,h.k.far (by simp;omega) _,h.q.far (by simp;omega) _,h.o.far n2 _,hx,h.y.far n1.symm _,h.e.setCell _ (by simp;omega),h.ne,h.lt⟩
theorem Cle.setY (h:Cle w wx W H n O X Y m r c C Z) (i:Nat) (v:Int):Cle w (wx.setCell ⟨Y,i,none⟩ (.int .i64 v)) W H n O X Y m r c C (Z.set i v):=by
 obtain⟨n1,n2,n3⟩:=h.ne
 obtain⟨l1,l2,l3⟩:=h.lt
 have hx:=h.y.set_ i (.int .i64 v)
 rw[irow_set]at hx
 exact⟨h.m.far (by simp;omega) _,h.r.far (by simp;omega) _,h.c.far (by simp;omega) _,h.k.far (by simp;omega) _,h.q.far (by simp;omega) _,h.o.far n3 _,h.x.far n1 _,hx,h.e.setCell _ (by simp;omega),h.ne,h.lt⟩
end
set_option maxRecDepth 100000 in
theorem clear_all (W H:Nat) (c:C4) (z:Int) (C Z:List Int) (n:Nat) (A B:Option Addr) (ca cb:Nat) (w:World) (hn:W*H=n) (hC:C.length=n) (hZ:Z.length=n) (w0:1≤W) (h0:1≤H) (w1:W≤1024) (h1:H≤1024) (hc:c.Ok) (hr: ∀v∈C,0≤v∧v<4294967296)
  (ra:Rd w 1 A n ca (ivs C))(rb:Rd w 1 B n cb (ivs Z)):
  Calls Tryz.prog 103 #[.agg #[.int .i64 (W:Int),.int .i64 (H:Int),.slice A n ca,.slice B n cb],Rc.v ⟨0,0,W,H⟩,.int .i64 3,c.v,.int .i64 z,.agg #[.bool true,.bool true,.bool true,.bool true]] w
   (CopyP w W H n (List.replicate n (pk c.a c.b c.c c.d)) (List.replicate n z)):=by
 have hn1:n≤1048576:=by rw[←hn];exact mul_le W H w1 h1
 have hn0:0<n:=by rw[←hn];exact Nat.mul_pos w0 h0
 have hR:(Rc.mk 0 0 W H).Ok:=by unfold Rc.Ok;simp only;omega
 have HCP:=Lib.hid (fun wz e=>copy_any W H C Z n A B ca cb wz hC hZ hn0 hn1 (ra.ext (w':=wz) e) (rb.ext e))
 have HBX:=Lib.hid (fun wz=>box_any W H (.slice A n ca) (.slice B n cb) wz)
 have HAN:Hid (∀wz,Calls Tryz.prog 35 #[Rc.v ⟨0,0,W,H⟩,Rc.v ⟨0,0,W,H⟩] wz fun e w'=>e=.returned (Rc.v ⟨0,0,W,H⟩)∧Ext wz w'):=Lib.hid (fun wz=>by
  have:=and_yes ⟨0,0,W,H⟩ ⟨0,0,W,H⟩ wz hR hR (by have:=hR;unfold Rc.and;simpa using this)
  have e:(Rc.mk 0 0 W H).and ⟨0,0,W,H⟩=⟨0,0,W,H⟩:=by unfold Rc.and;simp
  rwa[e]at this)
 obtain⟨pk0,pk1⟩:=pk_range hc
 obtain⟨q,hq⟩:=Int.eq_ofNat_of_zero_le pk0
 rw[hq]at pk1
 have HPK:Hid (∀wz,Calls Tryz.prog 155 #[.agg #[.int .i64 c.a,.int .i64 c.b,.int .i64 c.c,.int .i64 c.d]] wz fun e w'=>e=.returned (.int .i64 (q:Int))∧Ext wz w'):=Lib.hid (fun wz=>by rw[←hq];exact pack_int c wz hc)
 rw[hq]
 have HBI:=Lib.hid bits_all
 have hmod:((q:Nat):Int)%4294967296=q:=by omega
 have HLC:=Lib.hid hC
 have HLZ:=Lib.hid hZ
 have HRN:=Lib.hid hr
 have HN:=Lib.hid hn
 clear hC hZ hr hn ra rb hc hq hR pk0
 go_enter Tryz.func103,Tryz.ntmps103
 go_upto_region 1 with fail
 go_wp2_with fail
 refine(HCP.out _ (by(repeat(first|with_reducible(first|exact eR_ _|assumption|refine eA_ ?_ _|refine eD_ ?_|refine eN_ ?_ _|refine eL_ ?_ _)|(with_reducible refine eS_ ?_ _ ?hp;case hp=>first|(simp;done)|(simp;omega)|omega))))).mono ?_
 rintro e w1 ⟨X,Y,rfl,hx,hy,hxy,lx,ly,hE⟩
 obtain⟨x1,rfl⟩:=Later.mk' hE
 clear hE
 simp at lx ly
 have hs1:=x1.le
 simp at hs1
 have HL0:Hid (Cle w (x1.w.alloc (.cells #[.int .i64 (W:Int),.int .i64 (H:Int),.slice (some ⟨X,0,none⟩) n n,.slice (some ⟨Y,0,none⟩) n n] 28)) W H n x1.w.heap.size X Y #[.int .i64 (W:Int),.int .i64 (H:Int),.slice A n ca,.slice B n cb] ⟨0,0,W,H⟩ c C Z):=
  Lib.hid ⟨by(repeat(first|with_reducible exact Hid.out (by assumption)|(with_reducible refine Blk.new' _ _ _ ?_;(simp;done))|with_reducible(first|refine Blk.alloc ?_ _|refine Blk.drew ?_|refine Blk.drewN ?_ _|refine Blk.later ?_ _)|(with_reducible refine Blk.far ?_ ?hp _;case hp=>first|(simp;done)|(simp;omega)|omega))),by(repeat(first|with_reducible exact Hid.out (by assumption)|(with_reducible refine Blk.new' _ _ _ ?_;(simp;done))|with_reducible(first|refine Blk.alloc ?_ _|refine Blk.drew ?_|refine Blk.drewN ?_ _|refine Blk.later ?_ _)|(with_reducible refine Blk.far ?_ ?hp _;case hp=>first|(simp;done)|(simp;omega)|omega))),by(repeat(first|with_reducible exact Hid.out (by assumption)|(with_reducible refine Blk.new' _ _ _ ?_;(simp;done))|with_reducible(first|refine Blk.alloc ?_ _|refine Blk.drew ?_|refine Blk.drewN ?_ _|refine Blk.later ?_ _)|(with_reducible refine Blk.far ?_ ?hp _;case hp=>first|(simp;done)|(simp;omega)|omega))),by(repeat(first|with_reducible exact Hid.out (by assumption)|(with_reducible refine Blk.new' _ _ _ ?_;(simp;done))|with_reducible(first|refine Blk.alloc ?_ _|refine Blk.drew ?_|refine Blk.drewN ?_ _|refine Blk.later ?_ _)|(with_reducible refine Blk.far ?_ ?hp _;case hp=>first|(simp;done)|(simp;omega)|omega))),by(repeat(first|with_reducible exact Hid.out (by assumption)|(with_reducible refine Blk.new' _ _ _ ?_;(simp;done))|with_reducible(first|refine Blk.alloc ?_ _|refine Blk.drew ?_|refine Blk.drewN ?_ _|refine Blk.later ?_ _)|(with_reducible refine Blk.far ?_ ?hp _;case hp=>first|(simp;done)|(simp;omega)|omega))),by(repeat(first|with_reducible exact Hid.out (by assumption)|(with_reducible refine Blk.new' _ _ _ ?_;(simp;done))|with_reducible(first|refine Blk.alloc ?_ _|refine Blk.drew ?_|refine Blk.drewN ?_ _|refine Blk.later ?_ _)|(with_reducible refine Blk.far ?_ ?hp _;case hp=>first|(simp;done)|(simp;omega)|omega))),hx.alloc _,hy.alloc _,by(repeat(first|with_reducible(first|exact eR_ _|assumption|refine eA_ ?_ _|refine eD_ ?_|refine eN_ ?_ _|refine eL_ ?_ _)|(with_reducible refine eS_ ?_ _ ?hp;case hp=>first|(simp;done)|(simp;omega)|omega))),⟨hxy,fun h=>by have:=hx.lt;omega,fun h=>by have:=hy.lt;omega⟩,⟨by omega,by omega,by omega⟩⟩
 clear hx hy hxy lx ly hs1
 go_upto_region 2 with fail
 generalize x1.w.alloc (.cells #[.int .i64 (W:Int),.int .i64 (H:Int),.slice (some ⟨X,0,none⟩) n n,.slice (some ⟨Y,0,none⟩) n n] 28)=W1 at*
 generalize x1.w.heap.size=O at*
 have cm:=HL0.out.m.c4
 have cr:=HL0.out.r.c4
 refine wp_region_later_tail 4 (by kernel_rfl) (by kernel_rfl) ?_
 simp only[List.take_succ_cons,List.take_zero,List.drop_succ_cons,List.drop_zero]
 repeat(go_big_quiet_step ((first|(first|(go_at_call 34;with_reducible exact Calls.later _ (HBX.out _))|(go_at_call 35;with_reducible exact Calls.later _ (HAN.out _)))|fail)))
 refine wpQuiet_nil ?_
 intro y1
 have HL1:=Lib.hid (HL0.out.ext y1.ext)
 clear HL0 HCP HBX HAN cm cr
 generalize y1.w=W2 at*
 have fr:=HL1.out.r.f4
 have cr:=HL1.out.r.c4
 go_upto_region 3 with fail
 have HL2:Hid (Cle w ((((W2.setCell ⟨w.heap.size+1,0,none⟩ (.int .i64 0)).setCell ⟨w.heap.size+1,1,none⟩ (.int .i64 0)).setCell ⟨w.heap.size+1,2,none⟩ (.int .i64 (W:Int))).setCell ⟨w.heap.size+1,3,none⟩ (.int .i64 (H:Int))) W H n O X Y #[.int .i64 (W:Int),.int .i64 (H:Int),.slice A n ca,.slice B n cb] ⟨0,0,W,H⟩ c C Z):=Lib.hid (by
  have h:=HL1.out
  obtain⟨l1,l2,l3⟩:=h.lt
  have kk:Kp (·≠w.heap.size+1) W2 ((((W2.setCell ⟨w.heap.size+1,0,none⟩ (.int .i64 0)).setCell ⟨w.heap.size+1,1,none⟩ (.int .i64 0)).setCell ⟨w.heap.size+1,2,none⟩ (.int .i64 (W:Int))).setCell ⟨w.heap.size+1,3,none⟩ (.int .i64 (H:Int))):=
   ((((Kp.refl _ _).setCell (p:=⟨w.heap.size+1,0,none⟩) _ (fun h=>h rfl)).setCell (p:=⟨w.heap.size+1,1,none⟩) _ (fun h=>h rfl)).setCell (p:=⟨w.heap.size+1,2,none⟩) _ (fun h=>h rfl)).setCell (p:=⟨w.heap.size+1,3,none⟩) _ (fun h=>h rfl)
  exact⟨h.m.kp kk (by omega),h.r.s4 _ _ _ _,h.c.kp kk (by omega),h.k.kp kk (by omega),h.q.kp kk (by omega),h.o.kp kk (by omega),h.x.kp kk (by omega),h.y.kp kk (by omega),kk.ext h.e (fun j hj=>by omega),h.ne,h.lt⟩)
 clear HL1 cr fr
 generalize(((W2.setCell ⟨w.heap.size+1,0,none⟩ (.int .i64 0)).setCell ⟨w.heap.size+1,1,none⟩ (.int .i64 0)).setCell ⟨w.heap.size+1,2,none⟩ (.int .i64 (W:Int))).setCell ⟨w.heap.size+1,3,none⟩ (.int .i64 (H:Int))=W3 at*
 have ck:=HL2.out.k.c4
 go_wp2_with fail
 refine(HBI.out _).mono ?_
 rintro e w1 ⟨rfl,hE⟩
 obtain⟨a1,rfl⟩:=Later.mk' hE
 clear hE
 have HL3:=Lib.hid (HL2.out.ext a1.ext)
 clear HL2 ck HBI
 generalize a1.w=W4 at*
 have cc:=HL3.out.c.c4
 go_wp2_with fail
 refine(HPK.out _).mono ?_
 rintro e w1 ⟨rfl,hE⟩
 obtain⟨a2,rfl⟩:=Later.mk' hE
 clear hE
 have HL4:=Lib.hid (HL3.out.ext a2.ext)
 clear HL3 cc HPK
 generalize a2.w=W5 at*
 have cr:=HL4.out.r.c4
 go_upto_region 6 with fail
 have HL5:Hid (Cle w W5 W H n O X Y #[.int .i64 (W:Int),.int .i64 (H:Int),.slice A n ca,.slice B n cb] ⟨0,0,W,H⟩ c (front C q (0*W)) (front Z z (0*W))):=Lib.hid (by rw[Nat.zero_mul,front_zero,front_zero];exact HL4.out)
 clear HL4 cr
 go_wp2_with fail
 go_loopg [16] H (fun g i wx=> ∃k:Nat,k≤H∧g=H-k∧i=.int .i64 k∧Hid (Cle w wx W H n O X Y #[.int .i64 (W:Int),.int .i64 (H:Int),.slice A n ca,.slice B n cb] ⟨0,0,W,H⟩ c (front C q (k*W)) (front Z z (k*W))))
 case atStart=>exact⟨0,by omega,rfl,rfl,HL5⟩
 case round=>
  clear HL5
  obtain⟨k,hk,rfl,rfl,HL⟩:=hrel
  have cr:=HL.out.r.c4
  by_cases hlt:k<H
  ·obtain⟨p,hp⟩: ∃p,p=k*W:=⟨_,rfl⟩
   have hpn:p+W≤n:=by rw[hp,←HN.out,←Nat.succ_mul,Nat.mul_comm W H];exact Nat.mul_le_mul_right _ hlt
   rw[←hp]at HL
   have HP:=Lib.hid hp
   have hmul:IntKind.i64.wrap ((k:Int)*(W:Int))=(p:Int):=by
    rw[show(k:Int)*(W:Int)=(p:Int) by rw[hp];simp]
    exact IntWalk.i64_in _ (by omega)
   have hp0:IntKind.i64.wrap ((p:Int))=(p:Int):=IntWalk.i64_in _ (by omega)
   have hpw:IntKind.i64.wrap ((p:Int)+(W:Int))=((p+W:Nat):Int):=by
    rw[show(p:Int)+(W:Int)=((p+W:Nat):Int) by simp]
    exact IntWalk.i64_in _ (by omega)
   clear hp
   have cm:=HL.out.m.c4
   have co:=HL.out.o.c4
   go_upto_region 8 with fail
   refine wp_region_later (by kernel_rfl) (by kernel_rfl) ?_
   repeat(go_big_quiet_step ((first|fail|fail)))
   refine wpQuiet_nil ?_
   intro y1
   have HL1:=Lib.hid (HL.out.ext y1.ext)
   clear HL cm co cr hmul hp0 hpw
   generalize y1.w=V1 at*
   simp only[Nat.add_sub_cancel_left]
   go_wp2_with fail
   go_loopg [76] W (fun g i wx=> ∃j:Nat,j≤W∧g=W-j∧i=.int .i64 j∧Hid (Cle w wx W H n O X Y #[.int .i64 (W:Int),.int .i64 (H:Int),.slice A n ca,.slice B n cb] ⟨0,0,W,H⟩ c (front C q (p+j)) (front Z z (p+j))))
   case atStart=>exact⟨0,by omega,rfl,rfl,HL1⟩
   case round=>
    clear HL1
    obtain⟨j,hj,rfl,rfl,HL⟩:=hrel
    by_cases hlt2:j<W
    ·have hpj:p+j<n:=by omega
     have hlc:=HLC.out
     have hlz:=HLZ.out
     have hcm:C.getD (p+j) 0∈C:=by
      rw[List.getD_eq_getElem?_getD,List.getElem?_eq_getElem (by omega)]
      exact List.getElem_mem _
     have hcr:=HRN.out _ hcm
     obtain⟨old,hold,hold2⟩: ∃old:Nat,C.getD (p+j) 0=old∧old<4294967296:=⟨(C.getD (p+j) 0).toNat,by omega,by omega⟩
     have cX:wr.cell? ⟨X,p+j,none⟩=some (.int .i64 (old:Int)):=by
      rw[←hold,←front_get (v:=(q:Int)) (show p+j<C.length by omega)]
      exact(HL.out.x.cell _).trans (irow_get (by rw[front_len (by omega)];omega))
     have cY:wr.cell? ⟨Y,p+j,none⟩=some (.int .i64 (Z.getD (p+j) 0)):=by
      rw[←front_get (v:=z) (show p+j<Z.length by omega)]
      exact(HL.out.y.cell _).trans (irow_get (by rw[front_len (by omega)];omega))
     have fX:=HL.out.x.frozen (p+j)
     have fY:=HL.out.y.frozen (p+j)
     have hnot:=andNot32 old hold2
     have hor:=or0 q (by omega)
     have nxy: ¬(X=Y):=HL.out.ne.1
     have nyx: ¬(Y=X):=fun h=>nxy h.symm
     clear hlc hlz hcm hcr hold
     go_wp2_with fail
     go_roundg (W-(j+1))
     case measure=>omega
     case rel=>
      have h1:=HL.out.setX (p+j) q
      have h2:=h1.setY (p+j) z
      rw[front_set (by have:=HLC.out;omega),front_set (by have:=HLZ.out;omega)]at h2
      exact⟨j+1,by omega,rfl,by go_num,Lib.hid h2⟩
    ·obtain rfl:j=W:=by omega
     go_wp2_with fail
     go_roundg (H-(k+1))
     case measure=>omega
     case rel=>
      exact⟨k+1,by omega,rfl,by go_num,by rw[Nat.succ_mul,←HP.out];exact HL⟩
  ·obtain rfl:k=H:=by omega
   have hkn:k*W=n:=by rw[←HN.out,Nat.mul_comm]
   have hlc:=HLC.out
   have hlz:=HLZ.out
   have HLF:Hid (Cle w wr W k n O X Y #[.int .i64 (W:Int),.int .i64 (k:Int),.slice A n ca,.slice B n cb] ⟨0,0,W,k⟩ c (List.replicate n q) (List.replicate n z)):=Lib.hid (by
    have h:=HL.out
    rw[hkn]at h
    have e1:=front_all C (q:Int)
    have e2:=front_all Z z
    rw[hlc]at e1
    rw[hlz]at e2
    rwa[e1,e2]at h)
   clear HL hkn hlc hlz
   have co:=HLF.out.o.c4
   have cq:=HLF.out.q.c4
   have fq:=HLF.out.q.f4
   go_wp2_with fail
   obtain⟨l1,l2,l3⟩:=HLF.out.lt
   have HS:=HLF.out.q.s4 (.int .i64 (W:Int)) (.int .i64 (k:Int)) (.slice (some ⟨X,0,none⟩) n n) (.slice (some ⟨Y,0,none⟩) n n)
   obtain⟨s0,s1,s2,s3⟩:=HS.c4
   have kk:Kp (·≠w.heap.size+4) wr ((((wr.setCell ⟨w.heap.size+4,0,none⟩ (.int .i64 (W:Int))).setCell ⟨w.heap.size+4,1,none⟩ (.int .i64 (k:Int))).setCell ⟨w.heap.size+4,2,none⟩ (.slice (some ⟨X,0,none⟩) n n)).setCell ⟨w.heap.size+4,3,none⟩ (.slice (some ⟨Y,0,none⟩) n n)):=
    ((((Kp.refl _ _).setCell (p:=⟨w.heap.size+4,0,none⟩) _ (fun h=>h rfl)).setCell (p:=⟨w.heap.size+4,1,none⟩) _ (fun h=>h rfl)).setCell (p:=⟨w.heap.size+4,2,none⟩) _ (fun h=>h rfl)).setCell (p:=⟨w.heap.size+4,3,none⟩) _ (fun h=>h rfl)
   refine bodyPost_ret (v:=.agg #[.int .i64 (W:Int),.int .i64 (k:Int),.slice (some ⟨X,0,none⟩) n n,.slice (some ⟨Y,0,none⟩) n n]) (by simp[results,Tryz.results103,go_sem,s0,s1,s2,s3]) rfl ⟨X,Y,rfl,HLF.out.x.kp kk (by omega),HLF.out.y.kp kk (by omega),HLF.out.ne.1,by omega,by omega,kk.ext HLF.out.e (fun j hj=>by omega)⟩
end Go.Proofs.YtplljnfjkkloeaaGreatDoor
