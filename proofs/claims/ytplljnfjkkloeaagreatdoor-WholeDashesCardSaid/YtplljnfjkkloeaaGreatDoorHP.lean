/- Proof text: a primitive of two vertices drawn (drawing.prim). By an AI agent. No condition beyond what each theorem states. -/
import Derived.Test.YtplljnfjkkloeaaGreatDoorRK
import Derived.Test.YtplljnfjkkloeaaGreatDoorHL
import Derived.Test.YtplljnfjkkloeaaGreatDoorTA
set_option linter.unusedVariables false
set_option linter.unusedSimpArgs false
set_option maxHeartbeats 16000000
namespace Go.Proofs.YtplljnfjkkloeaaGreatDoor
attribute [local go_sem] Go.Oper.semAt_some
open Go.RowKit
def pmRow (a b:Vx):Nat→Array Value
 |0=> #[.int .i64 0,.int .i64 0,.int .i64 0,.int .i64 0,.int .i64 0,.int .i64 0,.int .i64 0,.int .i64 0,.int .i64 0,.int .i64 0,.int .i64 0,.int .i64 0,.int .i64 0,.int .i64 0,.int .i64 0,.int .i64 0]
 |1=> #[.int .i64 a.x,.int .i64 a.y,.int .i64 a.z,.int .i64 a.w,.int .i64 a.c0,.int .i64 a.c1,.int .i64 a.c2,.int .i64 a.c3,.int .i64 0,.int .i64 0,.int .i64 0,.int .i64 0,.int .i64 0,.int .i64 0,.int .i64 0,.int .i64 0]
 |_=> #[.int .i64 a.x,.int .i64 a.y,.int .i64 a.z,.int .i64 a.w,.int .i64 a.c0,.int .i64 a.c1,.int .i64 a.c2,.int .i64 a.c3,.int .i64 b.x,.int .i64 b.y,.int .i64 b.z,.int .i64 b.w,.int .i64 b.c0,.int .i64 b.c1,.int .i64 b.c2,.int .i64 b.c3]
theorem make_two (w:World):(Instr.makeSlice 41 (.int .i64 2) (.int .i64 2)).run Tryz.prog w=.ok (.slice (some ⟨w.heap.size,0,none⟩) 2 2) (w.alloc (.cells #[.int .i64 0,.int .i64 0,.int .i64 0,.int .i64 0,.int .i64 0,.int .i64 0,.int .i64 0,.int .i64 0,.int .i64 0,.int .i64 0,.int .i64 0,.int .i64 0,.int .i64 0,.int .i64 0,.int .i64 0,.int .i64 0] 149)):=by kernel_rfl
structure Pm (w wx:World) (a b:Vx) (X k:Nat):Prop where
 x:Blk wx X 149 (pmRow a b k)
 lt:w.heap.size≤X
 e:Ext w wx
set_option maxRecDepth 100000 in
theorem prim_core (s:Ps) (p:Hp) (l:Sl) (r:Rc) (A:Option Addr) (c:Nat) (d:Da) (out:Value) (whole:Bool) (a b:Vx) (i j V bV oV:Nat) (first:Int) (D base:Nat) (w:World) (Post:World→Prop)
  (hD:Blk w D 111 (s.ds p l r A c d out whole))(hV:Blk w V 3 #[.int .i64 i,.int .i64 j])(hl:l.v=some ⟨bV,oV,none⟩)(hM:Rd w 8 l.v p.V.length l.cv (vxs p.V))
  (ei:p.V[i]? =some a)(ej:p.V[j]? =some b)(hf:s.flat=false)
  (HL: ∀wz,Ext w wz→Calls Tryz.prog 64 #[.pointer (some ⟨D,0,none⟩),a.v,b.v] wz fun e w'=>e=.returned (.tuple #[])∧Post w'∧Kept base D 68 wz w'):
  Calls Tryz.prog 41 #[.pointer (some ⟨D,0,none⟩),.agg #[.slice (some ⟨V,0,none⟩) 2 2,.slice none 0 0,.int .i64 first]] w fun e w'=>e=.returned (.tuple #[])∧Post w'∧Kept base D 68 w w':=by
 have HLD:=Lib.hid HL
 have HD:=Lib.hid hD
 have HV:=Lib.hid hV
 have HM:=Lib.hid hM
 have HEI:=Lib.hid (And.intro ei (And.intro ej (And.intro hf hl)))
 clear HL hD hV hM ei ej hf hl
 go_enter Tryz.func41,Tryz.ntmps41
 have mk2:=make_two
 have HB0:Hid (Blk ((w.alloc (.cells #[.slice (some ⟨V,0,none⟩) 2 2,.slice none 0 0,.int .i64 first] 116)).alloc (.cells #[.int .i64 0,.int .i64 0,.int .i64 0,.int .i64 0,.int .i64 0,.int .i64 0,.int .i64 0,.int .i64 0,.int .i64 0,.int .i64 0,.int .i64 0,.int .i64 0,.int .i64 0,.int .i64 0,.int .i64 0,.int .i64 0] 149)) w.heap.size 116 #[.slice (some ⟨V,0,none⟩) 2 2,.slice none 0 0,.int .i64 first]):=Lib.hid (by(repeat(first|with_reducible exact Hid.out (by assumption)|(with_reducible refine Blk.new' _ _ _ ?_;(simp;done))|with_reducible(first|refine Blk.alloc ?_ _|refine Blk.drew ?_|refine Blk.drewN ?_ _|refine Blk.later ?_ _)|(with_reducible refine Blk.far ?_ ?hp _;case hp=>first|(simp;done)|(simp;omega)|omega))))
 have HX0:Hid (Blk ((w.alloc (.cells #[.slice (some ⟨V,0,none⟩) 2 2,.slice none 0 0,.int .i64 first] 116)).alloc (.cells #[.int .i64 0,.int .i64 0,.int .i64 0,.int .i64 0,.int .i64 0,.int .i64 0,.int .i64 0,.int .i64 0,.int .i64 0,.int .i64 0,.int .i64 0,.int .i64 0,.int .i64 0,.int .i64 0,.int .i64 0,.int .i64 0] 149)) (w.heap.size+1) 149 (pmRow a b 0)):=Lib.hid (Blk.new' _ _ _ (by simp))
 have HE0:Hid (Ext w ((w.alloc (.cells #[.slice (some ⟨V,0,none⟩) 2 2,.slice none 0 0,.int .i64 first] 116)).alloc (.cells #[.int .i64 0,.int .i64 0,.int .i64 0,.int .i64 0,.int .i64 0,.int .i64 0,.int .i64 0,.int .i64 0,.int .i64 0,.int .i64 0,.int .i64 0,.int .i64 0,.int .i64 0,.int .i64 0,.int .i64 0,.int .i64 0] 149))):=Lib.hid (by(repeat(first|with_reducible(first|exact eR_ _|assumption|refine eA_ ?_ _|refine eD_ ?_|refine eN_ ?_ _|refine eL_ ?_ _)|(with_reducible refine eS_ ?_ _ ?hp;case hp=>first|(simp;done)|(simp;omega)|omega))))
 have HLX:Hid (w.heap.size≤w.heap.size+1∧D<w.heap.size∧V<w.heap.size):=Lib.hid ⟨by omega,HD.out.lt,HV.out.lt⟩
 go_upto_region 2 with fail
 clear mk2
 generalize((w.alloc (.cells #[.slice (some ⟨V,0,none⟩) 2 2,.slice none 0 0,.int .i64 first] 116)).alloc (.cells #[.int .i64 0,.int .i64 0,.int .i64 0,.int .i64 0,.int .i64 0,.int .i64 0,.int .i64 0,.int .i64 0,.int .i64 0,.int .i64 0,.int .i64 0,.int .i64 0,.int .i64 0,.int .i64 0,.int .i64 0,.int .i64 0] 149))=W0 at*
 generalize w.heap.size+1=X at*
 have cb:=HB0.out.c3
 go_wp2_with fail
 clear cb
 go_loopw [5,6,14] (fun _ _ i wr=> ∃k:Nat,k≤2∧i=.int .i64 k∧Hid (Pm w wr a b X k)) (fun _ _ i _=>2-(intOf i).toNat)
 case atStart=>exact⟨0,by omega,rfl,Lib.hid ⟨HX0.out,HLX.out.1,HE0.out⟩⟩
 case round=>
  clear HX0 HE0 HB0
  obtain⟨k,hk,rfl,HP⟩:=hrel
  obtain⟨W1,rfl⟩: ∃W1:World,W1=wr:=⟨_,rfl⟩
  rcases(by omega:k=0∨k=1∨k=2)with rfl|rfl|rfl
  ·have hE:=HP.out.e
   have lx:=HP.out.lt
   obtain⟨v0,v1⟩:=(HV.out.ext hE).c2
   have d60:W1.cell? ⟨D,60,none⟩=some (.slice (some ⟨bV,oV,none⟩) p.V.length l.cv):=by rw[←HEI.out.2.2.2];exact(HD.out.ext hE).cell 60
   have d77:W1.cell? ⟨D,77,none⟩=some (.bool false):=by rw[←HEI.out.2.2.1];exact(HD.out.ext hE).cell 77
   have hm:=HM.out.ext hE
   rw[HEI.out.2.2.2]at hm
   obtain⟨f0,f1,f2,f3,f4,f5,f6,f7⟩:=vxs_at hm HEI.out.1
   have hlen:i<p.V.length:=(List.getElem?_eq_some_iff.1 HEI.out.1).1
   clear hm
   have x0:W1.cell? ⟨X,0,none⟩=some (.int .i64 0):=HP.out.x.cell 0
   have z0:=HP.out.x.frozen 0
   have x1:W1.cell? ⟨X,1,none⟩=some (.int .i64 0):=HP.out.x.cell 1
   have z1:=HP.out.x.frozen 1
   have x2:W1.cell? ⟨X,2,none⟩=some (.int .i64 0):=HP.out.x.cell 2
   have z2:=HP.out.x.frozen 2
   have x3:W1.cell? ⟨X,3,none⟩=some (.int .i64 0):=HP.out.x.cell 3
   have z3:=HP.out.x.frozen 3
   have x4:W1.cell? ⟨X,4,none⟩=some (.int .i64 0):=HP.out.x.cell 4
   have z4:=HP.out.x.frozen 4
   have x5:W1.cell? ⟨X,5,none⟩=some (.int .i64 0):=HP.out.x.cell 5
   have z5:=HP.out.x.frozen 5
   have x6:W1.cell? ⟨X,6,none⟩=some (.int .i64 0):=HP.out.x.cell 6
   have z6:=HP.out.x.frozen 6
   have x7:W1.cell? ⟨X,7,none⟩=some (.int .i64 0):=HP.out.x.cell 7
   have z7:=HP.out.x.frozen 7
   have HN:Hid (Pm w ((((((((W1.setCell ⟨X,0,none⟩ (.int .i64 a.x)).setCell ⟨X,1,none⟩ (.int .i64 a.y)).setCell ⟨X,2,none⟩ (.int .i64 a.z)).setCell ⟨X,3,none⟩ (.int .i64 a.w)).setCell ⟨X,4,none⟩ (.int .i64 a.c0)).setCell ⟨X,5,none⟩ (.int .i64 a.c1)).setCell ⟨X,6,none⟩ (.int .i64 a.c2)).setCell ⟨X,7,none⟩ (.int .i64 a.c3)) a b X 1):=Lib.hid ⟨Blk.cast (((((((((HP.out.x.set_ 0 _).set_ 1 _).set_ 2 _).set_ 3 _).set_ 4 _).set_ 5 _).set_ 6 _).set_ 7 _)) (by simp[pmRow]),lx,((((((((hE.setCell _ lx).setCell _ lx).setCell _ lx).setCell _ lx).setCell _ lx).setCell _ lx).setCell _ lx).setCell _ lx)⟩
   have hxd:X≠D∧X≠V:=by have:=HLX.out;exact⟨by omega,by omega⟩
   obtain⟨hxd1,hxd2⟩:=hxd
   have d77b:(((((((((W1.setCell ⟨X,0,none⟩ (.int .i64 a.x)).setCell ⟨X,1,none⟩ (.int .i64 a.y)).setCell ⟨X,2,none⟩ (.int .i64 a.z)).setCell ⟨X,3,none⟩ (.int .i64 a.w)).setCell ⟨X,4,none⟩ (.int .i64 a.c0)).setCell ⟨X,5,none⟩ (.int .i64 a.c1)).setCell ⟨X,6,none⟩ (.int .i64 a.c2)).setCell ⟨X,7,none⟩ (.int .i64 a.c3))).cell? ⟨D,77,none⟩=some (.bool false):=by rw[←HEI.out.2.2.1];exact(HD.out.ext HN.out.e).cell 77
   clear HP hE
   go_wp2_with fail
   go_roundw
   case rel=>first|exact⟨1,by omega,rfl,HN⟩|((repeat apply Exists.intro);exact⟨⟨1,by omega,rfl,HN⟩,rfl⟩)
   case measure=>first|(simp[intOf];done)|(simp[intOf];omega)|(simp only[intOf];decide)
  ·have hE:=HP.out.e
   have lx:=HP.out.lt
   obtain⟨v0,v1⟩:=(HV.out.ext hE).c2
   have d60:W1.cell? ⟨D,60,none⟩=some (.slice (some ⟨bV,oV,none⟩) p.V.length l.cv):=by rw[←HEI.out.2.2.2];exact(HD.out.ext hE).cell 60
   have d77:W1.cell? ⟨D,77,none⟩=some (.bool false):=by rw[←HEI.out.2.2.1];exact(HD.out.ext hE).cell 77
   have hm:=HM.out.ext hE
   rw[HEI.out.2.2.2]at hm
   obtain⟨f0,f1,f2,f3,f4,f5,f6,f7⟩:=vxs_at hm HEI.out.2.1
   have hlen:j<p.V.length:=(List.getElem?_eq_some_iff.1 HEI.out.2.1).1
   clear hm
   have x0:W1.cell? ⟨X,8,none⟩=some (.int .i64 0):=HP.out.x.cell 8
   have z0:=HP.out.x.frozen 8
   have x1:W1.cell? ⟨X,9,none⟩=some (.int .i64 0):=HP.out.x.cell 9
   have z1:=HP.out.x.frozen 9
   have x2:W1.cell? ⟨X,10,none⟩=some (.int .i64 0):=HP.out.x.cell 10
   have z2:=HP.out.x.frozen 10
   have x3:W1.cell? ⟨X,11,none⟩=some (.int .i64 0):=HP.out.x.cell 11
   have z3:=HP.out.x.frozen 11
   have x4:W1.cell? ⟨X,12,none⟩=some (.int .i64 0):=HP.out.x.cell 12
   have z4:=HP.out.x.frozen 12
   have x5:W1.cell? ⟨X,13,none⟩=some (.int .i64 0):=HP.out.x.cell 13
   have z5:=HP.out.x.frozen 13
   have x6:W1.cell? ⟨X,14,none⟩=some (.int .i64 0):=HP.out.x.cell 14
   have z6:=HP.out.x.frozen 14
   have x7:W1.cell? ⟨X,15,none⟩=some (.int .i64 0):=HP.out.x.cell 15
   have z7:=HP.out.x.frozen 15
   have HN:Hid (Pm w ((((((((W1.setCell ⟨X,8,none⟩ (.int .i64 b.x)).setCell ⟨X,9,none⟩ (.int .i64 b.y)).setCell ⟨X,10,none⟩ (.int .i64 b.z)).setCell ⟨X,11,none⟩ (.int .i64 b.w)).setCell ⟨X,12,none⟩ (.int .i64 b.c0)).setCell ⟨X,13,none⟩ (.int .i64 b.c1)).setCell ⟨X,14,none⟩ (.int .i64 b.c2)).setCell ⟨X,15,none⟩ (.int .i64 b.c3)) a b X 2):=Lib.hid ⟨Blk.cast (((((((((HP.out.x.set_ 8 _).set_ 9 _).set_ 10 _).set_ 11 _).set_ 12 _).set_ 13 _).set_ 14 _).set_ 15 _)) (by simp[pmRow]),lx,((((((((hE.setCell _ lx).setCell _ lx).setCell _ lx).setCell _ lx).setCell _ lx).setCell _ lx).setCell _ lx).setCell _ lx)⟩
   have hxd:X≠D∧X≠V:=by have:=HLX.out;exact⟨by omega,by omega⟩
   obtain⟨hxd1,hxd2⟩:=hxd
   have d77b:(((((((((W1.setCell ⟨X,8,none⟩ (.int .i64 b.x)).setCell ⟨X,9,none⟩ (.int .i64 b.y)).setCell ⟨X,10,none⟩ (.int .i64 b.z)).setCell ⟨X,11,none⟩ (.int .i64 b.w)).setCell ⟨X,12,none⟩ (.int .i64 b.c0)).setCell ⟨X,13,none⟩ (.int .i64 b.c1)).setCell ⟨X,14,none⟩ (.int .i64 b.c2)).setCell ⟨X,15,none⟩ (.int .i64 b.c3))).cell? ⟨D,77,none⟩=some (.bool false):=by rw[←HEI.out.2.2.1];exact(HD.out.ext HN.out.e).cell 77
   clear HP hE
   go_wp2_with fail
   go_roundw
   case rel=>first|exact⟨2,by omega,rfl,HN⟩|((repeat apply Exists.intro);exact⟨⟨2,by omega,rfl,HN⟩,rfl⟩)
   case measure=>first|(simp[intOf];done)|(simp[intOf];omega)|(simp only[intOf];decide)
  ·have HSS:Hid (∀w',Blk w' X 149 (pmRow a b 2)→w'.cell? ⟨X,0,none⟩=some (.int .i64 a.x)∧w'.cell? ⟨X,1,none⟩=some (.int .i64 a.y)∧w'.cell? ⟨X,2,none⟩=some (.int .i64 a.z)∧w'.cell? ⟨X,3,none⟩=some (.int .i64 a.w)∧w'.cell? ⟨X,4,none⟩=some (.int .i64 a.c0)∧w'.cell? ⟨X,5,none⟩=some (.int .i64 a.c1)∧w'.cell? ⟨X,6,none⟩=some (.int .i64 a.c2)∧w'.cell? ⟨X,7,none⟩=some (.int .i64 a.c3)∧w'.cell? ⟨X,8,none⟩=some (.int .i64 b.x)∧w'.cell? ⟨X,9,none⟩=some (.int .i64 b.y)∧w'.cell? ⟨X,10,none⟩=some (.int .i64 b.z)∧w'.cell? ⟨X,11,none⟩=some (.int .i64 b.w)∧w'.cell? ⟨X,12,none⟩=some (.int .i64 b.c0)∧w'.cell? ⟨X,13,none⟩=some (.int .i64 b.c1)∧w'.cell? ⟨X,14,none⟩=some (.int .i64 b.c2)∧w'.cell? ⟨X,15,none⟩=some (.int .i64 b.c3)):=Lib.hid (fun w' e=>⟨e.cell 0,e.cell 1,e.cell 2,e.cell 3,e.cell 4,e.cell 5,e.cell 6,e.cell 7,e.cell 8,e.cell 9,e.cell 10,e.cell 11,e.cell 12,e.cell 13,e.cell 14,e.cell 15⟩)
   have hxd:=HLX.out
   have hxl:=HP.out.lt
   go_wp2_with fail
   go_region_held3 (fun w'=>w'.cell? ⟨X,0,none⟩=some (.int .i64 a.x)∧w'.cell? ⟨X,1,none⟩=some (.int .i64 a.y)∧w'.cell? ⟨X,2,none⟩=some (.int .i64 a.z)∧w'.cell? ⟨X,3,none⟩=some (.int .i64 a.w)∧w'.cell? ⟨X,4,none⟩=some (.int .i64 a.c0)∧w'.cell? ⟨X,5,none⟩=some (.int .i64 a.c1)∧w'.cell? ⟨X,6,none⟩=some (.int .i64 a.c2)∧w'.cell? ⟨X,7,none⟩=some (.int .i64 a.c3)∧w'.cell? ⟨X,8,none⟩=some (.int .i64 b.x)∧w'.cell? ⟨X,9,none⟩=some (.int .i64 b.y)∧w'.cell? ⟨X,10,none⟩=some (.int .i64 b.z)∧w'.cell? ⟨X,11,none⟩=some (.int .i64 b.w)∧w'.cell? ⟨X,12,none⟩=some (.int .i64 b.c0)∧w'.cell? ⟨X,13,none⟩=some (.int .i64 b.c1)∧w'.cell? ⟨X,14,none⟩=some (.int .i64 b.c2)∧w'.cell? ⟨X,15,none⟩=some (.int .i64 b.c3))
    (first|(refine HSS.out _ ?_;assumption)|(refine HSS.out _ (HP.out.x.ext ?_);(repeat(first|with_reducible(first|exact eR_ _|assumption|refine eA_ ?_ _|refine eD_ ?_|refine eN_ ?_ _|refine eL_ ?_ _)|(with_reducible refine eS_ ?_ _ ?hp;case hp=>first|(simp;done)|(simp;omega)|omega)))))
    (first
     |(go_at_call 64;refine(HLD.out _ (HP.out.e.trans (by(repeat(first|with_reducible(first|exact eR_ _|assumption|refine eA_ ?_ _|refine eD_ ?_|refine eN_ ?_ _|refine eL_ ?_ _)|(with_reducible refine eS_ ?_ _ ?hp;case hp=>first|(simp;done)|(simp;omega)|omega)))))).mono ?_;rintro e w9 ⟨rfl,hQ,hK⟩;have hX9:=hK.blk X _ _ (HP.out.x.ext (by(repeat(first|with_reducible(first|exact eR_ _|assumption|refine eA_ ?_ _|refine eD_ ?_|refine eN_ ?_ _|refine eL_ ?_ _)|(with_reducible refine eS_ ?_ _ ?hp;case hp=>first|(simp;done)|(simp;omega)|omega))))) (by decide) (by omega);have hK9:=(Kept.of_ext (HP.out.e.trans (by(repeat(first|with_reducible(first|exact eR_ _|assumption|refine eA_ ?_ _|refine eD_ ?_|refine eN_ ?_ _|refine eL_ ?_ _)|(with_reducible refine eS_ ?_ _ ?hp;case hp=>first|(simp;done)|(simp;omega)|omega)))))).trans hK))
   all_goals
    go_wp2_with fail
    exact bodyPost_end (results_none rfl _ _ _) rfl ⟨rfl,hQ,hK9⟩
end Go.Proofs.YtplljnfjkkloeaaGreatDoor
set_option linter.unusedVariables false
set_option linter.unusedSimpArgs false
namespace Go.Proofs.YtplljnfjkkloeaaGreatDoor
attribute [local go_sem] Go.Oper.semAt_some
open Go.RowKit
theorem prims_one (n:Nat) (A:Option Addr) (c:Nat) (w:World) (h2:2≤n) (h3:n≤256):Calls Tryz.prog 38 #[.int .i64 1,.slice A n c,.bool false] w (PrimsP 1 n w):=by
 have e:((1:Nat):Int)=1:=rfl
 have h:=prims_core 1 n A c w (.inl rfl) h2 h3 (fun w=>by rw[e];exact plans_one w) (fun w=>by rw[e];exact count_one n w h2 h3)
 rw[e]at h
 exact h
theorem prims_two (n:Nat) (A:Option Addr) (c:Nat) (w:World) (h2:2≤n) (h3:n≤256):Calls Tryz.prog 38 #[.int .i64 2,.slice A n c,.bool false] w (PrimsP 2 n w):=by
 have e:((2:Nat):Int)=2:=rfl
 have h:=prims_core 2 n A c w (.inr rfl) h2 h3 (fun w=>by rw[e];exact plans_two w) (fun w=>by rw[e];exact count_two n w h2 h3)
 rw[e]at h
 exact h
set_option maxRecDepth 100000 in
theorem emit1_any (B P D V:Nat) (first:Int) (w:World) (R:World→Prop) (hB:Blk w B 107 #[.pointer (some ⟨D,0,none⟩)]) (hP:Blk w P 116 #[.slice (some ⟨V,0,none⟩) 2 2,.slice none 0 0,.int .i64 first])
  (HL:Calls Tryz.prog 41 #[.pointer (some ⟨D,0,none⟩),.agg #[.slice (some ⟨V,0,none⟩) 2 2,.slice none 0 0,.int .i64 first]] w fun e w'=>e=.returned (.tuple #[])∧R w'):
  Calls Tryz.prog 40 #[.pointer (some ⟨B,0,none⟩),.pointer (some ⟨P,0,none⟩)] w fun e w'=>e=.returned (.tuple #[])∧R w':=by
 have HLD:=Lib.hid HL
 have c0:=hB.c1
 obtain⟨p0,p1,p2⟩:=hP.c3
 clear hB hP HL
 go_enter Tryz.func40,Tryz.ntmps40
 go_wp2_with fail
 refine HLD.out.mono ?_
 rintro e w1 ⟨rfl,hR⟩
 have HR:=Lib.hid hR
 clear hR c0 p0 p1 p2
 go_wp2_with fail
 exact bodyPost_end (results_none rfl _ _ _) rfl ⟨rfl,HR.out⟩
end Go.Proofs.YtplljnfjkkloeaaGreatDoor
set_option linter.unusedVariables false
set_option linter.unusedSimpArgs false
namespace Go.Proofs.YtplljnfjkkloeaaGreatDoor
attribute [local go_sem] Go.Oper.semAt_some
open Go.RowKit
structure Jb (w:World) (J B o n c:Nat) (C:List Int):Prop where
 a:w.cell? ⟨J,94,none⟩=some (.slice (some ⟨B,o,none⟩) n c)
 r:Rd w 1 (some ⟨B,o,none⟩) n c (ivs C)
 n:n≤4096
theorem Jb.ext {w w':World} {J B o n c:Nat} {C:List Int} (h:Jb w J B o n c C) (e:Ext w w'):Jb w' J B o n c C:=⟨e.cell_some h.a,h.r.ext e,h.n⟩
theorem Jb.at {w:World} {J B o n c i:Nat} {C:List Int} {v:Int} (h:Jb w J B o n c C) (hv:C[i]? =some v):w.cell? ⟨B,o+i,none⟩=some (.int .i64 v)∧i<n:=by
 have hl:=h.r.len
 have hi:=(List.getElem?_eq_some_iff.1 hv).1
 have hl2:(ivs C).length=C.length:=by simp
 exact⟨h.r.get rfl (by simp[hv]),by omega⟩
set_option maxRecDepth 100000 in
theorem on_any (J B o n c i:Nat) (C:List Int) (v:Int) (w:World) (h:Jb w J B o n c C) (hv:C[i]? =some v):Calls Tryz.prog 104 #[.pointer (some ⟨J,0,none⟩),.int .i64 i] w fun e w'=>e=.returned (.bool (v==1))∧w'=w:=by
 obtain⟨k,hi⟩:=h.at hv
 have ha:=h.a
 have hn:=h.n
 clear h hv
 go_enter Tryz.func104,Tryz.ntmps104
 go_wp2_with fail
 go_ret
 exact⟨rfl,rfl⟩
set_option maxRecDepth 100000 in
theorem color_any (J B o n c:Nat) (C:List Int) (v0 v1 v2 v3:Int) (w:World) (h:Jb w J B o n c C) (h0:C[0]? =some v0) (h1:C[1]? =some v1) (h2:C[2]? =some v2) (h3:C[3]? =some v3):
  Calls Tryz.prog 102 #[.pointer (some ⟨J,0,none⟩)] w fun e w'=>e=.returned (.agg #[.int .i64 v0,.int .i64 v1,.int .i64 v2,.int .i64 v3])∧Ext w w':=by
 have HC:Hid (∀wz,Ext w wz→wz.cell? ⟨J,94,none⟩=some (.slice (some ⟨B,o,none⟩) n c)∧wz.cell? ⟨B,o,none⟩=some (.int .i64 v0)∧wz.cell? ⟨B,o+1,none⟩=some (.int .i64 v1)∧wz.cell? ⟨B,o+2,none⟩=some (.int .i64 v2)∧wz.cell? ⟨B,o+3,none⟩=some (.int .i64 v3)):=
  Lib.hid (fun wz e=>⟨(h.ext e).a,((h.ext e).at h0).1,((h.ext e).at h1).1,((h.ext e).at h2).1,((h.ext e).at h3).1⟩)
 have n3:3<n:=(h.at h3).2
 have n2:2<n:=by omega
 have n1:1<n:=by omega
 have n0:0<n:=by omega
 clear h h0 h1 h2 h3
 have HB:Hid (Blk (w.alloc (.cells #[.int .i64 0,.int .i64 0,.int .i64 0,.int .i64 0] 30)) w.heap.size 30 #[.int .i64 0,.int .i64 0,.int .i64 0,.int .i64 0]):=Lib.hid (Blk.new _ _ _)
 go_enter Tryz.func102,Tryz.ntmps102
 go_upto_region 1 with fail
 obtain⟨ca,c0,c1,c2,c3⟩:=HC.out _ ((Ext.refl w).alloc (.cells #[.int .i64 0,.int .i64 0,.int .i64 0,.int .i64 0] 30))
 refine wp_region_later_tail 25 (by kernel_rfl) (by kernel_rfl) ?_
 simp only[List.take_succ_cons,List.take_zero,List.drop_succ_cons,List.drop_zero]
 repeat(go_big_quiet_step ((first|fail|fail)))
 refine wpQuiet_nil ?_
 intro y
 have HB2:=Lib.hid (HB.out.ext (by(repeat(first|with_reducible(first|exact eR_ _|assumption|refine eA_ ?_ _|refine eD_ ?_|refine eN_ ?_ _|refine eL_ ?_ _)|(with_reducible refine eS_ ?_ _ ?hp;case hp=>first|(simp;done)|(simp;omega)|omega))):Ext _ y.w))
 have HE2:Hid (Ext w y.w):=Lib.hid (by(repeat(first|with_reducible(first|exact eR_ _|assumption|refine eA_ ?_ _|refine eD_ ?_|refine eN_ ?_ _|refine eL_ ?_ _)|(with_reducible refine eS_ ?_ _ ?hp;case hp=>first|(simp;done)|(simp;omega)|omega))))
 have hsz:=HB.out.lt
 clear ca c0 c1 c2 c3 HC HB
 generalize y.w=W2 at*
 have cz:=HB2.out.c4
 have f0:=HB2.out.frozen 0
 have f1:=HB2.out.frozen 1
 have f2:=HB2.out.frozen 2
 have f3:=HB2.out.frozen 3
 go_wp2_with fail
 have HZ:=(((HB2.out.set_ 0 (.int .i64 v0)).set_ 1 (.int .i64 v1)).set_ 2 (.int .i64 v2)).set_ 3 (.int .i64 v3)
 have HZ2:=Blk.cast (cs':= #[.int .i64 v0,.int .i64 v1,.int .i64 v2,.int .i64 v3]) HZ (by simp)
 obtain⟨z0,z1,z2,z3⟩:=HZ2.c4
 have HE:=HE2.out
 refine bodyPost_ret (v:=.agg #[.int .i64 v0,.int .i64 v1,.int .i64 v2,.int .i64 v3]) (by simp[results,Tryz.results102,go_sem,z0,z1,z2,z3]) rfl ⟨rfl,?_⟩
 exact(((HE.setCell _ (Nat.le_refl _)).setCell _ (Nat.le_refl _)).setCell _ (Nat.le_refl _)).setCell _ (Nat.le_refl _)
end Go.Proofs.YtplljnfjkkloeaaGreatDoor
set_option linter.unusedVariables false
set_option linter.unusedSimpArgs false
namespace Go.Proofs.YtplljnfjkkloeaaGreatDoor
attribute [local go_sem] Go.Oper.semAt_some
open Go.RowKit
set_option maxRecDepth 100000 in
theorem begin_any {T:TypeId} {cs:Array Value} (J B o n c:Nat) (C:List Int) (W v0 m0:Int) (w:World) (hJ:Blk w J T cs) (h:Jb w J B o n c C) (h0:C[0]? =some v0) (e1:cs[1]? =some (.int .i64 W)) (hW:0<W) (e2:cs[58]? =some (.bool false)) (e3:cs[59]? =some (.int .i64 m0)):
  Calls Tryz.prog 115 #[.pointer (some ⟨J,0,none⟩)] w fun e w'=>e=.returned (.tuple #[])∧Blk w' J T ((cs.setIfInBounds 58 (.bool true)).setIfInBounds 59 (.int .i64 v0))∧Kp (·≠J) w w':=by
 obtain⟨k,hi⟩:=h.at h0
 rw[Nat.add_zero]at k
 have ca:=h.a
 have hn:=h.n
 have cw:=(hJ.cell 1).trans e1
 have c58:=(hJ.cell 58).trans e2
 have c59:=(hJ.cell 59).trans e3
 have f58:=hJ.frozen 58
 have f59:=hJ.frozen 59
 have hp:decide (0<W)=true:=by simpa using hW
 have HJ:=Lib.hid hJ
 clear h h0 hJ e1 e2 e3
 go_enter Tryz.func115,Tryz.ntmps115
 go_wp2_with (go_at_call 77;refine(need_yes 10 _).mono ?_;rintro e w1 ⟨rfl,rfl⟩)
 exact bodyPost_end (results_none rfl _ _ _) rfl ⟨rfl,(HJ.out.set_ 58 _).set_ 59 _,((Kp.refl _ _).setCell (p:=⟨J,58,none⟩) _ (fun h=>h rfl)).setCell (p:=⟨J,59,none⟩) _ (fun h=>h rfl)⟩
end Go.Proofs.YtplljnfjkkloeaaGreatDoor
set_option linter.unusedVariables false
set_option linter.unusedSimpArgs false
namespace Go.Proofs.YtplljnfjkkloeaaGreatDoor
attribute [local go_sem] Go.Oper.semAt_some
open Go.RowKit
set_option maxRecDepth 100000 in
theorem through_any {T:TypeId} {cs:Array Value} (J:Nat) (which mode most:Int) (A B:Option Addr) (ca cb:Nat) (M:List Int) (v:C4) (w:World) (hJ:Blk w J T cs) (e0:cs[14]? =some (.int .i64 mode)) (e1:cs[15]? =some (.slice A 1 ca)) (e2:cs[16]? =some (.slice B 1 cb))
  (HT: ∀wz,Ext w wz→Calls Tryz.prog 162 #[.agg #[.int .i64 mode,.slice A 1 ca,.slice B 1 cb],.int .i64 which] wz fun e w'=>e=.returned (.tuple #[.agg (irow M),.int .i64 0])∧Ext wz w')
  (hM:MatOk M)(hv:v.In)(m0:0≤most)(m1:most≤68719476736)(ho:(applyT M v).Within most):
  Calls Tryz.prog 165 #[.pointer (some ⟨J,0,none⟩),.int .i64 which,.agg #[.int .i64 v.a,.int .i64 v.b,.int .i64 v.c,.int .i64 v.d],.int .i64 most] w fun e w'=>e=.returned (applyT M v).v∧Ext w w':=by
 have HTO:=Lib.hid HT
 have HAP:=Lib.hid (fun wz=>apply_any M v most wz hM hv m0 m1 ho)
 have c14:=(hJ.cell 14).trans e0
 have c15:=(hJ.cell 15).trans e1
 have c16:=(hJ.cell 16).trans e2
 have HML:=Lib.hid hM.len
 clear HT hJ e0 e1 e2 hM hv m0 m1 ho
 generalize applyT M v=r at*
 obtain⟨R,hR⟩: ∃R,R=irow M:=⟨_,rfl⟩
 have HR:=Lib.hid hR
 rw[←hR]at HTO HAP
 clear hR
 go_enter Tryz.func165,Tryz.ntmps165
 go_wp2_with fail
 refine(HTO.out _ (by(repeat(first|with_reducible(first|exact eR_ _|assumption|refine eA_ ?_ _|refine eD_ ?_|refine eN_ ?_ _|refine eL_ ?_ _)|(with_reducible refine eS_ ?_ _ ?hp;case hp=>first|(simp;done)|(simp;omega)|omega))))).mono ?_
 rintro e w1 ⟨rfl,hE⟩
 obtain⟨y1,rfl⟩:=Later.mk' hE
 clear hE
 have HZ:Hid (Blk (y1.w.alloc (.cells #[.int .i64 0,.int .i64 0,.int .i64 0,.int .i64 0,.int .i64 0,.int .i64 0,.int .i64 0,.int .i64 0,.int .i64 0,.int .i64 0,.int .i64 0,.int .i64 0,.int .i64 0,.int .i64 0,.int .i64 0,.int .i64 0] 188)) y1.w.heap.size 188 #[.int .i64 0,.int .i64 0,.int .i64 0,.int .i64 0,.int .i64 0,.int .i64 0,.int .i64 0,.int .i64 0,.int .i64 0,.int .i64 0,.int .i64 0,.int .i64 0,.int .i64 0,.int .i64 0,.int .i64 0,.int .i64 0]):=Lib.hid (Blk.new _ _ _)
 have HV:Hid (Blk (y1.w.alloc (.cells #[.int .i64 0,.int .i64 0,.int .i64 0,.int .i64 0,.int .i64 0,.int .i64 0,.int .i64 0,.int .i64 0,.int .i64 0,.int .i64 0,.int .i64 0,.int .i64 0,.int .i64 0,.int .i64 0,.int .i64 0,.int .i64 0] 188)) w.heap.size 29 #[.int .i64 v.a,.int .i64 v.b,.int .i64 v.c,.int .i64 v.d]):=Lib.hid (by(repeat(first|with_reducible exact Hid.out (by assumption)|(with_reducible refine Blk.new' _ _ _ ?_;(simp;done))|with_reducible(first|refine Blk.alloc ?_ _|refine Blk.drew ?_|refine Blk.drewN ?_ _|refine Blk.later ?_ _)|(with_reducible refine Blk.far ?_ ?hp _;case hp=>first|(simp;done)|(simp;omega)|omega))))
 have HU:Hid (Blk (y1.w.alloc (.cells #[.int .i64 0,.int .i64 0,.int .i64 0,.int .i64 0,.int .i64 0,.int .i64 0,.int .i64 0,.int .i64 0,.int .i64 0,.int .i64 0,.int .i64 0,.int .i64 0,.int .i64 0,.int .i64 0,.int .i64 0,.int .i64 0] 188)) (w.heap.size+1) 29 #[.int .i64 0,.int .i64 0,.int .i64 0,.int .i64 0]):=Lib.hid (by(repeat(first|with_reducible exact Hid.out (by assumption)|(with_reducible refine Blk.new' _ _ _ ?_;(simp;done))|with_reducible(first|refine Blk.alloc ?_ _|refine Blk.drew ?_|refine Blk.drewN ?_ _|refine Blk.later ?_ _)|(with_reducible refine Blk.far ?_ ?hp _;case hp=>first|(simp;done)|(simp;omega)|omega))))
 have HE1:Hid (Ext w (y1.w.alloc (.cells #[.int .i64 0,.int .i64 0,.int .i64 0,.int .i64 0,.int .i64 0,.int .i64 0,.int .i64 0,.int .i64 0,.int .i64 0,.int .i64 0,.int .i64 0,.int .i64 0,.int .i64 0,.int .i64 0,.int .i64 0,.int .i64 0] 188))):=Lib.hid (by(repeat(first|with_reducible(first|exact eR_ _|assumption|refine eA_ ?_ _|refine eD_ ?_|refine eN_ ?_ _|refine eL_ ?_ _)|(with_reducible refine eS_ ?_ _ ?hp;case hp=>first|(simp;done)|(simp;omega)|omega))))
 have hgt:w.heap.size+1<y1.w.heap.size:=by have:=y1.le;simp at this;omega
 have hsz:R.size=16:=by rw[HR.out,irow_size];exact HML.out
 have hex:R.extract 0 (0+16)=R:=by rw[HR.out];exact extract_mat HML.out
 clear c14 c15 c16 HTO
 go_wp2_with (refine wpList_store_blk rfl (.tmp 9) (.tmp 21) 188 rfl 0 rfl (.agg R) rfl HZ.out (by rw[show(Value.agg R).cells=R from rfl,hsz];exact size_mat) ?c1 ?c2 ?_)
 case c1=>exact fun u hu=>ivs_one M u (by rw[show(Value.agg R).cells=R from rfl,HR.out]at hu;simpa[irow]using hu)
 case c2=>rw[show(Value.agg R).cells=R from rfl,hsz];simp
 intro w3 hb hk
 rw[spl_all _ _ (by show R.size=_;rw[hsz];rfl)]at hb
 have HB3:Hid (Blk w3 y1.w.heap.size 188 R):=Lib.hid hb
 have HV3:=Lib.hid (HV.out.kp hk (by omega))
 have HU3:=Lib.hid (HU.out.kp hk (by omega))
 have HE3:=Lib.hid (hk.ext HE1.out (fun j hj=>by omega))
 clear hb hk HZ HV HU HE1
 generalize y1.w.heap.size=G at*
 have hv4:=HV3.out.c4
 go_wp2_with (refine wpList_load_blk rfl (.tmp 9) 188 rfl 0 rfl HB3.out 16 agg_mat size_mat (by rw[hsz];omega) R hex ?_)
 go_wp2_with fail
 refine(HAP.out _).mono ?_
 rintro e w4 ⟨rfl,hE⟩
 obtain⟨y4,rfl⟩:=Later.mk' hE
 have HU4:=Lib.hid (HU3.out.later y4)
 have HE4:=Lib.hid (HE3.out.trans hE)
 clear hE HB3 HV3 hv4 HU3 HE3
 generalize y4.w=W4 at*
 have hl4:=HU4.out.lt
 have cu:=HU4.out.c4
 have fu0:=HU4.out.frozen 0
 have fu1:=HU4.out.frozen 1
 have fu2:=HU4.out.frozen 2
 have fu3:=HU4.out.frozen 3
 go_wp2_with (go_at_call 77;refine(need_yes 0 _).mono ?_;rintro e w1 ⟨rfl,rfl⟩)
 have HZ:=((((HU4.out.set_ 0 (.int .i64 r.a)).set_ 1 (.int .i64 r.b)).set_ 2 (.int .i64 r.c)).set_ 3 (.int .i64 r.d)).alloc (.cells #[.int .i64 r.a,.int .i64 r.b,.int .i64 r.c,.int .i64 r.d] 29)
 have HZ2:=Blk.cast (cs':= #[.int .i64 r.a,.int .i64 r.b,.int .i64 r.c,.int .i64 r.d]) HZ (by simp)
 have HE:=HE4.out
 refine bodyPost_ret (v:=r.v) (by obtain⟨z0,z1,z2,z3⟩:=HZ2.c4;simp[results,Tryz.results165,go_sem]at z0 z1 z2 z3 ⊢;simp[z0,z1,z2,z3]) rfl ⟨rfl,?_⟩
 exact((((HE.setCell _ (by simp)).setCell _ (by simp)).setCell _ (by simp)).setCell _ (by simp)).alloc _
end Go.Proofs.YtplljnfjkkloeaaGreatDoor
set_option linter.unusedVariables false
set_option linter.unusedSimpArgs false
namespace Go.Proofs.YtplljnfjkkloeaaGreatDoor
open Go.RowKit
structure RS (W:World) (ks:List (Nat×Nat)) (V:Nat→Value) (J:Nat) (T:TypeId) (cs:(Nat→Bool)→Array Value) (st:Nat→Bool) (u:Nat→Value) (x:World):Prop where
 kp:Kp (·≠J) W x
 j:Blk x J T (cs st)
 val: ∀q∈ks,st q.1=true→u q.2=V q.2
section
variable {W x y:World} {ks:List (Nat×Nat)} {V:Nat→Value} {J:Nat} {T:TypeId} {cs:(Nat→Bool)→Array Value} {st:Nat→Bool} {u:Nat→Value}
theorem RS.begin (k:Kp (·≠J) W x) (h:Blk x J T (cs fun _=>false)):RS W ks V J T cs (fun _=>false) u x:=⟨k,h,fun _ _ h=>by cases h⟩
theorem RS.quiet (h:RS W ks V J T cs st u x) (i d:Nat) (hk: ∀q∈ks,(q.2=d↔q.1=i)) (hc:cs (ups st i)=cs st) {v:Value} (hv:v=V d):RS W ks V J T cs (ups st i) (upu u d v) x:=by
 subst hv
 refine⟨h.kp,by rw[hc];exact h.j,fun q hq hs=>?_⟩
 by_cases hi:q.1=i
 ·rw[(hk q hq).2 hi,upu_eq]
 ·rw[upu_ne (fun hd=>hi ((hk q hq).1 hd))]
  rw[ups_ne hi]at hs
  exact h.val q hq hs
theorem RS.store (h:RS W ks V J T cs st u x) (i:Nat) (hk: ∀q∈ks,q.1≠i) (k:Kp (·≠J) x y) (hb:Blk y J T (cs (ups st i))):RS W ks V J T cs (ups st i) u y:=
 ⟨h.kp.trans k,hb,fun q hq hs=>by
  rw[ups_ne (hk q hq)]at hs
  exact h.val q hq hs⟩
end
theorem wp_store_part {P:Program} {Q:Exit→Act→World→Prop} {w:World} {g:Nat} {e:TypeId} {cs cs':Array Value} {o:Oper} {a:Act} {K:Act→World→Prop} (x y:Operand) (t:TypeId) (ho:o.op=.store t x y) (off:Nat) (hx:a.eval x=.pointer (some ⟨g,off,none⟩)) (v:Value) (hy:a.eval y=v)
  (h:Blk w g e cs)(hs:(P.info? t).map (·.size)=some v.cells.size)(h1: ∀u∈v.cells.toList,u.oneCell'=true)(hfit:off+v.cells.size≤cs.size)(hc:spl cs off v.cells=cs')
  (hK: ∀w',Blk w' g e cs'→Kp (·≠g) w w'→K (a.put o.dst undef) w'):o.wp P a w K Q:=by
 have hso:=run_store_blk (P:=P) h t off v hs h1 hfit
 unfold Oper.wp execOp
 simp only[ho,hx,hy,Instr.storeAt,Instr.sureAddr,Sem.run_bind,Sem.run_pure,Result.andThen_ok,hso]
 refine hK _ ?_ (Kp.setRow _ (fun hf=>hf rfl))
 rw[←hc]
 exact h.row
end Go.Proofs.YtplljnfjkkloeaaGreatDoor
