/- Proof text: the top of a stack (stack.Top). By an AI agent. No condition beyond what each theorem states. -/
import Derived.Test.YtplljnfjkkloeaaGreatDoorGJ
import Derived.Test.YtplljnfjkkloeaaGreatDoorQA
import Derived.Defers
import Derived.Recover
import Derived.Laws.Pointers
import Derived.Test.YtplljnfjkkloeaaGreatDoorQG
import Derived.Test.YtplljnfjkkloeaaGreatDoorSH
import Derived.Test.YtplljnfjkkloeaaGreatDoorXI
import Derived.Deep.RegionHeld3
import Derived.Deep.CutRange
set_option linter.unusedVariables false
set_option linter.unusedSimpArgs false
set_option maxHeartbeats 8000000
namespace Go.Proofs.YtplljnfjkkloeaaGreatDoor
attribute [local go_sem] Go.Oper.semAt_some
open Go.RowKit
theorem wpQuiet_load {P:Program} {ops:Array Oper} {C:World→Prop} {Q:Act→Prop} {o:Oper} {rest:List Oper} {a:Act} (hgd:o.guard=none) (x:Operand) (t:TypeId) (ho:o.op=.load t x) (ad:Addr) (hx:a.eval x=.pointer (some ad)) (v:Value)
  (hl: ∀w,C w→(loadVar t ad).run P w=.ok v w)(h:wpQuiet P ops C Q rest (a.put o.dst v)):wpQuiet P ops C Q (o::rest) a:=by
 unfold wpQuiet
 rw[if_pos (by simp[Region.wanted,hgd])]
 refine⟨v,fun w hw=>?_,h⟩
 have:=hl w hw
 unfold Oper.quietAt execOp
 simp only[ho,hx,Instr.loadAt,Instr.sureAddr,Sem.run_bind,Sem.run_pure,Result.andThen_ok,this]
 exact⟨rfl,rfl⟩
theorem spl_all (cs vs:Array Value) (h:vs.size=cs.size):spl cs 0 vs=vs:=by
 unfold spl
 rw[List.take_zero,List.nil_append,Nat.zero_add,h,List.drop_eq_nil_of_le (by simp),List.append_nil]
set_option maxRecDepth 100000 in
theorem top0_any (mode:Int) (A B:Option Addr) (ca cb:Nat) (M N:List Int) (w:World) (h:Stk w mode A B ca cb M N):Calls Tryz.prog 162 #[.agg #[.int .i64 mode,.slice A 1 ca,.slice B 1 cb],.int .i64 0] w fun e w'=>e=.returned (.tuple #[.agg (irow M),.int .i64 0])∧Ext w w':=by
 have HR:=Lib.hid (fun wz hz=>sright_any mode A B ca cb M N wz hz)
 have HS:=Lib.hid h
 have hlen:=h.m.len
 obtain⟨ba,oa,rfl, -, -⟩:=h.a.at_ (by omega)
 obtain⟨bb,ob,rfl, -, -⟩:=h.b.at_ (by omega)
 clear h
 go_enter Tryz.func162,Tryz.ntmps162
 go_upto_region 1 with fail
 have HB0:Hid (Blk ((w.alloc (.cells #[.int .i64 mode,.slice (some ⟨ba,oa,none⟩) 1 ca,.slice (some ⟨bb,ob,none⟩) 1 cb] 36)).alloc (.cells #[.int .i64 0,.int .i64 0,.int .i64 0,.int .i64 0,.int .i64 0,.int .i64 0,.int .i64 0,.int .i64 0,.int .i64 0,.int .i64 0,.int .i64 0,.int .i64 0,.int .i64 0,.int .i64 0,.int .i64 0,.int .i64 0] 188)) w.heap.size 36 #[.int .i64 mode,.slice (some ⟨ba,oa,none⟩) 1 ca,.slice (some ⟨bb,ob,none⟩) 1 cb]):=Lib.hid (by(repeat(first|with_reducible exact Hid.out (by assumption)|(with_reducible refine Blk.new' _ _ _ ?_;(simp;done))|with_reducible(first|refine Blk.alloc ?_ _|refine Blk.drew ?_|refine Blk.drewN ?_ _|refine Blk.later ?_ _)|(with_reducible refine Blk.far ?_ ?hp _;case hp=>first|(simp;done)|(simp;omega)|omega))))
 have HZ0:Hid (Blk ((w.alloc (.cells #[.int .i64 mode,.slice (some ⟨ba,oa,none⟩) 1 ca,.slice (some ⟨bb,ob,none⟩) 1 cb] 36)).alloc (.cells #[.int .i64 0,.int .i64 0,.int .i64 0,.int .i64 0,.int .i64 0,.int .i64 0,.int .i64 0,.int .i64 0,.int .i64 0,.int .i64 0,.int .i64 0,.int .i64 0,.int .i64 0,.int .i64 0,.int .i64 0,.int .i64 0] 188)) (w.heap.size+1) 188 (irow (List.replicate 16 0))):=Lib.hid (by show Blk _ _ _ #[.int .i64 0,.int .i64 0,.int .i64 0,.int .i64 0,.int .i64 0,.int .i64 0,.int .i64 0,.int .i64 0,.int .i64 0,.int .i64 0,.int .i64 0,.int .i64 0,.int .i64 0,.int .i64 0,.int .i64 0,.int .i64 0];(repeat(first|with_reducible exact Hid.out (by assumption)|(with_reducible refine Blk.new' _ _ _ ?_;(simp;done))|with_reducible(first|refine Blk.alloc ?_ _|refine Blk.drew ?_|refine Blk.drewN ?_ _|refine Blk.later ?_ _)|(with_reducible refine Blk.far ?_ ?hp _;case hp=>first|(simp;done)|(simp;omega)|omega))))
 have HE0:Hid (Ext w ((w.alloc (.cells #[.int .i64 mode,.slice (some ⟨ba,oa,none⟩) 1 ca,.slice (some ⟨bb,ob,none⟩) 1 cb] 36)).alloc (.cells #[.int .i64 0,.int .i64 0,.int .i64 0,.int .i64 0,.int .i64 0,.int .i64 0,.int .i64 0,.int .i64 0,.int .i64 0,.int .i64 0,.int .i64 0,.int .i64 0,.int .i64 0,.int .i64 0,.int .i64 0,.int .i64 0] 188))):=Lib.hid (by(repeat(first|with_reducible(first|exact eR_ _|assumption|refine eA_ ?_ _|refine eD_ ?_|refine eN_ ?_ _|refine eL_ ?_ _)|(with_reducible refine eS_ ?_ _ ?hp;case hp=>first|(simp;done)|(simp;omega)|omega))))
 generalize(w.alloc (.cells #[.int .i64 mode,.slice (some ⟨ba,oa,none⟩) 1 ca,.slice (some ⟨bb,ob,none⟩) 1 cb] 36)).alloc (.cells #[.int .i64 0,.int .i64 0,.int .i64 0,.int .i64 0,.int .i64 0,.int .i64 0,.int .i64 0,.int .i64 0,.int .i64 0,.int .i64 0,.int .i64 0,.int .i64 0,.int .i64 0,.int .i64 0,.int .i64 0,.int .i64 0] 188)=W0 at*
 have c0:=HB0.out.c3
 go_wp2_with fail
 refine(HR.out _ (HS.out.ext HE0.out)).mono ?_
 rintro e w1 ⟨rfl,hE⟩
 obtain⟨x1,rfl⟩:=Later.mk' hE
 clear hE
 have HB1:=Lib.hid (HB0.out.ext x1.ext)
 have HZ1:=Lib.hid (HZ0.out.ext x1.ext)
 have HE1:=Lib.hid (HE0.out.trans x1.ext)
 clear HB0 HZ0 HE0 c0 HR
 generalize x1.w=W1 at*
 have c0:=HB1.out.c3
 go_upto_region 3 with fail
 have hl: ∀x:Later W1,(loadVar 188 ⟨ba,oa,none⟩).run Tryz.prog x.w=.ok (.agg (irow M)) x.w:=fun x=>run_load_rd (P:=Tryz.prog) ((HS.out.a.ext HE1.out).ext x.ext) 188 0 16 agg_mat size_mat (ivs M) (by rw[List.drop_zero,List.take_of_length_le (by simp[hlen])]) (by simp[hlen])
 refine wp_region_later_tail 12 (by kernel_rfl) (by kernel_rfl) ?_
 simp only[List.take_succ_cons,List.take_zero,List.drop_succ_cons,List.drop_zero]
 repeat(go_big_quiet_step ((fail)))
 refine wpQuiet_load rfl (.tmp 28) 188 rfl ⟨ba,oa,none⟩ rfl (.agg (irow M)) (by rintro wq ⟨x,rfl⟩;exact hl x) ?_
 refine wpQuiet_nil ?_
 intro y1
 clear hl
 have HZ2:=Lib.hid (HZ1.out.ext y1.ext)
 have HE2:=Lib.hid (HE1.out.trans y1.ext)
 clear c0
 generalize y1.w=W2 at*
 go_wp2_with (refine wpList_store_blk rfl (.tmp 4) (.tmp 29) 188 rfl 0 rfl (.agg (irow M)) rfl HZ2.out (by rw[show(Value.agg (irow M)).cells=irow M from rfl,irow_size,hlen];exact size_mat) ?c1 ?c2 ?_)
 case c1=>exact fun u hu=>ivs_one M u (by simpa[irow,Value.cells]using hu)
 case c2=>rw[show(Value.agg (irow M)).cells=irow M from rfl,irow_size,irow_size,hlen];simp
 intro w3 hb hk
 have HB3:Hid (Blk w3 (w.heap.size+1) 188 (irow M)):=Lib.hid (by
  rw[spl_all _ _ (by first|(rw[irow_size,hlen];rfl)|(show(irow M).size=_;rw[irow_size,hlen];rfl))]at hb
  exact hb)
 have HE3:Hid (Ext w w3):=Lib.hid (hk.ext HE2.out (fun j hj=>by omega))
 clear hb hk
 go_wp2_with fail
 refine bodyPost_ret (v:=.tuple #[.agg (irow M),.int .i64 0]) ?_ rfl ⟨rfl,HE3.out⟩
 have hl:=load_mat HB3.out hlen
 simp only[results,Tryz.results162]
 simp[asAddr,Result.andThen,hl]
set_option maxRecDepth 100000 in
theorem top1_any (mode:Int) (A B:Option Addr) (ca cb:Nat) (M N:List Int) (w:World) (h:Stk w mode A B ca cb M N):Calls Tryz.prog 162 #[.agg #[.int .i64 mode,.slice A 1 ca,.slice B 1 cb],.int .i64 1] w fun e w'=>e=.returned (.tuple #[.agg (irow N),.int .i64 0])∧Ext w w':=by
 have HR:=Lib.hid (fun wz hz=>sright_any mode A B ca cb M N wz hz)
 have HS:=Lib.hid h
 have hlen:=h.n.len
 obtain⟨ba,oa,rfl, -, -⟩:=h.a.at_ (by omega)
 obtain⟨bb,ob,rfl, -, -⟩:=h.b.at_ (by omega)
 clear h
 go_enter Tryz.func162,Tryz.ntmps162
 go_upto_region 1 with fail
 have HB0:Hid (Blk ((w.alloc (.cells #[.int .i64 mode,.slice (some ⟨ba,oa,none⟩) 1 ca,.slice (some ⟨bb,ob,none⟩) 1 cb] 36)).alloc (.cells #[.int .i64 0,.int .i64 0,.int .i64 0,.int .i64 0,.int .i64 0,.int .i64 0,.int .i64 0,.int .i64 0,.int .i64 0,.int .i64 0,.int .i64 0,.int .i64 0,.int .i64 0,.int .i64 0,.int .i64 0,.int .i64 0] 188)) w.heap.size 36 #[.int .i64 mode,.slice (some ⟨ba,oa,none⟩) 1 ca,.slice (some ⟨bb,ob,none⟩) 1 cb]):=Lib.hid (by(repeat(first|with_reducible exact Hid.out (by assumption)|(with_reducible refine Blk.new' _ _ _ ?_;(simp;done))|with_reducible(first|refine Blk.alloc ?_ _|refine Blk.drew ?_|refine Blk.drewN ?_ _|refine Blk.later ?_ _)|(with_reducible refine Blk.far ?_ ?hp _;case hp=>first|(simp;done)|(simp;omega)|omega))))
 have HZ0:Hid (Blk ((w.alloc (.cells #[.int .i64 mode,.slice (some ⟨ba,oa,none⟩) 1 ca,.slice (some ⟨bb,ob,none⟩) 1 cb] 36)).alloc (.cells #[.int .i64 0,.int .i64 0,.int .i64 0,.int .i64 0,.int .i64 0,.int .i64 0,.int .i64 0,.int .i64 0,.int .i64 0,.int .i64 0,.int .i64 0,.int .i64 0,.int .i64 0,.int .i64 0,.int .i64 0,.int .i64 0] 188)) (w.heap.size+1) 188 (irow (List.replicate 16 0))):=Lib.hid (by show Blk _ _ _ #[.int .i64 0,.int .i64 0,.int .i64 0,.int .i64 0,.int .i64 0,.int .i64 0,.int .i64 0,.int .i64 0,.int .i64 0,.int .i64 0,.int .i64 0,.int .i64 0,.int .i64 0,.int .i64 0,.int .i64 0,.int .i64 0];(repeat(first|with_reducible exact Hid.out (by assumption)|(with_reducible refine Blk.new' _ _ _ ?_;(simp;done))|with_reducible(first|refine Blk.alloc ?_ _|refine Blk.drew ?_|refine Blk.drewN ?_ _|refine Blk.later ?_ _)|(with_reducible refine Blk.far ?_ ?hp _;case hp=>first|(simp;done)|(simp;omega)|omega))))
 have HE0:Hid (Ext w ((w.alloc (.cells #[.int .i64 mode,.slice (some ⟨ba,oa,none⟩) 1 ca,.slice (some ⟨bb,ob,none⟩) 1 cb] 36)).alloc (.cells #[.int .i64 0,.int .i64 0,.int .i64 0,.int .i64 0,.int .i64 0,.int .i64 0,.int .i64 0,.int .i64 0,.int .i64 0,.int .i64 0,.int .i64 0,.int .i64 0,.int .i64 0,.int .i64 0,.int .i64 0,.int .i64 0] 188))):=Lib.hid (by(repeat(first|with_reducible(first|exact eR_ _|assumption|refine eA_ ?_ _|refine eD_ ?_|refine eN_ ?_ _|refine eL_ ?_ _)|(with_reducible refine eS_ ?_ _ ?hp;case hp=>first|(simp;done)|(simp;omega)|omega))))
 generalize(w.alloc (.cells #[.int .i64 mode,.slice (some ⟨ba,oa,none⟩) 1 ca,.slice (some ⟨bb,ob,none⟩) 1 cb] 36)).alloc (.cells #[.int .i64 0,.int .i64 0,.int .i64 0,.int .i64 0,.int .i64 0,.int .i64 0,.int .i64 0,.int .i64 0,.int .i64 0,.int .i64 0,.int .i64 0,.int .i64 0,.int .i64 0,.int .i64 0,.int .i64 0,.int .i64 0] 188)=W0 at*
 have c0:=HB0.out.c3
 go_wp2_with fail
 refine(HR.out _ (HS.out.ext HE0.out)).mono ?_
 rintro e w1 ⟨rfl,hE⟩
 obtain⟨x1,rfl⟩:=Later.mk' hE
 clear hE
 have HB1:=Lib.hid (HB0.out.ext x1.ext)
 have HZ1:=Lib.hid (HZ0.out.ext x1.ext)
 have HE1:=Lib.hid (HE0.out.trans x1.ext)
 clear HB0 HZ0 HE0 c0 HR
 generalize x1.w=W1 at*
 have c0:=HB1.out.c3
 go_upto_region 3 with fail
 have hl: ∀x:Later W1,(loadVar 188 ⟨bb,ob,none⟩).run Tryz.prog x.w=.ok (.agg (irow N)) x.w:=fun x=>run_load_rd (P:=Tryz.prog) ((HS.out.b.ext HE1.out).ext x.ext) 188 0 16 agg_mat size_mat (ivs N) (by rw[List.drop_zero,List.take_of_length_le (by simp[hlen])]) (by simp[hlen])
 refine wp_region_later_tail 12 (by kernel_rfl) (by kernel_rfl) ?_
 simp only[List.take_succ_cons,List.take_zero,List.drop_succ_cons,List.drop_zero]
 repeat(go_big_quiet_step ((fail)))
 refine wpQuiet_load rfl (.tmp 28) 188 rfl ⟨bb,ob,none⟩ rfl (.agg (irow N)) (by rintro wq ⟨x,rfl⟩;exact hl x) ?_
 refine wpQuiet_nil ?_
 intro y1
 clear hl
 have HZ2:=Lib.hid (HZ1.out.ext y1.ext)
 have HE2:=Lib.hid (HE1.out.trans y1.ext)
 clear c0
 generalize y1.w=W2 at*
 go_wp2_with (refine wpList_store_blk rfl (.tmp 4) (.tmp 29) 188 rfl 0 rfl (.agg (irow N)) rfl HZ2.out (by rw[show(Value.agg (irow N)).cells=irow N from rfl,irow_size,hlen];exact size_mat) ?c1 ?c2 ?_)
 case c1=>exact fun u hu=>ivs_one N u (by simpa[irow,Value.cells]using hu)
 case c2=>rw[show(Value.agg (irow N)).cells=irow N from rfl,irow_size,irow_size,hlen];simp
 intro w3 hb hk
 have HB3:Hid (Blk w3 (w.heap.size+1) 188 (irow N)):=Lib.hid (by
  rw[spl_all _ _ (by first|(rw[irow_size,hlen];rfl)|(show(irow N).size=_;rw[irow_size,hlen];rfl))]at hb
  exact hb)
 have HE3:Hid (Ext w w3):=Lib.hid (hk.ext HE2.out (fun j hj=>by omega))
 clear hb hk
 go_wp2_with fail
 refine bodyPost_ret (v:=.tuple #[.agg (irow N),.int .i64 0]) ?_ rfl ⟨rfl,HE3.out⟩
 have hl:=load_mat HB3.out hlen
 simp only[results,Tryz.results162]
 simp[asAddr,Result.andThen,hl]
end Go.Proofs.YtplljnfjkkloeaaGreatDoor
set_option linter.unusedVariables false
set_option linter.unusedSimpArgs false
namespace Go.Proofs.YtplljnfjkkloeaaGreatDoor
attribute [local go_sem] Go.Oper.semAt_some
open Go.RowKit
theorem need_yes (c:Int) (w:World):Calls Tryz.prog 77 #[.bool true,.int .i64 c] w fun e w'=>e=.returned (.tuple #[])∧w=w':=by
 go_enter Tryz.func77,Tryz.ntmps77
 go_wp2_with fail
 refine bodyPost_end (results_none rfl _ _ _) rfl ⟨rfl,rfl⟩
theorem try_idle (p:Addr) (w:World):CallsD Tryz.prog 62 #[.pointer (some p)] .returning w fun e u' w'=>e=.returned (.tuple #[])∧u'=.returning∧w'=w:=by
 refine callsD_of_wpS Tryz.func62 rfl fun c₀ cs hu=>?_
 apply wpS_seq
 apply wpS_region
 simp[wpOpsS,go_sem,recoverD,hu,Tryz.ntmps62,Exit.thenS]
 refine wpS_of_wp ?_
 simp only[List.size_toArray,List.length_cons,List.length_nil,Nat.reduceAdd,Nat.reduceSub,Array.replicate_succ,Array.replicate_zero,List.push_toArray,List.append_toArray,List.nil_append,List.cons_append,List.setIfInBounds_toArray,List.set_cons_succ,List.set_cons_zero]
 go_wp2_with fail
 cases c₀
 simp_all[bodyPostS,results,Tryz.results62]
theorem try_ok {g:Nat} {cap:Array Value} {Q:World→Prop} (w:World) (eg: ∀args w,(callFunc g args).run Tryz.prog w=.ok (.enter g args) w)
  (hf:Calls Tryz.prog g cap (w.alloc (.cells #[.int .i64 0] 25)) fun e w'=>e=.returned (.tuple #[])∧Blk w' w.heap.size 25 #[.int .i64 0]∧Q (w'.setCell ⟨w.heap.size,0,none⟩ (.int .i64 0))):
  Calls Tryz.prog 39 #[.func (.func g) #[] cap] w fun e w'=>e=.returned (.int .i64 0)∧Q w':=by
 have hmf: ∀(fn:Fn) (first cap:Array Value) (w:World),(Instr.makeFunc fn first cap).run Tryz.prog w=.ok (.func fn first cap) w:=fun _ _ _ _=>rfl
 have HF:=Lib.hid hf
 clear hf
 go_enter_defers Tryz.func39,Tryz.ntmps39
 go_wp2_with fail
 refine HF.out.mono ?_
 rintro e w1 ⟨rfl,hb,hq⟩
 have HB:=Lib.hid hb
 have HQ:=Lib.hid hq
 clear hb hq HF
 have c0:=HB.out.c1
 have f0:=HB.out.f1
 go_wp2_with fail
 refine leaves_cons (f:=62) (args:= #[.pointer (some ⟨w.heap.size,0,none⟩)]) (by simp) (by simp[go_sem]) ?_
 refine(try_idle ⟨w.heap.size,0,none⟩ _).mono ?_
 rintro e u' w'' ⟨rfl,rfl,rfl⟩
 have HB2:=HB.out.s1 (.int .i64 0)
 have c1:=HB2.c1
 have HQ2:=HQ.out
 simp[Leaves,settle,results,Tryz.results39,go_sem,c1]
 exact HQ2
theorem nested_yes (b:Bool) (op:Int) (w:World) (h:op=14∨op=15∨((op=17∨op=18∨op=30)∧b=true)∨(¬(op=14∨op=15∨op=17∨op=18∨op=30)∧b=false)):
  Calls Tryz.prog 78 #[.bool b,.int .i64 op] w fun e w'=>e=.returned (.bool true)∧w=w':=by
 rcases h with rfl|rfl|⟨rfl|rfl|rfl,rfl⟩|⟨h,rfl⟩
 case inr.inr.inr=>
  have e1:(op==14)=false:=by simp;omega
  have e2:(op==15)=false:=by simp;omega
  have e3:(op==17)=false:=by simp;omega
  have e4:(op==18)=false:=by simp;omega
  have e5:(op==30)=false:=by simp;omega
  clear h
  go_enter Tryz.func78,Tryz.ntmps78
  go_wp2_with fail
  go_ret
  exact⟨rfl,rfl⟩
 all_goals
  go_enter Tryz.func78,Tryz.ntmps78
  go_wp2_with fail
  go_ret
  exact⟨rfl,rfl⟩
end Go.Proofs.YtplljnfjkkloeaaGreatDoor
set_option linter.unusedVariables false
set_option linter.unusedSimpArgs false
namespace Go.Proofs.YtplljnfjkkloeaaGreatDoor
open Go.RowKit
def Sd.Ok (s:Sd):Prop:=(s.k=3∧ ∀j,j<4→inMost (s.p j) 32768)∨(s.k≠3∧(0≤s.k∧s.k<3)∧ ∀j,j<4→s.p j=0)
theorem p_zero {s:Sd} (h: ∀j,j<4→s.p j=0):(s.p0==0&&(s.p1==0&&(s.p2==0&&s.p3==0)))=true:=by
 have h0:=h 0 (by omega);have h1:=h 1 (by omega);have h2:=h 2 (by omega);have h3:=h 3 (by omega)
 simp only[Sd.p]at h0 h1 h2 h3
 simp[h0,h1,h2,h3]
theorem right_yes (s:Sd) (w:World) (h:s.Ok):Calls Tryz.prog 83 #[s.v] w fun e w'=>e=.returned (.bool true)∧Ext w w':=by
 rcases h with⟨h3,h⟩|⟨h3,h1,h⟩
 ·have H:=Lib.hid h;clear h
  have d0:(s.k !=3)=false:=by simp[h3]
  have H3:=Lib.hid h3;clear h3
  go_enter Tryz.func83,Tryz.ntmps83
  go_wp2_with fail
  go_loop [4,24] (fun _ i=> ∃k:Nat,k≤4∧i=.int .i64 k) (fun _ i=>4-(intOf i).toNat)
  case atStart=>exact⟨0,by omega,rfl⟩
  case round=>
   obtain⟨k,hk,rfl⟩:=hrel
   by_cases hlt:k<4
   ·have hi:=fun W=>index_p s W k hlt
    have H1:=Lib.hid (H.out k hlt)
    go_wp2_with fail
    refine(far_no _ _ _ (by omega) (by omega) H1.out).mono ?_
    rintro e w1 ⟨rfl,rfl⟩
    go_wp2_with fail
    go_round
    case rel=>exact⟨k+1,by omega,by go_num⟩
    case measure=>simp[intOf];omega
   ·obtain rfl:k=4:=by omega
    go_wp2_with fail
    go_ret
    exact⟨rfl,by(repeat(first|with_reducible(first|exact eR_ _|assumption|refine eA_ ?_ _|refine eD_ ?_|refine eN_ ?_ _|refine eL_ ?_ _)|(with_reducible refine eS_ ?_ _ ?hp;case hp=>first|(simp;done)|(simp;omega)|omega)))⟩
 ·have d0:(s.k !=3)=true:=by simpa using h3
  have d1:decide (s.k≥0)=true:=by simp;omega
  have d2:decide (s.k<3)=true:=by simp;omega
  have he:=fun W=>eq_arr s.p0 s.p1 s.p2 s.p3 0 0 0 0 W
  rw[p_zero h]at he
  clear h h1 h3
  go_enter Tryz.func83,Tryz.ntmps83
  go_wp2_with fail
  go_ret
  exact⟨rfl,by(repeat(first|with_reducible(first|exact eR_ _|assumption|refine eA_ ?_ _|refine eD_ ?_|refine eN_ ?_ _|refine eL_ ?_ _)|(with_reducible refine eS_ ?_ _ ?hp;case hp=>first|(simp;done)|(simp;omega)|omega)))⟩
end Go.Proofs.YtplljnfjkkloeaaGreatDoor
set_option linter.unusedVariables false
set_option linter.unusedSimpArgs false
namespace Go.Proofs.YtplljnfjkkloeaaGreatDoor
open Go.RowKit
end Go.Proofs.YtplljnfjkkloeaaGreatDoor
set_option linter.unusedVariables false
set_option linter.unusedSimpArgs false
namespace Go.Proofs.YtplljnfjkkloeaaGreatDoor
open Go.RowKit
def dist (s:Sd) (v:Vx):Int:=
 if s.k=0 then v.w-1 else if s.k=1 then v.z+v.w else if s.k=2 then v.w-v.z else s.p0*v.x+s.p1*v.y+s.p2*v.z+s.p3*v.w
def psum (s:Sd) (v:Vx):Nat→Int
 |0=>0
 |1=>s.p0*v.x
 |2=>s.p0*v.x+s.p1*v.y
 |3=>s.p0*v.x+s.p1*v.y+s.p2*v.z
 |_=>s.p0*v.x+s.p1*v.y+s.p2*v.z+s.p3*v.w
theorem mul_bound {a b m n:Int} (ha:inMost a m) (hb:inMost b n) (hm:0≤m) (hn:0≤n):inMost (a*b) (m*n):=by
 obtain⟨a1,a2⟩:=ha
 obtain⟨b1,b2⟩:=hb
 have h:(a*b).natAbs≤(m*n).natAbs:=by
  rw[Int.natAbs_mul,Int.natAbs_mul]
  exact Nat.mul_le_mul (by omega) (by omega)
 have hp:0≤m*n:=Int.mul_nonneg hm hn
 constructor <;>omega
def Sd.Pl (s:Sd):Prop:= ∀j,j<4→inMost (s.p j) 32768
theorem parts_bound {s:Sd} {v:Vx} (hs:s.Pl) (hv:v.Fit) (k:Nat) (hk:k<4):inMost (s.p k*v.e k) 2251799813685248:=
 mul_bound (hs k hk) (hv.1 k hk) (by omega) (by omega)
theorem psum_step {s:Sd} {v:Vx} (hs:s.Pl) (hv:v.Fit) (k:Nat) (hk:k<4):
  wrap64 (s.p k*v.e k)=s.p k*v.e k∧wrap64 (psum s v k+s.p k*v.e k)=psum s v (k+1):=by
 have b0:=parts_bound hs hv 0 (by omega)
 have b1:=parts_bound hs hv 1 (by omega)
 have b2:=parts_bound hs hv 2 (by omega)
 have b3:=parts_bound hs hv 3 (by omega)
 simp only[inMost,Sd.p,Vx.e]at b0 b1 b2 b3
 have hk4:k=0∨k=1∨k=2∨k=3:=by omega
 rcases hk4 with rfl|rfl|rfl|rfl <;>simp only[Sd.p,Vx.e,psum,Nat.reduceAdd] <;>refine⟨wrap64_of (by omega) (by omega),?_⟩ <;>rw[wrap64_of (by omega) (by omega)] <;>omega
theorem Sd.Ok.pl {s:Sd} (h:s.Ok) (h3:s.k=3):s.Pl:=by
 rcases h with⟨_,h⟩|⟨h,_⟩
 ·exact h
 ·exact absurd h3 h
theorem Sd.Ok.kind {s:Sd} (h:s.Ok):0≤s.k∧s.k≤3:=by
 rcases h with⟨h,_⟩|⟨_,h,_⟩ <;>omega
theorem Vx.Fit.lin {v:Vx} (h:v.Fit):(-68719476736≤v.x∧v.x≤68719476736)∧(-68719476736≤v.y∧v.y≤68719476736)∧(-68719476736≤v.z∧v.z≤68719476736)∧(-68719476736≤v.w∧v.w≤68719476736):=by
 have h0:=h.1 0 (by omega);have h1:=h.1 1 (by omega);have h2:=h.1 2 (by omega);have h3:=h.1 3 (by omega)
 simp only[inMost,Vx.e]at h0 h1 h2 h3
 exact⟨h0,h1,h2,h3⟩
theorem dist_bound {s:Sd} {v:Vx} (hs:s.Ok) (hv:v.Fit):inMost (dist s v) 9007199254740992:=by
 obtain⟨⟨x1,x2⟩,⟨y1,y2⟩,⟨z1,z2⟩,⟨w1,w2⟩⟩:=hv.lin
 have hk:=hs.kind
 unfold dist
 split
 ·constructor <;>omega
 split
 ·constructor <;>omega
 split
 ·constructor <;>omega
 have hp:=hs.pl (by omega)
 have b0:=parts_bound hp hv 0 (by omega)
 have b1:=parts_bound hp hv 1 (by omega)
 have b2:=parts_bound hp hv 2 (by omega)
 have b3:=parts_bound hp hv 3 (by omega)
 simp only[inMost,Sd.p,Vx.e]at b0 b1 b2 b3
 constructor <;>omega
theorem dist_any (s:Sd) (v:Vx) (w:World) (hs:s.Ok) (hv:v.Fit):Calls Tryz.prog 84 #[s.v,v.v] w fun e w'=>e=.returned (.int .i64 (dist s v))∧Ext w w':=by
 have hk:=hs.kind
 have hk4:s.k=0∨s.k=1∨s.k=2∨s.k=3:=by omega
 clear hk
 rcases hk4 with h|h|h|h
 ·have e:dist s v=v.w-1:=by unfold dist;rw[if_pos h]
  rw[e]
  obtain⟨⟨x1,x2⟩,⟨y1,y2⟩,⟨z1,z2⟩,⟨w1,w2⟩⟩:=hv.lin
  have d0:(s.k==0)=true:=by simp[h]
  clear hs hv h e
  go_enter Tryz.func84,Tryz.ntmps84
  go_wp2_with fail
  go_ret
  exact⟨rfl,by(repeat(first|with_reducible(first|exact eR_ _|assumption|refine eA_ ?_ _|refine eD_ ?_|refine eN_ ?_ _|refine eL_ ?_ _)|(with_reducible refine eS_ ?_ _ ?hp;case hp=>first|(simp;done)|(simp;omega)|omega)))⟩
 ·have e:dist s v=v.z+v.w:=by unfold dist;rw[if_neg (by omega),if_pos h]
  rw[e]
  obtain⟨⟨x1,x2⟩,⟨y1,y2⟩,⟨z1,z2⟩,⟨w1,w2⟩⟩:=hv.lin
  have d0:(s.k==0)=false:=by simp[h]
  have d1:(s.k==1)=true:=by simp[h]
  clear hs hv h e
  go_enter Tryz.func84,Tryz.ntmps84
  go_wp2_with fail
  go_ret
  exact⟨rfl,by(repeat(first|with_reducible(first|exact eR_ _|assumption|refine eA_ ?_ _|refine eD_ ?_|refine eN_ ?_ _|refine eL_ ?_ _)|(with_reducible refine eS_ ?_ _ ?hp;case hp=>first|(simp;done)|(simp;omega)|omega)))⟩
 ·have e:dist s v=v.w-v.z:=by unfold dist;rw[if_neg (by omega),if_neg (by omega),if_pos h]
  rw[e]
  obtain⟨⟨x1,x2⟩,⟨y1,y2⟩,⟨z1,z2⟩,⟨w1,w2⟩⟩:=hv.lin
  have d0:(s.k==0)=false:=by simp[h]
  have d1:(s.k==1)=false:=by simp[h]
  have d2:(s.k==2)=true:=by simp[h]
  clear hs hv h e
  go_enter Tryz.func84,Tryz.ntmps84
  go_wp2_with fail
  go_ret
  exact⟨rfl,by(repeat(first|with_reducible(first|exact eR_ _|assumption|refine eA_ ?_ _|refine eD_ ?_|refine eN_ ?_ _|refine eL_ ?_ _)|(with_reducible refine eS_ ?_ _ ?hp;case hp=>first|(simp;done)|(simp;omega)|omega)))⟩
 ·have e:dist s v=psum s v 4:=by unfold dist;rw[if_neg (by omega),if_neg (by omega),if_neg (by omega)];rfl
  rw[e]
  have HS:=Lib.hid (fun k hk=>psum_step (hs.pl h) hv k hk)
  have d0:(s.k==0)=false:=by simp[h]
  have d1:(s.k==1)=false:=by simp[h]
  have d2:(s.k==2)=false:=by simp[h]
  clear hs hv h e
  go_enter Tryz.func84,Tryz.ntmps84
  go_wp2_with fail
  refine(four_any v _).mono ?_
  rintro e w1 ⟨rfl,hE⟩
  obtain⟨x1,rfl⟩:=Later.mk' hE
  clear hE
  go_wp2_with fail
  go_loop [5,6,7,31] (fun a _ _ i=> ∃k:Nat,k≤4∧i=.int .i64 k∧a=.int .i64 (psum s v k)) (fun _ _ _ i=>4-(intOf i).toNat)
  case atStart=>exact⟨0,by omega,rfl,rfl⟩
  case round=>
   obtain⟨k,hk,rfl,rfl⟩:=hrel
   by_cases hlt:k<4
   ·obtain⟨m1,m2⟩:=HS.out k hlt
    have i0:=fun W=>(index_lit v W).1
    have i1:=fun W=>(index_lit v W).2.1
    have i2:=fun W=>(index_lit v W).2.2.1
    have i3:=fun W=>(index_lit v W).2.2.2
    have hk4:k=0∨k=1∨k=2∨k=3:=by omega
    rcases hk4 with rfl|rfl|rfl|rfl
    all_goals
     clear hk hlt
     simp only[Sd.p,Vx.e]at m1 m2
     go_wp2_with fail
     go_round
     case rel=>first|exact⟨1,by decide,rfl,congrArg _ m2⟩|exact⟨2,by decide,rfl,congrArg _ m2⟩|exact⟨3,by decide,rfl,congrArg _ m2⟩|exact⟨4,by decide,rfl,congrArg _ m2⟩
     case measure=>simp[intOf]
   ·obtain rfl:k=4:=by omega
    go_wp2_with fail
    go_ret
    exact⟨rfl,by(repeat(first|with_reducible(first|exact eR_ _|assumption|refine eA_ ?_ _|refine eD_ ?_|refine eN_ ?_ _|refine eL_ ?_ _)|(with_reducible refine eS_ ?_ _ ?hp;case hp=>first|(simp;done)|(simp;omega)|omega)))⟩
end Go.Proofs.YtplljnfjkkloeaaGreatDoor
set_option linter.unusedVariables false
set_option linter.unusedSimpArgs false
namespace Go.Proofs.YtplljnfjkkloeaaGreatDoor
open Go.RowKit
def at_ (a b:Vx) (n d:Int):Vx:=⟨mid a.x b.x n d,mid a.y b.y n d,mid a.z b.z n d,mid a.w b.w n d,mid a.c0 b.c0 n d,mid a.c1 b.c1 n d,mid a.c2 b.c2 n d,mid a.c3 b.c3 n d⟩
@[reducible] def Vx.row (v:Vx):Array Value:= #[.int .i64 v.x,.int .i64 v.y,.int .i64 v.z,.int .i64 v.w,.int .i64 v.c0,.int .i64 v.c1,.int .i64 v.c2,.int .i64 v.c3]
@[reducible] def Vx.row4 (v:Vx):Array Value:= #[.int .i64 v.x,.int .i64 v.y,.int .i64 v.z,.int .i64 v.w]
section
variable {w w':World} {g:Nat} {t:TypeId} {cs:Array Value}
end
theorem vcells {w:World} {g h:Nat} {t:TypeId} {a b:Vx} (ha:Blk w g t a.row) (hb:Blk w h t b.row):
  w.cell? ⟨g,0,none⟩=some (.int .i64 a.x)∧w.cell? ⟨g,1,none⟩=some (.int .i64 a.y)∧w.cell? ⟨g,2,none⟩=some (.int .i64 a.z)∧w.cell? ⟨g,3,none⟩=some (.int .i64 a.w)∧w.cell? ⟨g,4,none⟩=some (.int .i64 a.c0)∧w.cell? ⟨g,5,none⟩=some (.int .i64 a.c1)∧w.cell? ⟨g,6,none⟩=some (.int .i64 a.c2)∧w.cell? ⟨g,7,none⟩=some (.int .i64 a.c3)∧w.cell? ⟨h,0,none⟩=some (.int .i64 b.x)∧w.cell? ⟨h,1,none⟩=some (.int .i64 b.y)∧w.cell? ⟨h,2,none⟩=some (.int .i64 b.z)∧w.cell? ⟨h,3,none⟩=some (.int .i64 b.w)∧w.cell? ⟨h,4,none⟩=some (.int .i64 b.c0)∧w.cell? ⟨h,5,none⟩=some (.int .i64 b.c1)∧w.cell? ⟨h,6,none⟩=some (.int .i64 b.c2)∧w.cell? ⟨h,7,none⟩=some (.int .i64 b.c3):=
 ⟨ha.cell 0,ha.cell 1,ha.cell 2,ha.cell 3,ha.cell 4,ha.cell 5,ha.cell 6,ha.cell 7,hb.cell 0,hb.cell 1,hb.cell 2,hb.cell 3,hb.cell 4,hb.cell 5,hb.cell 6,hb.cell 7⟩
def AtPre (a b:Vx) (w wx:World) (P Q:Nat):Prop:=
 w.heap.size+2<P∧w.heap.size+2<Q∧P≠Q∧Blk wx P 29 a.row4∧Blk wx Q 29 b.row4∧Blk wx w.heap.size 149 a.row∧Blk wx (w.heap.size+1) 149 b.row∧
  Blk wx (w.heap.size+1+1) 149 (⟨0,0,0,0,0,0,0,0⟩:Vx).row∧Ext w wx
def lrow (u:Vx) (k:Nat):Array Value:= #[.int .i64 (if 0<k then u.x else 0),.int .i64 (if 1<k then u.y else 0),.int .i64 (if 2<k then u.z else 0),.int .i64 (if 3<k then u.w else 0)]
def vrow (u:Vx) (k:Nat):Array Value:= #[.int .i64 0,.int .i64 0,.int .i64 0,.int .i64 0,.int .i64 (if 0<k then u.c0 else 0),.int .i64 (if 1<k then u.c1 else 0),.int .i64 (if 2<k then u.c2 else 0),.int .i64 (if 3<k then u.c3 else 0)]
def AtInv (a b u:Vx) (w:World) (P Q L j k:Nat) (wr:World):Prop:=
 AtPre a b w wr P Q∧P<L∧Q<L∧Blk wr L 29 (lrow u j)∧Blk wr (L+1) 149 (vrow u k)
theorem set_l {w:World} {g:Nat} {t:TypeId} {u:Vx} {k:Nat} (h:Blk w g t (lrow u k)) (hk:k<4):Blk (w.setCell ⟨g,k,none⟩ (.int .i64 (u.e k))) g t (lrow u (k+1)):=by
 have:=h.set_ k (.int .i64 (u.e k))
 have hk4:k=0∨k=1∨k=2∨k=3:=by omega
 rcases hk4 with rfl|rfl|rfl|rfl <;>exact this
theorem AtPre.later {a b:Vx} {w wx:World} {P Q:Nat} (h:AtPre a b w wx P Q) (x:Later wx):AtPre a b w x.w P Q:=by
 obtain⟨h1,h2,h3,h4,h5,h6,h7,h8,h9⟩:=h
 exact⟨h1,h2,h3,h4.later x,h5.later x,h6.later x,h7.later x,h8.later x,h9.later x⟩
theorem AtPre.far {a b:Vx} {w wx:World} {P Q:Nat} (h:AtPre a b w wx P Q) {L i:Nat} (hP:P<L) (hQ:Q<L) (u:Value):AtPre a b w (wx.setCell ⟨L,i,none⟩ u) P Q:=by
 obtain⟨h1,h2,h3,h4,h5,h6,h7,h8,h9⟩:=h
 exact⟨h1,h2,h3,h4.far (by simp;omega) _,h5.far (by simp;omega) _,h6.far (by simp;omega) _,h7.far (by simp;omega) _,h8.far (by simp;omega) _,h9.setCell _ (by simp;omega)⟩
theorem AtPre.alloc {a b:Vx} {w wx:World} {P Q:Nat} (h:AtPre a b w wx P Q) (o:Obj):AtPre a b w (wx.alloc o) P Q:=by
 obtain⟨h1,h2,h3,h4,h5,h6,h7,h8,h9⟩:=h
 exact⟨h1,h2,h3,h4.alloc _,h5.alloc _,h6.alloc _,h7.alloc _,h8.alloc _,h9.alloc _⟩
theorem AtPre.drew {a b:Vx} {w wx:World} {P Q:Nat} (h:AtPre a b w wx P Q):AtPre a b w wx.drew P Q:=by
 obtain⟨h1,h2,h3,h4,h5,h6,h7,h8,h9⟩:=h
 exact⟨h1,h2,h3,h4,h5,h6,h7,h8,h9.drew⟩
theorem AtInv.num {a b u:Vx} {w wr:World} {P Q L k:Nat} (h:AtInv a b u w P Q L k k wr) (hk:k<4) (x:Later wr):AtInv a b u w P Q L (k+1) k (x.w.setCell ⟨L,k,none⟩ (.int .i64 (u.e k))):=by
 obtain⟨h1,h2,h3,h4,h5⟩:=h
 exact⟨(h1.later x).far h2 h3 _,h2,h3,set_l (h4.later x) hk,(h5.later x).far (by simp) _⟩
end Go.Proofs.YtplljnfjkkloeaaGreatDoor
set_option linter.unusedVariables false
set_option linter.unusedSimpArgs false
namespace Go.Proofs.YtplljnfjkkloeaaGreatDoor
open Go.RowKit
def V0:Vx:=⟨0,0,0,0,0,0,0,0⟩
theorem cells8 {w:World} {g:Nat} {t:TypeId} {v:Vx} (h:Blk w g t v.row):w.cell? ⟨g,0,none⟩=some (.int .i64 v.x)∧w.cell? ⟨g,1,none⟩=some (.int .i64 v.y)∧w.cell? ⟨g,2,none⟩=some (.int .i64 v.z)∧w.cell? ⟨g,3,none⟩=some (.int .i64 v.w)∧
  w.cell? ⟨g,4,none⟩=some (.int .i64 v.c0)∧w.cell? ⟨g,5,none⟩=some (.int .i64 v.c1)∧w.cell? ⟨g,6,none⟩=some (.int .i64 v.c2)∧w.cell? ⟨g,7,none⟩=some (.int .i64 v.c3):=
 ⟨h.cell 0,h.cell 1,h.cell 2,h.cell 3,h.cell 4,h.cell 5,h.cell 6,h.cell 7⟩
theorem frees8 {w:World} {g:Nat} {t:TypeId} {cs:Array Value} (h:Blk w g t cs):w.frozen? ⟨g,0,none⟩=false∧w.frozen? ⟨g,1,none⟩=false∧w.frozen? ⟨g,2,none⟩=false∧w.frozen? ⟨g,3,none⟩=false∧
  w.frozen? ⟨g,4,none⟩=false∧w.frozen? ⟨g,5,none⟩=false∧w.frozen? ⟨g,6,none⟩=false∧w.frozen? ⟨g,7,none⟩=false:=
 ⟨h.frozen 0,h.frozen 1,h.frozen 2,h.frozen 3,h.frozen 4,h.frozen 5,h.frozen 6,h.frozen 7⟩
theorem Blk.set8 {w:World} {g:Nat} {t:TypeId} {v:Vx} (h:Blk w g t v.row) (u:Vx):
  Blk ((((((((w.setCell ⟨g,0,none⟩ (.int .i64 u.x)).setCell ⟨g,1,none⟩ (.int .i64 u.y)).setCell ⟨g,2,none⟩ (.int .i64 u.z)).setCell ⟨g,3,none⟩ (.int .i64 u.w)).setCell ⟨g,4,none⟩ (.int .i64 u.c0)).setCell ⟨g,5,none⟩ (.int .i64 u.c1)).setCell ⟨g,6,none⟩ (.int .i64 u.c2)).setCell ⟨g,7,none⟩ (.int .i64 u.c3)) g t u.row:=by
 have h8:=(((((((h.set_ 0 (.int .i64 u.x)).set_ 1 (.int .i64 u.y)).set_ 2 (.int .i64 u.z)).set_ 3 (.int .i64 u.w)).set_ 4 (.int .i64 u.c0)).set_ 5 (.int .i64 u.c1)).set_ 6 (.int .i64 u.c2)).set_ 7 (.int .i64 u.c3)
 simpa using h8
end Go.Proofs.YtplljnfjkkloeaaGreatDoor
