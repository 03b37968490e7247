/- General laws: a region that draws its order, shown by what holds between any two of its operations. No condition beyond what each theorem states. By an AI agent. -/
import Derived.Test.YtplljnfjkkloeaaGreatDoorL
import Derived.Deep.RegionHeld3
import Derived.Deep.CutRange
import Derived.Laws.OwnMore
import Derived.RegionTactic
import Derived.Test.YtplljnfjkkloeaaGreatDoorProg
set_option linter.unusedVariables false
set_option linter.unusedSimpArgs false
set_option maxHeartbeats 400000
namespace Go.Proofs.YtplljnfjkkloeaaGreatDoor
open Go.RowKit
def ups (st:Nat→Bool) (i:Nat):Nat→Bool:=fun j=>if j=i then true else st j
def upu (u:Nat→Value) (d:Nat) (v:Value):Nat→Value:=fun t=>if t=d then v else u t
def fillL (D:List Nat) (u:Nat→Value):List Value→Nat→List Value
 |[],_=>[]
 |x::xs,t=>(if D.contains t then u t else x)::fillL D u xs (t+1)
def fillA (A:List Value) (D:List Nat) (u:Nat→Value):Array Value:=(fillL D u A 0).toArray
theorem fillL_len (D:List Nat) (u:Nat→Value): ∀(A:List Value) (t:Nat),(fillL D u A t).length=A.length
 |[],_=>rfl
 |x::xs,t=>by simp[fillL,fillL_len D u xs]
theorem fillL_get (D:List Nat) (u:Nat→Value): ∀(A:List Value) (t j:Nat),(fillL D u A t)[j]? =A[j]?.map fun x=>if D.contains (t+j)then u (t+j)else x
 |[],_,_=>by simp[fillL]
 |x::xs,t,0=>by simp[fillL]
 |x::xs,t,j+1=>by
  simp only[fillL,List.getElem?_cons_succ,fillL_get D u xs (t+1) j]
  rw[show t+1+j=t+(j+1) by omega]
theorem fillA_eval {A:List Value} {D:List Nat} {u:Nat→Value} {ds:List Deferred} {t:Nat} (ht:t<A.length):(⟨fillA A D u,ds⟩:Act).eval (.tmp t)=if D.contains t then u t else A.getD t undef:=by
 simp only[Act.eval,fillA,Array.getD_eq_getD_getElem?,List.getElem?_toArray,fillL_get,Nat.zero_add,List.getD_eq_getElem?_getD,List.getElem?_eq_getElem ht,Option.map_some,Option.getD_some]
theorem fillA_put {A:List Value} {D:List Nat} {u:Nat→Value} {ds:List Deferred} {d:Nat} {v:Value} (hd:D.contains d=true):(⟨fillA A D u,ds⟩:Act).put (some d) v=⟨fillA A D (upu u d v),ds⟩:=by
 simp only[Act.put,fillA]
 congr 1
 apply Array.ext'
 simp only[Array.toList_setIfInBounds,List.toList_toArray]
 apply List.ext_getElem?
 intro j
 rw[List.getElem?_set,fillL_get,fillL_get,fillL_len]
 simp only[Nat.zero_add,upu]
 by_cases hj:d=j
 ·subst hj
  by_cases hl:d<A.length
  ·simp[hl,hd]
   rw[List.contains_iff_mem]at hd
   simp[hd]
  ·simp[hl,List.getElem?_eq_none (by omega:A.length≤d)]
 ·rw[if_neg hj]
  simp only[Ne.symm hj,if_false]
theorem fillA_self {A:List Value} {D:List Nat}:fillA A D (fun t=>A.getD t undef)=A.toArray:=by
 unfold fillA
 congr 1
 apply List.ext_getElem?
 intro j
 rw[fillL_get]
 simp only[Nat.zero_add]
 rcases Nat.lt_or_ge j A.length with h|h
 ·simp[List.getElem?_eq_getElem h]
 ·simp[List.getElem?_eq_none h]
section
variable {P:Program} {md:Region.Mode} {ops:Array Oper} {Q:Exit→Act→World→Prop}
theorem getD_ups {listed:Array Bool} {i:Nat} (hi:i<listed.size):(fun j=>(listed.setIfInBounds i true).getD j false)=ups (fun j=>listed.getD j false) i:=by
 funext j
 simp only[ups,Array.getD_eq_getD_getElem?,Array.getElem?_setIfInBounds]
 by_cases h:i=j
 ·subst h;simp[hi]
 ·rw[if_neg h,if_neg (Ne.symm h)]
theorem wpAny_inv {J:(Nat→Bool)→Act→World→Prop} (hord: ∀i o,ops[i]? =some o→ ∀e∈o.after,Region.binds md e=true→e.on<i)
  (hstep: ∀st a w i o,ops[i]? =some o→st i=false→(∀e∈o.after,Region.binds md e=true→st e.on=true)→J st a w→wpOp P ops Q i (J (ups st i)) a w)
  (hend: ∀st a w,(∀i,i<ops.size→st i=true)→J st a w→Q .normal a w):
  ∀(fuel:Nat) (listed:Array Bool) (a:Act) (w:World),listed.size=ops.size→(listed.toList.countP (fun b=>!b))≤fuel→
   J (fun j=>listed.getD j false) a w→wpAny P md ops Q fuel listed a w:=by
 have hfirst: ∀(listed:Array Bool),listed.size=ops.size→Region.ready md ops listed=[]→ ∀i,i<ops.size→listed.getD i false=true:=by
  intro listed hsz hr i
  induction i using Nat.strongRecOn with
  |ind i ih=>
   intro hi
   cases hl:listed.getD i false with
   |true=>rfl
   |false=>
    exfalso
    have hmem:i∈Region.ready md ops listed:=by
     refine mem_ready.2 ⟨?_,ops[i],Array.getElem?_eq_getElem hi,fun e he hb=>?_⟩
     ·have:i<listed.size:=by omega
      simp only[Array.getD_eq_getD_getElem?,Array.getElem?_eq_getElem this]at hl ⊢
      exact hl
     ·have:=hord i _ (Array.getElem?_eq_getElem hi) e he hb
      exact ih e.on this (by omega)
    rw[hr]at hmem
    cases hmem
 intro fuel
 induction fuel with
 |zero=>
  intro listed a w hsz hc hJ
  have hall: ∀b∈listed.toList,¬(!b)=true:=List.countP_eq_zero.1 (Nat.le_zero.1 hc)
  have hst: ∀i,i<ops.size→listed.getD i false=true:=by
   intro i hi
   have hi':i<listed.size:=by omega
   have:=hall (listed[i]) (by simp)
   simp only[Array.getD_eq_getD_getElem?,Array.getElem?_eq_getElem hi']
   simpa using this
  refine⟨?_,hend _ a w hst hJ⟩
  unfold Region.ready
  rw[List.filter_eq_nil_iff]
  intro i hi
  have hi:=List.mem_range.1 hi
  have hi':i<listed.size:=by omega
  have:=hst i hi
  simp only[Array.getD_eq_getD_getElem?,Array.getElem?_eq_getElem hi',Option.getD_some]at this ⊢
  simp[this]
 |succ fuel ih=>
  intro listed a w hsz hc hJ
  refine⟨fun hr=>hend _ a w (hfirst listed hsz hr) hJ,fun i hi=>?_⟩
  obtain⟨hun,o,ho,hall⟩:=mem_ready.1 hi
  have hio:i<ops.size:=(Array.getElem?_eq_some_iff.1 ho).1
  have hil:i<listed.size:=by omega
  have hf:listed.getD i false=false:=by
   simp only[Array.getD_eq_getD_getElem?,Array.getElem?_eq_getElem hil]at hun ⊢
   exact hun
  refine wpOp_mono (fun a' w' h=>?_) (hstep _ a w i o ho hf hall hJ)
  refine ih _ a' w' (by simp[hsz]) ?_ ?_
  ·have hl:listed.toList[i]'(by simpa using hil)=false:=by
    simp only[Array.getD_eq_getD_getElem?,Array.getElem?_eq_getElem hil]at hf
    simpa using hf
   have hp:0<listed.toList.countP (fun b=>!b):=List.countP_pos_iff.2 ⟨false,by rw[←hl];exact List.getElem_mem _,rfl⟩
   rw[Array.toList_setIfInBounds,List.countP_set (by simpa using hil),hl]
   simp only[Bool.not_false,Bool.not_true,if_true,Bool.false_eq_true,if_false]
   omega
  ·rw[getD_ups hil];exact h
theorem wp_region_inv {id:Nat} {J:(Nat→Bool)→Act→World→Prop} {a:Act} {w:World} (hm:P.follows .mixedOrders=true) (hord: ∀i o,ops[i]? =some o→ ∀e∈o.after,Region.binds .any e=true→e.on<i)
  (h0: ∀x:World,x=w.drew→J (fun _=>false) a x)
  (hstep: ∀st a w i o,ops[i]? =some o→st i=false→(∀e∈o.after,Region.binds .any e=true→st e.on=true)→J st a w→wpOp P ops Q i (J (ups st i)) a w)
  (hend: ∀st a w,(∀i,i<ops.size→st i=true)→J st a w→Q .normal a w):(Code.region id ops true).wp P Q a w:=by
 refine wp_region_any hm (wpAny_inv hord hstep hend _ _ _ _ (by simp) ?_ ?_)
 ·refine Nat.le_trans List.countP_le_length (by simp)
 ·have e:(fun j=>(Array.replicate ops.size false).getD j false)=fun _=>false:=by
   funext j
   simp only[Array.getD_eq_getD_getElem?,Array.getElem?_replicate]
   split <;>rfl
  rw[e]
  exact h0 _ rfl
def ordB (md:Region.Mode) (ops:Array Oper):Bool:=(List.range ops.size).all fun i=>((ops[i]?).map fun o=>o.after.all fun e=>!Region.binds md e||decide (e.on<i)).getD true
theorem ordB_spec (h:ordB md ops=true): ∀i o,ops[i]? =some o→ ∀e∈o.after,Region.binds md e=true→e.on<i:=by
 intro i o ho e he hb
 have hi:=(Array.getElem?_eq_some_iff.1 ho).1
 have:=List.all_eq_true.1 h i (List.mem_range.2 hi)
 rw[ho]at this
 simp only[Option.map_some,Option.getD_some]at this
 have:=Array.all_eq_true'.1 this e he
 simpa[hb]using this
theorem wpOp_plain {i:Nat} {o:Oper} {K:Act→World→Prop} {a:Act} {w:World} (hi:ops[i]? =some o) (hg:o.guard=none) (h:o.wp P a w K Q):wpOp P ops Q i K a w:=by
 unfold wpOp
 simp only[hi]
 rw[if_pos (by simp[Region.wanted,hg])]
 exact .inl h
theorem wp_of_run {o:Oper} {K:Act→World→Prop} {a:Act} {w w':World} {v:Value} (h:(execOp a.eval o).run P w=.ok (.value v) w') (hk:K (a.put o.dst v) w'):o.wp P a w K Q:=by
 unfold Oper.wp
 rw[h]
 exact hk
theorem wp_call {o:Oper} {f:FuncId} {args:Array Operand} {tys:Array TypeId} {R:Ending→World→Prop} {K:Act→World→Prop} {a:Act} {w:World} {fn:Func} {c:Code} (ho:o.op=.call {callee:=.value (.func f),args:=args,argTypes:=tys}) (hf:P.funcs[f]? =some fn) (hname:(fn.name== "runtime.NumGoroutine")=false) (hb:fn.body=some c)
  (h:Calls P f (args.map a.eval) w R)(hR: ∀e w',R e w'→ ∃v,e=.returned v∧K (a.put o.dst v) w'):o.wp P a w K Q:=by
 unfold Oper.wp execOp
 simp[ho,resolve,invoke,Act.eval,go_sem]
 have hc:(callFunc f (Array.map a.eval args)).run P w=.ok (.enter f (Array.map a.eval args)) w:=by
  unfold callFunc
  simp[hf,hb,go_sem]
  simpa using hname
 rw[hc]
 exact h.mono fun e w' he=>by
  obtain⟨v,rfl,hk⟩:=hR e w' he
  exact hk
theorem fillA_in {A:List Value} {D:List Nat} {u:Nat→Value} {ds:List Deferred} {t:Nat} (ht:t<A.length) (hd:D.contains t=true):(⟨fillA A D u,ds⟩:Act).eval (.tmp t)=u t:=by
 rw[fillA_eval ht,if_pos hd]
theorem fillA_out {A:List Value} {D:List Nat} {u:Nat→Value} {ds:List Deferred} {t:Nat} (ht:t<A.length) (hd:D.contains t=false):(⟨fillA A D u,ds⟩:Act).eval (.tmp t)=A.getD t undef:=by
 rw[fillA_eval ht,hd];rfl
theorem wp_region_fill {id:Nat} {A:List Value} {ds:List Deferred} {w:World} (D:List Nat) (R:(Nat→Bool)→(Nat→Value)→World→Prop) (hm:P.follows .mixedOrders=true) (hord:ordB .any ops=true)
  (h0: ∀x:World,x=w.drew→R (fun _=>false) (fun t=>A.getD t undef) x)
  (hstep: ∀A':List Value,A'=A→ ∀st u x i o,ops[i]? =some o→st i=false→(∀e∈o.after,Region.binds .any e=true→st e.on=true)→(∀j o',ops[j]? =some o'→st j=true→ ∀e∈o'.after,Region.binds .any e=true→st e.on=true)→R st u x→
   wpOp P ops Q i (fun a' w'=> ∃u',a'=⟨fillA A' D u',ds⟩∧R (ups st i) u' w') ⟨fillA A' D u,ds⟩ x)
  (hend: ∀st u x,(∀i,i<ops.size→st i=true)→R st u x→Q .normal ⟨fillA A D u,ds⟩ x):(Code.region id ops true).wp P Q ⟨A.toArray,ds⟩ w:=by
 refine wp_region_inv (J:=fun st a x=>(∀j o',ops[j]? =some o'→st j=true→ ∀e∈o'.after,Region.binds .any e=true→st e.on=true)∧ ∃u,a=⟨fillA A D u,ds⟩∧R st u x) hm (ordB_spec hord) (fun x hx=>⟨fun _ _ _ h=>(by cases h),_,by rw[fillA_self],h0 x hx⟩) ?_ ?_
 ·rintro st a x i o ho hst hd ⟨hcl,u,rfl,hR⟩
  refine wpOp_mono (fun a' w' h=>⟨fun j o' hj hs e he hb=>?_,h⟩) (hstep A rfl st u x i o ho hst hd hcl hR)
  unfold ups at hs ⊢
  by_cases he1:e.on=i
  ·rw[if_pos he1]
  ·rw[if_neg he1]
   by_cases hji:j=i
   ·subst hji
    rw[ho]at hj
    injection hj with hj
    subst hj
    exact hd e he hb
   ·rw[if_neg hji]at hs
    exact hcl j o' hj hs e he hb
 ·rintro st a x hst ⟨_,u,rfl,hR⟩
  exact hend st u x hst hR
end
end Go.Proofs.YtplljnfjkkloeaaGreatDoor
set_option linter.unusedVariables false
set_option linter.unusedSimpArgs false
namespace Go.Proofs.YtplljnfjkkloeaaGreatDoor
open Go.RowKit
def Blk (w:World) (g:Nat) (t:TypeId) (cs:Array Value):Prop:=w.heap[g]? =some (.cells cs t (0,0))
section
variable {w w':World} {g:Nat} {t:TypeId} {cs:Array Value}
theorem Blk.lt (h:Blk w g t cs):g<w.heap.size:=by
 rcases Nat.lt_or_ge g w.heap.size with hlt|hge
 ·exact hlt
 ·unfold Blk at h;rw[Array.getElem?_eq_none hge]at h;cases h
theorem Blk.cell (h:Blk w g t cs) (i:Nat):w.cell? ⟨g,i,none⟩=cs[i]? :=cell_of_row w g i cs t (0,0) h
theorem Blk.frozen (h:Blk w g t cs) (i:Nat):w.frozen? ⟨g,i,none⟩=false:=by
 unfold Blk at h
 simp[World.frozen?,h]
theorem Blk.new (w:World) (t:TypeId) (cs:Array Value):Blk (w.alloc (.cells cs t)) w.heap.size t cs:=heap_alloc_new w _
theorem Blk.new' (w:World) (t:TypeId) (cs:Array Value) (h:g=w.heap.size):Blk (w.alloc (.cells cs t)) g t cs:=h▸heap_alloc_new w _
theorem Blk.drew (h:Blk w g t cs):Blk w.drew g t cs:=h
theorem Blk.drewN (h:Blk w g t cs) (n:Nat):Blk (w.drewN n) g t cs:=h
theorem Blk.alloc (h:Blk w g t cs) (o:Obj):Blk (w.alloc o) g t cs:=(Below.heap_alloc w o g h.lt).trans h
theorem Blk.set_ (h:Blk w g t cs) (i:Nat) (u:Value):Blk (w.setCell ⟨g,i,none⟩ u) g t (cs.setIfInBounds i u):=by
 unfold Blk at h ⊢
 simp[World.setCell,Array.getElem?_modify,h]
theorem Blk.far (h:Blk w g t cs) {p:Addr} (hp:g≠p.block) (u:Value):Blk (w.setCell p u) g t cs:=(Below.heap_setCell w p u g hp).trans h
theorem Blk.ext (h:Blk w g t cs) (hb:Ext w w'):Blk w' g t cs:=(hb.block h.lt).trans h
theorem Blk.later (h:Blk w g t cs) (x:Later w):Blk x.w g t cs:=h.ext x.ext
theorem Blk.grown' {row:Option Nat} (h:Blk w g t cs) (hg:w.grownBy w' row) (hne:row≠some g):Blk w' g t cs:=
 (hg.block g h.lt (fun e=>hne e.symm)).trans h
theorem Blk.two {x y:Value} (h:Blk w g t #[x,y]):w.cell? ⟨g,0,none⟩=some x∧w.cell? ⟨g,1,none⟩=some y∧w.frozen? ⟨g,0,none⟩=false∧w.frozen? ⟨g,1,none⟩=false:=
 ⟨h.cell 0,h.cell 1,h.frozen 0,h.frozen 1⟩
theorem Blk.four {x y z u:Value} (h:Blk w g t #[x,y,z,u]):w.cell? ⟨g,0,none⟩=some x∧w.cell? ⟨g,1,none⟩=some y∧w.cell? ⟨g,2,none⟩=some z∧w.cell? ⟨g,3,none⟩=some u:=
 ⟨h.cell 0,h.cell 1,h.cell 2,h.cell 3⟩
theorem Blk.frees4 {x y z u:Value} (h:Blk w g t #[x,y,z,u]):w.frozen? ⟨g,0,none⟩=false∧w.frozen? ⟨g,1,none⟩=false∧w.frozen? ⟨g,2,none⟩=false∧w.frozen? ⟨g,3,none⟩=false:=
 ⟨h.frozen 0,h.frozen 1,h.frozen 2,h.frozen 3⟩
end
abbrev ivs (A:List Int):List Value:=A.map (Value.int .i64)
theorem ivs_get (A:List Int) (k:Nat) (h:k<A.length):(ivs A)[k]? =some (.int .i64 (A.getD k 0)):=by simp[h]
theorem ivs_one (A:List Int): ∀u∈ivs A,u.oneCell'=true:=by
 intro u hu
 obtain⟨x,_,rfl⟩:=List.mem_map.1 hu
 rfl
end Go.Proofs.YtplljnfjkkloeaaGreatDoor
set_option linter.unusedVariables false
set_option linter.unusedSimpArgs false
namespace Go.Proofs.YtplljnfjkkloeaaGreatDoor
open Go.RowKit
theorem info47:(Tryz.prog.info? 162).map (fun i=>(i.zero,i.size,i.bytes))=some (some (.agg #[.int .i64 0,.int .i64 0]),2,16):=by kernel_rfl
theorem size47:(Tryz.prog.info? 162).map (·.size)=some 2:=by kernel_rfl
def prs:List (Int×Int)→List Value
 |[]=>[]
 |p::r=>.int .i64 p.1::.int .i64 p.2::prs r
theorem prs_append (l m:List (Int×Int)):prs (l++m)=prs l++prs m:=by
 induction l with
 |nil=>rfl
 |cons p r ih=>simp[prs,ih]
theorem prs_length (l:List (Int×Int)):(prs l).length=l.length*2:=by
 induction l with
 |nil=>rfl
 |cons p r ih=>simp[prs,ih];omega
theorem rep_snoc (k:Nat) (p:Int×Int):prs (List.replicate (k+1) p)=prs (List.replicate k p)++[.int .i64 p.1,.int .i64 p.2]:=by
 rw[List.replicate_succ',prs_append];rfl
theorem put_pair (k n:Nat) (p:Int×Int) (xs:List Value) (hn:xs.length=n*2) (hk:k<n) (h:xs.take (k*2)=prs (List.replicate k p)):
  (xs.take (k*2)++[Value.int .i64 p.1,Value.int .i64 p.2]++xs.drop (k*2+2)).take ((k+1)*2)=prs (List.replicate (k+1) p):=by
 rw[rep_snoc,←h,List.take_append_of_le_length (by simp;omega)]
 rw[List.take_of_length_le (by simp;omega)]
theorem numbers_any (n:Nat) (a b:Int) (w:World) (hn:n≤16):
  Calls Tryz.prog 204 #[.int .i64 n,.agg #[.int .i64 a,.int .i64 b]] w fun e w'=> ∃g,e=.returned (.slice (some ⟨g,0,none⟩) n n)∧w'.ownsRow w.heap.size 162 2 (.slice (some ⟨g,0,none⟩) n n) n (prs (List.replicate n (a,b)))∧Ext w w':=by
 obtain⟨i0,hi,hz0,hz1,hz2⟩:=info_parts info47
 go_enter Tryz.func204,Tryz.ntmps204
 go_wp2_with (at_make;refine wpList_make_full _ rfl _ _ _ rfl w.heap.size 162 i0 (.agg #[.int .i64 0,.int .i64 0]) 2 Tryz.underlying159 hi hz0 hz1 _ _ _ _ n rfl rfl rfl rfl ?c1 ?c2 ?c3 ?_)
 case c1=>rw[hz2];omega
 case c2=>unfold maxLen;omega
 case c3=>simp
 intro w1 ho hg
 have hc0:w1.cell? ⟨w.heap.size,0,none⟩=some (.int .i64 a):=hg.cell (by simp) (by simp)
 have hc1:w1.cell? ⟨w.heap.size,1,none⟩=some (.int .i64 b):=hg.cell (by simp) (by simp)
 have hB:Ext w w1:=((Ext.refl _).alloc _).grown hg (by simp)
 clear hg
 go_wp2
 go_loopw [11] (fun i wr=> ∃k:Nat,∃xs:List Value,k≤n∧i=.int .i64 k∧wr.ownsRow w.heap.size 162 2 (.slice (some ⟨w.heap.size+1,0,none⟩) n n) n xs∧xs.take (k*2)=prs (List.replicate k (a,b))∧wr.cell? ⟨w.heap.size,0,none⟩=some (.int .i64 a)∧wr.cell? ⟨w.heap.size,1,none⟩=some (.int .i64 b)∧Ext w wr) (fun i _=>n-(intOf i).toNat)
 case atStart=>exact⟨0,_,Nat.zero_le _,rfl,ho,by simp[prs],hc0,hc1,hB⟩
 case round=>
  obtain⟨k,xs,hk,rfl,ho,hxs,hc0,hc1,hB⟩:=hrel
  have HX:=Lib.hid hxs
  clear hxs
  by_cases hlt:k<n
  ·go_wp2_with (refine wpList_store_own rfl (.tmp 17) (.tmp 16) 162 rfl w.heap.size 162 2 (w.heap.size+1) n n xs (k*2) rfl (.agg #[.int .i64 a,.int .i64 b]) rfl ho size47 ?c1 ?c2 ?_)
   case c1=>simp[Value.cells,Value.oneCell']
   case c2=>simp[Value.cells];omega
   intro w2 ho2 hg2
   have hc0':w2.cell? ⟨w.heap.size,0,none⟩=some (.int .i64 a):=hg2.cell hc0 (by simp)
   have hc1':w2.cell? ⟨w.heap.size,1,none⟩=some (.int .i64 b):=hg2.cell hc1 (by simp)
   have hB':Ext w w2:=hB.grown hg2 (by simp)
   clear hg2 hc0 hc1 hB
   go_wp2
   go_roundw
   case rel=>exact⟨k+1,_,by omega,by go_num,ho2,by simpa using put_pair k n (a,b) xs ho.1 hlt HX.out,hc0',hc1',hB'⟩
   case measure=>simp[intOf];omega
  ·go_wp2
   go_ret
   obtain rfl:k=n:=by omega
   have hx:=HX.out
   rw[List.take_of_length_le (by rw[ho.1];omega)]at hx
   subst hx
   exact⟨_,rfl,ho,hB⟩
end Go.Proofs.YtplljnfjkkloeaaGreatDoor
set_option linter.unusedVariables false
set_option linter.unusedSimpArgs false
namespace Go.Proofs.YtplljnfjkkloeaaGreatDoor
def lk (op:Int):List (Int×List (Int×Int))→Option (List (Int×Int))
 |[]=>none
 |(k,l)::r=>if k=op then some l else lk op r
def stateTab:List (Int×List (Int×Int)):=[(1,List.replicate 2 (1,1024)),(2,List.replicate 4 (0,255)),(14,List.replicate 4 (0,255)),(3,[(0,16777215)]),(4,[(0,3)]),(5,[(-8192,8192),(-8192,8192),(0,4096),(0,4096)]),(6,[(0,1),(-8192,8192),(-8192,8192),(0,8192),(0,8192)]),(8,List.replicate 16 ((-268435456),268435456)),(9,List.replicate 16 ((-268435456),268435456)),(13,[(0,5),(0,1),(-32768,32768),(-32768,32768),(-32768,32768),(-32768,32768)]),(7,[(0,1)]),(15,[(0,1)]),(22,[(0,1)]),(10,[]),(11,[]),(12,[]),(18,[])]
def drawTab:List (Int×List (Int×Int)):=[(16,[(0,9)]),(17,List.replicate 4 ((-1048576),1048576)),(19,[(1,64)]),(20,[(0,1),(1,256),(0,65535)]),(21,[(1,64),(0,2)]),(23,List.replicate 2 (0,2)),(24,[(0,1),(0,3)]),(25,[(0,1),(-65536,65536),(-16777216,16777216)]),(26,[(0,1),(0,7),(0,1)]),(27,[(0,1),(0,7),(0,7)]),(28,List.replicate 4 (0,1)),(29,List.replicate 2 (0,1)),(30,List.replicate 4 ((-9223372036854775808),9223372036854775807)),(31,List.replicate 16 ((-9223372036854775808),9223372036854775807)),(32,[(-9223372036854775808,9223372036854775807)])]
def askT (op:Int):Option (List (Int×Int)):=
 match lk op stateTab with
 |some l=>some l
 |none=>lk op drawTab
def within (p:Int×Int) (x:Int):Bool:=decide (p.1≤x)&&decide (x≤p.2)
def allIn:List (Int×Int)→List Int→Bool
 |p::l,x::r=>within p x&&allIn l r
 |_,_=>true
def rightT (o:Option (List (Int×Int))) (A:List Int):Int:=
 match o with
 |none=>5
 |some l=>if l.length=A.length then(if allIn l A then 0 else 4)else 1
def rowsT:List (List Int):=[[1,2,1,1024],[2,4,0,255],[3,1,0,16777215],[4,1,0,3],[5,2, -8192,8192,2,0,4096],[6,1,0,1,2, -8192,8192,2,0,8192],[7,1,0,1],[8,16, -268435456,268435456],[9,16, -268435456,268435456],[10],[11],[12],[13,1,0,5,1,0,1,4, -32768,32768],[14,4,0,255],[15,1,0,1],[16,1,0,9],[17,4, -1048576,1048576],[18],[19,1,1,64],[20,1,0,1,1,1,256,1,0,65535],[21,1,1,64,1,0,2],[22,1,0,1],[23,2,0,2],[24,1,0,1,1,0,3],[25,1,0,1,1, -65536,65536,1, -16777216,16777216],[26,1,0,1,1,0,7,1,0,1],[27,1,0,1,2,0,7],[28,4,0,1],[29,2,0,1],[30,4, -9223372036854775808,9223372036854775807],[31,16, -9223372036854775808,9223372036854775807],[32,1, -9223372036854775808,9223372036854775807]]
def groups:List Int→List (Int×Int)
 |n::a::b::r=>List.replicate n.toNat (a,b)++groups r
 |_=>[]
def bfind (op:Int):List (List Int)→Option (List (Int×Int))
 |[]=>none
 |r::t=>if r.headD 0=op then some (groups (r.drop 1))else bfind op t
def boundsT (op:Int):Option (List (Int×Int)):=bfind op rowsT
theorem ask_bounds (op:Int):askT op=boundsT op:=by
 by_cases h:1≤op∧op≤32
 ·obtain⟨h1,h2⟩:=h
  have:op=1∨op=2∨op=3∨op=4∨op=5∨op=6∨op=7∨op=8∨op=9∨op=10∨op=11∨op=12∨op=13∨op=14∨op=15∨op=16∨op=17∨op=18∨op=19∨op=20∨op=21∨op=22∨op=23∨op=24∨op=25∨op=26∨op=27∨op=28∨op=29∨op=30∨op=31∨op=32:=by omega
  rcases this with h|h|h|h|h|h|h|h|h|h|h|h|h|h|h|h|h|h|h|h|h|h|h|h|h|h|h|h|h|h|h|h <;>subst h <;>rfl
 ·have hn: ∀k:Int,1≤k→k≤32→ ¬k=op:=fun k h1 h2 e=>h ⟨by omega,by omega⟩
  have e1:lk op stateTab=none:=by simp[lk,stateTab,hn]
  have e2:lk op drawTab=none:=by simp[lk,drawTab,hn]
  have e3:bfind op rowsT=none:=by simp[bfind,rowsT,hn]
  simp[askT,boundsT,e1,e2,e3]
theorem ask_len (op:Int):((askT op).getD []).length≤16:=by
 rw[ask_bounds]
 unfold boundsT
 have: ∀l:List (List Int),(∀r∈l,(groups (r.drop 1)).length≤16)→((bfind op l).getD []).length≤16:=by
  intro l
  induction l with
  |nil=>intro _;simp[bfind]
  |cons r t ih=>
   intro h
   unfold bfind
   split
   ·exact h r (by simp)
   ·exact ih (fun r' hr=>h r' (by simp[hr]))
 exact this _ (by decide)
theorem allIn_all: ∀(l:List (Int×Int)) (A:List Int),l.length=A.length→(∀j,j<A.length→within (l.getD j (0,0)) (A.getD j 0)=true)→allIn l A=true
 |[],[],_,_=>rfl
 |[],_::_,h,_=>by simp at h
 |_::_,[],_,_=>rfl
 |p::l,x::r,h,hj=>by
  have h0:=hj 0 (by simp)
  have ih:=allIn_all l r (by simpa using h) (fun j hjl=>by simpa using hj (j+1) (by simpa using hjl))
  simp only[List.getD_cons_zero]at h0
  simp[allIn,h0,ih]
theorem allIn_bad: ∀(l:List (Int×Int)) (A:List Int) (j:Nat),j<l.length→j<A.length→within (l.getD j (0,0)) (A.getD j 0)=false→allIn l A=false
 |[],_,_,h,_,_=>by simp at h
 |_::_,[],_,_,h,_=>by simp at h
 |p::l,x::r,0,_,_,h=>by simp only[List.getD_cons_zero]at h;simp[allIn,h]
 |p::l,x::r,j+1,h1,h2,h=>by
  have ih:=allIn_bad l r j (by simpa using h1) (by simpa using h2) (by simpa using h)
  simp[allIn,ih]
end Go.Proofs.YtplljnfjkkloeaaGreatDoor
set_option linter.unusedVariables false
set_option linter.unusedSimpArgs false
namespace Go.Proofs.YtplljnfjkkloeaaGreatDoor
abbrev R:=Int×List Int
abbrev G:=Except (Nat×Int) (List R)
def cont (pre:List R):G→G
 |.ok l=>.ok (pre++l)
 |.error e=>.error e
theorem cont_nil (g:G):cont [] g=g:=by cases g <;>rfl
end Go.Proofs.YtplljnfjkkloeaaGreatDoor
set_option linter.unusedVariables false
set_option linter.unusedSimpArgs false
namespace Go.Proofs.YtplljnfjkkloeaaGreatDoor
open Go.RowKit
def RecCells (P:Option Addr→Nat→Nat→List Value→Prop):List Value→List R→Prop
 |[],[]=>True
 |x::y::vs,r::l=>x=.int .i64 r.1∧(∃a c,y=.slice a r.2.length c∧P a r.2.length c (ivs r.2))∧RecCells P vs l
 |_,_=>False
theorem RecCells.mono {P P':Option Addr→Nat→Nat→List Value→Prop} (hP: ∀a n c xs,P a n c xs→P' a n c xs): ∀{vs:List Value} {l:List R},RecCells P vs l→RecCells P' vs l
 |[],[],_=>trivial
 |x::y::vs,r::l,⟨h1,⟨a,c,h2,h3⟩,h4⟩=>⟨h1,⟨a,c,h2,hP _ _ _ _ h3⟩,h4.mono hP⟩
 |[],_::_,h=>h.elim
 |[_],[],h=>h.elim
 |[_],_::_,h=>h.elim
 |_::_::_,[],h=>h.elim
theorem RecCells.snoc {P:Option Addr→Nat→Nat→List Value→Prop}: ∀{vs:List Value} {l:List R},RecCells P vs l→ ∀(op:Int) (A:List Int) (a:Option Addr) (c:Nat),P a A.length c (ivs A)→
  RecCells P (vs++[.int .i64 op,.slice a A.length c]) (l++[(op,A)])
 |[],[],_,op,A,a,c,h=>⟨rfl,⟨a,c,rfl,h⟩,trivial⟩
 |x::y::vs,r::l,⟨h1,h2,h3⟩,op,A,a,c,h=>⟨h1,h2,h3.snoc op A a c h⟩
 |[],_::_,h,_,_,_,_,_=>h.elim
 |[_],[],h,_,_,_,_,_=>h.elim
 |[_],_::_,h,_,_,_,_,_=>h.elim
 |_::_::_,[],h,_,_,_,_,_=>h.elim
theorem RecCells.length {P:Option Addr→Nat→Nat→List Value→Prop}: ∀{vs:List Value} {l:List R},RecCells P vs l→vs.length=l.length*2
 |[],[],_=>rfl
 |x::y::vs,r::l,⟨_,_,h⟩=>by simp[h.length];omega
 |[],_::_,h=>h.elim
 |[_],[],h=>h.elim
 |[_],_::_,h=>h.elim
 |_::_::_,[],h=>h.elim
theorem RecCells.get {P:Option Addr→Nat→Nat→List Value→Prop}: ∀{vs:List Value} {l:List R},RecCells P vs l→ ∀j,j<l.length→
  vs[j*2]? =some (.int .i64 (l.getD j (0,[])).1)∧ ∃a c,vs[j*2+1]? =some (.slice a (l.getD j (0,[])).2.length c)∧P a (l.getD j (0,[])).2.length c (ivs (l.getD j (0,[])).2)
 |[],[],_,j,hj=>by simp at hj
 |x::y::vs,r::l,⟨h1,⟨a,c,h2,h3⟩,h4⟩,0,_=>by subst h1;subst h2;exact⟨rfl,a,c,rfl,h3⟩
 |x::y::vs,r::l,⟨h1,h2,h4⟩,j+1,hj=>by
  have:=h4.get j (by simpa using hj)
  have e:(j+1)*2=j*2+1+1:=by omega
  rw[e]
  simpa using this
 |[],_::_,h,_,_=>h.elim
 |[_],[],h,_,_=>h.elim
 |[_],_::_,h,_,_=>h.elim
 |_::_::_,[],h,_,_=>h.elim
theorem rec_one (op:Int) (a:Option Addr) (n c:Nat): ∀u∈[Value.int .i64 op,.slice a n c],u.oneCell'=true:=by simp[Value.oneCell']
theorem RecCells.one {P:Option Addr→Nat→Nat→List Value→Prop}: ∀{vs:List Value} {l:List R},RecCells P vs l→ ∀u∈vs,u.oneCell'=true
 |[],[],_,u,hu=>by cases hu
 |x::y::vs,r::l,⟨h1,⟨a,c,h2,_⟩,h3⟩,u,hu=>by
  subst h1;subst h2
  simp only[List.mem_cons]at hu
  rcases hu with rfl|rfl|hu
  ·rfl
  ·rfl
  ·exact h3.one u hu
 |[],_::_,h,_,_=>h.elim
 |[_],[],h,_,_=>h.elim
 |[_],_::_,h,_,_=>h.elim
 |_::_::_,[],h,_,_=>h.elim
theorem RecCells.append {P:Option Addr→Nat→Nat→List Value→Prop}: ∀{vs vs':List Value} {l l':List R},RecCells P vs l→RecCells P vs' l'→RecCells P (vs++vs') (l++l')
 |[],_,[],_,_,h=>h
 |x::y::vs,_,r::l,_,⟨h1,h2,h3⟩,h=>⟨h1,h2,h3.append h⟩
 |[],_,_::_,_,h,_=>h.elim
 |[_],_,[],_,h,_=>h.elim
 |[_],_,_::_,_,h,_=>h.elim
 |_::_::_,_,[],_,h,_=>h.elim
def Glob (w:World):Prop:=w.cell? ⟨1,0,none⟩=some (.int .i64 0)∧w.cell? ⟨1,1,none⟩=some (.int .i64 255)∧w.cell? ⟨2,0,none⟩=some (.int .i64 0)∧w.cell? ⟨2,1,none⟩=some (.int .i64 1)
theorem Glob.ext {w w':World} (h:Glob w) (e:Ext w w'):Glob w':=⟨e.cell_some h.1,e.cell_some h.2.1,e.cell_some h.2.2.1,e.cell_some h.2.2.2⟩
end Go.Proofs.YtplljnfjkkloeaaGreatDoor
