/- General laws of my own, over any program: worlds that come later ('Later'), regions that draw their order and hold calls that only make memory,
   stores, loads and appends on rows that the call owns. No condition. -/
import Derived.WalkKit
import Derived.WalkSpells
import Derived.WalkLawsBesides
import Derived.Deep.QuietTactic
import Derived.BigQuiet
import Derived.StillTail
import Derived.Lib.Hide
import Derived.Outline
set_option linter.unusedVariables false
set_option linter.unusedSimpArgs false
namespace Go.Proofs.YtplljnfjkkloeaaGreatDoor
open Go.RowKit
def Ext (w w':World):Prop:=Below w.heap.size w w'
theorem Ext.refl (w:World):Ext w w:=Below.refl _ _
theorem Ext.size {w w':World} (h:Ext w w'):w.heap.size≤w'.heap.size:=Below.size h
theorem Ext.trans {a b c:World} (h:Ext a b) (k:Ext b c):Ext a c:=Below.trans h (Below.mono k h.size)
theorem Ext.alloc {w W:World} (h:Ext w W) (o:Obj):Ext w (W.alloc o):=Below.alloc h (Ext.size h) o
theorem Ext.drew {w W:World} (h:Ext w W):Ext w W.drew:=Below.drew h
theorem Ext.setCell {w W:World} (h:Ext w W) {p:Addr} (u:Value) (hp:w.heap.size≤p.block):Ext w (W.setCell p u):=Below.setCell h hp u
theorem Ext.grown {w W W':World} {row:Option Nat} (h:Ext w W) (hg:W.grownBy W' row) (hr: ∀k,row=some k→w.heap.size≤k):Ext w W':=Below.grown h hg (Ext.size h) hr
theorem Ext.cell {w W:World} (h:Ext w W) {p:Addr} (hp:p.block<w.heap.size):W.cell? p=w.cell? p:=Below.cell h hp
theorem Ext.cell_some {w W:World} (h:Ext w W) {p:Addr} {v:Value} (hv:w.cell? p=some v):W.cell? p=some v:=
 (Ext.cell h (World.block_lt_of_cell? w p hv)).trans hv
theorem Ext.block {w W:World} (h:Ext w W) {k:Nat} (hk:k<w.heap.size):W.heap[k]? =w.heap[k]? :=Below.block h k hk
def Later (W:World):Type:={w':World // Ext W w'}
instance laterNonempty (W:World):Nonempty (Later W):=⟨⟨W,Ext.refl W⟩⟩
def Later.w {W:World} (x:Later W):World:=x.1
theorem Later.ext {W:World} (x:Later W):Ext W x.w:=x.2
theorem Later.mk' {W w':World} (h:Ext W w'): ∃x:Later W,w'=x.w:=⟨⟨w',h⟩,rfl⟩
theorem Later.le {W:World} (x:Later W):W.heap.size≤x.w.heap.size:=x.ext.size
theorem Ext.later {w W:World} (h:Ext w W) (x:Later W):Ext w x.w:=h.trans x.ext
theorem block_lt_of_isSome {W:World} {p:Addr} (h:(W.cell? p).isSome=true):p.block<W.heap.size:=by
 obtain⟨v,hv⟩:=Option.isSome_iff_exists.1 h
 exact World.block_lt_of_cell? W p hv
theorem Later.cell {W:World} (x:Later W) (b o:Nat) (h:(W.cell? ⟨b,o,none⟩).isSome=true):x.w.cell? ⟨b,o,none⟩=W.cell? ⟨b,o,none⟩:=
 x.ext.cell (block_lt_of_isSome h)
theorem Later.frozen {W:World} (x:Later W) (b o:Nat) (h:(W.cell? ⟨b,o,none⟩).isSome=true):x.w.frozen? ⟨b,o,none⟩=W.frozen? ⟨b,o,none⟩:=
 Below.frozen x.ext (block_lt_of_isSome h)
theorem alloc_cell {W:World} (O:Obj) (b o:Nat) (h:(W.cell? ⟨b,o,none⟩).isSome=true):(W.alloc O).cell? ⟨b,o,none⟩=W.cell? ⟨b,o,none⟩:=
 World.cell?_alloc_past O b o (block_lt_of_isSome h)
theorem alloc_frozen {W:World} (O:Obj) (b o:Nat) (h:(W.cell? ⟨b,o,none⟩).isSome=true):(W.alloc O).frozen? ⟨b,o,none⟩=W.frozen? ⟨b,o,none⟩:=
 World.frozen?_alloc_past O b o (block_lt_of_isSome h)
theorem later_cell {W:World} (x:Later W) (b o:Nat) {v:Value} (h:W.cell? ⟨b,o,none⟩=some v):x.w.cell? ⟨b,o,none⟩=some v:=
 (x.cell b o (by rw[h];rfl)).trans h
theorem later_free {W:World} (x:Later W) (b o:Nat) {v:Value} (h:W.cell? ⟨b,o,none⟩=some v) (f:W.frozen? ⟨b,o,none⟩=false):x.w.frozen? ⟨b,o,none⟩=false:=
 (x.frozen b o (by rw[h];rfl)).trans f
def Cel (W:World) (b o:Nat) (v:Value):Prop:=W.cell? ⟨b,o,none⟩=some v∧W.frozen? ⟨b,o,none⟩=false
theorem later_cel {W:World} (x:Later W) (b o:Nat) {v:Value} (h:Cel W b o v):x.w.cell? ⟨b,o,none⟩=some v∧x.w.frozen? ⟨b,o,none⟩=false:=
 ⟨later_cell x b o h.1,later_free x b o h.1 h.2⟩
attribute [go_sem] Later.cell Later.frozen alloc_cell alloc_frozen
theorem Calls.later {P:Program} {f:FuncId} {args:Array Value} {W:World} {v:Value} (x:Later W)
  (h:Calls P f args x.w fun e w'=>e=.returned v∧Ext x.w w'):Calls P f args x.w fun e w''=>e=.returned v∧ ∃y:Later W,w''=y.w:=
 h.mono fun _ _ ⟨he,hw⟩=>⟨he,Later.mk' (x.ext.trans hw)⟩
section
variable {P:Program} {ops:Array Oper} {md:Region.Mode} {C:World→Prop}
def anyTo (P:Program) (md:Region.Mode) (ops:Array Oper) (C:World→Prop) (n:Nat) (L:Array Bool→Act→Prop):Nat→Array Bool→Act→Prop
 |0,listed,a=>L listed a
 |f+1,listed,a=>Region.ready md ops listed≠[]∧ ∀i∈Region.ready md ops listed,i<n∧qOp P ops C i (anyTo P md ops C n L f (listed.setIfInBounds i true)) a
theorem any_of_to {n g:Nat} {L:Array Bool→Act→Prop} {Q':Exit→Act→World→Prop} (hL: ∀listed a w,C w→L listed a→wpAny P md ops Q' g listed a w):
  ∀(f:Nat) (listed:Array Bool) (a:Act) (w:World),C w→anyTo P md ops C n L f listed a→wpAny P md ops Q' (f+g) listed a w
 |0,listed,a,w,hC,h=>by rw[Nat.zero_add];exact hL _ _ _ hC h
 |f+1,listed,a,w,hC,h=>by
  rw[show f+1+g=(f+g)+1 by omega]
  exact⟨fun h0=>absurd h0 h.1,fun i hi=>wpOp_of_qOp hC (fun a' w' hC' h'=>any_of_to hL f _ a' w' hC' h') (h.2 i hi).2⟩
theorem anyTo_first {n i:Nat} {oi:Oper} {v:Value} {L:Array Bool→Act→Prop} (hi:ops[i]? =some oi) (hsel: ∀(j:Nat) (o:Oper) cs b,ops[j]? =some o→o.op≠.select cs b)
  (hs:Region.sinkB md ops n=true)(hc:Region.chainB md ops n=true)(hn:n<ops.size)(hin:i<n)(hdone: ∀listed a,L listed a→ ∀j∈Region.ready md ops listed,n≤j):
  ∀(f:Nat) (listed:Array Bool) (a:Act),HeadInv md ops n listed→
   (∀j oj,ops[j]? =some oj→j≠i→listed.getD j true=false→(∀e∈oj.after,Region.binds md e=true→e.on≠i)→oi.apart ops oj=true)→
   i∈Region.ready md ops listed→YieldsIn P ops C oi v a→
   anyTo P md ops C n L f (listed.setIfInBounds i true) (a.put oi.dst v)→anyTo P md ops C n L (f+1) listed a
 |f,listed,a,inv,hfree,hr,hy,H=>by
  have hun:=(mem_ready.1 hr).1
  refine⟨fun h=>(by rw[h]at hr;cases hr),fun j hj=>?_⟩
  have hjn:j<n:=by
   rcases Nat.lt_or_ge j n with h|h
   ·exact h
   ·exact absurd hj (tail_waits hs hc hn inv _ i rfl hin hun j h)
  refine⟨hjn,?_⟩
  by_cases hji:j=i
  ·subst hji;exact hy.qOp hi H
  ·match f,H with
   |0,H=>have:=hdone _ _ H j (ready_mono hj hji);omega
   |f+1,H=>
    have h1:=(H.2 j (ready_mono hj hji)).2
    obtain⟨hjun,oj,hoj,hall⟩:=mem_ready.1 hj
    have hnot: ∀e∈oj.after,Region.binds md e=true→e.on≠i:=fun e he hb heq=>by
     have h1:=hall e he hb
     rw[heq,getD_both hun]at h1
     cases h1
    have h2:=qOp_put hoj (hfree j oj hoj hji hjun hnot) (fun cs b=>hsel i oi cs b hi) (fun cs b=>hsel j oj cs b hoj) hy h1
    have hfree': ∀k ok,ops[k]? =some ok→k≠i→(listed.setIfInBounds j true).getD k true=false→
      (∀e∈ok.after,Region.binds md e=true→e.on≠i)→oi.apart ops ok=true:=fun k ok hk hki hund hno=>by
     refine hfree k ok hk hki ?_ hno
     by_cases hjk:j=k
     ·subst hjk;exact hjun
     ·rw[getD_set_ne true hjk]at hund;exact hund
    refine qOp_mono (fun a' h3=>anyTo_first hi hsel hs hc hn hin hdone f (listed.setIfInBounds j true) a' (inv.set hj hjn) hfree' (ready_mono hr (Ne.symm hji)) h3.1 ?_) h2
    rw[Array.setIfInBounds_comm _ _ hji]
    exact h3.2
theorem anyTo_lex {n g:Nat} {Lq:Act→Prop} (hsel:Region.noSelect ops=true) (hs:Region.sinkB md ops n=true) (hc:Region.chainB md ops n=true) (hn:n<ops.size):
  ∀(l:List Oper) (k:Nat) (listed:Array Bool) (a:Act),(∀j,j<l.length→l[j]? =ops[k+j]?)→k+l.length=n→HeadInv md ops n listed→
  Region.lexHead md ops g l.length k listed=true→wpQuiet P ops C Lq l a→
  anyTo P md ops C n (fun listed' a'=>Region.seqB md ops g n listed'=true∧Lq a') l.length listed a
 |[],k,listed,a,_,hk,_,hB,h=>by
  obtain rfl:k=n:=by simpa using hk
  exact⟨by simpa[Region.lexHead]using hB,h⟩
 |o::l,k,listed,a,hl,hk,inv,hB,h=>by
  have h0:ops[k]? =some o:=by simpa using(hl 0 (by simp)).symm
  simp only[List.length_cons,Region.lexHead,Bool.and_eq_true]at hB
  have hkn:k<n:=by simp only[List.length_cons]at hk;omega
  have hr':k∈Region.ready md ops listed:=by simpa using hB.1.1
  have hst:qOp P ops C k (wpQuiet P ops C Lq l) a:=by unfold qOp;simp only[h0];exact h
  obtain⟨v,hy,hK⟩:=yieldsIn_of_qOp h0 hst
  exact anyTo_first h0 (Region.noSelect_spec hsel) hs hc hn hkn (fun listed' a' hL=>seqB_ready hL.1) l.length listed a inv (Region.free_spec h0 hB.1.2) hr' hy
   (anyTo_lex hsel hs hc hn l (k+1) _ _ (fun j hj=>by have:=hl (j+1) (by simp;omega);simpa[Nat.add_assoc,Nat.add_comm 1 j]using this) (by simp only[List.length_cons]at hk;omega) (inv.set hr' hkn) hB.2 hK)
theorem wp_region_later_tail {id:Nat} {Q:Exit→Act→World→Prop} {a:Act} {w:World} {l:List Oper} (n:Nat) (hm:P.follows .mixedOrders=true) (hB:Region.lexTailB .any l.toArray n=true)
  (h:wpQuiet P l.toArray (fun w'=> ∃x:Later w,w'=x.w) (fun a'=> ∀x:Later w,wpList P l.toArray Q (l.drop n) a' x.w) (l.take n) a):(Code.region id l.toArray true).wp P Q a w:=by
 simp only[Region.lexTailB,Bool.and_eq_true,decide_eq_true_eq]at hB
 obtain⟨⟨⟨⟨hsel,hn⟩,hs⟩,hc⟩,hlex⟩:=hB
 have hn':n<l.length:=by simpa using hn
 have htl:(l.take n).length=n:=by simp;omega
 have hdl:(l.drop n).length=l.toArray.size-n:=by simp
 have inv0:HeadInv .any l.toArray n (Array.replicate l.toArray.size false):=
  ⟨by simp,fun j oj _ hl=>(by rw[getD_replicate_false]at hl;cases hl),fun t _ ht=>getD_in (by simpa using ht) (getD_replicate_false _ _)⟩
 have H:=anyTo_lex (md:=.any) (g:=l.toArray.size-n) hsel hs hc hn (l.take n) 0 _ a (fun j hj=>by
  have hj':j<n:=by rw[htl]at hj;exact hj
  simp[hj']) (by simpa using htl) inv0 (by rw[htl];exact hlex) h
 refine wp_region_any hm ?_
 have:=any_of_to (Q':=Q) (g:=l.toArray.size-n) (fun listed a' w' hC hL=>by
  obtain⟨x,rfl⟩:=hC
  have:=wpAny_of_seq (md:=.any) (Q':=Q) (l.drop n) n listed a' x.w (fun j=>by simp[List.getElem?_drop]) (by rw[hdl];exact hL.1) (hL.2 x)
  rwa[hdl]at this) _ _ _ {w with drawn:=w.drawn+1} (Later.mk' (Ext.drew (Ext.refl w))) H
 rw[htl,show n+(l.toArray.size-n)=l.toArray.size by omega]at this
 exact this
theorem wp_region_later {id:Nat} {Q:Exit→Act→World→Prop} {a:Act} {w:World} {l:List Oper} (hm:P.follows .mixedOrders=true) (hB:Region.lexB .any l.toArray=true)
  (h:wpQuiet P l.toArray (fun w'=> ∃x:Later w,w'=x.w) (fun a'=> ∀x:Later w,Q .normal a' x.w) l a):(Code.region id l.toArray true).wp P Q a w:=
 wp_region_quiet (C:=fun w'=> ∃x:Later w,w'=x.w) hm hB (Later.mk' (Ext.drew (Ext.refl w))) (by
  have e:(fun a'=> ∀w',(∃x:Later w,w'=x.w)→Q .normal a' w')=(fun a'=> ∀x:Later w,Q .normal a' x.w):=by
   funext a'
   exact propext ⟨fun h x=>h _ ⟨x,rfl⟩,fun h w' ⟨x,hx⟩=>hx▸h x⟩
  rw[e]
  simpa using h)
end
theorem wpList_store_own {P:Program} {w:World} {ops:Array Oper} {rest:List Oper} {o:Oper} {a:Act} {Q:Exit→Act→World→Prop} (hgd:o.guard=none) (x y:Operand) (t:TypeId)
  (ho:o.op=.store t x y)(base:Nat)(e:TypeId)(size:Nat)(g n cap:Nat)(xs:List Value)(off:Nat)(hx:a.eval x=.pointer (some ⟨g,off,none⟩))(v:Value)(hy:a.eval y=v)
  (hown:w.ownsRow base e size (.slice (some ⟨g,0,none⟩) n cap) n xs)(hsz:(P.info? t).map (·.size)=some v.cells.size)(h1: ∀u∈v.cells.toList,u.oneCell'=true)(hfit:off+v.cells.size≤n*size)
  (hK: ∀w',w'.ownsRow base e size (.slice (some ⟨g,0,none⟩) n cap) n (xs.take off++v.cells.toList++xs.drop (off+v.cells.size))→w.grownBy w' (some g)→wpList P ops Q rest (a.put o.dst undef) w'):wpList P ops Q (o::rest) a w:=by
 refine wpList_plain hgd fun K hK'=>?_
 obtain⟨hlen,hr⟩:=hown
 rcases hr with⟨h',_⟩|⟨g',cap',cur,h',hb,hg,hnc,hcm,hcs,htake⟩
 ·simp at h'
 ·simp only[Value.slice.injEq,Option.some.injEq,Addr.mk.injEq,and_true,true_and]at h'
  obtain⟨rfl,rfl⟩:=h'
  have hle:n*size≤cap*size:=Nat.mul_le_mul_right _ hnc
  have hst:=run_storeCells_at P g off e v.cells.toList 0 cur w hg (by simp;omega) h1
  cases hq:P.info? t with
  |none=>simp[hq]at hsz
  |some i=>
   have hsi:i.size=v.cells.size:=by simpa[hq]using hsz
   have hso:(storeVar t ⟨g,off,none⟩ v).run P w=.ok () (w.setRow g (cur.toList.take off++v.cells.toList++cur.toList.drop (off+v.cells.size)).toArray):=by
    simp only[Nat.add_zero,Array.length_toList]at hst
    simp[storeVar,sizeOf,typeInfo,hq,hsi,hst]
   unfold Oper.wp execOp
   simp only[ho,hx,hy,Instr.storeAt,Instr.sureAddr,Sem.run_bind,Sem.run_pure,Result.andThen_ok,hso]
   refine hK' _ _ (hK _ ⟨?_,.inr ⟨g,cap,_,rfl,hb,setRow_heap w g cur _ e _ hg,hnc,hcm,?_,?_⟩⟩ ⟨rfl,rfl,rfl,by simp,fun k _ hk=>setRow_other w g k _ (fun e=>hk (by simp[e]))⟩)
   ·simp only[List.length_append,List.length_take,List.length_drop,hlen,Array.length_toList];omega
   ·simp only[List.size_toArray,List.length_append,List.length_take,List.length_drop,Array.length_toList];omega
   ·rw[←htake]
    apply List.ext_getElem?
    intro j
    simp only[List.getElem?_take,List.getElem?_append,List.length_take,List.length_append,Array.length_toList,List.getElem?_drop]
    by_cases hj:j<n*size
    ·simp only[hj,if_true]
     have e1:min off cur.size=off:=by omega
     have e2:min off (min (n*size) cur.size)=off:=by omega
     simp only[e1,e2]
     by_cases hj1:j<off+v.cells.size
     ·simp only[hj1,if_true]
     ·simp only[hj1,if_false]
      have:off+v.cells.size+(j-(off+v.cells.size))=j:=by omega
      simp[this,hj]
    ·simp only[hj,if_false]
     symm
     have e2:min off (min (n*size) cur.size)=off:=by omega
     rw[if_neg (by rw[e2];omega)]
     rw[if_neg (by rw[e2];omega)]
theorem wpList_append_src {P:Program} {w:World} {ops:Array Oper} {rest:List Oper} {o:Oper} {a:Act} {Q:Exit→Act→World→Prop} (hgd:o.guard=none) (s x:Operand) (t:TypeId)
  (ho:o.op=.call {callee:=.builtin .append,args:= #[s,x],argTypes:= #[t,t]})(base:Nat)(e:TypeId)(z:Value)(size bytes:Nat)(ht:P.underlying t=some (.slice e))
  (hi:(P.info? e).map (fun i=>(i.zero,i.size,i.bytes))=some (some z,size,bytes))(hzs:z.cells.size=size)(hsz:0<size)
  (v:Value)(n:Nat)(xs:List Value)(hs:a.eval s=v)(hown:w.ownsRow base e size v n xs)(ad:Addr)(m c:Nat)(news:List Value)(hx:a.eval x=.slice (some ad) m c)
  (hl:news.length=m*size)(hnews: ∀j u,news[j]? =some u→w.cell? (ad.add j)=some u)(h1: ∀u∈news,u.oneCell'=true)(hbytes:(n+m)*bytes≤140737488355328)(hpos:0<bytes)(hbase:base≤w.heap.size)
  (h: ∀v' w',w'.ownsRow base e size v' (n+m) (xs++news)→w.grownBy w' v.ownBlock→(v'=.slice none 0 0↔v=.slice none 0 0∧m=0)→wpList P ops Q rest (a.put o.dst v') w'):wpList P ops Q (o::rest) a w:=by
 obtain⟨i0,hi,hz,hs1,hb1⟩:=info_parts hi
 have hnm:n+m≤(n+m)*bytes:=Nat.le_mul_of_pos_right _ hpos
 exact wpList_append_own w hgd s x t ho base e i0 z size bytes ht hi hz hs1 hb1 hzs hsz v n xs hs hown ad m c news hx hl hnews h1 (by unfold maxLen;omega) hbytes hbase h
theorem step_append_src {P:Program} {w:World} {ops:Array Oper} {o:Oper} {a:Act} {K:Act→World→Prop} {Q:Exit→Act→World→Prop} {E:Prop} (hgd:o.guard=none) (s x:Operand) (t:TypeId)
  (ho:o.op=.call {callee:=.builtin .append,args:= #[s,x],argTypes:= #[t,t]})(base:Nat)(e:TypeId)(z:Value)(size bytes:Nat)(ht:P.underlying t=some (.slice e))
  (hi:(P.info? e).map (fun i=>(i.zero,i.size,i.bytes))=some (some z,size,bytes))(hzs:z.cells.size=size)(hsz:0<size)
  (v:Value)(n:Nat)(xs:List Value)(hs:a.eval s=v)(hown:w.ownsRow base e size v n xs)(ad:Addr)(m c:Nat)(news:List Value)(hx:a.eval x=.slice (some ad) m c)
  (hl:news.length=m*size)(hnews: ∀j u,news[j]? =some u→w.cell? (ad.add j)=some u)(h1: ∀u∈news,u.oneCell'=true)(hbytes:(n+m)*bytes≤140737488355328)(hpos:0<bytes)(hbase:base≤w.heap.size)
  (h: ∀v' w',w'.ownsRow base e size v' (n+m) (xs++news)→w.grownBy w' v.ownBlock→(v'=.slice none 0 0↔v=.slice none 0 0∧m=0)→K (a.put o.dst v') w'):
  if Region.wanted o (yielded ops a.tmps)=true then Oper.wp P o a w K Q else E:=by
 have hw:Region.wanted o (yielded ops a.tmps)=true:=by simp[Region.wanted,hgd]
 rw[if_pos hw]
 obtain⟨i0,hi,hz,hs1,hb1⟩:=info_parts hi
 have hnm:n+m≤(n+m)*bytes:=Nat.le_mul_of_pos_right _ hpos
 exact wp_append_own w s x t ho base e i0 z size bytes ht hi hz hs1 hb1 hzs hsz v n xs hs hown ad m c news hx hl hnews h1 (by unfold maxLen;omega) hbytes hbase h
theorem ownsRow_ext {w w':World} {base:Nat} {e:TypeId} {size:Nat} {v:Value} {n:Nat} {xs:List Value} (h:w.ownsRow base e size v n xs) (x:Ext w w'):w'.ownsRow base e size v n xs:=
 h.kept (row:=none) ⟨x.os,x.tape,x.output,x.size,fun k hk _=>x.block hk⟩ (by cases hv:v.ownBlock <;>simp)
structure Rd (w:World) (size:Nat) (a:Option Addr) (n cap:Nat) (xs:List Value):Prop where
 len:xs.length=n*size
 le:n≤cap
 mx:cap≤maxLen
 at_:0<n→ ∃b off,a=some ⟨b,off,none⟩∧b<w.heap.size∧ ∀j,j<n*size→w.cell? ⟨b,off+j,none⟩=xs[j]?
theorem Rd.ext {w w':World} {size:Nat} {a:Option Addr} {n cap:Nat} {xs:List Value} (h:Rd w size a n cap xs) (e:Ext w w'):Rd w' size a n cap xs:=
 ⟨h.len,h.le,h.mx,fun h0=>let⟨b,off,ha,hb,hc⟩:=h.at_ h0;⟨b,off,ha,Nat.lt_of_lt_of_le hb e.size,fun j hj=>(e.cell (p:=⟨b,off+j,none⟩) hb).trans (hc j hj)⟩⟩
theorem ownsRow_rd {w:World} {base:Nat} {e:TypeId} {size:Nat} {v:Value} {n:Nat} {xs:List Value} (h:w.ownsRow base e size v n xs): ∃a cap,v=.slice a n cap∧Rd w size a n cap xs:=by
 obtain⟨hl,hr⟩:=h
 rcases hr with⟨rfl,rfl⟩|⟨g,cap,cur,rfl,hb,hg,hnc,hcm,hcs,ht⟩
 ·exact⟨none,0,rfl,hl,Nat.le_refl _,by unfold maxLen;omega,fun h=>by omega⟩
 ·refine⟨some ⟨g,0,none⟩,cap,rfl,hl,hnc,hcm,fun _=>⟨g,0,rfl,(Array.getElem?_eq_some_iff.1 hg).1,fun j hj=>?_⟩⟩
  rw[Nat.zero_add,cell_of_row w g j cur e (0,0) hg,←ht,List.getElem?_take,if_pos hj]
  simp
theorem Rd.nat_le {w:World} {size:Nat} {a:Option Addr} {n cap:Nat} {xs:List Value} (h:Rd w size a n cap xs):(n:Int)≤9223372036854775807:=by
 have h1:=h.le
 have h2:=h.mx
 unfold maxLen at h2
 omega
theorem ownsRow_base {w:World} {base base':Nat} {e:TypeId} {size:Nat} {v:Value} {n:Nat} {xs:List Value} (h:w.ownsRow base e size v n xs) (hb:base'≤base):w.ownsRow base' e size v n xs:=
 ⟨h.1,h.2.imp id fun⟨g,cap,cur,a,b,c⟩=>⟨g,cap,cur,a,Nat.le_trans hb b,c⟩⟩
theorem news_at (w:World) (cs:List Value) (e:TypeId): ∀j u,cs[j]? =some u→(w.alloc (.cells cs.toArray e)).cell? ((⟨w.heap.size,0,none⟩:Addr).add j)=some u:=by
 intro j u hu
 have hadd:(⟨w.heap.size,0,none⟩:Addr).add j=⟨w.heap.size,j,none⟩:=by unfold Addr.add;split <;>simp_all
 rw[hadd,cell_of_row _ _ _ _ _ _ (heap_alloc_new w _)]
 simpa using hu
theorem Ext.drewN {w W:World} (h:Ext w W) (n:Nat):Ext w (W.drewN n):=h.trans ⟨rfl,rfl,rfl,by simp,fun _ _=>rfl⟩
theorem Rd.get {w:World} {size:Nat} {a:Option Addr} {n cap:Nat} {xs:List Value} (h:Rd w size a n cap xs) {b off:Nat} (ha:a=some ⟨b,off,none⟩) {j:Nat} {u:Value} (hu:xs[j]? =some u):w.cell? ⟨b,off+j,none⟩=some u:=by
 have hj:j<xs.length:=(List.getElem?_eq_some_iff.1 hu).1
 rw[h.len]at hj
 have hn:0<n:=by
  rcases Nat.eq_zero_or_pos n with h0|h0
  ·subst h0;simp at hj
  ·exact h0
 obtain⟨b',off',ha',_,hc⟩:=h.at_ hn
 rw[ha]at ha'
 simp at ha'
 obtain⟨rfl,rfl⟩:=ha'
 exact(hc j hj).trans hu
theorem Rd.news {w:World} {size:Nat} {ad:Addr} {n cap:Nat} {xs:List Value} (h:Rd w size (some ad) n cap xs): ∀j u,xs[j]? =some u→w.cell? (ad.add j)=some u:=by
 intro j u hu
 have hj:j<xs.length:=(List.getElem?_eq_some_iff.1 hu).1
 rw[h.len]at hj
 have hn:0<n:=by
  rcases Nat.eq_zero_or_pos n with h0|h0
  ·subst h0;simp at hj
  ·exact h0
 obtain⟨b,off,ha,_,hc⟩:=h.at_ hn
 obtain rfl:=Option.some.inj ha
 have hadd:(⟨b,off,none⟩:Addr).add j=⟨b,off+j,none⟩:=by unfold Addr.add;split <;>simp_all
 rw[hadd]
 exact(hc j hj).trans hu
def RdT (w:World) (t:TypeId) (size:Nat) (a:Option Addr) (n cap:Nat) (xs:List Value):Prop:=
 Rd w size a n cap xs∧(0<n→ ∀ad,a=some ad→ ∃cur fr,w.heap[ad.block]? =some (.cells cur t fr))
theorem RdT.ext {w w':World} {t:TypeId} {size:Nat} {a:Option Addr} {n cap:Nat} {xs:List Value} (h:RdT w t size a n cap xs) (e:Ext w w'):RdT w' t size a n cap xs:=
 ⟨h.1.ext e,fun hn ad ha=>by
  obtain⟨cur,fr,hb⟩:=h.2 hn ad ha
  exact⟨cur,fr,by rw[e.block (Array.getElem?_eq_some_iff.1 hb).1];exact hb⟩⟩
theorem ownsRow_block {w:World} {base:Nat} {e:TypeId} {size:Nat} {v:Value} {n:Nat} {xs:List Value} (h:w.ownsRow base e size v n xs) {g:Nat} (hg:v.ownBlock=some g): ∃cur,w.heap[g]? =some (.cells cur e (0,0)):=by
 rcases h.2 with⟨rfl,_⟩|⟨g',cap,cur,rfl,_,hh,_⟩
 ·simp[Value.ownBlock]at hg
 ·simp[Value.ownBlock]at hg
  subst hg
  exact⟨cur,hh⟩
theorem RdT.grown {w w':World} {t:TypeId} {size:Nat} {a:Option Addr} {n cap:Nat} {xs:List Value} (h:RdT w t size a n cap xs) {base:Nat} {e:TypeId} {size':Nat} {v:Value} {m:Nat} {ys:List Value}
  (ho:w.ownsRow base e size' v m ys)(hg:w.grownBy w' v.ownBlock)(hne:e≠t):RdT w' t size a n cap xs:=by
 have key: ∀ad,0<n→a=some ad→w'.heap[ad.block]? =w.heap[ad.block]? ∧ad.block<w.heap.size:=by
  intro ad hn ha
  obtain⟨cur,fr,hb⟩:=h.2 hn ad ha
  have hlt:=(Array.getElem?_eq_some_iff.1 hb).1
  refine⟨hg.block _ hlt (fun hc=>?_),hlt⟩
  obtain⟨cur',hb'⟩:=ownsRow_block ho hc.symm
  rw[hb]at hb'
  simp at hb'
  exact hne hb'.2.1.symm
 refine⟨⟨h.1.len,h.1.le,h.1.mx,fun hn=>?_⟩,fun hn ad ha=>?_⟩
 ·obtain⟨b,off,ha,hb,hc⟩:=h.1.at_ hn
  obtain⟨k1,k2⟩:=key ⟨b,off,none⟩ hn ha
  exact⟨b,off,ha,Nat.lt_of_lt_of_le hb hg.size,fun j hj=>(World.cell?_of_block (w:=w) (a:=⟨b,off+j,none⟩) k1).trans (hc j hj)⟩
 ·obtain⟨cur,fr,hb⟩:=h.2 hn ad ha
  exact⟨cur,fr,by rw[(key ad hn ha).1];exact hb⟩
theorem ownsRow_rdT {w:World} {base:Nat} {e:TypeId} {size:Nat} {v:Value} {n:Nat} {xs:List Value} (h:w.ownsRow base e size v n xs): ∃a cap,v=.slice a n cap∧RdT w e size a n cap xs:=by
 obtain⟨a,cap,rfl,hr⟩:=ownsRow_rd h
 refine⟨a,cap,rfl,hr,fun hn ad ha=>?_⟩
 subst ha
 obtain⟨cur,hb⟩:=ownsRow_block h (g:=ad.block) (by simp[Value.ownBlock])
 exact⟨cur,_,hb⟩
theorem RdT.sub {w:World} {t:TypeId} {size:Nat} {b off:Nat} {n cap:Nat} {xs:List Value} (h:RdT w t size (some ⟨b,off,none⟩) n cap xs) (lo m cap':Nat) (hm:lo+m≤n) (hc:m≤cap') (hx:cap'≤maxLen):
  RdT w t size (some ⟨b,off+lo*size,none⟩) m cap' ((xs.drop (lo*size)).take (m*size)):=by
 have hle:(lo+m)*size≤n*size:=Nat.mul_le_mul_right _ hm
 rw[Nat.add_mul]at hle
 refine⟨⟨by rw[List.length_take,List.length_drop,h.1.len];omega,hc,hx,fun h0=>?_⟩,fun h0 ad ha=>?_⟩
 ·obtain⟨b',off',ha,hb,hcell⟩:=h.1.at_ (by omega)
  simp at ha
  obtain⟨rfl,rfl⟩:=ha
  refine⟨b,off+lo*size,rfl,hb,fun j hj=>?_⟩
  have:=hcell (lo*size+j) (by omega)
  rw[←Nat.add_assoc]at this
  rw[this,List.getElem?_take,if_pos hj,List.getElem?_drop]
 ·obtain rfl:=Option.some.inj ha
  exact h.2 (by omega) ⟨b,off,none⟩ rfl
theorem Rd.sub {w:World} {size:Nat} {b off:Nat} {n cap:Nat} {xs:List Value} (h:Rd w size (some ⟨b,off,none⟩) n cap xs) (lo m cap':Nat) (hm:lo+m≤n) (hc:m≤cap') (hx:cap'≤maxLen):
  Rd w size (some ⟨b,off+lo*size,none⟩) m cap' ((xs.drop (lo*size)).take (m*size)):=by
 have hle:(lo+m)*size≤n*size:=Nat.mul_le_mul_right _ hm
 rw[Nat.add_mul]at hle
 refine⟨by rw[List.length_take,List.length_drop,h.len];omega,hc,hx,fun h0=>?_⟩
 obtain⟨b',off',ha,hb,hcell⟩:=h.at_ (by omega)
 simp at ha
 obtain⟨rfl,rfl⟩:=ha
 refine⟨b,off+lo*size,rfl,hb,fun j hj=>?_⟩
 have:=hcell (lo*size+j) (by omega)
 rw[←Nat.add_assoc]at this
 rw[this,List.getElem?_take,if_pos hj,List.getElem?_drop]
theorem Rd.empty (w:World) (size:Nat) (a:Option Addr) (cap:Nat) (hx:cap≤maxLen):Rd w size a 0 cap []:=⟨by simp,Nat.zero_le _,hx,fun h=>by omega⟩
theorem RdT.empty (w:World) (t:TypeId) (size:Nat) (a:Option Addr) (cap:Nat) (hx:cap≤maxLen):RdT w t size a 0 cap []:=⟨Rd.empty w size a cap hx,fun h=>by omega⟩
theorem run_append_rd {P:Program} {w:World} (base:Nat) (t ty e:TypeId) (z:Value) (size bytes:Nat) (ht:P.underlying t=some (.slice e))
  (hi:(P.info? e).map (fun i=>(i.zero,i.size,i.bytes))=some (some z,size,bytes))(hzs:z.cells.size=size)(hsz:0<size)
  (v:Value)(n:Nat)(xs:List Value)(hown:w.ownsRow base e size v n xs)(ao:Option Addr)(m c:Nat)(news:List Value)
  (hr:Rd w size ao m c news)(h1: ∀u∈news,u.oneCell'=true)(hbytes:(n+m)*bytes≤140737488355328)(hpos:0<bytes)(hbase:base≤w.heap.size):
  ∃v' w',(Builtin.append_ #[t,t] ty #[v,.slice ao m c]).run P w=.ok v' w'∧w'.ownsRow base e size v' (n+m) (xs++news)∧w.grownBy w' v.ownBlock:=by
 obtain⟨i0,hi,hz,hs1,hb1⟩:=info_parts hi
 cases ao with
 |none=>
  have hm:m=0:=by
   rcases Nat.eq_zero_or_pos m with h0|h0
   ·exact h0
   ·obtain⟨b,off,ha,_⟩:=hr.at_ h0
    cases ha
  subst hm
  have hn:news=[]:=List.eq_nil_of_length_eq_zero (by simpa using hr.len)
  subst hn
  refine⟨v,w,?_,by simpa using hown,World.grownBy.refl w _⟩
  rcases hown.2 with⟨rfl,rfl⟩|⟨g,cap,cur,rfl,_,_,hnc,_⟩
  ·simp[Builtin.append_,run_underlying ht,sizeOf,typeInfo,hi,Builtin.lenOf,Builtin.firstCells]
  ·simp[Builtin.append_,run_underlying ht,sizeOf,typeInfo,hi,Builtin.lenOf,Builtin.firstCells,hnc,storeCells]
 |some ad=>
  have hnm:n+m≤(n+m)*bytes:=Nat.le_mul_of_pos_right _ hpos
  obtain⟨v',w',hrun,h2,h3,_⟩:=run_append_own (P:=P) w base t ty e i0 z size bytes ht hi hz hs1 hb1 hzs hsz v n xs hown ad m c news hr.len hr.news h1 (by unfold maxLen;omega) hbytes hbase
  exact⟨v',w',hrun,h2,h3⟩
theorem wp_append_rd {P:Program} {w:World} {o:Oper} {a:Act} {K:Act→World→Prop} {Q:Exit→Act→World→Prop} (s x:Operand) (t:TypeId)
  (ho:o.op=.call {callee:=.builtin .append,args:= #[s,x],argTypes:= #[t,t]})(base:Nat)(e:TypeId)(z:Value)(size bytes:Nat)(ht:P.underlying t=some (.slice e))
  (hi:(P.info? e).map (fun i=>(i.zero,i.size,i.bytes))=some (some z,size,bytes))(hzs:z.cells.size=size)(hsz:0<size)
  (v:Value)(n:Nat)(xs:List Value)(hs:a.eval s=v)(hown:w.ownsRow base e size v n xs)(ao:Option Addr)(m c:Nat)(news:List Value)(hx:a.eval x=.slice ao m c)
  (hr:Rd w size ao m c news)(h1: ∀u∈news,u.oneCell'=true)(hbytes:(n+m)*bytes≤140737488355328)(hpos:0<bytes)(hbase:base≤w.heap.size)
  (h: ∀v' w',w'.ownsRow base e size v' (n+m) (xs++news)→w.grownBy w' v.ownBlock→K (a.put o.dst v') w'):o.wp P a w K Q:=by
 obtain⟨v',w',hrun,h2,h3⟩:=run_append_rd base t o.type e z size bytes ht hi hzs hsz v n xs hown ao m c news hr h1 hbytes hpos hbase
 unfold Oper.wp execOp
 simp only[ho,resolve,invoke,builtin,Sem.run_bind,Sem.run_pure,Result.andThen_ok,List.map_toArray,List.map_cons,List.map_nil,hs,hx,hrun]
 exact h v' w' h2 h3
theorem wpList_append_rd {P:Program} {w:World} {ops:Array Oper} {rest:List Oper} {o:Oper} {a:Act} {Q:Exit→Act→World→Prop} (hgd:o.guard=none) (s x:Operand) (t:TypeId)
  (ho:o.op=.call {callee:=.builtin .append,args:= #[s,x],argTypes:= #[t,t]})(base:Nat)(e:TypeId)(z:Value)(size bytes:Nat)(ht:P.underlying t=some (.slice e))
  (hi:(P.info? e).map (fun i=>(i.zero,i.size,i.bytes))=some (some z,size,bytes))(hzs:z.cells.size=size)(hsz:0<size)
  (v:Value)(n:Nat)(xs:List Value)(hs:a.eval s=v)(hown:w.ownsRow base e size v n xs)(ao:Option Addr)(m c:Nat)(news:List Value)(hx:a.eval x=.slice ao m c)
  (hr:Rd w size ao m c news)(h1: ∀u∈news,u.oneCell'=true)(hbytes:(n+m)*bytes≤140737488355328)(hpos:0<bytes)(hbase:base≤w.heap.size)
  (h: ∀v' w',w'.ownsRow base e size v' (n+m) (xs++news)→w.grownBy w' v.ownBlock→wpList P ops Q rest (a.put o.dst v') w'):wpList P ops Q (o::rest) a w:=
 wpList_plain hgd fun _ hK=>wp_append_rd s x t ho base e z size bytes ht hi hzs hsz v n xs hs hown ao m c news hx hr h1 hbytes hpos hbase fun v' w' h2 h3=>hK _ _ (h v' w' h2 h3)
theorem part_rd {w:World} {size:Nat} {a:Option Addr} {n cap:Nat} {xs:List Value} (h:Rd w size a n cap xs) (lo hi mx:Nat) (h1:lo≤hi) (h2:hi≤n) (h3:hi≤mx) (h4:mx≤cap):
  Rd w size (if mx=lo then a else a.map (·.add (lo*size))) (hi-lo) (mx-lo) ((xs.drop (lo*size)).take ((hi-lo)*size)):=by
 have hmx:mx-lo≤maxLen:=by have:=h.mx;omega
 by_cases h0:hi=lo
 ·subst h0
  simpa using Rd.empty w size _ (mx-hi) hmx
 ·obtain⟨b,off,rfl,_⟩:=h.at_ (by omega)
  rw[if_neg (by omega)]
  have e:(some (⟨b,off,none⟩:Addr)).map (·.add (lo*size))=some ⟨b,off+lo*size,none⟩:=by
   simp only[Option.map_some,Addr.add]
   split <;>simp_all
  rw[e]
  exact h.sub lo (hi-lo) (mx-lo) (by omega) (by omega) hmx
section
variable {P:Program} {t e:TypeId} {size:Nat} (hu:P.underlying t=some (.slice e)) (hs:(P.info? e).map (·.size)=some size) (a:Option Addr) (n cap:Nat)
include hu hs
end
theorem Rd_new (w:World) (cs:List Value) (e:TypeId) (size n:Nat) (hl:cs.length=n*size) (hm:n≤maxLen):Rd (w.alloc (.cells cs.toArray e)) size (some ⟨w.heap.size,0,none⟩) n n cs:=
 ⟨hl,Nat.le_refl _,hm,fun _=>⟨w.heap.size,0,rfl,by simp,fun j hj=>by rw[Nat.zero_add,cell_of_row _ _ _ _ _ _ (heap_alloc_new w _)];simp⟩⟩
abbrev eR_:=@Ext.refl
abbrev eA_:=@Ext.alloc
abbrev eD_:=@Ext.drew
abbrev eN_:=@Ext.drewN
abbrev eL_:=@Ext.later
abbrev eS_:=@Ext.setCell
end Go.Proofs.YtplljnfjkkloeaaGreatDoor
