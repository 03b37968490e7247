/- Proof text: the commands' names (script.names, Name, Op; rastrumref29's). By an AI agent. No condition beyond what each theorem states. -/
import Derived.Test.YtplljnfjkkloeaaGreatDoorSH
import Derived.Deep.WholeRow
import Derived.Laws.Tables
import Derived.Test.YtplljnfjkkloeaaGreatDoorChecked
import Derived.Lib.Strings
import Derived.Handy
import Derived.Test.YtplljnfjkkloeaaGreatDoorLI
set_option linter.unusedVariables false
set_option linter.unusedSimpArgs false
set_option maxHeartbeats 1000000
namespace Go.Proofs.YtplljnfjkkloeaaGreatDoor
open Go.RowKit
def nameB:List ByteArray:=[⟨#[]⟩,⟨#[115,105,122,101]⟩,⟨#[102,105,108,108]⟩,⟨#[102,97,114]⟩,⟨#[99,108,101,97,114]⟩,⟨#[112,111,114,116]⟩,⟨#[99,117,116]⟩,⟨#[109,111,100,101]⟩,⟨#[108,111,97,100]⟩,⟨#[109,117,108,116]⟩,⟨#[112,117,115,104]⟩,⟨#[112,111,112]⟩,⟨#[117,110,105,116]⟩,⟨#[115,105,100,101]⟩,⟨#[99,111,108,111,114]⟩,⟨#[102,108,97,103]⟩,⟨#[98,101,103,105,110]⟩,⟨#[118,101,114,116,101,120]⟩,⟨#[101,110,100]⟩,⟨#[119,105,100,116,104]⟩,⟨#[100,97,115,104]⟩,⟨#[112,111,105,110,116]⟩,⟨#[115,111,102,116]⟩,⟨#[112,111,108,121]⟩,⟨#[99,117,108,108]⟩,⟨#[111,102,102,115,101,116]⟩,⟨#[100,101,112,116,104]⟩,⟨#[98,108,101,110,100]⟩,⟨#[109,97,115,107]⟩,⟨#[115,104,97,100,101]⟩,⟨#[118,101,114,116,101,120,102]⟩,⟨#[108,111,97,100,102]⟩,⟨#[102,97,114,102]⟩]
def nmL:List Value:=[.string ⟨#[]⟩,.string ⟨#[115,105,122,101]⟩,.string ⟨#[102,105,108,108]⟩,.string ⟨#[102,97,114]⟩,.string ⟨#[99,108,101,97,114]⟩,.string ⟨#[112,111,114,116]⟩,.string ⟨#[99,117,116]⟩,.string ⟨#[109,111,100,101]⟩,.string ⟨#[108,111,97,100]⟩,.string ⟨#[109,117,108,116]⟩,.string ⟨#[112,117,115,104]⟩,.string ⟨#[112,111,112]⟩,.string ⟨#[117,110,105,116]⟩,.string ⟨#[115,105,100,101]⟩,.string ⟨#[99,111,108,111,114]⟩,.string ⟨#[102,108,97,103]⟩,.string ⟨#[98,101,103,105,110]⟩,.string ⟨#[118,101,114,116,101,120]⟩,.string ⟨#[101,110,100]⟩,.string ⟨#[119,105,100,116,104]⟩,.string ⟨#[100,97,115,104]⟩,.string ⟨#[112,111,105,110,116]⟩,.string ⟨#[115,111,102,116]⟩,.string ⟨#[112,111,108,121]⟩,.string ⟨#[99,117,108,108]⟩,.string ⟨#[111,102,102,115,101,116]⟩,.string ⟨#[100,101,112,116,104]⟩,.string ⟨#[98,108,101,110,100]⟩,.string ⟨#[109,97,115,107]⟩,.string ⟨#[115,104,97,100,101]⟩,.string ⟨#[118,101,114,116,101,120,102]⟩,.string ⟨#[108,111,97,100,102]⟩,.string ⟨#[102,97,114,102]⟩]
theorem nmL_is:nmL=nameB.map Value.string:=rfl
theorem nmL_get {k:Nat} (h:k<33):nmL[k]? =some (.string (nameB.getD k ⟨#[]⟩)):=by
 rw[nmL_is,List.getElem?_map,List.getD_eq_getElem?_getD,List.getElem?_eq_getElem (show k<nameB.length from h)]
 rfl
theorem wpList_build {P:Program} {w:World} {ops:Array Oper} {rest:List Oper} {o:Oper} {a:Act} {Q:Exit→Act→World→Prop} (hgd:o.guard=none) (t:TypeId) (parts:Array (Nat×Operand)) (ho:o.op=.build t parts)
  (cells:Array Value)(hb:P.built t (parts.map fun(i,x)=>(i,a.eval x)).toList=some cells)(h:wpList P ops Q rest (a.put o.dst (.agg cells)) w):wpList P ops Q (o::rest) a w:=by
 refine wpList_plain hgd fun K hK=>?_
 refine wp_build t parts ho (by rw[hb];rfl) ?_
 rw[hb]
 exact hK _ _ h
theorem wpList_store_new {P:Program} {w:World} {ops:Array Oper} {rest:List Oper} {o:Oper} {a:Act} {Q:Exit→Act→World→Prop} (hgd:o.guard=none) (t:TypeId) (x y:Operand) (ho:o.op=.store t x y)
  (c c':Array Value)(hx:a.eval x=.pointer (some ⟨w.heap.size,0,none⟩))(hy:a.eval y=.agg c')(hi:(P.info? t).map (·.size)=some c'.size)(hc:c.size=c'.size)(h1:c'.all (·.oneCell')=true)
  (h:wpList P ops Q rest (a.put o.dst undef) (w.alloc (.cells c' t))):wpList P ops Q (o::rest) a (w.alloc (.cells c t)):=by
 refine wpList_plain hgd fun K hK=>?_
 have hr:=run_storeAt_new (P:=P) w t c c' hi hc h1
 unfold Oper.wp execOp
 simp only[ho,hx,hy,Sem.run_bind,Sem.run_pure,hr,Result.andThen]
 exact hK _ _ h
def nmA:Array Value:=nmL.toArray
set_option maxRecDepth 10000 in
theorem names_any (w:World):Calls Tryz.prog 95 #[] w fun e w'=>e=.returned (.agg nmA)∧Ext w w':=by
 go_enter Tryz.func95,Tryz.ntmps95
 go_wp2_with (first|(refine wpList_build rfl _ _ rfl nmA rfl ?_)|(refine wpList_store_new rfl 193 _ _ rfl _ nmA rfl rfl (by kernel_rfl) rfl (by kernel_rfl) ?_))
 have hl:=run_loadVar_new (P:=Tryz.prog) w 193 nmA 33 9 Tryz.underlying193 (by kernel_rfl)
 refine bodyPost_ret (v:=.agg nmA) ?_ rfl ⟨rfl,(Ext.refl w).alloc _⟩
 simp[results,Tryz.results95,asAddr,hl,Act.put]
theorem nmA_get {k:Nat} (h:k<33):nmA[k]? =some (.string (nameB.getD k ⟨#[]⟩)):=by
 have:=nmL_get h
 unfold nmA
 simpa using this
end Go.Proofs.YtplljnfjkkloeaaGreatDoor
set_option linter.unusedVariables false
set_option linter.unusedSimpArgs false
namespace Go.Proofs.YtplljnfjkkloeaaGreatDoor
open Go.RowKit
def nmAt (k:Nat):ByteArray:=nameB.getD k ⟨#[]⟩
def opT (s:ByteArray):Int×Bool:=
 match(List.range 32).find? (fun i=>(nmAt (i+1)).data.toList==s.data.toList)with
 |some i=>((i+1:Nat),true)
 |none=>(0,false)
theorem bytes_eq {s t:ByteArray} (h:s.toList=t.toList):s=t:=by
 rw[Lib.toList_data,Lib.toList_data]at h
 exact ByteArray.ext (Array.ext' h)
theorem data_eq {s t:ByteArray} (h:s.data.toList=t.data.toList):s=t:=ByteArray.ext (Array.ext' h)
theorem opT_no {s:ByteArray} (h: ∀j,1≤j→j<33→nmAt j≠s):opT s=(0,false):=by
 unfold opT
 rw[List.find?_eq_none.2]
 intro i hi
 rw[List.mem_range]at hi
 intro he
 exact h (i+1) (by omega) (by omega) (data_eq (by simpa using he))
theorem opT_yes {s:ByteArray} {k:Nat} (h1:1≤k) (h2:k<33) (h: ∀j,1≤j→j<k→nmAt j≠s) (he:nmAt k=s):opT s=((k:Int),true):=by
 unfold opT
 have:(List.range 32).find? (fun i=>(nmAt (i+1)).data.toList==s.data.toList)=some (k-1):=by
  rw[List.find?_range_eq_some]
  refine⟨?_,by rw[List.mem_range];omega,fun j hj=>?_⟩
  ·rw[show k-1+1=k by omega,he];simp
  ·have:=h (j+1) (by omega) (by omega)
   simp only[Bool.not_eq_true',beq_eq_false_iff_ne]
   exact fun e=>this (data_eq e)
 rw[this]
 simp only
 rw[show k-1+1=k by omega]
theorem nmAt_ne_nil {j:Nat} (h1:1≤j) (h2:j<33):nmAt j≠⟨#[]⟩:=by
 have hall: ∀j,j<33→1≤j→(nmAt j).data.toList≠[]:=by decide
 intro e
 exact hall j h2 h1 (by rw[e])
theorem run_index_names (w:World) {k:Nat} (hk:k<33) {x:ByteArray} (hg:nmA[k]? =some (.string x)):(Instr.index 193 (.agg nmA) (.int .i64 (k:Int))).run Tryz.prog w=.ok (.string x) w:=by
 have hk2:(k:Int)<33:=by omega
 simp[Instr.index,asIntOf,run_underlying Tryz.underlying193,hk2,part,go_sem,Tryz.sizeOf9,Tryz.isAgg9,hg]
 intro h
 omega
set_option maxRecDepth 10000 in
theorem op_any (s:ByteArray) (w:World):Calls Tryz.prog 73 #[.string s] w fun e w'=>e=.returned (.tuple #[.int .i64 (opT s).1,.bool (opT s).2])∧Ext w w':=by
 by_cases h0:s=⟨#[]⟩
 ·subst h0
  rw[opT_no (fun j h1 h2=>nmAt_ne_nil h1 h2)]
  go_enter Tryz.func73,Tryz.ntmps73
  go_wp2_with fail
  go_ret2
  exact⟨rfl,Ext.refl _⟩
 ·have d0:s.toList.isEmpty=false:=by
   cases h:s.toList with
   |nil=>exact absurd (bytes_eq (s:=s) (t:=⟨#[]⟩) (by rw[h,Lib.toList_data])) h0
   |cons a l=>rfl
  have HO:Hid (∀j,j<0→nmAt j≠s):=Lib.hid (fun j h=>by omega)
  have H0:=Lib.hid h0
  obtain⟨r,hr⟩: ∃r,r=opT s:=⟨_,rfl⟩
  rw[←hr]
  have HR:=Lib.hid hr
  clear h0 hr
  go_enter Tryz.func73,Tryz.ntmps73
  go_wp2_with fail
  refine(names_any _).mono ?_
  rintro e w1 ⟨rfl,hE⟩
  have HE:=Lib.hid hE
  clear hE
  go_wp2_with fail
  go_loopw [4,5,9] (fun _ _ c wr=> ∃k:Nat,k≤33∧c=.int .i64 k∧Hid (Ext w wr)∧Hid (∀j,j<k→nmAt j≠s)) (fun _ _ c _=>33-(intOf c).toNat)
  case atStart=>exact⟨0,Nat.zero_le _,rfl,HE,HO⟩
  case round=>
   clear HE HO
   obtain⟨k,hk,rfl,HE,HO⟩:=hrel
   by_cases hlt:k<33
   ·have hg:=nmA_get hlt
    rw[show nameB.getD k ⟨#[]⟩=nmAt k from rfl]at hg
    by_cases he:nmAt k=s
    ·have hk1:1≤k:=by
      rcases k with _|k
      ·exact absurd he.symm H0.out
      ·omega
     have ho:=opT_yes hk1 hlt (fun j _ hj=>HO.out j hj) he
     have hr:=HR.out
     rw[ho]at hr
     have HR2:=Lib.hid hr
     rw[he]at hg
     have t1:(s.toList==s.toList)=true:=by simp
     have i1:(k:Int)<33:=by omega
     have ki:=fun w1=>run_index_names w1 hlt hg
     clear ho he hr hg
     go_wp2_with fail
     go_ret2
     exact⟨by cases HR2.out;rfl,HE.out⟩
    ·have t1:((nmAt k).toList==s.toList)=false:=by rw[beq_eq_false_iff_ne];exact fun e=>he (bytes_eq e)
     have HO2:Hid (∀j,j<k+1→nmAt j≠s):=Lib.hid (fun j hj=>by
      by_cases hjk:j<k
      ·exact HO.out j hjk
      ·obtain rfl:j=k:=by omega
       exact he)
     obtain⟨x,hx⟩: ∃x,x=nmAt k:=⟨_,rfl⟩
     rw[←hx]at hg t1
     have ki:=fun w1=>run_index_names w1 hlt hg
     have i1:(k:Int)<33:=by omega
     clear HO he hx hg
     go_wp2_with fail
     go_roundw
     case rel=>first|exact⟨k+1,by omega,by go_num,HE,HO2⟩|((repeat apply Exists.intro);exact⟨⟨k+1,by omega,by go_num,HE,HO2⟩,rfl⟩)
     case measure=>simp[intOf];omega
   ·obtain rfl:k=33:=by omega
    have hr:=HR.out
    rw[opT_no (fun j _ hj=>HO.out j hj)]at hr
    have HR2:=Lib.hid hr
    clear hr
    go_wp2_with fail
    go_ret2
    exact⟨by cases HR2.out;rfl,HE.out⟩
end Go.Proofs.YtplljnfjkkloeaaGreatDoor
set_option linter.unusedVariables false
set_option linter.unusedSimpArgs false
namespace Go.Proofs.YtplljnfjkkloeaaGreatDoor
theorem cut1_len (c:UInt8) (l:List UInt8):(cut1 c l).1.length≤l.length∧(cut1 c l).2.1.length≤l.length∧((cut1 c l).2.2=true→(cut1 c l).2.1.length<l.length)∧((cut1 c l).2.2=false→(cut1 c l).2.1=[]):=by
 cases h:(cut1 c l).2.2 with
 |true=>
  have:=congrArg List.length (cut1_yes c l h).1
  simp only[List.length_append,List.length_cons]at this
  exact⟨by omega,by omega,fun _=>(by omega),fun h=>(by cases h)⟩
 |false=>
  obtain⟨a,b,_⟩:=cut1_no c l h
  rw[a,b]
  exact⟨Nat.le_refl _,Nat.zero_le _,fun h=>(by cases h),fun _=>rfl⟩
def numsT:List (List UInt8)→Except Int (List Int)
 |[]=>.ok []
 |x::r=>if(numT x).2=0 then(match numsT r with|.ok l=>.ok ((numT x).1::l)|.error e=>.error e)else .error (numT x).2
def contN (acc:List Int):Except Int (List Int)→Except Int (List Int)
 |.ok l=>.ok (acc++l)
 |.error e=>.error e
theorem contN_nil (g:Except Int (List Int)):contN [] g=g:=by cases g <;>rfl
theorem nums_bad {acc:List Int} {x:List UInt8} {r:List (List UInt8)} (h:(numT x).2≠0):contN acc (numsT (x::r))=.error (numT x).2:=by
 unfold numsT
 rw[if_neg h]
 rfl
theorem nums_step {acc:List Int} {x:List UInt8} {r:List (List UInt8)} (h:(numT x).2=0):contN acc (numsT (x::r))=contN (acc++[(numT x).1]) (numsT r):=by
 conv=>lhs;unfold numsT
 rw[if_pos h]
 cases numsT r with
 |ok l=>simp[contN]
 |error e=>rfl
theorem nums_end (acc:List Int):contN acc (numsT [])=.ok acc:=by simp[numsT,contN]
def restW (p:List UInt8×List UInt8×Bool):List (List UInt8):=if p.2.2 then splitW p.2.1 else[]
theorem splitW_is (l:List UInt8):splitW l=(cut1 32 l).1::restW (cut1 32 l):=splitW_cut l
def arT (op:Int):Nat:=((askT op).getD []).length
def lineE (op:Int):Except Int (List Int)→Except Int R
 |.error e=>.error e
 |.ok A=>if arT op=A.length then .ok (op,A)else .error 1
def lineT (l:List UInt8):Except Int R:=
 if(opT ⟨(cut1 32 l).1.toArray⟩).2=true then lineE (opT ⟨(cut1 32 l).1.toArray⟩).1 (numsT (restW (cut1 32 l)))else .error 5
def parseF:Nat→List UInt8→Nat→G
 |_,[],_=>.ok []
 |0,_::_,_=>.ok []
 |f+1,b::l,c=>
  if c=4096 then .error (4097,12)
  else if(cut1 10 (b::l)).2.2=true then
   match lineT (cut1 10 (b::l)).1 with
   |.error e=>.error (c+1,e)
   |.ok r=>match parseF f (cut1 10 (b::l)).2.1 (c+1)with
    |.ok m=>.ok (r::m)
    |.error e=>.error e
  else .error (c+1,11)
def parseT (l:List UInt8):G:=parseF l.length l 0
theorem parseF_nil (f c:Nat):parseF f [] c=.ok []:=by cases f <;>rfl
theorem parseF_full {f:Nat} {l:List UInt8} {c:Nat} (hl:l≠[]) (hc:c=4096):parseF (f+1) l c=.error (c+1,12):=by
 cases l with
 |nil=>exact absurd rfl hl
 |cons b l=>subst hc;simp[parseF]
theorem parseF_open {f:Nat} {l:List UInt8} {c:Nat} (hl:l≠[]) (hc: ¬c=4096) (h:(cut1 10 l).2.2=false):parseF (f+1) l c=.error (c+1,11):=by
 cases l with
 |nil=>exact absurd rfl hl
 |cons b l=>unfold parseF;rw[if_neg hc,if_neg (by rw[h];decide)]
theorem parseF_bad {f:Nat} {l:List UInt8} {c:Nat} {e:Int} (hl:l≠[]) (hc: ¬c=4096) (h:(cut1 10 l).2.2=true) (he:lineT (cut1 10 l).1=.error e):parseF (f+1) l c=.error (c+1,e):=by
 cases l with
 |nil=>exact absurd rfl hl
 |cons b l=>unfold parseF;rw[if_neg hc,if_pos h,he]
theorem parseF_step {f:Nat} {l:List UInt8} {c:Nat} {r:R} (hl:l≠[]) (hc: ¬c=4096) (h:(cut1 10 l).2.2=true) (he:lineT (cut1 10 l).1=.ok r):
  parseF (f+1) l c=match parseF f (cut1 10 l).2.1 (c+1)with|.ok m=>.ok (r::m)|.error e=>.error e:=by
 cases l with
 |nil=>exact absurd rfl hl
 |cons b l=>
  conv=>lhs;unfold parseF
  rw[if_neg hc,if_pos h,he]
theorem parseF_cont {f:Nat} {l:List UInt8} {c:Nat} {r:R} {pre:List R} (hl:l≠[]) (hc: ¬c=4096) (h:(cut1 10 l).2.2=true) (he:lineT (cut1 10 l).1=.ok r):
  cont pre (parseF (f+1) l c)=cont (pre++[r]) (parseF f (cut1 10 l).2.1 (c+1)):=by
 rw[parseF_step hl hc h he]
 cases parseF f (cut1 10 l).2.1 (c+1) <;>simp[cont]
theorem nums_err {l:List (List UInt8)} {e:Int} (h:numsT l=.error e):e≠0:=by
 induction l generalizing e with
 |nil=>simp[numsT]at h
 |cons x r ih=>
  unfold numsT at h
  by_cases h0:(numT x).2=0
  ·rw[if_pos h0]at h
   cases h2:numsT r with
   |ok l=>rw[h2]at h;cases h
   |error e'=>rw[h2]at h;injection h with h;subst h;exact ih h2
  ·rw[if_neg h0]at h
   injection h with h
   subst h
   exact h0
theorem line_err {l:List UInt8} {e:Int} (h:lineT l=.error e):e≠0:=by
 unfold lineT at h
 split at h
 ·unfold lineE at h
  split at h
  ·injection h with h;subst h;exact nums_err (by assumption)
  ·split at h
   ·cases h
   ·injection h with h;subst h;decide
 ·injection h with h;subst h;decide
end Go.Proofs.YtplljnfjkkloeaaGreatDoor
set_option linter.unusedVariables false
set_option linter.unusedSimpArgs false
namespace Go.Proofs.YtplljnfjkkloeaaGreatDoor
open Go.RowKit
theorem bget {s:ByteArray} {k:Nat} (h:k<s.size):s.data.toList[k]? =some s[k]:=List.getElem?_eq_getElem (by rw[←Lib.size_eq];exact h)
theorem okD_bad {s:ByteArray} {k:Nat} (h:k<s.size) (hb:isD s[k]=false):okD s.data.toList=false:=by
 have h1:s.data.toList.all isD=false:=by
  rw[List.all_eq_false]
  exact⟨s[k],List.mem_iff_getElem?.2 ⟨k,bget h⟩,by rw[hb];decide⟩
 unfold okD
 rw[h1]
 simp
theorem okD_nought {s:ByteArray} (h0:0<s.size) (h:s[0].toNat=48) (hne: ¬s.toList=[48]):okD s.data.toList=false:=by
 have h1:s.data.toList.head? =some 48:=by
  rw[List.head?_eq_getElem?,bget h0,show s[0]=48 from UInt8.toNat_inj.1 h]
 rw[Lib.toList_data]at hne
 unfold okD
 simp[h1,hne]
theorem okD_all {s:ByteArray} (h0:0<s.size) (hall: ∀j (h:j<s.size),isD s[j]=true) (hf:s[0].toNat≠48∨s.toList=[48]):okD s.data.toList=true:=by
 have h1:s.data.toList.all isD=true:=by
  rw[List.all_eq_true]
  intro b hb
  obtain⟨k,hk⟩:=List.mem_iff_getElem?.1 hb
  have hl:=(List.getElem?_eq_some_iff.1 hk).1
  rw[←Lib.size_eq]at hl
  rw[bget hl]at hk
  rw[←Option.some.inj hk]
  exact hall k hl
 have h2:s.data.toList≠[]:=by
  intro e
  have:=Lib.size_eq s
  rw[e,List.length_nil]at this
  omega
 unfold okD
 rw[h1]
 rcases hf with h|h
 ·have h3:s.data.toList.head? ≠some 48:=by
   rw[List.head?_eq_getElem?,bget h0]
   intro e
   exact h (by rw[Option.some.inj e];rfl)
  simp[h2,h3]
 ·rw[Lib.toList_data]at h
  simp[h2,h]
theorem empty_no {s:ByteArray} (h0: ¬s=⟨#[]⟩):s.toList.isEmpty=false∧0<s.size:=by
 cases h:s.data.toList with
 |nil=>exact absurd (data_eq (s:=s) (t:=⟨#[]⟩) (by rw[h])) h0
 |cons a l=>exact⟨by rw[Lib.toList_data,h];rfl,by rw[Lib.size_eq,h];simp⟩
set_option maxRecDepth 10000 in
theorem digits_any (s:ByteArray) (w:World) (hs:s.size≤1000000):Calls Tryz.prog 97 #[.string s] w fun e w'=>e=.returned (.bool (okD s.data.toList))∧Ext w w':=by
 by_cases h0:s=⟨#[]⟩
 ·subst h0
  go_enter Tryz.func97,Tryz.ntmps97
  go_wp2_with fail
  go_returns
  exact⟨rfl,Ext.refl _⟩
 ·obtain⟨d0,hp⟩:=empty_no h0
  obtain⟨r,hr⟩: ∃r,r=okD s.data.toList:=⟨_,rfl⟩
  rw[←hr]
  have HR:=Lib.hid hr
  clear h0 hr
  have hc:(((s[0].toNat:Int)==48)=true∧(s.toList==[48])=false∧Hid (r=false))∨((((s[0].toNat:Int)==48)=false∨(((s[0].toNat:Int)==48)=true∧(s.toList==[48])=true))∧Hid (s[0].toNat≠48∨s.toList=[48])):=by
   by_cases h1:s[0].toNat=48
   ·by_cases h2:s.toList=[48]
    ·exact .inr ⟨.inr ⟨by simp;omega,by simpa using h2⟩,Lib.hid (.inr h2)⟩
    ·exact .inl ⟨by simp;omega,by simpa using h2,Lib.hid (HR.out.trans (okD_nought hp h1 h2))⟩
   ·exact .inr ⟨.inl (by simp;omega),Lib.hid (.inl h1)⟩
  rcases hc with⟨k1,k2,HN⟩|⟨hk,HF⟩
  ·go_enter Tryz.func97,Tryz.ntmps97
   go_wp2_with fail
   go_returns
   exact⟨by cases HN.out;rfl,Ext.refl _⟩
  ·have HO:Hid (∀j (h:j<s.size),j<0→isD s[j]=true):=Lib.hid (fun j _ h=>by omega)
   rcases hk with k1|⟨k1,k2⟩
   all_goals
    go_enter Tryz.func97,Tryz.ntmps97
    go_wp2_with fail
    go_loop [3,17] (fun _ c=> ∃k:Nat,k≤s.size∧c=.int .i64 k∧Hid (∀j (h:j<s.size),j<k→isD s[j]=true)) (fun _ c=>s.size-(intOf c).toNat)
    case atStart=>exact⟨0,Nat.zero_le _,rfl,HO⟩
    case round=>
     clear HO
     obtain⟨k,hk,rfl,HO⟩:=hrel
     by_cases hlt:k<s.size
     ·by_cases hd:isD s[k]=true
      ·have HO2:Hid (∀j (h:j<s.size),j<k+1→isD s[j]=true):=Lib.hid (fun j h hj=>by
        by_cases hjk:j<k
        ·exact HO.out j h hjk
        ·obtain rfl:j=k:=by omega
         exact hd)
       have t3:48≤s[k].toNat∧s[k].toNat≤57:=by unfold isD at hd;simpa using hd
       obtain⟨t3,t4⟩:=t3
       clear HO hd
       go_wp2_with fail
       go_round
       case rel=>first|exact⟨k+1,by omega,by go_num,HO2⟩|((repeat apply Exists.intro);exact⟨⟨k+1,by omega,by go_num,HO2⟩,rfl⟩)
       case measure=>simp[intOf];omega
      ·have HB:=Lib.hid (HR.out.trans (okD_bad hlt (by simpa using hd)))
       have t3:s[k].toNat<48∨(48≤s[k].toNat∧57<s[k].toNat):=by unfold isD at hd;simp at hd;omega
       clear HO hd
       rcases t3 with t3|⟨t3,t4⟩
       ·go_wp2_with fail
        go_returns
        exact⟨by cases HB.out;rfl,Ext.refl _⟩
       ·go_wp2_with fail
        go_returns
        exact⟨by cases HB.out;rfl,Ext.refl _⟩
     ·obtain rfl:k=s.size:=by omega
      have HB:=Lib.hid (HR.out.trans (okD_all hp (fun j h=>HO.out j h h) HF.out))
      clear hlt
      go_wp2_with fail
      go_returns
      exact⟨by cases HB.out;rfl,Ext.refl _⟩
end Go.Proofs.YtplljnfjkkloeaaGreatDoor
set_option linter.unusedVariables false
set_option linter.unusedSimpArgs false
namespace Go.Proofs.YtplljnfjkkloeaaGreatDoor
open Go.RowKit
theorem strip_len (l:List UInt8):(strip l).2.length≤l.length:=by
 unfold strip
 split
 ·simp
 ·exact Nat.le_refl _
set_option maxRecDepth 10000 in
theorem number_any (s:ByteArray) (w:World) (hs:s.size≤1000000) (hW:Wd w):Calls Tryz.prog 74 #[.string s] w fun e w'=>e=.returned (.tuple #[.int .i64 (numT s.data.toList).1,.int .i64 (numT s.data.toList).2])∧Ext w w':=by
 obtain⟨r,hr⟩: ∃r,r=numT s.data.toList:=⟨_,rfl⟩
 rw[←hr]
 have HR:=Lib.hid hr
 have HW:=Lib.hid hW
 have P1:=Lib.hid (fun w1=>prefix_any s ⟨#[45]⟩ w1 rfl)
 have hdl:(⟨(strip s.data.toList).2.toArray⟩:ByteArray).size≤1000000:=by
  have:=strip_len s.data.toList
  rw[←Lib.size_eq]at this
  rw[Lib.size_eq]
  simp only[List.toList_toArray]
  omega
 have D1:=Lib.hid (fun w1=>digits_any ⟨(strip s.data.toList).2.toArray⟩ w1 hdl)
 clear hr hW hdl
 obtain⟨B,hB⟩: ∃B:ByteArray,B=⟨(strip s.data.toList).2.toArray⟩:=⟨_,rfl⟩
 have hBd:B.data.toList=(strip s.data.toList).2:=by rw[hB]
 rw[←hB]at P1 D1
 obtain⟨ng,hng⟩: ∃ng,ng=(strip s.data.toList).1:=⟨_,rfl⟩
 rw[←hng]at P1
 by_cases hok:okD B.data.toList=true
 ·rw[hok]at D1
  have hok2:okD (strip s.data.toList).2=true:=by rw[←hBd];exact hok
  by_cases hz:ng=true∧B.toList=[48]
  ·have HN:Hid (r=(0,11)):=Lib.hid (by
    rw[HR.out];unfold numT
    rw[if_pos (.inr ⟨by rw[←hng];exact hz.1,by rw[←hBd,←Lib.toList_data];exact hz.2⟩)])
   have t1:(B.toList==[48])=true:=by simpa using hz.2
   rw[hz.1]at P1
   clear hz hok hok2 hB hBd hng HR
   go_enter Tryz.func74,Tryz.ntmps74
   go_wp2_with fail
   refine(P1.out _).mono ?_
   rintro e w1 ⟨rfl,hE⟩
   have HE:=Lib.hid hE
   clear hE
   go_wp2_with fail
   refine(D1.out _).mono ?_
   rintro e w2 ⟨rfl,hE⟩
   have HE2:=Lib.hid (HE.out.trans hE)
   clear hE
   go_wp2_with fail
   go_ret2
   exact⟨by cases HN.out;rfl,HE2.out⟩
  ·have hn:numT s.data.toList=if(strip s.data.toList).1 then(if valD (strip s.data.toList).2≤9223372036854775808 then(-(valD (strip s.data.toList).2:Int),0)else(0,4))else(if valD (strip s.data.toList).2≤9223372036854775807 then((valD (strip s.data.toList).2:Int),0)else(0,4)):=by
    unfold numT
    rw[if_neg]
    rintro(h|⟨h1,h2⟩)
    ·rw[hok2]at h;cases h
    ·exact hz ⟨by rw[hng];exact h1,by rw[Lib.toList_data,hBd];exact h2⟩
   have ha:=atoi_is hok2
   rw[←HR.out]at hn
   have hcase:(∃v:Int,Hid (Lib.atoiAll s.data.toList=.ok v)∧Hid (r=(v,0)))∨(Hid (Lib.atoiAll s.data.toList=.range)∧Hid (r=(0,4))):=by
    by_cases h1:(strip s.data.toList).1=true
    ·rw[if_pos h1]at hn ha
     by_cases h2:valD (strip s.data.toList).2≤9223372036854775808
     ·rw[if_pos h2]at hn ha
      exact .inl ⟨_,Lib.hid ha,Lib.hid hn⟩
     ·rw[if_neg h2]at hn ha
      exact .inr ⟨Lib.hid ha,Lib.hid hn⟩
    ·rw[if_neg h1]at hn ha
     by_cases h2:valD (strip s.data.toList).2≤9223372036854775807
     ·rw[if_pos h2]at hn ha
      exact .inl ⟨_,Lib.hid ha,Lib.hid hn⟩
     ·rw[if_neg h2]at hn ha
      exact .inr ⟨Lib.hid ha,Lib.hid hn⟩
   have hkk:ng=false∨(ng=true∧(B.toList==[48])=false):=by
    cases ng with
    |false=>exact .inl rfl
    |true=>exact .inr ⟨rfl,by rw[beq_eq_false_iff_ne];exact fun h=>hz ⟨rfl,h⟩⟩
   have HS:=Lib.hid hs
   clear hz hok hok2 hB hBd hng hn ha HR hs
   rcases hkk with rfl|⟨rfl,t1⟩ <;>rcases hcase with⟨v,HA,HN⟩|⟨HA,HN⟩
   all_goals
    go_enter Tryz.func74,Tryz.ntmps74
    go_wp2_with fail
    refine(P1.out _).mono ?_
    rintro e w1 ⟨rfl,hE⟩
    have HE:=Lib.hid hE
    clear hE
    go_wp2_with fail
    refine(D1.out _).mono ?_
    rintro e w2 ⟨rfl,hE⟩
    have HE2:=Lib.hid (HE.out.trans hE)
    clear hE HE
    go_wp2_with fail
    first
     | (refine(atoi_ok s HS.out v HA.out _).mono ?_
        rintro e w3 ⟨rfl,hE⟩
        have HE3:=Lib.hid (HE2.out.trans hE)
        clear hE
        go_wp2_with fail
        go_ret2
        exact⟨by cases HN.out;rfl,HE3.out⟩)
     | (refine(atoi_range s HS.out HA.out _ (HW.out.ext HE2.out)).mono ?_
        rintro e w3 ⟨v,N,rfl,hE⟩
        have HE3:=Lib.hid (HE2.out.trans hE)
        clear hE
        go_wp2_with fail
        go_ret2
        exact⟨by cases HN.out;rfl,HE3.out⟩)
 ·have hok:okD B.data.toList=false:=by simpa using hok
  rw[hok]at D1
  have HN:Hid (r=(0,11)):=Lib.hid (by
   rw[HR.out];unfold numT
   rw[if_pos (.inl (by rw[←hBd];exact hok))])
  clear hok hB hBd hng HR
  go_enter Tryz.func74,Tryz.ntmps74
  go_wp2_with fail
  refine(P1.out _).mono ?_
  rintro e w1 ⟨rfl,hE⟩
  have HE:=Lib.hid hE
  clear hE
  go_wp2_with fail
  refine(D1.out _).mono ?_
  rintro e w2 ⟨rfl,hE⟩
  have HE2:=Lib.hid (HE.out.trans hE)
  clear hE
  go_wp2_with fail
  go_ret2
  exact⟨by cases HN.out;rfl,HE2.out⟩
end Go.Proofs.YtplljnfjkkloeaaGreatDoor
set_option linter.unusedVariables false
set_option linter.unusedSimpArgs false
namespace Go.Proofs.YtplljnfjkkloeaaGreatDoor
open Go.RowKit
def sg (s:ByteArray):Nat:=if(strip s.data.toList).1 then 1 else 0
def dgs (s:ByteArray):List UInt8:=s.data.toList.drop (sg s)
def vk (s:ByteArray) (k:Nat):Nat:=valD ((dgs s).take (k-sg s))
end Go.Proofs.YtplljnfjkkloeaaGreatDoor
set_option linter.unusedVariables false
set_option linter.unusedSimpArgs false
namespace Go.Proofs.YtplljnfjkkloeaaGreatDoor
open Go.RowKit
end Go.Proofs.YtplljnfjkkloeaaGreatDoor
set_option linter.unusedVariables false
set_option linter.unusedSimpArgs false
namespace Go.Proofs.YtplljnfjkkloeaaGreatDoor
open Go.RowKit
end Go.Proofs.YtplljnfjkkloeaaGreatDoor
