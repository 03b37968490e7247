/- Proof text: how points and pairs that come in read. No condition. By an AI agent. -/
import Derived.Test.YtplljnfjkkloeaaGreatDoorLN
import Derived.Test.YtplljnfjkkloeaaGreatDoorMA
import Derived.Deep.Slices
import Derived.Test.YtplljnfjkkloeaaGreatDoorWH
import Derived.Test.YtplljnfjkkloeaaGreatDoorWE
set_option linter.unusedVariables false
set_option linter.unusedSimpArgs false
set_option maxRecDepth 100000
set_option maxHeartbeats 4000000
namespace Go.Proofs.YtplljnfjkkloeaaGreatDoor
open Go.ChangeShapes Go.WideShapes Go.ChangeAt Go.RowKit Go.Joins Go.Deep
theorem lst_of {α:Type} {P:Nat→α→Prop}: ∀n:Nat,(∀i,i<n→ ∃s,P i s)→ ∃l:List α,l.length=n∧ ∀i s,l[i]? =some s→P i s
 |0,_=>⟨[],rfl,by simp⟩
 |n+1,h=>by
  obtain⟨l,hl,hp⟩:=lst_of n (fun i hi=>h i (by omega))
  obtain⟨s,hs⟩:=h n (by omega)
  refine⟨l++[s],by simp[hl],fun i t ht=>?_⟩
  rcases Nat.lt_or_ge i n with h1|h1
  ·rw[List.getElem?_append_left (by omega)]at ht
   exact hp i t ht
  ·have hi:=(List.getElem?_eq_some_iff.1 ht).1
   simp only[List.length_append,List.length_singleton]at hi
   obtain rfl:i=n:=by omega
   rw[List.getElem?_append_right (by omega),hl,Nat.sub_self]at ht
   have:s=t:=by simpa using ht
   rw[←this]
   exact hs
section
variable {H:Type} {enc:TypeId×Value→H} {W:World} {held:Bool}
theorem rows_rd {α:Type} {f:α→List Value} {K:Nat} (hK: ∀s,(f s).length=K) (K0:0<K) {S E:TypeId} (hu:Tryz.prog.underlying S=some (.slice E)) (hc:Tryz.prog.cellsOf E=K)
  (hop: ∀m cs x,DataW.trod enc Tryz.prog W 0 (fun _=>true) held m E cs=some x→ ∃s:α,cs=f s){fuel:Nat}{v:Value}{y:DataW H×List MemPlace}(h:DataW.trod enc Tryz.prog W 0 (fun _=>true) held fuel S [v]=some y):
  ∃a n cap,∃l:List α,v=.slice a n cap∧Rd W K a n cap (l.flatMap f)∧l.length=n:=by
 rcases open_slice hu h with⟨hcs,_⟩|⟨x,len,cap,m,k,D,Pl,hcs,_,hl,hm,hmm,_,hi⟩
 ·exact⟨none,0,0,[],by simpa using hcs,Rd.empty W K none 0 (by unfold maxLen;omega),rfl⟩
 ·rw[if_pos rfl]at hmm
  obtain rfl:m=cap:=hmm
  rw[hc]at hi
  have hs: ∀i,i<len→ ∃s:α,∀j,j<K→W.cell? ((x.add (i*K)).add j)=(f s)[j]? :=by
   intro i hlt
   obtain⟨cs',hc',ht⟩:=hi i (by omega)
   obtain⟨s,rfl⟩:=hop _ _ _ ht
   exact⟨s,(World.cells?_some hc').2.2⟩
  obtain⟨l,hll,hp⟩:=lst_of len hs
  refine⟨some x,len,m,l,by simpa using hcs,⟨by rw[frow_len hK,hll],hl,hm,fun h0=>?_⟩,hll⟩
  obtain⟨b,off,spot⟩:=x
  obtain⟨s0,hs0⟩: ∃s,l[0]? =some s:=⟨_,List.getElem?_eq_getElem (by omega)⟩
  have hc0:=hp 0 s0 hs0 0 K0
  have hz:((⟨b,off,spot⟩:Addr).add (0*K)).add 0=⟨b,off,spot⟩:=by simp[Addr.add]
  rw[hz]at hc0
  obtain⟨u0,hu0⟩: ∃u,(f s0)[0]? =some u:=⟨_,List.getElem?_eq_getElem (by rw[hK];exact K0)⟩
  rw[hu0]at hc0
  have hspot:spot=none:=World.cell?_spot (v:=u0) hc0
  subst hspot
  refine⟨b,off,rfl,World.block_lt_of_cell? W _ hc0,fun j hj=>?_⟩
  have hjK:j/K<len:=Nat.div_lt_of_lt_mul (by rw[Nat.mul_comm];exact hj)
  have hjm:j%K<K:=Nat.mod_lt _ K0
  obtain⟨s,hs1⟩: ∃s,l[j/K]? =some s:=⟨_,List.getElem?_eq_getElem (by omega)⟩
  have h1:=hp (j/K) s hs1 (j%K) hjm
  have h2:=frow_get hK hs1 (j%K) hjm
  have e:j/K*K+j%K=j:=by rw[Nat.mul_comm];exact Nat.div_add_mod j K
  rw[e]at h2
  rw[h2,←h1]
  congr 1
  unfold Addr.add
  split <;>split <;>simp_all <;>omega
theorem int_ofk {P:Program} {e:TypeId} {k:IntKind} (he:P.underlying e=some (.int k)) {w:World} {base:Nat} {spare:Nat→Bool} {m:Nat} {c:Value} {o:Option (DataW H×List MemPlace)} (h:DataW.trod enc P w base spare held m e [c]=o) (ho:o.isSome=true): ∃z:Int,c=.int k z∧(Lit.int k z).wf=true:=by
 obtain⟨y,hy⟩:=Option.isSome_iff_exists.1 ho
 obtain⟨z,hz,_,hw⟩:=DataW.trod_int he (h.trans hy)
 exact⟨z,by simpa using hz,hw⟩
theorem ci1:Tryz.prog.cellsOf 3=1:=by kernel_rfl
theorem cpt:Tryz.prog.cellsOf 79=2:=by kernel_rfl
theorem ls2 {α:Type} {l:List α} (h:l.length=2): ∃a b,l=[a,b]:=by
 match l,h with
 |[a,b],_=>exact⟨a,b,rfl⟩
theorem pt_of {w:World} {base:Nat} {spare:Nat→Bool} {m:Nat} {cs:List Value} {x:DataW H×List MemPlace} (h:DataW.trod enc Tryz.prog w base spare held m 79 cs=some x): ∃s:Int×Int,cs=ptc s:=by
 obtain⟨xs,m',_,_,hl,hxl,hf⟩:=DataW.trod_struct Tryz.underlying79 h
 obtain⟨c0,c1,rfl⟩:=ls2 (hl.trans cpt)
 have f0:DataW.trod enc Tryz.prog w base spare held m' 3 (([c0,c1].drop 0).take (Tryz.prog.cellsOf 3))=xs[0]? :=hf 0 _ rfl
 have f1:DataW.trod enc Tryz.prog w base spare held m' 3 (([c0,c1].drop 1).take (Tryz.prog.cellsOf 3))=xs[1]? :=hf 1 _ rfl
 rw[ci1]at f0 f1
 have hx:xs.length=2:=hxl
 obtain⟨z0,rfl,_⟩:=int_ofk Tryz.underlying3 f0 (by simp[hx])
 obtain⟨z1,rfl,_⟩:=int_ofk Tryz.underlying3 f1 (by simp[hx])
 exact⟨(z0,z1),rfl⟩
theorem points_rd {fuel:Nat} {v:Value} {y:DataW H×List MemPlace} (h:DataW.trod enc Tryz.prog W 0 (fun _=>true) held fuel 71 [v]=some y):
  ∃a n cap,∃l:List (Int×Int),v=.slice a n cap∧Rd W 2 a n cap (l.flatMap ptc)∧l.length=n:=
 rows_rd (f:=ptc) (fun _=>rfl) (by decide) Tryz.underlying71 cpt (fun _ _ _ h=>pt_of h) h
theorem c16:Tryz.prog.cellsOf 81=1:=by kernel_rfl
end
end Go.Proofs.YtplljnfjkkloeaaGreatDoor
set_option linter.unusedVariables false
set_option linter.unusedSimpArgs false
namespace Go.Proofs.YtplljnfjkkloeaaGreatDoor
attribute [local go_sem] Go.Oper.semAt_some
open Go.RowKit
def sgI (a:Int):Int:=if a<0 then -1 else if 0<a then 1 else 0
def sgT (a b c:Int):Int:=if a≠0 then sgI a else if b≠0 then sgI b else sgI c
def n3 (a b c:Int):Nat→Int
 |0=>a
 |1=>b
 |_=>c
set_option maxRecDepth 100000 in
theorem sign_any (a b c:Int) (w:World):Calls Tryz.prog 67 #[.agg #[.int .i64 a,.int .i64 b,.int .i64 c]] w fun e w'=>e=.returned (.int .i64 (sgT a b c))∧Ext w w':=by
 have HB:Hid (Blk (w.alloc (.cells #[.int .i64 a,.int .i64 b,.int .i64 c] 156)) w.heap.size 156 #[.int .i64 a,.int .i64 b,.int .i64 c]):=Lib.hid (Blk.new _ _ _)
 have HE:Hid (Ext w (w.alloc (.cells #[.int .i64 a,.int .i64 b,.int .i64 c] 156))):=Lib.hid ((Ext.refl w).alloc _)
 obtain⟨r,hr⟩: ∃r,r=sgT a b c:=⟨_,rfl⟩
 rw[←hr]
 have HRR:=Lib.hid hr
 clear hr
 go_enter Tryz.func67,Tryz.ntmps67
 go_wp2_with fail
 generalize w.alloc (.cells #[.int .i64 a,.int .i64 b,.int .i64 c] 156)=W0 at*
 obtain⟨c0,c1,c2⟩:=HB.out.c3
 go_loopw [3] (fun i wr=> ∃k:Nat,k≤3∧i=.int .i64 k∧Hid (wr=W0∧ ∀j,j<k→n3 a b c j=0)) (fun i _=>3-(intOf i).toNat)
 case atStart=>exact⟨0,by omega,rfl,Lib.hid ⟨rfl,fun j hj=>by omega⟩⟩
 case round=>
  obtain⟨k,hk,rfl,HX⟩:=hrel
  obtain⟨W1,rfl⟩: ∃W1:World,W1=wr:=⟨_,rfl⟩
  obtain⟨rfl, -⟩:=HX.out
  rcases(by omega:k=0∨k=1∨k=2∨k=3)with rfl|rfl|rfl|rfl
  ·rcases(by omega:a<0∨a=0∨0<a)with h|h|h
   ·have d1:decide (a<0)=true:=by simpa using h
    have HV:Hid (r= -1):=Lib.hid (by rw[HRR.out];unfold sgT sgI;rw[if_pos (by omega),if_pos h])
    clear h
    go_wp2_with fail
    go_ret
    exact⟨by rw[HV.out];rfl,HE.out⟩
   ·have d1:decide (a<0)=false:=by simp;omega
    have d2:decide (a>0)=false:=by simp;omega
    have HN:Hid (True∧ ∀j,j<1→n3 a b c j=0):=Lib.hid ⟨trivial,fun j hj=>by obtain rfl:j=0:=(by omega);exact h⟩
    clear h
    go_wp2_with fail
    go_roundw
    case rel=>exact⟨1,by omega,rfl,HN⟩
    case measure=>first|(simp[intOf];done)|(simp[intOf];omega)
   ·have d1:decide (a<0)=false:=by simp;omega
    have d2:decide (a>0)=true:=by simp;omega
    have HV:Hid (r=1):=Lib.hid (by rw[HRR.out];unfold sgT sgI;rw[if_pos (by omega),if_neg (by omega),if_pos h])
    clear h
    go_wp2_with fail
    go_ret
    exact⟨by rw[HV.out];rfl,HE.out⟩
  ·have ha:=HX.out.2 0 (by omega)
   rcases(by omega:b<0∨b=0∨0<b)with h|h|h
   ·have d1:decide (b<0)=true:=by simpa using h
    have HV:Hid (r= -1):=Lib.hid (by rw[HRR.out];unfold sgT sgI;rw[if_neg (by simpa[n3]using ha),if_pos (by omega),if_pos h])
    clear h ha
    go_wp2_with fail
    go_ret
    exact⟨by rw[HV.out];rfl,HE.out⟩
   ·have d1:decide (b<0)=false:=by simp;omega
    have d2:decide (b>0)=false:=by simp;omega
    have HN:Hid (True∧ ∀j,j<2→n3 a b c j=0):=Lib.hid ⟨trivial,fun j hj=>by
     rcases(by omega:j=0∨j=1)with rfl|rfl
     ·exact ha
     ·exact h⟩
    clear h ha
    go_wp2_with fail
    go_roundw
    case rel=>exact⟨2,by omega,rfl,HN⟩
    case measure=>first|(simp[intOf];done)|(simp[intOf];omega)
   ·have d1:decide (b<0)=false:=by simp;omega
    have d2:decide (b>0)=true:=by simp;omega
    have HV:Hid (r=1):=Lib.hid (by rw[HRR.out];unfold sgT sgI;rw[if_neg (by simpa[n3]using ha),if_pos (by omega),if_neg (by omega),if_pos h])
    clear h ha
    go_wp2_with fail
    go_ret
    exact⟨by rw[HV.out];rfl,HE.out⟩
  ·have ha:=HX.out.2 0 (by omega)
   have hb:=HX.out.2 1 (by omega)
   rcases(by omega:c<0∨c=0∨0<c)with h|h|h
   ·have d1:decide (c<0)=true:=by simpa using h
    have HV:Hid (r= -1):=Lib.hid (by rw[HRR.out];unfold sgT;rw[if_neg (by simpa[n3]using ha),if_neg (by simpa[n3]using hb)];unfold sgI;rw[if_pos h])
    clear h ha hb
    go_wp2_with fail
    go_ret
    exact⟨by rw[HV.out];rfl,HE.out⟩
   ·have d1:decide (c<0)=false:=by simp;omega
    have d2:decide (c>0)=false:=by simp;omega
    have HN:Hid (True∧ ∀j,j<3→n3 a b c j=0):=Lib.hid ⟨trivial,fun j hj=>by
     rcases(by omega:j=0∨j=1∨j=2)with rfl|rfl|rfl
     ·exact ha
     ·exact hb
     ·exact h⟩
    clear h ha hb
    go_wp2_with fail
    go_roundw
    case rel=>exact⟨3,by omega,rfl,HN⟩
    case measure=>first|(simp[intOf];done)|(simp[intOf];omega)
   ·have d1:decide (c<0)=false:=by simp;omega
    have d2:decide (c>0)=true:=by simp;omega
    have HV:Hid (r=1):=Lib.hid (by rw[HRR.out];unfold sgT;rw[if_neg (by simpa[n3]using ha),if_neg (by simpa[n3]using hb)];unfold sgI;rw[if_neg (by omega),if_pos h])
    clear h ha hb
    go_wp2_with fail
    go_ret
    exact⟨by rw[HV.out];rfl,HE.out⟩
  ·have ha:=HX.out.2 0 (by omega)
   have hb:=HX.out.2 1 (by omega)
   have hc:=HX.out.2 2 (by omega)
   have HV:Hid (r=0):=Lib.hid (by
    have hc':c=0:=hc
    rw[HRR.out];unfold sgT;rw[if_neg (by simpa[n3]using ha),if_neg (by simpa[n3]using hb)];unfold sgI;rw[if_neg (by omega),if_neg (by omega)])
   clear ha hb hc
   go_wp2_with fail
   go_ret
   exact⟨by rw[HV.out];rfl,HE.out⟩
set_option maxRecDepth 100000 in
theorem rabs_any (n:Int) (w:World) (h0: -4611686018427387904≤n) (h1:n≤4611686018427387904):Calls Tryz.prog 68 #[.int .i64 n] w fun e w'=>e=.returned (.int .i64 (max n (-n)))∧w=w':=by
 have e1:wrap64 (-n)= -n:=wrap64_of (by omega) (by omega)
 have e2:wrap64 (0-n)= -n:=by rw[Int.zero_sub];exact e1
 clear h0 h1
 go_enter Tryz.func68,Tryz.ntmps68
 go_wp2_with fail
 go_ret
 exact⟨rfl,rfl⟩
end Go.Proofs.YtplljnfjkkloeaaGreatDoor
set_option linter.unusedVariables false
set_option linter.unusedSimpArgs false
namespace Go.Proofs.YtplljnfjkkloeaaGreatDoor
attribute [local go_sem] Go.Oper.semAt_some
open Go.RowKit
theorem sgT_lt (a b c:Int):decide (sgT a b c<0)=decide (a<0∨a=0∧(b<0∨b=0∧c<0)):=by
 unfold sgT sgI
 apply decide_eq_decide.2
 split
 ·split
  ·omega
  ·split <;>omega
 ·split
  ·split
   ·omega
   ·split <;>omega
  ·split
   ·omega
   ·split <;>omega
theorem sgT_gt (a b c:Int):decide (sgT a b c>0)=decide (0<a∨a=0∧(0<b∨b=0∧0<c)):=by
 unfold sgT sgI
 apply decide_eq_decide.2
 split
 ·split
  ·omega
  ·split <;>omega
 ·split
  ·split
   ·omega
   ·split <;>omega
  ·split
   ·omega
   ·split <;>omega
theorem sgT_ge (a b c:Int):decide (sgT a b c≥0)=!decide (a<0∨a=0∧(b<0∨b=0∧c<0)):=by
 rw[←sgT_lt,←decide_not];apply decide_eq_decide.2;omega
theorem sgT_le (a b c:Int):decide (sgT a b c≤0)=!decide (0<a∨a=0∧(0<b∨b=0∧0<c)):=by
 rw[←sgT_gt,←decide_not];apply decide_eq_decide.2;omega
instance (px py x y:Int):Decidable (rIn px py x y):=by unfold rIn;infer_instance
instance (ax ay bx by_ x y:Int):Decidable (rThrough ax ay bx by_ x y):=by unfold rThrough;infer_instance
instance (ax ay bx by_ x y:Int):Decidable (rMeets ax ay bx by_ x y):=by unfold rMeets;infer_instance
instance (ax ay bx by_ x y:Int):Decidable (rExits ax ay bx by_ x y):=by unfold rExits;infer_instance
set_option maxRecDepth 100000 in
theorem inside_any (px py x y:Int) (w:World) (hp:(-1048576≤px∧px≤1048576)∧(-1048576≤py∧py≤1048576)) (hx: -5000≤x∧x≤5000) (hy: -5000≤y∧y≤5000):
  Calls Tryz.prog 46 #[.agg #[.int .i64 px,.int .i64 py],.int .i64 x,.int .i64 y] w fun e w'=>e=.returned (.bool (decide (rIn px py x y)))∧Ext w w':=by
 obtain⟨X1,hX1⟩: ∃z,z=256*x:=⟨_,rfl⟩
 have e1:wrap64 (256*x)=X1:=by rw[hX1];exact wrap64_of (by omega) (by omega)
 obtain⟨Y1,hY1⟩: ∃z,z=256*y:=⟨_,rfl⟩
 have e2:wrap64 (256*y)=Y1:=by rw[hY1];exact wrap64_of (by omega) (by omega)
 obtain⟨X2,hX2⟩: ∃z,z=px-X1:=⟨_,rfl⟩
 have e3:wrap64 (px-X1)=X2:=by rw[hX2];exact wrap64_of (by omega) (by omega)
 obtain⟨Y2,hY2⟩: ∃z,z=py-Y1:=⟨_,rfl⟩
 have e4:wrap64 (py-Y1)=Y2:=by rw[hY2];exact wrap64_of (by omega) (by omega)
 obtain⟨u,hu⟩: ∃z,z=X2-128:=⟨_,rfl⟩
 have e5:wrap64 (X2-128)=u:=by rw[hu];exact wrap64_of (by omega) (by omega)
 obtain⟨v,hv⟩: ∃z,z=Y2-128:=⟨_,rfl⟩
 have e6:wrap64 (Y2-128)=v:=by rw[hv];exact wrap64_of (by omega) (by omega)
 obtain⟨s,hs⟩: ∃z,z=u+v:=⟨_,rfl⟩
 have e7:wrap64 (u+v)=s:=by rw[hs];exact wrap64_of (by omega) (by omega)
 obtain⟨d,hd⟩: ∃z,z=u-v:=⟨_,rfl⟩
 have e8:wrap64 (u-v)=d:=by rw[hd];exact wrap64_of (by omega) (by omega)
 obtain⟨s1,hs1⟩: ∃z,z=s-128:=⟨_,rfl⟩
 have e9:wrap64 (s-128)=s1:=by rw[hs1];exact wrap64_of (by omega) (by omega)
 obtain⟨s2,hs2⟩: ∃z,z=s+128:=⟨_,rfl⟩
 have e10:wrap64 (s+128)=s2:=by rw[hs2];exact wrap64_of (by omega) (by omega)
 obtain⟨d1,hd1⟩: ∃z,z=d-128:=⟨_,rfl⟩
 have e11:wrap64 (d-128)=d1:=by rw[hd1];exact wrap64_of (by omega) (by omega)
 obtain⟨d2,hd2⟩: ∃z,z=d+128:=⟨_,rfl⟩
 have e12:wrap64 (d+128)=d2:=by rw[hd2];exact wrap64_of (by omega) (by omega)
 obtain⟨r,hr⟩: ∃r,r=decide (rIn px py x y):=⟨_,rfl⟩
 rw[←hr]
 have hr2:r=(decide (s1≤0)&&decide (0≤s2∧s2≠0)&&decide (d1≤0)&&decide (0≤d2∧d2≠0)):=by
  rw[hr]
  simp only[←Bool.decide_and]
  apply decide_eq_decide.2
  unfold rIn
  omega
 have b1:decide (sgT s1 (-1) (-1)<0)=decide (s1≤0):=by rw[sgT_lt];apply decide_eq_decide.2;omega
 have b2:decide (sgT s2 (-1) (-1)>0)=decide (0≤s2∧s2≠0):=by rw[sgT_gt];apply decide_eq_decide.2;omega
 have b3:decide (sgT d1 (-1) 1<0)=decide (d1≤0):=by rw[sgT_lt];apply decide_eq_decide.2;omega
 have b4:decide (sgT d2 (-1) 1>0)=decide (0≤d2∧d2≠0):=by rw[sgT_gt];apply decide_eq_decide.2;omega
 clear hX1 hY1 hX2 hY2 hu hv hs hd hs1 hs2 hd1 hd2 hr hp hx hy
 generalize decide (s1≤0)=B1 at*
 generalize decide (0≤s2∧s2≠0)=B2 at*
 generalize decide (d1≤0)=B3 at*
 generalize decide (0≤d2∧d2≠0)=B4 at*
 have HR:=Lib.hid hr2
 clear hr2
 cases B1 <;>cases B2 <;>cases B3 <;>cases B4
 all_goals
  have HRV:Hid (r=_):=Lib.hid HR.out
  go_enter Tryz.func46,Tryz.ntmps46
  go_wp2_with fail
  go_quiet (fail)
  go_wp2_with (go_at_call 67;refine(sign_any _ _ _ _).mono ?_;rintro e w1 ⟨rfl,hE⟩;obtain⟨z,rfl⟩:=Later.mk' hE;clear hE)
  go_ret
  exact⟨by rw[HR.out];rfl,by(repeat(first|with_reducible(first|exact eR_ _|assumption|refine eA_ ?_ _|refine eD_ ?_|refine eN_ ?_ _|refine eL_ ?_ _)|(with_reducible refine eS_ ?_ _ ?hp;case hp=>first|(simp;done)|(simp;omega)|omega)))⟩
end Go.Proofs.YtplljnfjkkloeaaGreatDoor
