/- Proof text: the document's dash (rastrumref15.Lit), its rectangle (rastrumref12.Right). By an AI agent. No condition beyond what each theorem states. -/
import Derived.Test.YtplljnfjkkloeaaGreatDoorVD
import Derived.Test.YtplljnfjkkloeaaGreatDoorTA
set_option linter.unusedVariables false
set_option linter.unusedSimpArgs false
set_option maxHeartbeats 4000000
namespace Go.Proofs.YtplljnfjkkloeaaGreatDoor
attribute [local go_sem] Go.Oper.semAt_some
open Go.RowKit
set_option maxRecDepth 100000 in
theorem rlit_any (P R k:Int) (w:World) (hP:0≤P∧P<65536) (hR:1≤R∧R≤256) (hk:0≤k∧k≤100000000):
  Calls Tryz.prog 27 #[.agg #[.int .i64 P,.int .i64 R,.int .i64 0],.int .i64 k] w fun e w'=>e=.returned (.bool ((Da.mk P R 0).lit k))∧Ext w w':=by
 obtain⟨p,rfl⟩:=Int.eq_ofNat_of_zero_le hP.1
 obtain⟨D,hD⟩: ∃P,P=w.heap.size:=⟨_,rfl⟩
 have HB:Hid (Blk (w.alloc (.cells #[.int .i64 (p:Int),.int .i64 R,.int .i64 0] 44)) D 44 #[.int .i64 (p:Int),.int .i64 R,.int .i64 0]):=Lib.hid (by rw[hD];exact Blk.new _ _ _)
 have HE:Hid (Ext w (w.alloc (.cells #[.int .i64 (p:Int),.int .i64 R,.int .i64 0] 44))):=Lib.hid ((Ext.refl w).alloc _)
 obtain⟨r,hr⟩: ∃r,r=(Da.mk (p:Int) R 0).lit k:=⟨_,rfl⟩
 rw[←hr]
 unfold Da.lit at hr
 simp only[Int.zero_add]at hr
 obtain⟨q,hq⟩: ∃q,q=k/R:=⟨_,rfl⟩
 have hq0:0≤q:=by rw[hq];exact Int.ediv_nonneg hk.1 (by omega)
 have hq1:q≤k:=by rw[hq];exact Int.ediv_le_self _ hk.1
 obtain⟨B,hB⟩: ∃B:Nat,(B:Int)=q%16:=⟨(q%16).toNat,by omega⟩
 have hB16:B<16:=by omega
 rw[←hq,←hB,Int.toNat_natCast]at hr
 have hcast: ∀i:Nat,((p:Int)/2^i)=((p/2^i:Nat):Int):=fun i=>by norm_cast
 rw[hcast]at hr
 have hpi: ∀i:Nat,((p/2^i:Nat):Int)<65536:=fun i=>by
  have:=Nat.div_le_self p (2^i)
  omega
 have hstep: ∀i:Nat,p/2^(i+1)=p/2^i/2:=fun i=>by rw[Nat.pow_succ,Nat.div_div_eq_div_mul]
 have HPI:=Lib.hid (And.intro hpi hstep)
 have HRR:=Lib.hid hr
 have e1:wrap64 k=k:=wrap64_of (by omega) (by omega)
 have e2:k.tdiv R=q:=by rw[hq];exact Int.tdiv_eq_ediv_of_nonneg hk.1
 have e3:wrap64 q=q:=wrap64_of (by omega) (by omega)
 have e4:q.tmod 16=(B:Int):=by rw[hB];exact Int.tmod_eq_emod_of_nonneg hq0
 have e5:wrap64 (B:Int)=(B:Int):=wrap64_of (by omega) (by omega)
 have hnz:R≠0:=by omega
 have e6:wrap64 (0+k)=k:=by rw[Int.zero_add];exact e1
 clear hP hR hk hr hq hq0 hq1 hB hcast hpi hstep
 go_enter Tryz.func27,Tryz.ntmps27
 go_upto_region 1 with fail
 simp only[←hD]
 clear hD
 generalize(w.alloc (.cells #[.int .i64 (p:Int),.int .i64 R,.int .i64 0] 44))=W0 at*
 obtain⟨c0,c1,c2⟩:=HB.out.c3
 go_upto_region 4 with fail
 try simp only[e1,e2,e3,e4,e5,e6]
 clear e1 e2 e3 e4 e5 e6 c0 c1 c2 hnz
 go_loopw [6,7] (fun n i wr=> ∃j:Nat,j≤B∧i=.int .i64 j∧n=.int .i64 ((p/2^j:Nat):Int)∧Hid (wr=W0)) (fun _ i _=>B-(intOf i).toNat)
 case atStart=>exact⟨0,Nat.zero_le _,rfl,by simp,Lib.hid rfl⟩
 case round=>
  obtain⟨j,hj,rfl,rfl,HX⟩:=hrel
  obtain rfl:=HX.out
  have h1:=HPI.out.1 j
  obtain⟨N,hN⟩: ∃N,N=p/2^j:=⟨_,rfl⟩
  rw[←hN]at h1 ⊢
  have hs:=HPI.out.2 j
  rw[←hN]at hs
  by_cases hlt:j<B
  ·have d1:decide ((j:Int)<B)=true:=by simp;omega
   have e1:(N:Int).tdiv 2=((N/2:Nat):Int):=by rw[Int.tdiv_eq_ediv_of_nonneg (by omega)];omega
   have e2:wrap64 ((N/2:Nat):Int)=((N/2:Nat):Int):=wrap64_of (by omega) (by omega)
   have e3:wrap64 ((j:Int)+1)=(j:Int)+1:=wrap64_of (by omega) (by omega)
   have HS:Hid (((N/2:Nat):Int)=((p/2^(j+1):Nat):Int)):=Lib.hid (by rw[hs])
   have HJ:Hid (j+1≤B):=Lib.hid (by omega)
   generalize((N/2:Nat):Int)=N2 at*
   clear h1 hs hN hlt hj
   go_wp2_with fail
   try simp only[e1,e2,e3]
   go_roundw
   case rel=>first|exact⟨j+1,HJ.out,by go_num,by rw[HS.out],Lib.hid rfl⟩|exact⟨j+1,HJ.out,by go_num,by rw[HS.out],Lib.hid trivial⟩|((repeat apply Exists.intro);exact⟨⟨j+1,HJ.out,by go_num,by rw[HS.out],Lib.hid rfl⟩,rfl⟩)
   case measure=>have:=HJ.out;simp[intOf];omega
  ·obtain rfl:j=B:=by omega
   have d1:decide ((j:Int)<j)=false:=by simp
   have e1:(N:Int).tmod 2=((N%2:Nat):Int):=by rw[Int.tmod_eq_emod_of_nonneg (by omega)];omega
   have HV:Hid (r=(((N%2:Nat):Int)==1)):=Lib.hid (by rw[HRR.out,←hN];congr 1)
   clear h1 hs hN
   generalize((N%2:Nat):Int)=M at*
   go_wp2_with fail
   go_ret
   exact⟨by rw[HV.out];rfl,HE.out⟩
set_option maxRecDepth 100000 in
theorem rright_98 (w:World):Calls Tryz.prog 32 #[.agg #[.int .i64 0,.int .i64 0,.int .i64 9,.int .i64 8]] w fun e w'=>e=.returned (.bool true)∧Ext w w':=by
 obtain⟨D,hD⟩: ∃P,P=w.heap.size:=⟨_,rfl⟩
 have HB:Hid (Blk (w.alloc (.cells #[.int .i64 0,.int .i64 0,.int .i64 9,.int .i64 8] 48)) D 48 #[.int .i64 0,.int .i64 0,.int .i64 9,.int .i64 8]):=Lib.hid (by rw[hD];exact Blk.new _ _ _)
 have HE:Hid (Ext w (w.alloc (.cells #[.int .i64 0,.int .i64 0,.int .i64 9,.int .i64 8] 48))):=Lib.hid ((Ext.refl w).alloc _)
 go_enter Tryz.func32,Tryz.ntmps32
 go_upto_region 1 with fail
 simp only[←hD]
 clear hD
 generalize(w.alloc (.cells #[.int .i64 0,.int .i64 0,.int .i64 9,.int .i64 8] 48))=W0 at*
 obtain⟨c0,c1,c2,c3⟩:=HB.out.c4
 go_upto_region 2 with fail
 have HA:Hid (Blk (W0.alloc (.cells #[.int .i64 0,.int .i64 9,.int .i64 0,.int .i64 8] 29)) W0.heap.size 29 #[.int .i64 0,.int .i64 9,.int .i64 0,.int .i64 8]):=Lib.hid (Blk.new _ _ _)
 have HE2:Hid (Ext W0 (W0.alloc (.cells #[.int .i64 0,.int .i64 9,.int .i64 0,.int .i64 8] 29))):=Lib.hid ((Ext.refl W0).alloc _)
 generalize(W0.alloc (.cells #[.int .i64 0,.int .i64 9,.int .i64 0,.int .i64 8] 29))=W1 at*
 generalize W0.heap.size=P at*
 clear c0 c1 c2 c3
 obtain⟨c0,c1,c2,c3⟩:=(HB.out.ext HE2.out).c4
 obtain⟨a0,a1,a2,a3⟩:=HA.out.c4
 go_wp2_with fail
 go_loopw [4] (fun i wr=> ∃k:Nat,k≤4∧i=.int .i64 k∧Hid (wr=W1)) (fun i _=>4-(intOf i).toNat)
 case atStart=>exact⟨0,by omega,rfl,Lib.hid rfl⟩
 case round=>
  obtain⟨k,hk,rfl,HX⟩:=hrel
  obtain rfl:=HX.out
  rcases(by omega:k=0∨k=1∨k=2∨k=3∨k=4)with rfl|rfl|rfl|rfl|rfl
  ·go_wp2_with fail
   go_roundw
   case rel=>first|exact⟨1,by omega,rfl,Lib.hid rfl⟩|exact⟨1,by omega,rfl,Lib.hid trivial⟩
   case measure=>first|(simp[intOf];done)|(simp[intOf];omega)
  ·go_wp2_with fail
   go_roundw
   case rel=>first|exact⟨2,by omega,rfl,Lib.hid rfl⟩|exact⟨2,by omega,rfl,Lib.hid trivial⟩
   case measure=>first|(simp[intOf];done)|(simp[intOf];omega)
  ·go_wp2_with fail
   go_roundw
   case rel=>first|exact⟨3,by omega,rfl,Lib.hid rfl⟩|exact⟨3,by omega,rfl,Lib.hid trivial⟩
   case measure=>first|(simp[intOf];done)|(simp[intOf];omega)
  ·go_wp2_with fail
   go_roundw
   case rel=>first|exact⟨4,by omega,rfl,Lib.hid rfl⟩|exact⟨4,by omega,rfl,Lib.hid trivial⟩
   case measure=>first|(simp[intOf];done)|(simp[intOf];omega)
  ·go_wp2_with fail
   go_ret
   exact⟨rfl,HE.out.trans HE2.out⟩
end Go.Proofs.YtplljnfjkkloeaaGreatDoor
set_option linter.unusedVariables false
set_option linter.unusedSimpArgs false
namespace Go.Proofs.YtplljnfjkkloeaaGreatDoor
open Go.RowKit
structure EQ (E0:(Nat→Value)→World→Prop) (F:Nat→Value→World→Prop) (ks:List (Nat×Nat)) (cuts:List (Nat×List Nat)) (st:Nat→Bool) (u:Nat→Value) (x:World):Prop where
 e:(∀c∈cuts,st c.1=false)→E0 u x
 val: ∀q∈ks,st q.1=true→(∀c∈cuts,st c.1=true→q.1∈c.2)→F q.2 (u q.2) x
section
variable {x y:World} {E0:(Nat→Value)→World→Prop} {F:Nat→Value→World→Prop} {ks:List (Nat×Nat)} {cuts:List (Nat×List Nat)} {st:Nat→Bool} {u:Nat→Value}
theorem EQ.begin (e:E0 u x):EQ E0 F ks cuts (fun _=>false) u x:=⟨fun _=>e,fun _ _ h=>(by cases h)⟩
theorem EQ.step (h:EQ E0 F ks cuts st u x) (i d:Nat) (hk: ∀q∈ks,(q.2=d↔q.1=i)) (hi: ∀c∈cuts,c.1≠i) {v:Value} (hE:E0 u x→E0 (upu u d v) y) (hF: ∀s v,F s v x→F s v y) (hv:F d v y):EQ E0 F ks cuts (ups st i) (upu u d v) y:=by
 refine⟨fun hs=>hE (h.e fun c hc=>by have:=hs c hc;rwa[ups_ne (hi c hc)]at this),fun q hq hs ha=>?_⟩
 by_cases hqi:q.1=i
 ·have hd:=(hk q hq).2 hqi
  rw[hd,upu_eq]
  exact hv
 ·rw[upu_ne (fun hd=>hqi ((hk q hq).1 hd))]
  rw[ups_ne hqi]at hs
  exact hF _ _ (h.val q hq hs fun c hc hst=>ha c hc (by rw[ups_ne (hi c hc)];exact hst))
theorem EQ.quiet (h:EQ E0 F ks cuts st u x) (i d:Nat) (hk: ∀q∈ks,(q.2=d↔q.1=i)) (hi: ∀c∈cuts,c.1≠i) {v:Value} (hE:E0 u x→E0 (upu u d v) x) (hv:F d v x):EQ E0 F ks cuts (ups st i) (upu u d v) x:=
 h.step i d hk hi hE (fun _ _ h=>h) hv
theorem EQ.cut (h:EQ E0 F ks cuts st u x) (c0:Nat×List Nat) (h0:c0∈cuts) (d:Nat) (hk: ∀q∈ks,(q.2=d↔q.1=c0.1)) (hF: ∀q∈ks,q.1≠c0.1→q.1∈c0.2→st q.1=true→ ∀v,F q.2 v x→F q.2 v y) {v:Value} (hv:F d v y):EQ E0 F ks cuts (ups st c0.1) (upu u d v) y:=by
 refine⟨fun hs=>(by have:=hs c0 h0;rw[ups_eq]at this;cases this),fun q hq hs ha=>?_⟩
 by_cases hqi:q.1=c0.1
 ·have hd:=(hk q hq).2 hqi
  rw[hd,upu_eq]
  exact hv
 ·rw[upu_ne (fun hd=>hqi ((hk q hq).1 hd))]
  rw[ups_ne hqi]at hs
  refine hF q hq hqi (ha c0 h0 (ups_eq _)) hs _ (h.val q hq hs fun c hc hst=>ha c hc ?_)
  by_cases hci:c.1=c0.1
  ·rw[hci];exact ups_eq _
  ·rw[ups_ne hci];exact hst
end
theorem all3 {α:Type} {P:α→Prop} {a b c:α} (h1:P a) (h2:P b) (h3:P c): ∀x∈[a,b,c],P x:=by
 intro x hx
 simp only[List.mem_cons,List.not_mem_nil,or_false]at hx
 rcases hx with rfl|rfl|rfl <;>assumption
theorem no_of {b:Bool} {p:Prop} (h:b=false):b=true→p:=fun k=>by rw[h]at k;cases k
theorem run_tail {P:Program} {t e:TypeId} {size:Nat} (hu:P.underlying t=some (.slice e)) (hs:(P.info? e).map (·.size)=some size) (a:Option Addr) (n cap:Nat) (L:Int) (lo:Nat) (hL:L=lo) (h1:lo≤n) (h2:n≤cap) (w:World):
  (Instr.slice t (.slice a n cap) (some (.int .i64 L)) none none).run P w=.ok (.slice (if cap=lo then a else a.map (·.add (lo*size))) (n-lo) (cap-lo)) w:=by
 subst hL
 obtain⟨i,hi1,hi2⟩:=Option.map_eq_some_iff.1 hs
 simp[Instr.slice,run_underlying hu,Instr.sliceBounds,run_sliceBound,h1,h2,sizeOf,typeInfo,hi1,hi2]
theorem run_head {P:Program} {t e:TypeId} {size:Nat} (hu:P.underlying t=some (.slice e)) (hs:(P.info? e).map (·.size)=some size) (a:Option Addr) (n cap:Nat) (H:Int) (hi:Nat) (hH:H=hi) (h1:hi≤cap) (w:World):
  (Instr.slice t (.slice a n cap) none (some (.int .i64 H)) none).run P w=.ok (.slice (if cap=0 then a else a.map (·.add 0)) hi cap) w:=by
 subst hH
 obtain⟨i,hi1,hi2⟩:=Option.map_eq_some_iff.1 hs
 simp[Instr.slice,run_underlying hu,Instr.sliceBounds,run_sliceBound,h1,sizeOf,typeInfo,hi1,hi2]
theorem own_head {P:Program} {t e:TypeId} {size:Nat} (hu:P.underlying t=some (.slice e)) (hs:(P.info? e).map (·.size)=some size) {w:World} {base:Nat} {ty:TypeId} {v:Value} {n:Nat} {xs:List Value} (h:w.ownsRow base ty size v n xs) (hi:Nat) (h1:hi≤n):
  ∃v',(∀w':World,(Instr.slice t v none (some (.int .i64 (hi:Int))) none).run P w'=.ok v' w')∧w.ownsRow base ty size v' hi (xs.take (hi*size))∧v'.ownBlock=v.ownBlock:=by
 obtain⟨hl,h0|⟨g,cap,cur,rfl,hb,hg,hn,hm,hc,hx⟩⟩:=h
 ·obtain⟨rfl,rfl⟩:=h0
  obtain rfl:hi=0:=by omega
  refine⟨.slice none 0 0,fun w'=>?_,⟨by simp,.inl ⟨rfl,rfl⟩⟩,rfl⟩
  have:=run_head hu hs none 0 0 ((0:Nat):Int) 0 rfl (Nat.le_refl _) w'
  simpa using this
 ·refine⟨.slice (some ⟨g,0,none⟩) hi cap,fun w'=>?_,⟨?_,.inr ⟨g,cap,cur,rfl,hb,hg,by omega,hm,hc,?_⟩⟩,rfl⟩
  ·have:=run_head hu hs (some ⟨g,0,none⟩) n cap (hi:Int) hi rfl (by omega) w'
   rw[this]
   congr 2
   split
   ·rfl
   ·simp[Addr.add]
  ·rw[List.length_take,hl]
   have:hi*size≤n*size:=Nat.mul_le_mul_right _ h1
   omega
  ·rw[←hx,List.take_take]
   congr 1
   have:hi*size≤n*size:=Nat.mul_le_mul_right _ h1
   omega
theorem rd_tail {P:Program} {t e:TypeId} {size:Nat} (hu:P.underlying t=some (.slice e)) (hs:(P.info? e).map (·.size)=some size) {W:World} {a:Option Addr} {n cap:Nat} {xs:List Value}
  (h:Rd W size a n cap xs)(lo:Nat)(h1:lo≤n):
  ∃a' c,(∀w:World,(Instr.slice t (.slice a n cap) (some (.int .i64 (lo:Int))) none none).run P w=.ok (.slice a' (n-lo) c) w)∧Rd W size a' (n-lo) c (xs.drop (lo*size)):=by
 have h2:=part_rd h lo n cap h1 (Nat.le_refl _) h.le (Nat.le_refl _)
 rw[List.take_of_length_le (by rw[List.length_drop,h.len,Nat.sub_mul];exact Nat.le_refl _)]at h2
 exact⟨_,_,fun w=>run_tail hu hs a n cap _ lo rfl h1 h.le w,h2⟩
end Go.Proofs.YtplljnfjkkloeaaGreatDoor
set_option linter.unusedVariables false
set_option linter.unusedSimpArgs false
namespace Go.Proofs.YtplljnfjkkloeaaGreatDoor
open Go.RowKit
theorem num_onum {ax ay bx by_ x y:Int} (hne: ¬(ax=bx∧ay=by_)):rnumT (lst (wayOf ax ay bx by_).au) (lst (wayOf ax ay bx by_).bu) (if ofB ax ay bx by_=true then inX ax ay else 0) (if ofB ax ay bx by_=true then inY ax ay else 0) (ofE ax ay bx by_) x y (if(wayOf ax ay bx by_).turned=true then y else x)=onum ax ay bx by_ x y:=by
 have he:=of_extra hne
 unfold rnumT onum
 rw[he]
 by_cases hE:(wayOf ax ay bx by_).extra=true
 ·simp only[hE,if_true]
  rw[hE]at he
  have hB:ofB ax ay bx by_=true:=by
   unfold ofE at he
   rw[Bool.and_eq_true]at he
   exact he.1
  have hI:inB ax ay=true:=by
   unfold ofB at hB
   rw[Bool.and_eq_true,Bool.and_eq_true]at hB
   exact hB.1.1
  have hd:=dIn_of hI
  have hp:(wayOf ax ay bx by_).pa=some (if(wayOf ax ay bx by_).turned=true then(y,x)else(x,y))↔(x=inX ax ay∧y=inY ax ay):=by
   rw[wayOf_pa _ rfl,hd,Option.some.injEq,Prod.mk.injEq]
   exact⟨fun h=>⟨h.1.symm,h.2.symm⟩,fun h=>⟨h.1.symm,h.2.symm⟩⟩
  simp only[hB,if_true,hp]
 ·simp only[hE,if_false,Bool.false_eq_true]
@[reducible] def stC (s:Int×Int×Int):List Value:=[.int .i64 s.1,.int .i64 s.2.1,.int .i64 s.2.2]
theorem st_at {w:World} {b off n cap j:Nat} {L:List (Int×Int×Int)} {q:Int×Int×Int} (h:Rd w 3 (some ⟨b,off,none⟩) n cap (L.flatMap stC)) (hs:L[j]? =some q):
  w.cell? ⟨b,off+j*3,none⟩=some (.int .i64 q.1)∧w.cell? ⟨b,off+j*3+1,none⟩=some (.int .i64 q.2.1)∧w.cell? ⟨b,off+j*3+2,none⟩=some (.int .i64 q.2.2):=by
 have g:=fun i hi=>frow_get (f:=stC) (K:=3) (fun _=>rfl) hs i hi
 refine⟨h.get rfl (j:=j*3) (by have:=g 0 (by omega);rw[Nat.add_zero]at this;exact this),?_,?_⟩
 ·rw[Nat.add_assoc];exact h.get rfl (g 1 (by omega))
 ·rw[Nat.add_assoc];exact h.get rfl (g 2 (by omega))
theorem stC_one (L:List (Int×Int×Int)): ∀u∈L.flatMap stC,u.oneCell'=true:=by
 intro u hu
 rw[List.mem_flatMap]at hu
 obtain⟨q, -,hu⟩:=hu
 simp at hu
 rcases hu with rfl|rfl|rfl <;>rfl
theorem stC_take: ∀(L:List (Int×Int×Int)) (k:Nat),(L.flatMap stC).take (k*3)=(L.take k).flatMap stC
 |[],k=>by simp
 |s::L,0=>by simp
 |s::L,k+1=>by
  rw[List.flatMap_cons,List.take_succ_cons,List.flatMap_cons,←stC_take L k,show(k+1)*3=k*3+3 by omega]
  rfl
theorem stC_drop: ∀(L:List (Int×Int×Int)) (k:Nat),(L.flatMap stC).drop (k*3)=(L.drop k).flatMap stC
 |[],k=>by simp
 |s::L,0=>by simp
 |s::L,k+1=>by
  rw[List.flatMap_cons,List.drop_succ_cons,←stC_drop L k,show(k+1)*3=k*3+3 by omega]
  rfl
def pixK (i j:Nat):List (Int×Int):=pixels 0 0 (i:Int) 8++(List.range j).map fun(j:Nat)=>((i:Int),(j:Int))
theorem pixK_zero (i:Nat):pixK i 0=pixels 0 0 (i:Int) 8:=by simp[pixK]
theorem pixK_next (i j:Nat):pixK i (j+1)=pixK i j++[((i:Int),(j:Int))]:=by
 unfold pixK
 rw[List.range_succ,List.map_append,←List.append_assoc]
 rfl
theorem pixK_full (i:Nat):pixK i 8=pixels 0 0 ((i+1:Nat):Int) 8:=by
 unfold pixK pixels
 have e1:(((i+1:Nat):Int)-0).toNat=i+1:=by omega
 have e2:((i:Int)-0).toNat=i:=by omega
 rw[e1,e2,List.range_succ (n:=i),List.flatMap_append]
 congr 1
 simp
theorem pixK_len (i j:Nat):(pixK i j).length=i*8+j:=by
 induction i with
 |zero=>simp[pixK,pixels]
 |succ i ih=>
  have h1:(pixels 0 0 ((i+1:Nat):Int) 8).length=i*8+8:=by
   rw[←pixK_full]
   unfold pixK at ih ⊢
   simp only[List.length_append,List.length_map,List.length_range]at ih ⊢
   omega
  unfold pixK
  simp only[List.length_append,List.length_map,List.length_range,h1]
  omega
theorem insK_len (s:Int×Int×Int) (l:List (Int×Int×Int)):(insK s l).length=l.length+1:=by
 unfold insK
 have:=cutK_le s.1 l
 simp only[List.length_append,List.length_take,List.length_cons,List.length_drop]
 omega
theorem rlist_len (ax ay bx by_:Int): ∀(l:List (Int×Int)) (out:List (Int×Int×Int)),(rlist ax ay bx by_ l out).length≤out.length+l.length
 |[],out=>by simp[rlist]
 |p::l,out=>by
  rw[rlist]
  refine Nat.le_trans (rlist_len ax ay bx by_ l _) ?_
  split
  ·rw[insK_len,List.length_cons];omega
  ·rw[List.length_cons];omega
def outK (ax ay bx by_:Int) (i j:Nat):List (Int×Int×Int):=rlist ax ay bx by_ (pixK i j) []
theorem outK_yes {ax ay bx by_:Int} {i j:Nat} (h:rExits ax ay bx by_ i j):outK ax ay bx by_ i (j+1)=insK (onum ax ay bx by_ i j,i,j) (outK ax ay bx by_ i j):=by
 unfold outK
 rw[pixK_next,rlist_append,rlist,rlist,if_pos h]
theorem outK_no {ax ay bx by_:Int} {i j:Nat} (h: ¬rExits ax ay bx by_ i j):outK ax ay bx by_ i (j+1)=outK ax ay bx by_ i j:=by
 unfold outK
 rw[pixK_next,rlist_append,rlist,rlist,if_neg h]
theorem outK_len (ax ay bx by_:Int) (i j:Nat):(outK ax ay bx by_ i j).length≤i*8+j:=by
 have:=rlist_len ax ay bx by_ (pixK i j) []
 rw[pixK_len]at this
 simpa[outK]using this
theorem outK_turn (ax ay bx by_:Int) (i:Nat):outK ax ay bx by_ i 8=outK ax ay bx by_ (i+1) 0:=by
 unfold outK
 rw[pixK_full,pixK_zero]
theorem outK_all (ax ay bx by_:Int):outK ax ay bx by_ 9 0=stepL ax ay bx by_ r98:=by
 unfold outK stepL
 rw[pixK_zero]
 exact rlist_is ax ay bx by_ 0 0 9 8 r98.Has (fun x y=>by unfold Rc.Has r98;simp only)
theorem outK_zero (ax ay bx by_:Int):outK ax ay bx by_ 0 0=[]:=by
 unfold outK pixK pixels
 rfl
end Go.Proofs.YtplljnfjkkloeaaGreatDoor
