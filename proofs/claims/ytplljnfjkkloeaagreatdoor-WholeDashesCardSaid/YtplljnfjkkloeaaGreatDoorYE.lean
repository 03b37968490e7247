/- Proof text: the document's diamond (rastrumref13: Meets, Exits). By an AI agent. No condition beyond what each theorem states. -/
import Derived.Test.YtplljnfjkkloeaaGreatDoorMO
import Derived.Test.YtplljnfjkkloeaaGreatDoorWF
import Derived.Test.YtplljnfjkkloeaaGreatDoorGM
import Derived.Test.YtplljnfjkkloeaaGreatDoorTA
set_option linter.unusedVariables false
set_option linter.unusedSimpArgs false
set_option maxHeartbeats 16000000
namespace Go.Proofs.YtplljnfjkkloeaaGreatDoor
attribute [local go_sem] Go.Oper.semAt_some
open Go.RowKit
@[reducible] def ptR (a b:Int):Array Value:= #[.int .i64 a,.int .i64 b]
structure Mt (w wx:World) (A B:Nat) (ax ay bx by_ px py qx qy:Int) (P Q:Nat):Prop where
 a:Blk wx A 79 (ptR ax ay)
 b:Blk wx B 79 (ptR bx by_)
 p:Blk wx P 79 (ptR px py)
 q:Blk wx Q 79 (ptR qx qy)
 e:Ext w wx
theorem Mt.ext {w wx wy:World} {A B:Nat} {ax ay bx by_ px py qx qy:Int} {P Q:Nat} (h:Mt w wx A B ax ay bx by_ px py qx qy P Q) (e:Ext wx wy):Mt w wy A B ax ay bx by_ px py qx qy P Q:=
 ⟨h.a.ext e,h.b.ext e,h.p.ext e,h.q.ext e,h.e.trans e⟩
def mtV (A B:Nat) (ax ay bx by_ x y X1 Y1 a2 a3 b2 b3 px py qx qy:Int):Nat→Value
 |15=>.pointer (some ⟨A,0,none⟩)|16=>.int .i64 ax|17=>.int .i64 x|18=>.int .i64 X1|19=>.int .i64 a2|20=>.int .i64 px
 |21=>.pointer (some ⟨A,1,none⟩)|22=>.int .i64 ay|23=>.int .i64 y|24=>.int .i64 Y1|25=>.int .i64 a3|26=>.int .i64 py
 |27=>.agg (ptR px py)
 |28=>.pointer (some ⟨B,0,none⟩)|29=>.int .i64 bx|30=>.int .i64 x|31=>.int .i64 X1|32=>.int .i64 b2|33=>.int .i64 qx
 |34=>.pointer (some ⟨B,1,none⟩)|35=>.int .i64 by_|36=>.int .i64 y|37=>.int .i64 Y1|38=>.int .i64 b3|39=>.int .i64 qy
 |40=>.agg (ptR qx qy)|_=>undef
abbrev mtD:List Nat:=[15,16,17,18,19,20,21,22,23,24,25,26,27,28,29,30,31,32,33,34,35,36,37,38,39,40,9,10]
def mtT:Nat→TypeId:=fun _=>79
def mtZ:Nat→Array Value:=fun _=> #[.int .i64 0,.int .i64 0]
def mtR (px py qx qy:Int):Nat→Array Value
 |9=>ptR px py|_=>ptR qx qy
theorem pt_one (a b:Int): ∀u∈(Value.agg (ptR a b)).cells.toList,u.oneCell'=true:=by
 intro u hu
 have hu:u∈[Value.int .i64 a,.int .i64 b]:=hu
 simp only[List.mem_cons,List.not_mem_nil,or_false]at hu
 rcases hu with rfl|rfl <;>rfl
theorem wrap_is (n:Int):IntKind.i64.wrap n=wrap64 n:=by unfold wrap64;exact IntKind.wrap_i64 n
theorem sub_mid (b a x:Int):b-256*x-128-(a-256*x-128)=b-a:=by omega
theorem k_min {a b s t m:Int} (hs:s=a) (ht:t=b) (hm:m=min s t-128):min a b≤128↔m≤0:=by subst hs ht;omega
theorem k_max {a b s t m:Int} (hs:s=a) (ht:t=b) (hm:m=max s t+128): -128<max a b↔(0≤m∧m≠0):=by subst hs ht;omega
theorem k_thr {f1 f2 D H nw o f:Int} (h1:f1=o-f) (h2:f2=o+f) (hn:nw= -D):
  ((o-f<0∨(o-f=0∧(H<0∨(H=0∧0<D))))∧(0<o+f∨(o+f=0∧(0<H∨(H=0∧D<0)))))↔
  ((f1<0∨f1=0∧(H<0∨H=0∧nw<0))∧(0<f2∨f2=0∧(0<H∨H=0∧0<nw))):=by
 rw[←h1,←h2]
 have e1:(0<D)↔nw<0:=by omega
 have e2:(D<0)↔0<nw:=by omega
 rw[e1,e2]
theorem rMeets_bool {ax ay bx by_ x y X1 Y1 a2 a3 b2 b3 px py qx qy sp sq dp dq m1 m2 m3 m4 W_ H_ o1 o2 of_ aw ah fr f1 f2 nw:Int}
  (hX1:X1=256*x)(hY1:Y1=256*y)(ha2:a2=ax-X1)(ha3:a3=ay-Y1)(hb2:b2=bx-X1)(hb3:b3=by_-Y1)(hpx:px=a2-128)(hpy:py=a3-128)(hqx:qx=b2-128)(hqy:qy=b3-128)
  (hsp:sp=px+py)(hsq:sq=qx+qy)(hdp:dp=px-py)(hdq:dq=qx-qy)(hm1:m1=min sp sq-128)(hm2:m2=max sp sq+128)(hm3:m3=min dp dq-128)(hm4:m4=max dp dq+128)
  (hW_:W_=qx-px)(hH_:H_=qy-py)(ho1:o1=W_*py)(ho2:o2=H_*px)(hof_:of_=o1-o2)(haw:aw=max W_ (-W_))(hah:ah=max H_ (-H_))(hfr:fr=128*max aw ah)(hf1:f1=of_-fr)(hf2:f2=of_+fr)(hnw:nw= -W_):
  decide (rMeets ax ay bx by_ x y)=(!(!decide (m1≤0))&&!(!decide (0≤m2∧m2≠0))&&!(!decide (m3≤0))&&!(!decide (0≤m4∧m4≠0))&&((ax==bx&&ay==by_)||(decide (f1<0∨f1=0∧(H_<0∨H_=0∧nw<0))&&decide (0<f2∨f2=0∧(0<H_∨H_=0∧0<nw))))):=by
 have gpx:px=ax-256*x-128:=by rw[hpx,ha2,hX1]
 have gpy:py=ay-256*y-128:=by rw[hpy,ha3,hY1]
 have gqx:qx=bx-256*x-128:=by rw[hqx,hb2,hX1]
 have gqy:qy=by_-256*y-128:=by rw[hqy,hb3,hY1]
 have h1:W_=bx-ax:=by rw[hW_,gpx,gqx];exact sub_mid bx ax x
 have h2:H_=by_-ay:=by rw[hH_,gpy,gqy];exact sub_mid by_ ay y
 have hof:of_=rOff ax ay bx by_ x y:=by
  unfold rOff
  rw[hof_,ho1,ho2,h1,h2,gpx,gpy]
 have hfr':fr=rFar ax ay bx by_:=by
  unfold rFar
  rw[hfr,haw,hah,h1,h2]
 rw[gpx,gpy]at hsp hdp
 rw[gqx,gqy]at hsq hdq
 have k1:=k_min hsp hsq hm1
 have k2:=k_max hsp hsq hm2
 have k3:=k_min hdp hdq hm3
 have k4:=k_max hdp hdq hm4
 rw[h1]at hnw
 have k5:=k_thr (H:=by_-ay) hf1 hf2 hnw
 rw[hof,hfr']at k5
 rw[h2]
 rw[Bool.eq_iff_iff]
 simp only[Bool.and_eq_true,Bool.or_eq_true,Bool.not_not,decide_eq_true_eq,beq_iff_eq]
 unfold rMeets rThrough
 rw[k1,k2,k3,k4,k5]
 simp only[and_assoc]
set_option maxRecDepth 100000 in
theorem meets_any (ax ay bx by_ gx gy:Int) (w:World) (ha:(-1048576≤ax∧ax≤1048576)∧(-1048576≤ay∧ay≤1048576)) (hb:(-1048576≤bx∧bx≤1048576)∧(-1048576≤by_∧by_≤1048576)) (hx: -5000≤gx∧gx≤5000) (hy: -5000≤gy∧gy≤5000):
  Calls Tryz.prog 45 #[.agg (ptR ax ay),.agg (ptR bx by_),.int .i64 gx,.int .i64 gy] w fun e w'=>e=.returned (.bool (decide (rMeets ax ay bx by_ gx gy)))∧Ext w w':=by
 obtain⟨X1,hX1⟩: ∃z,z=256*gx:=⟨_,rfl⟩
 have eX1:Hid (wrap64 (256*gx)=X1):=Lib.hid (by rw[hX1];exact wrap64_of (by omega) (by omega))
 obtain⟨Y1,hY1⟩: ∃z,z=256*gy:=⟨_,rfl⟩
 have eY1:Hid (wrap64 (256*gy)=Y1):=Lib.hid (by rw[hY1];exact wrap64_of (by omega) (by omega))
 obtain⟨a2,ha2⟩: ∃z,z=ax-X1:=⟨_,rfl⟩
 have ea2:Hid (wrap64 (ax-X1)=a2):=Lib.hid (by rw[ha2];exact wrap64_of (by omega) (by omega))
 obtain⟨a3,ha3⟩: ∃z,z=ay-Y1:=⟨_,rfl⟩
 have ea3:Hid (wrap64 (ay-Y1)=a3):=Lib.hid (by rw[ha3];exact wrap64_of (by omega) (by omega))
 obtain⟨b2,hb2⟩: ∃z,z=bx-X1:=⟨_,rfl⟩
 have eb2:Hid (wrap64 (bx-X1)=b2):=Lib.hid (by rw[hb2];exact wrap64_of (by omega) (by omega))
 obtain⟨b3,hb3⟩: ∃z,z=by_-Y1:=⟨_,rfl⟩
 have eb3:Hid (wrap64 (by_-Y1)=b3):=Lib.hid (by rw[hb3];exact wrap64_of (by omega) (by omega))
 obtain⟨px,hpx⟩: ∃z,z=a2-128:=⟨_,rfl⟩
 have epx:Hid (wrap64 (a2-128)=px):=Lib.hid (by rw[hpx];exact wrap64_of (by omega) (by omega))
 obtain⟨py,hpy⟩: ∃z,z=a3-128:=⟨_,rfl⟩
 have epy:Hid (wrap64 (a3-128)=py):=Lib.hid (by rw[hpy];exact wrap64_of (by omega) (by omega))
 obtain⟨qx,hqx⟩: ∃z,z=b2-128:=⟨_,rfl⟩
 have eqx:Hid (wrap64 (b2-128)=qx):=Lib.hid (by rw[hqx];exact wrap64_of (by omega) (by omega))
 obtain⟨qy,hqy⟩: ∃z,z=b3-128:=⟨_,rfl⟩
 have eqy:Hid (wrap64 (b3-128)=qy):=Lib.hid (by rw[hqy];exact wrap64_of (by omega) (by omega))
 obtain⟨sp,hsp⟩: ∃z,z=px+py:=⟨_,rfl⟩
 have esp:Hid (wrap64 (px+py)=sp):=Lib.hid (by rw[hsp];exact wrap64_of (by omega) (by omega))
 obtain⟨sq,hsq⟩: ∃z,z=qx+qy:=⟨_,rfl⟩
 have esq:Hid (wrap64 (qx+qy)=sq):=Lib.hid (by rw[hsq];exact wrap64_of (by omega) (by omega))
 obtain⟨dp,hdp⟩: ∃z,z=px-py:=⟨_,rfl⟩
 have edp:Hid (wrap64 (px-py)=dp):=Lib.hid (by rw[hdp];exact wrap64_of (by omega) (by omega))
 obtain⟨dq,hdq⟩: ∃z,z=qx-qy:=⟨_,rfl⟩
 have edq:Hid (wrap64 (qx-qy)=dq):=Lib.hid (by rw[hdq];exact wrap64_of (by omega) (by omega))
 obtain⟨m1,hm1⟩: ∃z,z=min sp sq-128:=⟨_,rfl⟩
 have em1:Hid (wrap64 (min sp sq-128)=m1):=Lib.hid (by rw[hm1];exact wrap64_of (by omega) (by omega))
 obtain⟨m2,hm2⟩: ∃z,z=max sp sq+128:=⟨_,rfl⟩
 have em2:Hid (wrap64 (max sp sq+128)=m2):=Lib.hid (by rw[hm2];exact wrap64_of (by omega) (by omega))
 obtain⟨m3,hm3⟩: ∃z,z=min dp dq-128:=⟨_,rfl⟩
 have em3:Hid (wrap64 (min dp dq-128)=m3):=Lib.hid (by rw[hm3];exact wrap64_of (by omega) (by omega))
 obtain⟨m4,hm4⟩: ∃z,z=max dp dq+128:=⟨_,rfl⟩
 have em4:Hid (wrap64 (max dp dq+128)=m4):=Lib.hid (by rw[hm4];exact wrap64_of (by omega) (by omega))
 obtain⟨W_,hW_⟩: ∃z,z=qx-px:=⟨_,rfl⟩
 have eW_:Hid (wrap64 (qx-px)=W_):=Lib.hid (by rw[hW_];exact wrap64_of (by omega) (by omega))
 obtain⟨H_,hH_⟩: ∃z,z=qy-py:=⟨_,rfl⟩
 have eH_:Hid (wrap64 (qy-py)=H_):=Lib.hid (by rw[hH_];exact wrap64_of (by omega) (by omega))
 have bp:(-2400000≤px∧px≤2400000)∧(-2400000≤py∧py≤2400000):=by omega
 have bW:(-2097152≤W_∧W_≤2097152)∧(-2097152≤H_∧H_≤2097152):=by omega
 have bo1:inMost (W_*py) (2097152*2400000):=mul_bound ⟨by omega,by omega⟩ ⟨by omega,by omega⟩ (by omega) (by omega)
 have bo2:inMost (H_*px) (2097152*2400000):=mul_bound ⟨by omega,by omega⟩ ⟨by omega,by omega⟩ (by omega) (by omega)
 unfold inMost at bo1 bo2
 obtain⟨o1,ho1⟩: ∃z,z=W_*py:=⟨_,rfl⟩
 obtain⟨o2,ho2⟩: ∃z,z=H_*px:=⟨_,rfl⟩
 rw[←ho1]at bo1
 rw[←ho2]at bo2
 have eo1:Hid (wrap64 (W_*py)=o1):=Lib.hid (by rw[ho1];exact wrap64_of (by omega) (by omega))
 have eo2:Hid (wrap64 (H_*px)=o2):=Lib.hid (by rw[ho2];exact wrap64_of (by omega) (by omega))
 obtain⟨of_,hof_⟩: ∃z,z=o1-o2:=⟨_,rfl⟩
 have eof_:Hid (wrap64 (o1-o2)=of_):=Lib.hid (by rw[hof_];exact wrap64_of (by omega) (by omega))
 obtain⟨aw,haw⟩: ∃z,z=max W_ (-W_):=⟨_,rfl⟩
 obtain⟨ah,hah⟩: ∃z,z=max H_ (-H_):=⟨_,rfl⟩
 obtain⟨fr,hfr⟩: ∃z,z=128*max aw ah:=⟨_,rfl⟩
 have efr:Hid (wrap64 (128*max aw ah)=fr):=Lib.hid (by rw[hfr];exact wrap64_of (by omega) (by omega))
 obtain⟨f1,hf1⟩: ∃z,z=of_-fr:=⟨_,rfl⟩
 have ef1:Hid (wrap64 (of_-fr)=f1):=Lib.hid (by rw[hf1];exact wrap64_of (by omega) (by omega))
 obtain⟨f2,hf2⟩: ∃z,z=of_+fr:=⟨_,rfl⟩
 have ef2:Hid (wrap64 (of_+fr)=f2):=Lib.hid (by rw[hf2];exact wrap64_of (by omega) (by omega))
 obtain⟨nw,hnw⟩: ∃z,z= -W_:=⟨_,rfl⟩
 have enw:Hid (wrap64 (-W_)=nw):=Lib.hid (by rw[hnw];exact wrap64_of (by omega) (by omega))
 have enw2:Hid (wrap64 (0-W_)=nw):=Lib.hid (by rw[Int.zero_sub];exact enw.out)
 have HAW:Hid (∀wz,Calls Tryz.prog 68 #[.int .i64 W_] wz fun e w'=>e=.returned (.int .i64 aw)∧Ext wz w'):=Lib.hid (fun wz=>by rw[haw];refine(rabs_any W_ wz (by omega) (by omega)).mono ?_;rintro e w1 ⟨rfl,rfl⟩;exact⟨rfl,Ext.refl _⟩)
 have HAH:Hid (∀wz,Calls Tryz.prog 68 #[.int .i64 H_] wz fun e w'=>e=.returned (.int .i64 ah)∧Ext wz w'):=Lib.hid (fun wz=>by rw[hah];refine(rabs_any H_ wz (by omega) (by omega)).mono ?_;rintro e w1 ⟨rfl,rfl⟩;exact⟨rfl,Ext.refl _⟩)
 obtain⟨r,hr⟩: ∃r,r=decide (rMeets ax ay bx by_ gx gy):=⟨_,rfl⟩
 rw[←hr]
 have hr2:r=(!(!decide (m1≤0))&&!(!decide (0≤m2∧m2≠0))&&!(!decide (m3≤0))&&!(!decide (0≤m4∧m4≠0))&&((ax==bx&&ay==by_)||(decide (f1<0∨f1=0∧(H_<0∨H_=0∧nw<0))&&decide (0<f2∨f2=0∧(0<H_∨H_=0∧0<nw))))):=
  hr.trans (rMeets_bool hX1 hY1 ha2 ha3 hb2 hb3 hpx hpy hqx hqy hsp hsq hdp hdq hm1 hm2 hm3 hm4 hW_ hH_ ho1 ho2 hof_ haw hah hfr hf1 hf2 hnw)
 clear hr ho1 ho2 bo1 bo2 bp bW hX1 hY1 ha2 ha3 hb2 hb3 hpx hpy hqx hqy hsp hsq hdp hdq hm1 hm2 hm3 hm4 hW_ hH_ hof_ haw hah hfr hf1 hf2 hnw ha hb hx hy
 have g1:Hid (decide (sgT m1 (-1) (-1)≥0)=!decide (m1≤0)):=Lib.hid (by rw[sgT_ge];congr 1;apply decide_eq_decide.2;omega)
 have g2:Hid (decide (sgT m2 (-1) (-1)≤0)=!decide (0≤m2∧m2≠0)):=Lib.hid (by rw[sgT_le];congr 1;apply decide_eq_decide.2;omega)
 have g3:Hid (decide (sgT m3 (-1) 1≥0)=!decide (m3≤0)):=Lib.hid (by rw[sgT_ge];congr 1;apply decide_eq_decide.2;omega)
 have g4:Hid (decide (sgT m4 (-1) 1≤0)=!decide (0≤m4∧m4≠0)):=Lib.hid (by rw[sgT_le];congr 1;apply decide_eq_decide.2;omega)
 have g5:=Lib.hid (sgT_lt f1 H_ nw)
 have g6:=Lib.hid (sgT_gt f2 H_ nw)
 have he: ∀W',(Op.equalIn 10000 79 (.agg #[.int .i64 ax,.int .i64 ay]) (.agg #[.int .i64 bx,.int .i64 by_])).run Tryz.prog W'=.ok (ax==bx&&ay==by_) W':=fun W'=>eq_pt ax ay bx by_ W'
 generalize(!decide (m1≤0))=B1 at*
 generalize(!decide (0≤m2∧m2≠0))=B2 at*
 generalize(!decide (m3≤0))=B3 at*
 generalize(!decide (0≤m4∧m4≠0))=B4 at*
 generalize decide (f1<0∨f1=0∧(H_<0∨H_=0∧nw<0))=B5 at*
 generalize decide (0<f2∨f2=0∧(0<H_∨H_=0∧0<nw))=B6 at*
 generalize(ax==bx&&ay==by_)=B7 at*
 have HR:=Lib.hid hr2
 clear hr2
 have BA0:Hid (Blk ((w.alloc (.cells (ptR ax ay) 79)).alloc (.cells (ptR bx by_) 79)) w.heap.size 79 (ptR ax ay)):=Lib.hid ((Blk.new _ _ _).alloc _)
 have BB0:Hid (Blk ((w.alloc (.cells (ptR ax ay) 79)).alloc (.cells (ptR bx by_) 79)) (w.heap.size+1) 79 (ptR bx by_)):=Lib.hid (by have:=Blk.new (w.alloc (.cells (ptR ax ay) 79)) 79 (ptR bx by_);rw[World.size_alloc]at this;exact this)
 have BE0:Hid (Ext w ((w.alloc (.cells (ptR ax ay) 79)).alloc (.cells (ptR bx by_) 79))):=Lib.hid (by(repeat(first|with_reducible(first|exact eR_ _|assumption|refine eA_ ?_ _|refine eD_ ?_|refine eN_ ?_ _|refine eL_ ?_ _)|(with_reducible refine eS_ ?_ _ ?hp;case hp=>first|(simp;done)|(simp;omega)|omega))))
 go_enter Tryz.func45,Tryz.ntmps45
 go_upto_region 1 with fail
 generalize((w.alloc (.cells (ptR ax ay) 79)).alloc (.cells (ptR bx by_) 79))=W0 at*
 go_cut [9,10]from 15 to 40 (fun s9 s10 wx=> ∃P Q:Nat,s9=.pointer (some ⟨P,0,none⟩)∧s10=.pointer (some ⟨Q,0,none⟩)∧Hid (Mt w wx w.heap.size (w.heap.size+1) ax ay bx by_ px py qx qy P Q))
 case first=>
  refine wp_region_fill mtD (fun st u x=>RF W0 [(0,15),(1,16),(2,17),(3,18),(4,19),(5,20),(6,21),(7,22),(8,23),(9,24),(10,25),(11,26),(12,27),(13,28),(14,29),(15,30),(16,31),(17,32),(18,33),(19,34),(20,35),(21,36),(22,37),(23,38),(24,39),(25,40)] (mtV w.heap.size (w.heap.size+1) ax ay bx by_ gx gy X1 Y1 a2 a3 b2 b3 px py qx qy) [(26,9,28),(27,10,29)] mtT mtZ (mtR px py qx qy) st u x) (by kernel_rfl) (by kernel_rfl) ?_ ?_ ?_
  ·rintro x rfl
   exact RF.begin ((Ext.refl W0).drew)
  ·intro A' hA' st u x i o ho hst hdep hcl hR
   have hlen:A'.length=153:=by rw[hA'];rfl
   have h2:A'.getD 2 undef=.int .i64 gx:=by rw[hA'];rfl
   have h3:A'.getD 3 undef=.int .i64 gy:=by rw[hA'];rfl
   have h4:A'.getD 4 undef=.pointer (some ⟨w.heap.size,0,none⟩):=by rw[hA'];rfl
   have h5:A'.getD 5 undef=.pointer (some ⟨(w.heap.size+1),0,none⟩):=by rw[hA'];rfl
   clear hA'
   have hi:i<30:=(Array.getElem?_eq_some_iff.1 ho).1
   have HEX:=hR.ext
   rcases(by omega:i=0∨i=1∨i=2∨i=3∨i=4∨i=5∨i=6∨i=7∨i=8∨i=9∨i=10∨i=11∨i=12∨i=13∨i=14∨i=15∨i=16∨i=17∨i=18∨i=19∨i=20∨i=21∨i=22∨i=23∨i=24∨i=25∨i=26∨i=27∨i=28∨i=29)with rfl|rfl|rfl|rfl|rfl|rfl|rfl|rfl|rfl|rfl|rfl|rfl|rfl|rfl|rfl|rfl|rfl|rfl|rfl|rfl|rfl|rfl|rfl|rfl|rfl|rfl|rfl|rfl|rfl|rfl
   all_goals(obtain rfl:(⟨_,_,_,_,_,_⟩:Oper)=o:=Option.some.inj ho;refine wpOp_plain rfl rfl ?_)
   ·have q4:(⟨fillA A' mtD u,[]⟩:Act).eval (.tmp 4)=.pointer (some ⟨w.heap.size,0,none⟩):=(fillA_out (by omega) rfl).trans h4
    refine wp_of_run (v:=.pointer (some ⟨w.heap.size,0,none⟩)) (w':=x) ?run ⟨_,fillA_put rfl,hR.call (Ext.refl x) 0 15 (by decide) (by decide) rfl⟩
    case run=>simp only[Act.eval,Array.getD_eq_getD_getElem?]at q4;simp[execOp,q4,Act.eval,go_sem]
   ·have q15:(⟨fillA A' mtD u,[]⟩:Act).eval (.tmp 15)=.pointer (some ⟨w.heap.size,0,none⟩):=(fillA_in (by omega) rfl).trans (hR.val (0,15) (by decide) (hdep ⟨0,.data⟩ (by simp) rfl))
    obtain⟨f0,f1⟩:=(BA0.out.ext HEX).c2
    refine wp_of_run (v:=.int .i64 ax) (w':=x) ?run ⟨_,fillA_put rfl,hR.call (Ext.refl x) 1 16 (by decide) (by decide) rfl⟩
    case run=>simp only[Act.eval,Array.getD_eq_getD_getElem?]at q15;simp[execOp,q15,Act.eval,go_sem,f0,f1]
   ·have q2:(⟨fillA A' mtD u,[]⟩:Act).eval (.tmp 2)=.int .i64 gx:=(fillA_out (by omega) rfl).trans h2
    refine wp_of_run (v:=.int .i64 gx) (w':=x) ?run ⟨_,fillA_put rfl,hR.call (Ext.refl x) 2 17 (by decide) (by decide) rfl⟩
    case run=>simp only[Act.eval,Array.getD_eq_getD_getElem?]at q2;simp[execOp,q2,Act.eval,go_sem]
   ·have q17:(⟨fillA A' mtD u,[]⟩:Act).eval (.tmp 17)=.int .i64 gx:=(fillA_in (by omega) rfl).trans (hR.val (2,17) (by decide) (hdep ⟨2,.data⟩ (by simp) rfl))
    refine wp_of_run (v:=.int .i64 X1) (w':=x) ?run ⟨_,fillA_put rfl,hR.call (Ext.refl x) 3 18 (by decide) (by decide) rfl⟩
    case run=>simp only[Act.eval,Array.getD_eq_getD_getElem?]at q17;simp[execOp,q17,Act.eval,go_sem,wrap_is,eX1.out]
   ·have q16:(⟨fillA A' mtD u,[]⟩:Act).eval (.tmp 16)=.int .i64 ax:=(fillA_in (by omega) rfl).trans (hR.val (1,16) (by decide) (hdep ⟨1,.data⟩ (by simp) rfl))
    have q18:(⟨fillA A' mtD u,[]⟩:Act).eval (.tmp 18)=.int .i64 X1:=(fillA_in (by omega) rfl).trans (hR.val (3,18) (by decide) (hdep ⟨3,.data⟩ (by simp) rfl))
    refine wp_of_run (v:=.int .i64 a2) (w':=x) ?run ⟨_,fillA_put rfl,hR.call (Ext.refl x) 4 19 (by decide) (by decide) rfl⟩
    case run=>simp only[Act.eval,Array.getD_eq_getD_getElem?]at q16 q18;simp[execOp,q16,q18,Act.eval,go_sem,wrap_is,ea2.out]
   ·have q19:(⟨fillA A' mtD u,[]⟩:Act).eval (.tmp 19)=.int .i64 a2:=(fillA_in (by omega) rfl).trans (hR.val (4,19) (by decide) (hdep ⟨4,.data⟩ (by simp) rfl))
    refine wp_of_run (v:=.int .i64 px) (w':=x) ?run ⟨_,fillA_put rfl,hR.call (Ext.refl x) 5 20 (by decide) (by decide) rfl⟩
    case run=>simp only[Act.eval,Array.getD_eq_getD_getElem?]at q19;simp[execOp,q19,Act.eval,go_sem,wrap_is,epx.out]
   ·have q4:(⟨fillA A' mtD u,[]⟩:Act).eval (.tmp 4)=.pointer (some ⟨w.heap.size,0,none⟩):=(fillA_out (by omega) rfl).trans h4
    refine wp_of_run (v:=.pointer (some ⟨w.heap.size,1,none⟩)) (w':=x) ?run ⟨_,fillA_put rfl,hR.call (Ext.refl x) 6 21 (by decide) (by decide) rfl⟩
    case run=>simp only[Act.eval,Array.getD_eq_getD_getElem?]at q4;simp[execOp,q4,Act.eval,go_sem]
   ·have q21:(⟨fillA A' mtD u,[]⟩:Act).eval (.tmp 21)=.pointer (some ⟨w.heap.size,1,none⟩):=(fillA_in (by omega) rfl).trans (hR.val (6,21) (by decide) (hdep ⟨6,.data⟩ (by simp) rfl))
    obtain⟨f0,f1⟩:=(BA0.out.ext HEX).c2
    refine wp_of_run (v:=.int .i64 ay) (w':=x) ?run ⟨_,fillA_put rfl,hR.call (Ext.refl x) 7 22 (by decide) (by decide) rfl⟩
    case run=>simp only[Act.eval,Array.getD_eq_getD_getElem?]at q21;simp[execOp,q21,Act.eval,go_sem,f0,f1]
   ·have q3:(⟨fillA A' mtD u,[]⟩:Act).eval (.tmp 3)=.int .i64 gy:=(fillA_out (by omega) rfl).trans h3
    refine wp_of_run (v:=.int .i64 gy) (w':=x) ?run ⟨_,fillA_put rfl,hR.call (Ext.refl x) 8 23 (by decide) (by decide) rfl⟩
    case run=>simp only[Act.eval,Array.getD_eq_getD_getElem?]at q3;simp[execOp,q3,Act.eval,go_sem]
   ·have q23:(⟨fillA A' mtD u,[]⟩:Act).eval (.tmp 23)=.int .i64 gy:=(fillA_in (by omega) rfl).trans (hR.val (8,23) (by decide) (hdep ⟨8,.data⟩ (by simp) rfl))
    refine wp_of_run (v:=.int .i64 Y1) (w':=x) ?run ⟨_,fillA_put rfl,hR.call (Ext.refl x) 9 24 (by decide) (by decide) rfl⟩
    case run=>simp only[Act.eval,Array.getD_eq_getD_getElem?]at q23;simp[execOp,q23,Act.eval,go_sem,wrap_is,eY1.out]
   ·have q22:(⟨fillA A' mtD u,[]⟩:Act).eval (.tmp 22)=.int .i64 ay:=(fillA_in (by omega) rfl).trans (hR.val (7,22) (by decide) (hdep ⟨7,.data⟩ (by simp) rfl))
    have q24:(⟨fillA A' mtD u,[]⟩:Act).eval (.tmp 24)=.int .i64 Y1:=(fillA_in (by omega) rfl).trans (hR.val (9,24) (by decide) (hdep ⟨9,.data⟩ (by simp) rfl))
    refine wp_of_run (v:=.int .i64 a3) (w':=x) ?run ⟨_,fillA_put rfl,hR.call (Ext.refl x) 10 25 (by decide) (by decide) rfl⟩
    case run=>simp only[Act.eval,Array.getD_eq_getD_getElem?]at q22 q24;simp[execOp,q22,q24,Act.eval,go_sem,wrap_is,ea3.out]
   ·have q25:(⟨fillA A' mtD u,[]⟩:Act).eval (.tmp 25)=.int .i64 a3:=(fillA_in (by omega) rfl).trans (hR.val (10,25) (by decide) (hdep ⟨10,.data⟩ (by simp) rfl))
    refine wp_of_run (v:=.int .i64 py) (w':=x) ?run ⟨_,fillA_put rfl,hR.call (Ext.refl x) 11 26 (by decide) (by decide) rfl⟩
    case run=>simp only[Act.eval,Array.getD_eq_getD_getElem?]at q25;simp[execOp,q25,Act.eval,go_sem,wrap_is,epy.out]
   ·have q20:(⟨fillA A' mtD u,[]⟩:Act).eval (.tmp 20)=.int .i64 px:=(fillA_in (by omega) rfl).trans (hR.val (5,20) (by decide) (hdep ⟨5,.data⟩ (by simp) rfl))
    have q26:(⟨fillA A' mtD u,[]⟩:Act).eval (.tmp 26)=.int .i64 py:=(fillA_in (by omega) rfl).trans (hR.val (11,26) (by decide) (hdep ⟨11,.data⟩ (by simp) rfl))
    refine wp_of_run (v:=.agg (ptR px py)) (w':=x) ?run ⟨_,fillA_put rfl,hR.call (Ext.refl x) 12 27 (by decide) (by decide) rfl⟩
    case run=>simp only[Act.eval,Array.getD_eq_getD_getElem?]at q20 q26;simp[execOp,q20,q26,Act.eval,go_sem]
   ·have q5:(⟨fillA A' mtD u,[]⟩:Act).eval (.tmp 5)=.pointer (some ⟨(w.heap.size+1),0,none⟩):=(fillA_out (by omega) rfl).trans h5
    refine wp_of_run (v:=.pointer (some ⟨(w.heap.size+1),0,none⟩)) (w':=x) ?run ⟨_,fillA_put rfl,hR.call (Ext.refl x) 13 28 (by decide) (by decide) rfl⟩
    case run=>simp only[Act.eval,Array.getD_eq_getD_getElem?]at q5;simp[execOp,q5,Act.eval,go_sem]
   ·have q28:(⟨fillA A' mtD u,[]⟩:Act).eval (.tmp 28)=.pointer (some ⟨(w.heap.size+1),0,none⟩):=(fillA_in (by omega) rfl).trans (hR.val (13,28) (by decide) (hdep ⟨13,.data⟩ (by simp) rfl))
    obtain⟨f0,f1⟩:=(BB0.out.ext HEX).c2
    refine wp_of_run (v:=.int .i64 bx) (w':=x) ?run ⟨_,fillA_put rfl,hR.call (Ext.refl x) 14 29 (by decide) (by decide) rfl⟩
    case run=>simp only[Act.eval,Array.getD_eq_getD_getElem?]at q28;simp[execOp,q28,Act.eval,go_sem,f0,f1]
   ·have q2:(⟨fillA A' mtD u,[]⟩:Act).eval (.tmp 2)=.int .i64 gx:=(fillA_out (by omega) rfl).trans h2
    refine wp_of_run (v:=.int .i64 gx) (w':=x) ?run ⟨_,fillA_put rfl,hR.call (Ext.refl x) 15 30 (by decide) (by decide) rfl⟩
    case run=>simp only[Act.eval,Array.getD_eq_getD_getElem?]at q2;simp[execOp,q2,Act.eval,go_sem]
   ·have q30:(⟨fillA A' mtD u,[]⟩:Act).eval (.tmp 30)=.int .i64 gx:=(fillA_in (by omega) rfl).trans (hR.val (15,30) (by decide) (hdep ⟨15,.data⟩ (by simp) rfl))
    refine wp_of_run (v:=.int .i64 X1) (w':=x) ?run ⟨_,fillA_put rfl,hR.call (Ext.refl x) 16 31 (by decide) (by decide) rfl⟩
    case run=>simp only[Act.eval,Array.getD_eq_getD_getElem?]at q30;simp[execOp,q30,Act.eval,go_sem,wrap_is,eX1.out]
   ·have q29:(⟨fillA A' mtD u,[]⟩:Act).eval (.tmp 29)=.int .i64 bx:=(fillA_in (by omega) rfl).trans (hR.val (14,29) (by decide) (hdep ⟨14,.data⟩ (by simp) rfl))
    have q31:(⟨fillA A' mtD u,[]⟩:Act).eval (.tmp 31)=.int .i64 X1:=(fillA_in (by omega) rfl).trans (hR.val (16,31) (by decide) (hdep ⟨16,.data⟩ (by simp) rfl))
    refine wp_of_run (v:=.int .i64 b2) (w':=x) ?run ⟨_,fillA_put rfl,hR.call (Ext.refl x) 17 32 (by decide) (by decide) rfl⟩
    case run=>simp only[Act.eval,Array.getD_eq_getD_getElem?]at q29 q31;simp[execOp,q29,q31,Act.eval,go_sem,wrap_is,eb2.out]
   ·have q32:(⟨fillA A' mtD u,[]⟩:Act).eval (.tmp 32)=.int .i64 b2:=(fillA_in (by omega) rfl).trans (hR.val (17,32) (by decide) (hdep ⟨17,.data⟩ (by simp) rfl))
    refine wp_of_run (v:=.int .i64 qx) (w':=x) ?run ⟨_,fillA_put rfl,hR.call (Ext.refl x) 18 33 (by decide) (by decide) rfl⟩
    case run=>simp only[Act.eval,Array.getD_eq_getD_getElem?]at q32;simp[execOp,q32,Act.eval,go_sem,wrap_is,eqx.out]
   ·have q5:(⟨fillA A' mtD u,[]⟩:Act).eval (.tmp 5)=.pointer (some ⟨(w.heap.size+1),0,none⟩):=(fillA_out (by omega) rfl).trans h5
    refine wp_of_run (v:=.pointer (some ⟨(w.heap.size+1),1,none⟩)) (w':=x) ?run ⟨_,fillA_put rfl,hR.call (Ext.refl x) 19 34 (by decide) (by decide) rfl⟩
    case run=>simp only[Act.eval,Array.getD_eq_getD_getElem?]at q5;simp[execOp,q5,Act.eval,go_sem]
   ·have q34:(⟨fillA A' mtD u,[]⟩:Act).eval (.tmp 34)=.pointer (some ⟨(w.heap.size+1),1,none⟩):=(fillA_in (by omega) rfl).trans (hR.val (19,34) (by decide) (hdep ⟨19,.data⟩ (by simp) rfl))
    obtain⟨f0,f1⟩:=(BB0.out.ext HEX).c2
    refine wp_of_run (v:=.int .i64 by_) (w':=x) ?run ⟨_,fillA_put rfl,hR.call (Ext.refl x) 20 35 (by decide) (by decide) rfl⟩
    case run=>simp only[Act.eval,Array.getD_eq_getD_getElem?]at q34;simp[execOp,q34,Act.eval,go_sem,f0,f1]
   ·have q3:(⟨fillA A' mtD u,[]⟩:Act).eval (.tmp 3)=.int .i64 gy:=(fillA_out (by omega) rfl).trans h3
    refine wp_of_run (v:=.int .i64 gy) (w':=x) ?run ⟨_,fillA_put rfl,hR.call (Ext.refl x) 21 36 (by decide) (by decide) rfl⟩
    case run=>simp only[Act.eval,Array.getD_eq_getD_getElem?]at q3;simp[execOp,q3,Act.eval,go_sem]
   ·have q36:(⟨fillA A' mtD u,[]⟩:Act).eval (.tmp 36)=.int .i64 gy:=(fillA_in (by omega) rfl).trans (hR.val (21,36) (by decide) (hdep ⟨21,.data⟩ (by simp) rfl))
    refine wp_of_run (v:=.int .i64 Y1) (w':=x) ?run ⟨_,fillA_put rfl,hR.call (Ext.refl x) 22 37 (by decide) (by decide) rfl⟩
    case run=>simp only[Act.eval,Array.getD_eq_getD_getElem?]at q36;simp[execOp,q36,Act.eval,go_sem,wrap_is,eY1.out]
   ·have q35:(⟨fillA A' mtD u,[]⟩:Act).eval (.tmp 35)=.int .i64 by_:=(fillA_in (by omega) rfl).trans (hR.val (20,35) (by decide) (hdep ⟨20,.data⟩ (by simp) rfl))
    have q37:(⟨fillA A' mtD u,[]⟩:Act).eval (.tmp 37)=.int .i64 Y1:=(fillA_in (by omega) rfl).trans (hR.val (22,37) (by decide) (hdep ⟨22,.data⟩ (by simp) rfl))
    refine wp_of_run (v:=.int .i64 b3) (w':=x) ?run ⟨_,fillA_put rfl,hR.call (Ext.refl x) 23 38 (by decide) (by decide) rfl⟩
    case run=>simp only[Act.eval,Array.getD_eq_getD_getElem?]at q35 q37;simp[execOp,q35,q37,Act.eval,go_sem,wrap_is,eb3.out]
   ·have q38:(⟨fillA A' mtD u,[]⟩:Act).eval (.tmp 38)=.int .i64 b3:=(fillA_in (by omega) rfl).trans (hR.val (23,38) (by decide) (hdep ⟨23,.data⟩ (by simp) rfl))
    refine wp_of_run (v:=.int .i64 qy) (w':=x) ?run ⟨_,fillA_put rfl,hR.call (Ext.refl x) 24 39 (by decide) (by decide) rfl⟩
    case run=>simp only[Act.eval,Array.getD_eq_getD_getElem?]at q38;simp[execOp,q38,Act.eval,go_sem,wrap_is,eqy.out]
   ·have q33:(⟨fillA A' mtD u,[]⟩:Act).eval (.tmp 33)=.int .i64 qx:=(fillA_in (by omega) rfl).trans (hR.val (18,33) (by decide) (hdep ⟨18,.data⟩ (by simp) rfl))
    have q39:(⟨fillA A' mtD u,[]⟩:Act).eval (.tmp 39)=.int .i64 qy:=(fillA_in (by omega) rfl).trans (hR.val (24,39) (by decide) (hdep ⟨24,.data⟩ (by simp) rfl))
    refine wp_of_run (v:=.agg (ptR qx qy)) (w':=x) ?run ⟨_,fillA_put rfl,hR.call (Ext.refl x) 25 40 (by decide) (by decide) rfl⟩
    case run=>simp only[Act.eval,Array.getD_eq_getD_getElem?]at q33 q39;simp[execOp,q33,q39,Act.eval,go_sem]
   ·have n28:st 28=false:=st_no (fun h=>hcl 28 _ rfl h ⟨26,.data⟩ (by simp) rfl) hst
    refine wp_of_run (v:=.pointer (some ⟨x.heap.size,0,none⟩)) (w':=x.alloc (.cells (mtZ 9) 79)) ?run ⟨_,fillA_put rfl,hR.alloc 26 9 28 (by decide) (by decide) n28 rfl rfl⟩
    case run=>simp[execOp,Act.eval,go_sem,mtZ]
   ·have n29:st 29=false:=st_no (fun h=>hcl 29 _ rfl h ⟨27,.data⟩ (by simp) rfl) hst
    refine wp_of_run (v:=.pointer (some ⟨x.heap.size,0,none⟩)) (w':=x.alloc (.cells (mtZ 10) 79)) ?run ⟨_,fillA_put rfl,hR.alloc 27 10 29 (by decide) (by decide) n29 rfl rfl⟩
    case run=>simp[execOp,Act.eval,go_sem,mtZ]
   ·have q27:(⟨fillA A' mtD u,[]⟩:Act).eval (.tmp 27)=.agg (ptR px py):=(fillA_in (by omega) rfl).trans (hR.val (12,27) (by decide) (hdep ⟨12,.data⟩ (by simp) rfl))
    have hi_:st 26=true:=hdep ⟨26,.data⟩ (by simp) rfl
    obtain⟨P,p1,p2,p3⟩:=hR.box (26,9,28) (by decide) hi_
    have hz:(if st 28=true then((mtR px py qx qy)) 9 else(mtZ) 9)=(mtZ) 9:=if_neg (by rw[hst];simp)
    rw[hz]at p3
    have qp:(⟨fillA A' mtD u,[]⟩:Act).eval (.tmp 9)=.pointer (some ⟨P,0,none⟩):=(fillA_in (by omega) rfl).trans p1
    refine wp_store_blk (.tmp 9) (.tmp 27) 79 rfl qp _ q27 p3 (by kernel_rfl) (pt_one px py) rfl ?_
    intro w' hB hK
    exact⟨_,rfl,hR.store 26 9 28 (by decide) (by decide) (by decide) hi_ p1 hB hK⟩
   ·have q40:(⟨fillA A' mtD u,[]⟩:Act).eval (.tmp 40)=.agg (ptR qx qy):=(fillA_in (by omega) rfl).trans (hR.val (25,40) (by decide) (hdep ⟨25,.data⟩ (by simp) rfl))
    have hi_:st 27=true:=hdep ⟨27,.data⟩ (by simp) rfl
    obtain⟨P,p1,p2,p3⟩:=hR.box (27,10,29) (by decide) hi_
    have hz:(if st 29=true then((mtR px py qx qy)) 10 else(mtZ) 10)=(mtZ) 10:=if_neg (by rw[hst];simp)
    rw[hz]at p3
    have qp:(⟨fillA A' mtD u,[]⟩:Act).eval (.tmp 10)=.pointer (some ⟨P,0,none⟩):=(fillA_in (by omega) rfl).trans p1
    refine wp_store_blk (.tmp 10) (.tmp 40) 79 rfl qp _ q40 p3 (by kernel_rfl) (pt_one qx qy) rfl ?_
    intro w' hB hK
    exact⟨_,rfl,hR.store 27 10 29 (by decide) (by decide) (by decide) hi_ p1 hB hK⟩
  ·intro st u x hall hR
   obtain⟨P9,p9,l9,b9⟩:=hR.box (26,9,28) (by decide) (hall 26 (by decide))
   have z9:(if st 28=true then((mtR px py qx qy)) 9 else(mtZ) 9)=((mtR px py qx qy)) 9:=if_pos (hall 28 (by decide))
   rw[z9]at b9
   have e9:u 9=.pointer (some ⟨P9,0,none⟩):=p9
   obtain⟨P10,p10,l10,b10⟩:=hR.box (27,10,29) (by decide) (hall 27 (by decide))
   have z10:(if st 29=true then((mtR px py qx qy)) 10 else(mtZ) 10)=((mtR px py qx qy)) 10:=if_pos (hall 29 (by decide))
   rw[z10]at b10
   have e10:u 10=.pointer (some ⟨P10,0,none⟩):=p10
   have ne9_10:P9≠P10:=fun h=>hR.ne (26,9,28) (by decide) (27,10,29) (by decide) (by decide) (hall 26 (by decide)) (hall 27 (by decide)) (p9.trans (h▸p10.symm))
   have hxE:=hR.ext
   clear hR hall
   simp[fillA,fillL,mtD]
   go_wp2_with fail
   go_meet
   exact⟨P9,P10,rfl,rfl,Lib.hid ⟨BA0.out.ext hxE,BB0.out.ext hxE,b9,b10,BE0.out.trans hxE⟩⟩
 case rest=>
  obtain⟨P,Q,rfl,rfl,HM⟩:=hcut
  generalize wc=W1 at*
  obtain⟨p0,p1⟩:=HM.out.p.c2
  obtain⟨q0,q1⟩:=HM.out.q.c2
  obtain⟨a0,a1⟩:=HM.out.a.c2
  obtain⟨b0,b1⟩:=HM.out.b.c2
  have k1:=esp.out
  have k2:=esq.out
  have k3:=em1.out
  have k4:=em2.out
  have s1:=g1.out
  have s2:=g2.out
  cases B1
  case true=>
   go_wp2_with (go_at_call 67;refine(sign_any _ _ _ _).mono ?_;rintro e w1 ⟨rfl,hE⟩;obtain⟨z,rfl⟩:=Later.mk' hE;clear hE)
   go_ret
   exact⟨by rw[HR.out];rfl,HM.out.e.trans (by(repeat(first|with_reducible(first|exact eR_ _|assumption|refine eA_ ?_ _|refine eD_ ?_|refine eN_ ?_ _|refine eL_ ?_ _)|(with_reducible refine eS_ ?_ _ ?hp;case hp=>first|(simp;done)|(simp;omega)|omega))))⟩
  cases B2
  case true=>
   go_wp2_with (go_at_call 67;refine(sign_any _ _ _ _).mono ?_;rintro e w1 ⟨rfl,hE⟩;obtain⟨z,rfl⟩:=Later.mk' hE;clear hE)
   go_ret
   exact⟨by rw[HR.out];rfl,HM.out.e.trans (by(repeat(first|with_reducible(first|exact eR_ _|assumption|refine eA_ ?_ _|refine eD_ ?_|refine eN_ ?_ _|refine eL_ ?_ _)|(with_reducible refine eS_ ?_ _ ?hp;case hp=>first|(simp;done)|(simp;omega)|omega))))⟩
  go_upto_region 4 with(go_at_call 67;refine(sign_any _ _ _ _).mono ?_;rintro e w1 ⟨rfl,hE⟩;obtain⟨z,rfl⟩:=Later.mk' hE;clear hE)
  clear k1 k2 k3 k4 s1 s2
  clear p0 p1 q0 q1 a0 a1 b0 b1
  have HM':=Lib.hid (HM.out.ext (show Ext _ z.w by(repeat(first|with_reducible(first|exact eR_ _|assumption|refine eA_ ?_ _|refine eD_ ?_|refine eN_ ?_ _|refine eL_ ?_ _)|(with_reducible refine eS_ ?_ _ ?hp;case hp=>first|(simp;done)|(simp;omega)|omega)))))
  generalize z.w=W2 at*
  clear HM
  have HM:=HM'
  clear HM'
  obtain⟨p0,p1⟩:=HM.out.p.c2
  obtain⟨q0,q1⟩:=HM.out.q.c2
  obtain⟨a0,a1⟩:=HM.out.a.c2
  obtain⟨b0,b1⟩:=HM.out.b.c2
  have k5:=edp.out
  have k6:=edq.out
  have k7:=em3.out
  have k8:=em4.out
  have s3:=g3.out
  have s4:=g4.out
  cases B3
  case true=>
   go_wp2_with (go_at_call 67;refine(sign_any _ _ _ _).mono ?_;rintro e w1 ⟨rfl,hE⟩;obtain⟨z,rfl⟩:=Later.mk' hE;clear hE)
   go_ret
   exact⟨by rw[HR.out];rfl,HM.out.e.trans (by(repeat(first|with_reducible(first|exact eR_ _|assumption|refine eA_ ?_ _|refine eD_ ?_|refine eN_ ?_ _|refine eL_ ?_ _)|(with_reducible refine eS_ ?_ _ ?hp;case hp=>first|(simp;done)|(simp;omega)|omega))))⟩
  cases B4
  case true=>
   go_wp2_with (go_at_call 67;refine(sign_any _ _ _ _).mono ?_;rintro e w1 ⟨rfl,hE⟩;obtain⟨z,rfl⟩:=Later.mk' hE;clear hE)
   go_ret
   exact⟨by rw[HR.out];rfl,HM.out.e.trans (by(repeat(first|with_reducible(first|exact eR_ _|assumption|refine eA_ ?_ _|refine eD_ ?_|refine eN_ ?_ _|refine eL_ ?_ _)|(with_reducible refine eS_ ?_ _ ?hp;case hp=>first|(simp;done)|(simp;omega)|omega))))⟩
  go_upto_region 6 with(go_at_call 67;refine(sign_any _ _ _ _).mono ?_;rintro e w1 ⟨rfl,hE⟩;obtain⟨z,rfl⟩:=Later.mk' hE;clear hE)
  clear k5 k6 k7 k8 s3 s4
  clear p0 p1 q0 q1 a0 a1 b0 b1
  have HM':=Lib.hid (HM.out.ext (show Ext _ z.w by(repeat(first|with_reducible(first|exact eR_ _|assumption|refine eA_ ?_ _|refine eD_ ?_|refine eN_ ?_ _|refine eL_ ?_ _)|(with_reducible refine eS_ ?_ _ ?hp;case hp=>first|(simp;done)|(simp;omega)|omega)))))
  generalize z.w=W3 at*
  clear HM
  have HM:=HM'
  clear HM'
  obtain⟨p0,p1⟩:=HM.out.p.c2
  obtain⟨q0,q1⟩:=HM.out.q.c2
  obtain⟨a0,a1⟩:=HM.out.a.c2
  obtain⟨b0,b1⟩:=HM.out.b.c2
  cases B7
  case true=>
   go_wp2_with fail
   go_ret
   exact⟨by rw[HR.out];rfl,HM.out.e⟩
  go_upto_region 8 with fail
  have k9:=eW_.out
  have k10:=eH_.out
  go_quiet (fail)
  simp only[k9,k10]
  clear k9 k10
  have k1:=eo1.out
  have k2:=eo2.out
  have k3:=eof_.out
  have k4:=efr.out
  go_upto_region 9 with fail
  refine wp_region_later (by kernel_rfl) (by kernel_rfl) ?_
  repeat(go_big_quiet_step ((first|(go_at_call 68;first|with_reducible exact Calls.later _ (HAW.out _)|with_reducible exact Calls.later _ (HAH.out _))|fail)))
  refine wpQuiet_nil ?_
  intro z
  try simp only[k1,k2,k3,k4]
  clear k1 k2 k3 k4
  have k5:=ef1.out
  have k6:=ef2.out
  have k7:=enw.out
  have k8:=enw2.out
  have s5:=g5.out
  have s6:=g6.out
  cases B5 <;>cases B6
  all_goals
   have HR2:Hid (r=_):=Lib.hid HR.out
   go_wp2_with (go_at_call 67;refine(sign_any _ _ _ _).mono ?_;rintro e w1 ⟨rfl,hE⟩;obtain⟨z,rfl⟩:=Later.mk' hE;clear hE)
   go_ret
   exact⟨by rw[HR.out];rfl,HM.out.e.trans (by(repeat(first|with_reducible(first|exact eR_ _|assumption|refine eA_ ?_ _|refine eD_ ?_|refine eN_ ?_ _|refine eL_ ?_ _)|(with_reducible refine eS_ ?_ _ ?hp;case hp=>first|(simp;done)|(simp;omega)|omega))))⟩
end Go.Proofs.YtplljnfjkkloeaaGreatDoor
