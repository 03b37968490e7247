/- Proof text: the law WholeDashes. By an AI agent. No condition beyond what each theorem states. -/
import Derived.Test.YtplljnfjkkloeaaGreatDoorVJ
import Derived.Test.YtplljnfjkkloeaaGreatDoorMA
set_option linter.unusedVariables false
set_option linter.unusedSimpArgs false
set_option maxHeartbeats 16000000
namespace Go.Proofs.YtplljnfjkkloeaaGreatDoor
attribute [local go_sem] Go.Oper.semAt_some
open Go.RowKit
abbrev DD3:List Nat:=[38,39,40,41,42,43,44,45,46,5]
abbrev DD11:List Nat:=[68,69,70,71,72,73,74,75,76,77,78,12]
set_option maxRecDepth 100000 in
theorem dashes_any (L:List (Int×Int)) (A:Option Addr) (n cap:Nat) (P R X:Int) (w:World) (hW:Wd w) (hr:Rd w 2 A n cap (L.flatMap ptc)) (hL:L.length=n):
  Calls Tryz.prog 8 #[.slice A n cap,.agg #[.int .i64 P,.int .i64 R,.int .i64 X]] w fun e w'=>e=.returned (.bool true)∧Ext w w':=by
 obtain⟨DB,hDB⟩: ∃P,P=w.heap.size:=⟨_,rfl⟩
 have HDB:Hid (Blk (w.alloc (.cells #[.int .i64 P,.int .i64 R,.int .i64 X] 44)) DB 44 #[.int .i64 P,.int .i64 R,.int .i64 X]):=Lib.hid (by rw[hDB];exact Blk.new _ _ _)
 have HE0:Hid (Ext w (w.alloc (.cells #[.int .i64 P,.int .i64 R,.int .i64 X] 44))):=Lib.hid ((Ext.refl w).alloc _)
 have HW:=Lib.hid hW
 have HR:=Lib.hid hr
 have HLN:=Lib.hid hL
 have HNE:Hid (∀wz,Ext w wz→Calls Tryz.prog 19 #[.slice A n cap,.int .i64 8] wz fun e w'=>e=.returned (.bool (nearT L 8))∧wz=w'):=Lib.hid (fun wz e=>near_any L A n cap 8 wz (hr.ext e) hL)
 have HAW:=Lib.hid awake_any
 clear hW hr hL
 go_enter Tryz.func8,Tryz.ntmps8
 go_upto_region 1 with fail
 simp only[←hDB]
 clear hDB
 generalize(w.alloc (.cells #[.int .i64 P,.int .i64 R,.int .i64 X] 44))=W0 at*
 obtain⟨c0,c1,c2⟩:=HDB.out.c3
 go_wp2_with fail
 refine(HNE.out _ HE0.out).mono ?_
 rintro e w1 ⟨rfl,rfl⟩
 obtain⟨B,hB⟩: ∃B,B=nearT L 8:=⟨_,rfl⟩
 rw[←hB]
 have HB:=Lib.hid hB
 clear hB HNE
 cases B
 ·go_wp2_with fail
  refine(HAW.out _ (HW.out.ext HE0.out)).mono ?_
  rintro e w1 ⟨rfl,hE⟩
  have HE1:=Lib.hid (HE0.out.trans hE)
  clear hE
  go_wp2_with fail
  go_ret
  exact⟨rfl,HE1.out⟩
 by_cases h1:P<0
 ·have d1:decide (P<0)=true:=by simpa using h1
  go_wp2_with fail
  refine(HAW.out _ (HW.out.ext HE0.out)).mono ?_
  rintro e w1 ⟨rfl,hE⟩
  have HE1:=Lib.hid (HE0.out.trans hE)
  clear hE
  go_wp2_with fail
  go_ret
  exact⟨rfl,HE1.out⟩
 have d1:decide (P<0)=false:=by simpa using h1
 by_cases h2:P>65535
 ·have d2:decide (P>65535)=true:=by simpa using h2
  go_wp2_with fail
  refine(HAW.out _ (HW.out.ext HE0.out)).mono ?_
  rintro e w1 ⟨rfl,hE⟩
  have HE1:=Lib.hid (HE0.out.trans hE)
  clear hE
  go_wp2_with fail
  go_ret
  exact⟨rfl,HE1.out⟩
 have d2:decide (P>65535)=false:=by simpa using h2
 by_cases h3:R<1
 ·have d3:decide (R<1)=true:=by simpa using h3
  go_wp2_with fail
  refine(HAW.out _ (HW.out.ext HE0.out)).mono ?_
  rintro e w1 ⟨rfl,hE⟩
  have HE1:=Lib.hid (HE0.out.trans hE)
  clear hE
  go_wp2_with fail
  go_ret
  exact⟨rfl,HE1.out⟩
 have d3:decide (R<1)=false:=by simpa using h3
 by_cases h4:R>256
 ·have d4:decide (R>256)=true:=by simpa using h4
  go_wp2_with fail
  refine(HAW.out _ (HW.out.ext HE0.out)).mono ?_
  rintro e w1 ⟨rfl,hE⟩
  have HE1:=Lib.hid (HE0.out.trans hE)
  clear hE
  go_wp2_with fail
  go_ret
  exact⟨rfl,HE1.out⟩
 have d4:decide (R>256)=false:=by simpa using h4
 have HPR:Hid ((0≤P∧P≤65535)∧(1≤R∧R≤256)):=Lib.hid (by omega)
 have HNN:Hid (n≤8∧ ∀q∈L,Unit q):=Lib.hid (by
  have h:=of_decide_eq_true (show decide ((L.length:Int)≤8∧ ∀q∈L,Unit q)=true from HB.out.symm)
  exact⟨by have:=HLN.out;omega,h.2⟩)
 go_upto_region 3 with fail
 clear h1 h2 h3 h4 d1 d2 d3 d4 HB c0 c1 c2
 refine wp_region_fill DD3 (fun st u x=>EP W0 (FD3 W0.heap.size DB R P) (ED3 W0.heap.size R P) [(0,38),(1,39),(2,40),(3,41),(4,42),(5,43),(6,44),(7,45),(8,46)] [8] 8 9 st u x) (by kernel_rfl) (by kernel_rfl) ?_ ?_ ?_
 ·rintro x rfl
  exact EP.begin ((Ext.refl W0).drew)
 ·intro A' hA' st u x i o ho hst hdep hcl hR
  have hlen:A'.length=153:=by rw[hA'];rfl
  have h3:A'.getD 3 undef=.pointer (some ⟨DB,0,none⟩):=by rw[hA'];rfl
  clear hA'
  have hi:i<10:=(Array.getElem?_eq_some_iff.1 ho).1
  have HE:=hR.e
  have ev: ∀t,t<153→DD3.contains t=true→(⟨fillA A' DD3 u,[]⟩:Act).eval (.tmp t)=u t:=fun t h k=>fillA_in (by omega) k
  have z8:st 9=true→st 8=true:=fun h=>hcl 9 _ rfl h ⟨8,.data⟩ (by simp) rfl
  have k7:st 8=true→st 7=true:=fun h=>hcl 8 _ rfl h ⟨7,.data⟩ (by simp) rfl
  have k6:st 8=true→st 6=true:=fun h=>hcl 7 _ rfl (k7 h) ⟨6,.data⟩ (by simp) rfl
  have k5:st 8=true→st 5=true:=fun h=>hcl 6 _ rfl (k6 h) ⟨5,.data⟩ (by simp) rfl
  have k4:st 8=true→st 4=true:=fun h=>hcl 5 _ rfl (k5 h) ⟨4,.data⟩ (by simp) rfl
  have k3:st 8=true→st 3=true:=fun h=>hcl 4 _ rfl (k4 h) ⟨3,.data⟩ (by simp) rfl
  have k2:st 8=true→st 2=true:=fun h=>hcl 5 _ rfl (k5 h) ⟨2,.data⟩ (by simp) rfl
  have k1:st 8=true→st 1=true:=fun h=>hcl 2 _ rfl (k2 h) ⟨1,.data⟩ (by simp) rfl
  have k0:st 8=true→st 0=true:=fun h=>hcl 6 _ rfl (k6 h) ⟨0,.chain⟩ (by simp) rfl
  rcases(by omega:i=0∨i=1∨i=2∨i=3∨i=4∨i=5∨i=6∨i=7∨i=8∨i=9)with rfl|rfl|rfl|rfl|rfl|rfl|rfl|rfl|rfl|rfl
  all_goals(obtain rfl:(⟨_,_,_,_,_,_⟩:Oper)=o:=Option.some.inj ho;refine wpOp_plain rfl rfl ?_)
  ·have nl:=st_no (fun h=>k0 (z8 h)) hst
   have nc:=st_no k0 hst
   refine wp_call rfl Tryz.func21 (by kernel_rfl) rfl (R:=fun e w'=> ∃v Q,e=.returned v∧CmdO w' x.heap.size v (placesL 9 8) Q∧Ext x w') (by simp only[List.map_toArray,List.map_cons,List.map_nil,];exact places_any 9 8 x) ?_
   rintro e w' ⟨v,Q,rfl,h1,hE⟩
   exact⟨_,rfl,_,fillA_put rfl,hR.step 0 38 (by decide) (by decide) nl hE (fun s v=>FD3_ext hE s v) (show CmB W0.heap.size w' (placesL 9 8) v from⟨_,Q,HE.size,hE.size,h1⟩)⟩
  ·have nl:=st_no (fun h=>k1 (z8 h)) hst
   have nc:=st_no k1 hst
   have q3:(⟨fillA A' DD3 u,[]⟩:Act).eval (.tmp 3)=.pointer (some ⟨DB,0,none⟩):=(fillA_out (by omega) rfl).trans h3
   refine wp_of_run (v:=.pointer (some ⟨DB,1,none⟩)) (w':=x) ?run ⟨_,fillA_put rfl,hR.quiet 1 39 (by decide) (by decide) nl rfl⟩
   case run=>simp only[Act.eval,Array.getD_eq_getD_getElem?]at q3;simp[execOp,q3,Act.eval,go_sem,wrap_i]
  ·have nl:=st_no (fun h=>k2 (z8 h)) hst
   have nc:=st_no k2 hst
   have f39:=hR.val (1,39) (by decide) (hdep ⟨1,.data⟩ (by simp) rfl) (.inl nc) nl
   have q39:_=(.pointer (some ⟨DB,1,none⟩):Value):=(ev 39 (by decide) rfl).trans f39
   obtain⟨c0,c1,c2⟩:=(HDB.out.ext HE).c3
   refine wp_of_run (v:=.int .i64 R) (w':=x) ?run ⟨_,fillA_put rfl,hR.quiet 2 40 (by decide) (by decide) nl rfl⟩
   case run=>simp only[Act.eval,Array.getD_eq_getD_getElem?]at q39;simp[execOp,q39,Act.eval,go_sem,wrap_i,c1]
  ·have nl:=st_no (fun h=>k3 (z8 h)) hst
   have nc:=st_no k3 hst
   have q3:(⟨fillA A' DD3 u,[]⟩:Act).eval (.tmp 3)=.pointer (some ⟨DB,0,none⟩):=(fillA_out (by omega) rfl).trans h3
   refine wp_of_run (v:=.pointer (some ⟨DB,0,none⟩)) (w':=x) ?run ⟨_,fillA_put rfl,hR.quiet 3 41 (by decide) (by decide) nl rfl⟩
   case run=>simp only[Act.eval,Array.getD_eq_getD_getElem?]at q3;simp[execOp,q3,Act.eval,go_sem,wrap_i]
  ·have nl:=st_no (fun h=>k4 (z8 h)) hst
   have nc:=st_no k4 hst
   have f41:=hR.val (3,41) (by decide) (hdep ⟨3,.data⟩ (by simp) rfl) (.inl nc) nl
   have q41:_=(.pointer (some ⟨DB,0,none⟩):Value):=(ev 41 (by decide) rfl).trans f41
   obtain⟨c0,c1,c2⟩:=(HDB.out.ext HE).c3
   refine wp_of_run (v:=.int .i64 P) (w':=x) ?run ⟨_,fillA_put rfl,hR.quiet 4 42 (by decide) (by decide) nl rfl⟩
   case run=>simp only[Act.eval,Array.getD_eq_getD_getElem?]at q41;simp[execOp,q41,Act.eval,go_sem,wrap_i,c0]
  ·have nl:=st_no (fun h=>k5 (z8 h)) hst
   have nc:=st_no k5 hst
   have f40:=hR.val (2,40) (by decide) (hdep ⟨2,.data⟩ (by simp) rfl) (.inl nc) nl
   have q40:_=(.int .i64 R:Value):=(ev 40 (by decide) rfl).trans f40
   have f42:=hR.val (4,42) (by decide) (hdep ⟨4,.data⟩ (by simp) rfl) (.inl nc) nl
   have q42:_=(.int .i64 P:Value):=(ev 42 (by decide) rfl).trans f42
   refine wp_of_run (v:=.slice (some ⟨x.heap.size,0,none⟩) 3 3) (w':=x.alloc (.cells (irow [1,R,P]) 3)) ?run ⟨_,fillA_put rfl,hR.step 5 43 (by decide) (by decide) nl ((Ext.refl x).alloc _) (fun s v=>FD3_ext ((Ext.refl x).alloc _) s v) (show SlB _ 3 3 (irow [1,R,P]) _ from⟨_,rfl,Blk.new _ _ _⟩)⟩
   case run=>simp only[Act.eval,Array.getD_eq_getD_getElem?]at q40 q42;simp[execOp,q40,q42,Act.eval,go_sem,wrap_i,irow,ivs]
  ·have nl:=st_no (fun h=>k6 (z8 h)) hst
   have nc:=st_no k6 hst
   have f43:=hR.val (5,43) (by decide) (hdep ⟨5,.data⟩ (by simp) rfl) (.inl nc) nl
   obtain⟨G,g43,b43⟩:=f43
   have q43:_=(.slice (some ⟨G,0,none⟩) 3 3:Value):=(ev 43 (by decide) rfl).trans g43
   refine wp_call rfl Tryz.func25 (by kernel_rfl) rfl (R:=fun e w'=>e=.returned (.agg #[.int .i64 20,.slice (some ⟨G,0,none⟩) 3 3])∧Ext x w') (by simp only[List.map_toArray,List.map_cons,List.map_nil,q43];exact rec_any 20 _ 3 3 x) ?_
   rintro e w' ⟨rfl,hE⟩
   exact⟨_,rfl,_,fillA_put rfl,hR.step 6 44 (by decide) (by decide) nl hE (fun s v=>FD3_ext hE s v) (show RcB w' 20 3 (irow [1,R,P]) _ from⟨G,rfl,b43.ext hE⟩)⟩
  ·have nl:=st_no (fun h=>k7 (z8 h)) hst
   have nc:=st_no k7 hst
   have f44:=hR.val (6,44) (by decide) (hdep ⟨6,.data⟩ (by simp) rfl) (.inl nc) nl
   obtain⟨G2,g44,b44⟩:=f44
   have q44:_=(.agg #[.int .i64 20,.slice (some ⟨G2,0,none⟩) 3 3]:Value):=(ev 44 (by decide) rfl).trans g44
   refine wp_of_run (v:=.slice (some ⟨x.heap.size,0,none⟩) 1 1) (w':=x.alloc (.cells #[.int .i64 20,.slice (some ⟨G2,0,none⟩) 3 3] 88)) ?run ⟨_,fillA_put rfl,hR.step 7 45 (by decide) (by decide) nl ((Ext.refl x).alloc _) (fun s v=>FD3_ext ((Ext.refl x).alloc _) s v) (show OnB _ (irow [1,R,P]) 3 20 _ from⟨_,G2,rfl,Blk.new _ _ _,b44.alloc _⟩)⟩
   case run=>simp only[Act.eval,Array.getD_eq_getD_getElem?]at q44;simp[execOp,q44,Act.eval,go_sem,wrap_i]
  ·have nl:=st_no z8 hst
   have nc:=hst
   have f38:=hR.val (0,38) (by decide) (hdep ⟨0,.data⟩ (by simp) rfl) (.inl nc) nl
   obtain⟨b,Q,hb0,hb1,hc⟩:=f38
   have q38:_=(u 38:Value):=(ev 38 (by decide) rfl).trans rfl
   have f45:=hR.val (7,45) (by decide) (hdep ⟨7,.data⟩ (by simp) rfl) (.inl nc) nl
   obtain⟨G,G2,g45,b45,b46⟩:=f45
   have q45:_=(.slice (some ⟨G,0,none⟩) 1 1:Value):=(ev 45 (by decide) rfl).trans g45
   refine wp_append_rd (.tmp 38) (.tmp 45) 22 rfl b 88 _ 2 32 Tryz.underlying22 info_rq rfl (by decide) (u 38) 4 (Q.flatMap Rq.cells) q38 hc.own (some ⟨G,0,none⟩) 1 1 _ q45 (blk_rdr b45) (by intro v hv;simp at hv;rcases hv with rfl|rfl <;>rfl) (by decide) (by decide) hb1 ?_
   intro v' w' ho' hg'
   have hE:Ext W0 w':=HE.grown hg' (fun g hk=>Nat.le_trans hb0 (own_ge hc.own g hk))
   obtain⟨Q',hq'⟩:=one_cat hc b46 rfl (show 3≤4096 by decide) hg' ho'
   exact⟨_,fillA_put rfl,hR.cut 46 (by decide) (by decide) nc nl hE (fun q hq hn hl=>absurd (by simpa using hl) hn) (show CmB W0.heap.size w' (dHow R P) v' from⟨b,Q',hb0,Nat.le_trans hb1 hg'.size,hq'⟩)⟩
  ·have nl:=hst
   have f46:=hR.val (8,46) (by decide) (hdep ⟨8,.data⟩ (by simp) rfl) (.inr (by decide)) nl
   obtain h46:=f46
   have q46:_=(u 46:Value):=(ev 46 (by decide) rfl).trans rfl
   refine wp_of_run (v:=u 46) (w':=x) ?run ⟨_,fillA_put rfl,EP.last HE (by unfold ED3;rw[upu_eq];exact f46)⟩
   case run=>simp only[Act.eval,Array.getD_eq_getD_getElem?]at q46;simp[execOp,q46,Act.eval,go_sem]
 intro st u x hall hR
 have hFIN:=hR.fin (hall 9 (by decide))
 have hXE:=hR.e
 clear hR hall
 simp[fillA,fillL,DD3]
 obtain⟨bh,Q0,hb0,hb1,hc⟩:=hFIN
 obtain⟨HV,hHV⟩: ∃v,v=u 5:=⟨_,rfl⟩
 rw[←hHV]at hc ⊢
 have HHW:=Lib.hid hc
 have HEX:=Lib.hid hXE
 have HB0:=Lib.hid (And.intro hb0 hb1)
 clear hc hXE hHV hb0 hb1
 go_wp2_with fail
 refine(shape_any 2 L A n cap _ (HR.out.ext (HE0.out.trans HEX.out)) HLN.out (by have:=HNN.out.1;omega)).mono ?_
 rintro e w4 ⟨sv,Q2,rfl,hc2,hE⟩
 obtain⟨sa,sc,rfl,hs2⟩:=ownsRow_rd hc2.own
 have HC2:=Lib.hid hc2
 have hM:(shapeL 2 L).length=n+2:=by simp[shapeL,HLN.out]
 rw[hM]at hs2 ⊢
 have HS2:=Lib.hid hs2
 have HEE:=Lib.hid hE
 have HE4:=Lib.hid (HEX.out.trans hE)
 have HM:=Lib.hid hM
 have HB2:=Lib.hid (Nat.le_trans HB0.out.2 hE.size)
 clear hc2 hs2 hE hM
 go_wp2_with (refine wpList_append_rd rfl (.tmp 47) (.tmp 49) 22 rfl bh 88 _ 2 32 Tryz.underlying22 info_rq rfl (by decide) HV 5 (Q0.flatMap Rq.cells) rfl (ownsRow_ext HHW.out.own HEE.out) sa (n+2) sc (Q2.flatMap Rq.cells) rfl HS2.out (rq_one _) ?c3 (by decide) HB2.out ?_)
 case c3=>have:=HNN.out.1;omega
 intro v2 w5 ho' hg'
 have hcat:=(HHW.out.ext HEE.out).cat HC2.out.n HC2.out.q hg' (by rw[HM.out];exact ho')
 have HE5:=Lib.hid (HE4.out.grown hg' (fun g hk=>Nat.le_trans HB0.out.1 (own_ge HHW.out.own g hk)))
 have hN:=dCmds_take R P L
 rw[HLN.out]at hN
 have ho2:=hcat.own
 rw[hN.2.1]at ho2
 obtain⟨va,vc,hv2, -⟩:=ownsRow_rd ho2
 subst hv2
 obtain⟨v3,hs3,ho3, -⟩:=own_head (P:=Tryz.prog) Tryz.underlying22 size_rec ho2 (n+6) (by omega)
 have hfst:=hcat.first (n+6) (by rw[hN.2.1];omega) ho3
 rw[hN.1]at hfst
 obtain⟨ca,cc,hv3,hcm⟩:=hfst.cmds
 rw[hN.2.2]at hv3 hcm
 subst hv3
 have HCM:=Lib.hid hcm
 have HSL:=Lib.hid hs3
 clear ho' hg' hcat hN ho2 ho3 hs3 hfst hcm HHW HC2 HS2 HEE HE4 HB2 HB0 HM
 have HRN:=Lib.hid (run_cmds (dCmds_steps HPR.out.1 HPR.out.2 L HNN.out.2 (by have:=HLN.out;have:=HNN.out.1;omega)) ca (n+6) cc w5 (HW.out.ext (HE0.out.trans HE5.out)).glob HCM.out (by have:=HNN.out.1;omega))
 have f0:=HSL.out
 have f1:wrap64 (((n+7:Nat):Int)-1)=((n+6:Nat):Int):=by rw[show((n+7:Nat):Int)-1=((n+6:Nat):Int) by omega];exact wrap64_of (by omega) (by have:=HNN.out.1;omega)
 generalize n+7=N7 at*
 generalize n+6=N6 at*
 go_wp2_with fail
 refine HRN.out.mono ?_
 rintro e w6 ⟨z8,he,hl,hE⟩
 obtain⟨cs,hcs⟩: ∃c,c=(sV 1 true (dD R P)).cs (pV L) z8:=⟨_,rfl⟩
 rw[←hcs]at he
 subst he
 have hsz:cs.size=94:=by rw[hcs];rfl
 have HCO:Hid (∀u∈cs.toList,u.oneCell'=true):=Lib.hid (by rw[hcs];exact Ps.cs_one _ _ _)
 have HCS:=Lib.hid hcs
 have HLI:=Lib.hid hl
 have HE6:=Lib.hid (HE5.out.trans hE)
 clear hcs hl hE HRN HCM HE5 f0 f1 HSL
 go_wp2_with (refine wpList_store_blk rfl (.tmp 6) (.tmp 56) 53 rfl 0 rfl (.agg cs) rfl (Blk.new w6 53 Tryz.zeroCells53) (by show _=some cs.size;rw[hsz];exact size_pipe) ?c1 ?c2 ?_)
 case c1=>exact fun u hu=>HCO.out u hu
 case c2=>show 0+cs.size≤_;rw[hsz];decide
 intro w7 hb hk5
 rw[spl_all _ _ (by show cs.size=_;rw[hsz];rfl)]at hb
 have HB7:=Lib.hid hb
 have HE7:=Lib.hid (hk5.ext ((HE6.out).alloc (.cells Tryz.zeroCells53 53)) (fun k hk=>by have:=HE6.out.size;omega))
 have HL7:Hid (Lies (sV 1 true (dD R P)) (pV L) z8 w7):=Lib.hid ((HLI.out.ext ((Ext.refl w6).alloc (.cells Tryz.zeroCells53 53))).keep (fun g t cs ht hg=>hg.kp hk5 (hg.ne_type (Blk.new w6 53 Tryz.zeroCells53) (by rcases ht with rfl|rfl|rfl|rfl <;>decide)))).lies
 clear hb hk5 HLI HE6
 generalize w6.heap.size=G8 at*
 go_wp2_with (refine wpList_load_blk rfl (.tmp 6) 53 rfl 0 rfl HB7.out 94 agg_pipe size_pipe (by show 0+94≤cs.size;rw[hsz];exact Nat.le_refl _) cs (by show cs.extract 0 (0+94)=cs;rw[show 0+94=cs.size from hsz.symm,Array.extract_size]) ?_)
 have HEM:Hid (Calls Tryz.prog 15 #[.agg cs] w7 fun e w'=> ∃a c,e=.returned (.tuple #[.slice a (dFr R P L).length c,.bool true])∧Rd w' 8 a (dFr R P L).length c ((dFr R P L).flatMap Fr.cells)∧Ext w7 w'):=Lib.hid (by
  have h:=emit_any (sV 1 true (dD R P)) (pV L) z8 2 1 w7 HL7.out (drawn_unit 1 true (dD R P) L HNN.out.2 (by have:=HLN.out;have:=HNN.out.1;omega) (by omega) (by omega) (dD_ok HPR.out.1 HPR.out.2).1) (by omega)
  have e:(linesK 2 1 (sV 1 true (dD R P)).dashed (sV 1 true (dD R P)).dash ⟨0,0,(sV 1 true (dD R P)).W,(sV 1 true (dD R P)).H⟩ ((pV L).V.map (vmap · (sV 1 true (dD R P)).port)) (ncnt 2 (pV L).V.length)).2=dFr R P L:=(lines_unit 1 true (dD R P) L).trans (dFr_is HPR.out.1 HPR.out.2 L)
  rw[HCS.out]
  rw[e]at h
  exact h.mono fun e w' ⟨a,c,h1,h2,h3,h4⟩=>⟨a,c,h1,h2,h4⟩)
 go_wp2_with fail
 refine HEM.out.mono ?_
 rintro e w8 ⟨fa,fc,rfl,hfr,hE⟩
 have HFR:=Lib.hid hfr
 have HE8:=Lib.hid (HE7.out.trans hE)
 have HFL:Hid ((dFr R P L).length=(dashL (dD R P) r98 0 L).length):=Lib.hid (by unfold dFr;rw[List.length_map])
 obtain⟨NF,hNF⟩: ∃N,N=(dFr R P L).length:=⟨_,rfl⟩
 rw[←hNF]at HFL HFR ⊢
 clear hNF hfr hE HEM HL7 HB7 HCS HCO hsz HE7 HEX
 have HD8:=Lib.hid (HDB.out.ext HE8.out)
 have HR8:=Lib.hid (HR.out.ext (HE0.out.trans HE8.out))
 have HEW:=Lib.hid (HE0.out.trans HE8.out)
 clear HDB HR HE0 HE8
 have H00:Hid (aheadN (L.take 1)=0∧(dashL (dD R P) r98 0 (L.take 1)).length=0):=Lib.hid (by cases L <;>simp[aheadN,dashL])
 go_wp2_with fail
 go_loopw [9,10,11] (fun a c i wr=> ∃m:Nat,(m+1≤n∨m=0)∧i=.int .i64 ((m:Int)+1)∧a=.int .i64 (aheadN (L.take (m+1)):Nat)∧c=.int .i64 ((dashL (dD R P) r98 0 (L.take (m+1))).length:Nat)∧Hid (Ext w8 wr)) (fun _ _ i _=>n-(intOf i).toNat)
 case atStart=>exact⟨0,Or.inr rfl,rfl,by rw[H00.out.1];rfl,by rw[H00.out.2];rfl,Lib.hid (Ext.refl _)⟩
 case round=>
  obtain⟨m,hm,rfl,rfl,rfl,HX⟩:=hrel
  obtain⟨W1,rfl⟩: ∃W1:World,W1=wr:=⟨_,rfl⟩
  by_cases hml:m+1<n
  ·obtain⟨p,hp⟩: ∃p,L[m]? =some p:=⟨_,List.getElem?_eq_getElem (by rw[HLN.out];omega)⟩
   obtain⟨q,hq⟩: ∃q,L[m+1]? =some q:=⟨_,List.getElem?_eq_getElem (by rw[HLN.out];omega)⟩
   obtain⟨b,off,ha, -, -⟩:=HR8.out.at_ (by omega)
   subst ha
   have HPP:Hid (∀wz,Ext w8 wz→(wz.cell? ⟨b,off+m*2,none⟩=some (.int .i64 p.1)∧wz.cell? ⟨b,off+m*2+1,none⟩=some (.int .i64 p.2))∧(wz.cell? ⟨b,off+(m+1)*2,none⟩=some (.int .i64 q.1)∧wz.cell? ⟨b,off+(m+1)*2+1,none⟩=some (.int .i64 q.2))):=Lib.hid (fun wz e=>⟨pt_at (HR8.out.ext e) hp,pt_at (HR8.out.ext e) hq⟩)
   have hpu:=HNN.out.2 p (List.mem_of_getElem? hp)
   have hqu:=HNN.out.2 q (List.mem_of_getElem? hq)
   obtain⟨S,hS⟩: ∃S,S=stepL p.1 p.2 q.1 q.2 r98:=⟨_,rfl⟩
   obtain⟨k1,k2,k3,k4,k5⟩:=cnK_all (d:=dD R P) hp hq S hS (by rw[HLN.out];exact HNN.out.1)
   obtain⟨-,g2, -⟩:=dash_line (dD R P) r98 hp hq
   have hah:=aheadN_small (L.take (m+1)) (fun z hz=>HNN.out.2 z (List.mem_of_mem_take hz))
   have hal:(L.take (m+1)).length≤8:=by rw[List.length_take];have:=HNN.out.1;have:=HLN.out;omega
   have HSN:Hid (∀s∈S,0≤s.1∧s.1≤8200):=Lib.hid (fun s hs=>by rw[hS]at hs;exact stepL_num hpu hqu hs)
   have HLP:Hid ((lpix p.1 p.2 q.1 q.2).length≤8200):=Lib.hid (lpix_small hpu hqu)
   have HWI:Hid (∀wz,Calls Tryz.prog 26 #[.agg (ptR p.1 p.2),.agg (ptR q.1 q.2),.agg #[.int .i64 0,.int .i64 0,.int .i64 9,.int .i64 8]] wz fun e w'=> ∃a c,e=.returned (.slice a S.length c)∧Rd w' 3 a S.length c (S.flatMap stC)∧Ext wz w'):=Lib.hid (fun wz=>by rw[hS];exact rwithin_any p.1 p.2 q.1 q.2 wz hpu hqu)
   have HCT:Hid (∀wz,Calls Tryz.prog 28 #[.agg (ptR p.1 p.2),.agg (ptR q.1 q.2)] wz fun e w'=>e=.returned (.int .i64 ((lpix p.1 p.2 q.1 q.2).length:Int))∧Ext wz w'):=Lib.hid (fun wz=>rcount_any p.1 p.2 q.1 q.2 wz hpu hqu)
   have HS72:Hid (S.length≤72):=Lib.hid (by rw[hS];exact stepL_small _ _ _ _)
   obtain⟨CN,hCN⟩: ∃CN,CN=cnK (dD R P) L m S:=⟨_,rfl⟩
   rw[←hCN]at k1 k2 k3 k4 k5
   have HK:=Lib.hid (And.intro k1 (And.intro k2 (And.intro k3 (And.intro k4 k5))))
   have HG2:=Lib.hid g2
   have HAH:Hid (aheadN (L.take (m+1))≤65600):=Lib.hid (by omega)
   clear hp hq hpu hqu hS k1 k2 k3 k4 k5 g2 hah hal hCN
   rw[←HK.out.1]
   generalize aheadN (L.take (m+1))=AH at*
   generalize(lpix p.1 p.2 q.1 q.2).length=LP at*
   have d1:decide ((m:Int)+1<n)=true:=by simp;omega
   have i1:wrap64 ((m:Int)+1-1)=(m:Int):=by rw[Int.add_sub_cancel];exact wrap64_of (by omega) (by have:=HNN.out.1;omega)
   have i0:wrap64 (m:Int)=(m:Int):=wrap64_of (by omega) (by have:=HNN.out.1;omega)
   have i2:wrap64 ((m:Int)+1+1)=(m:Int)+1+1:=wrap64_of (by omega) (by have:=HNN.out.1;omega)
   have hmn:(m:Int)<n:=by omega
   have hmn1:(m:Int)+1<n:=by omega
   have hm0:(0:Int)≤m:=by omega
   have HI:=Lib.hid (And.intro i1 (And.intro i0 i2))
   clear i2
   go_upto_region 11 with fail
   refine wp_region_fill DD11 (fun st u x=>EP W1 (FD11 (.slice (some ⟨b,off,none⟩) n cap) b off m p q S) (ED11 S) [(0,68),(1,69),(2,70),(3,71),(4,72),(5,73),(6,74),(7,75),(8,76),(9,77),(10,78)] [] 11 11 st u x) (by kernel_rfl) (by kernel_rfl) ?_ ?_ ?_
   ·rintro x rfl
    exact EP.begin ((Ext.refl W1).drew)
   ·intro A' hA' st u x i o ho hst hdep hcl hR
    have hlen:A'.length=153:=by rw[hA'];rfl
    have h0:A'.getD 0 undef=.slice (some ⟨b,off,none⟩) n cap:=by rw[hA'];rfl
    have h11:A'.getD 11 undef=.int .i64 ((m:Int)+1):=by rw[hA'];rfl
    clear hA'
    have hi:i<12:=(Array.getElem?_eq_some_iff.1 ho).1
    have HE:=hR.e
    have ev: ∀t,t<153→DD11.contains t=true→(⟨fillA A' DD11 u,[]⟩:Act).eval (.tmp t)=u t:=fun t h k=>fillA_in (by omega) k
    have k10:st 11=true→st 10=true:=fun h=>hcl 11 _ rfl h ⟨10,.data⟩ (by simp) rfl
    have k9:st 11=true→st 9=true:=fun h=>hcl 10 _ rfl (k10 h) ⟨9,.data⟩ (by simp) rfl
    have k8:st 11=true→st 8=true:=fun h=>hcl 10 _ rfl (k10 h) ⟨8,.data⟩ (by simp) rfl
    have k7:st 11=true→st 7=true:=fun h=>hcl 8 _ rfl (k8 h) ⟨7,.data⟩ (by simp) rfl
    have k6:st 11=true→st 6=true:=fun h=>hcl 7 _ rfl (k7 h) ⟨6,.data⟩ (by simp) rfl
    have k5:st 11=true→st 5=true:=fun h=>hcl 7 _ rfl (k7 h) ⟨5,.data⟩ (by simp) rfl
    have k4:st 11=true→st 4=true:=fun h=>hcl 10 _ rfl (k10 h) ⟨4,.data⟩ (by simp) rfl
    have k3:st 11=true→st 3=true:=fun h=>hcl 4 _ rfl (k4 h) ⟨3,.data⟩ (by simp) rfl
    have k2:st 11=true→st 2=true:=fun h=>hcl 3 _ rfl (k3 h) ⟨2,.data⟩ (by simp) rfl
    have k1:st 11=true→st 1=true:=fun h=>hcl 2 _ rfl (k2 h) ⟨1,.data⟩ (by simp) rfl
    have k0:st 11=true→st 0=true:=fun h=>hcl 3 _ rfl (k3 h) ⟨0,.data⟩ (by simp) rfl
    rcases(by omega:i=0∨i=1∨i=2∨i=3∨i=4∨i=5∨i=6∨i=7∨i=8∨i=9∨i=10∨i=11)with rfl|rfl|rfl|rfl|rfl|rfl|rfl|rfl|rfl|rfl|rfl|rfl
    all_goals(obtain rfl:(⟨_,_,_,_,_,_⟩:Oper)=o:=Option.some.inj ho;refine wpOp_plain rfl rfl ?_)
    ·have nl:=st_no k0 hst
     have nc:=st_no k0 hst
     have q0:(⟨fillA A' DD11 u,[]⟩:Act).eval (.tmp 0)=.slice (some ⟨b,off,none⟩) n cap:=(fillA_out (by omega) rfl).trans h0
     refine wp_of_run (v:=.slice (some ⟨b,off,none⟩) n cap) (w':=x) ?run ⟨_,fillA_put rfl,hR.quiet 0 68 (by decide) (by decide) nl rfl⟩
     case run=>simp only[Act.eval,Array.getD_eq_getD_getElem?]at q0;simp[execOp,q0,Act.eval,go_sem,wrap_i]
    ·have nl:=st_no k1 hst
     have nc:=st_no k1 hst
     have q11:(⟨fillA A' DD11 u,[]⟩:Act).eval (.tmp 11)=.int .i64 ((m:Int)+1):=(fillA_out (by omega) rfl).trans h11
     refine wp_of_run (v:=.int .i64 ((m:Int)+1)) (w':=x) ?run ⟨_,fillA_put rfl,hR.quiet 1 69 (by decide) (by decide) nl rfl⟩
     case run=>simp only[Act.eval,Array.getD_eq_getD_getElem?]at q11;simp[execOp,q11,Act.eval,go_sem,wrap_i]
    ·have nl:=st_no k2 hst
     have nc:=st_no k2 hst
     have f69:=hR.val (1,69) (by decide) (hdep ⟨1,.data⟩ (by simp) rfl) (.inl nc) nl
     have q69:_=(.int .i64 ((m:Int)+1):Value):=(ev 69 (by decide) rfl).trans f69
     refine wp_of_run (v:=.int .i64 (m:Int)) (w':=x) ?run ⟨_,fillA_put rfl,hR.quiet 2 70 (by decide) (by decide) nl rfl⟩
     case run=>simp only[Act.eval,Array.getD_eq_getD_getElem?]at q69;simp[execOp,q69,Act.eval,go_sem,wrap_i,i1,i0]
    ·have nl:=st_no k3 hst
     have nc:=st_no k3 hst
     have f68:=hR.val (0,68) (by decide) (hdep ⟨0,.data⟩ (by simp) rfl) (.inl nc) nl
     have q68:_=(.slice (some ⟨b,off,none⟩) n cap:Value):=(ev 68 (by decide) rfl).trans f68
     have f70:=hR.val (2,70) (by decide) (hdep ⟨2,.data⟩ (by simp) rfl) (.inl nc) nl
     have q70:_=(.int .i64 (m:Int):Value):=(ev 70 (by decide) rfl).trans f70
     refine wp_of_run (v:=.pointer (some ⟨b,off+m*2,none⟩)) (w':=x) ?run ⟨_,fillA_put rfl,hR.quiet 3 71 (by decide) (by decide) nl rfl⟩
     case run=>simp only[Act.eval,Array.getD_eq_getD_getElem?]at q68 q70;simp[execOp,q68,q70,Act.eval,go_sem,wrap_i,hm0,hmn]
    ·have nl:=st_no k4 hst
     have nc:=st_no k4 hst
     have f71:=hR.val (3,71) (by decide) (hdep ⟨3,.data⟩ (by simp) rfl) (.inl nc) nl
     have q71:_=(.pointer (some ⟨b,off+m*2,none⟩):Value):=(ev 71 (by decide) rfl).trans f71
     obtain⟨⟨p0,p1⟩,⟨q0,q1⟩⟩:=HPP.out x (HX.out.trans HE)
     refine wp_of_run (v:=.agg (ptR p.1 p.2)) (w':=x) ?run ⟨_,fillA_put rfl,hR.quiet 4 72 (by decide) (by decide) nl rfl⟩
     case run=>simp only[Act.eval,Array.getD_eq_getD_getElem?]at q71;simp[execOp,q71,Act.eval,go_sem,wrap_i,p0,p1]
    ·have nl:=st_no k5 hst
     have nc:=st_no k5 hst
     have q0:(⟨fillA A' DD11 u,[]⟩:Act).eval (.tmp 0)=.slice (some ⟨b,off,none⟩) n cap:=(fillA_out (by omega) rfl).trans h0
     refine wp_of_run (v:=.slice (some ⟨b,off,none⟩) n cap) (w':=x) ?run ⟨_,fillA_put rfl,hR.quiet 5 73 (by decide) (by decide) nl rfl⟩
     case run=>simp only[Act.eval,Array.getD_eq_getD_getElem?]at q0;simp[execOp,q0,Act.eval,go_sem,wrap_i]
    ·have nl:=st_no k6 hst
     have nc:=st_no k6 hst
     have q11:(⟨fillA A' DD11 u,[]⟩:Act).eval (.tmp 11)=.int .i64 ((m:Int)+1):=(fillA_out (by omega) rfl).trans h11
     refine wp_of_run (v:=.int .i64 ((m:Int)+1)) (w':=x) ?run ⟨_,fillA_put rfl,hR.quiet 6 74 (by decide) (by decide) nl rfl⟩
     case run=>simp only[Act.eval,Array.getD_eq_getD_getElem?]at q11;simp[execOp,q11,Act.eval,go_sem,wrap_i]
    ·have nl:=st_no k7 hst
     have nc:=st_no k7 hst
     have f73:=hR.val (5,73) (by decide) (hdep ⟨5,.data⟩ (by simp) rfl) (.inl nc) nl
     have q73:_=(.slice (some ⟨b,off,none⟩) n cap:Value):=(ev 73 (by decide) rfl).trans f73
     have f74:=hR.val (6,74) (by decide) (hdep ⟨6,.data⟩ (by simp) rfl) (.inl nc) nl
     have q74:_=(.int .i64 ((m:Int)+1):Value):=(ev 74 (by decide) rfl).trans f74
     have hz:(0:Int)≤(m:Int)+1:=by omega
     have hn2:((m:Int)+1).toNat=m+1:=by omega
     refine wp_of_run (v:=.pointer (some ⟨b,off+(m+1)*2,none⟩)) (w':=x) ?run ⟨_,fillA_put rfl,hR.quiet 7 75 (by decide) (by decide) nl rfl⟩
     case run=>simp only[Act.eval,Array.getD_eq_getD_getElem?]at q73 q74;simp[execOp,q73,q74,Act.eval,go_sem,wrap_i,hz,hmn1,hn2]
    ·have nl:=st_no k8 hst
     have nc:=st_no k8 hst
     have f75:=hR.val (7,75) (by decide) (hdep ⟨7,.data⟩ (by simp) rfl) (.inl nc) nl
     have q75:_=(.pointer (some ⟨b,off+(m+1)*2,none⟩):Value):=(ev 75 (by decide) rfl).trans f75
     obtain⟨⟨p0,p1⟩,⟨q0,q1⟩⟩:=HPP.out x (HX.out.trans HE)
     refine wp_of_run (v:=.agg (ptR q.1 q.2)) (w':=x) ?run ⟨_,fillA_put rfl,hR.quiet 8 76 (by decide) (by decide) nl rfl⟩
     case run=>simp only[Act.eval,Array.getD_eq_getD_getElem?]at q75;simp[execOp,q75,Act.eval,go_sem,wrap_i,q0,q1]
    ·have nl:=st_no k9 hst
     have nc:=st_no k9 hst
     refine wp_of_run (v:=.agg #[.int .i64 0,.int .i64 0,.int .i64 9,.int .i64 8]) (w':=x) ?run ⟨_,fillA_put rfl,hR.quiet 9 77 (by decide) (by decide) nl rfl⟩
     case run=>skip;simp[execOp,Act.eval,go_sem,wrap_i]
    ·have nl:=st_no k10 hst
     have nc:=st_no k10 hst
     have f72:=hR.val (4,72) (by decide) (hdep ⟨4,.data⟩ (by simp) rfl) (.inl nc) nl
     have q72:_=(.agg (ptR p.1 p.2):Value):=(ev 72 (by decide) rfl).trans f72
     have f76:=hR.val (8,76) (by decide) (hdep ⟨8,.data⟩ (by simp) rfl) (.inl nc) nl
     have q76:_=(.agg (ptR q.1 q.2):Value):=(ev 76 (by decide) rfl).trans f76
     have f77:=hR.val (9,77) (by decide) (hdep ⟨9,.data⟩ (by simp) rfl) (.inl nc) nl
     have q77:_=(.agg #[.int .i64 0,.int .i64 0,.int .i64 9,.int .i64 8]:Value):=(ev 77 (by decide) rfl).trans f77
     refine wp_call rfl Tryz.func26 (by kernel_rfl) rfl (R:=fun e w'=> ∃a c,e=.returned (.slice a S.length c)∧Rd w' 3 a S.length c (S.flatMap stC)∧Ext x w') (by simp only[List.map_toArray,List.map_cons,List.map_nil,q72,q76,q77];exact HWI.out x) ?_
     rintro e w' ⟨a,c,rfl,h1,hE⟩
     exact⟨_,rfl,_,fillA_put rfl,hR.step 10 78 (by decide) (by decide) nl hE (fun s v=>FD11_ext hE s v) (show WiB w' S _ from⟨a,c,rfl,h1⟩)⟩
    ·have nl:=hst
     have nc:=hst
     have f78:=hR.val (10,78) (by decide) (hdep ⟨10,.data⟩ (by simp) rfl) (.inl nc) nl
     obtain h78:=f78
     have q78:_=(u 78:Value):=(ev 78 (by decide) rfl).trans rfl
     refine wp_of_run (v:=u 78) (w':=x) ?run ⟨_,fillA_put rfl,EP.last HE (by unfold ED11;rw[upu_eq];exact f78)⟩
     case run=>simp only[Act.eval,Array.getD_eq_getD_getElem?]at q78;simp[execOp,q78,Act.eval,go_sem]
   intro st u x hall hR
   have hFIN:=hR.fin (hall 11 (by decide))
   have hXE:=hR.e
   clear hR hall
   simp[fillA,fillL,DD11]
   obtain⟨ga,gc,hgv,hgr⟩:=hFIN
   rw[hgv]
   have HGR:=Lib.hid hgr
   have HX2:=Lib.hid (HX.out.trans hXE)
   clear hgv hgr hXE HX HWI i1 i0
   go_wp2_with fail
   go_loopw [10,13] (fun c k wr=> ∃t:Nat,t≤S.length∧k=.int .i64 t∧c=.int .i64 (CN t:Nat)∧Hid (Ext x wr)) (fun _ k _=>S.length-(intOf k).toNat)
   case atStart=>exact⟨0,Nat.zero_le _,rfl,rfl,Lib.hid (Ext.refl _)⟩
   case round=>
    obtain⟨t,ht,rfl,rfl,HY⟩:=hrel
    obtain⟨W2,rfl⟩: ∃W2:World,W2=wr:=⟨_,rfl⟩
    by_cases htl:t<S.length
    ·obtain⟨s,hs⟩: ∃s,S[t]? =some s:=⟨_,List.getElem?_eq_getElem htl⟩
     have hsn:=HSN.out s (List.mem_of_getElem? hs)
     obtain⟨gb,go_,hga, -, -⟩:=HGR.out.at_ (by omega)
     subst hga
     obtain⟨s0,s1,s2⟩:=st_at (HGR.out.ext HY.out) hs
     obtain⟨e0,e1, -⟩:=(HD8.out.ext (HX2.out.trans HY.out)).c3
     have hlit:=rlit_any P R ((AH:Int)+s.1)
     obtain⟨B,hB⟩: ∃B,B=(dD R P).lit ((AH:Int)+s.1):=⟨_,rfl⟩
     have hst:=HK.out.2.2.2.1 t s hs
     have hgt:=HK.out.2.2.2.2 t s hs
     rw[←hB]at hst hgt
     have hc:=HK.out.2.2.1 t
     have w0:wrap64 ((AH:Int)+s.1)=(AH:Int)+s.1:=wrap64_of (by omega) (by have:=HAH.out;omega)
     have HLIT:Hid (∀wz,Calls Tryz.prog 27 #[.agg #[.int .i64 P,.int .i64 R,.int .i64 0],.int .i64 (wrap64 ((AH:Int)+s.1))] wz fun e w'=>e=.returned (.bool B)∧Ext wz w'):=Lib.hid (fun wz=>by rw[w0,hB];exact hlit wz ⟨HPR.out.1.1,by have:=HPR.out.1.2;omega⟩ HPR.out.2 ⟨by omega,by have:=HAH.out;omega⟩)
     have t1:wrap64 ((t:Int)+1)=(t:Int)+1:=wrap64_of (by omega) (by have:=HS72.out;omega)
     have htI:(t:Int)<(S.length:Int):=Int.ofNat_lt.2 htl
     have d2:decide ((t:Int)<(S.length:Int))=true:=decide_eq_true htI
     have ht0:(0:Int)≤(t:Int):=Int.natCast_nonneg t
     have HST:=Lib.hid (And.intro hst hgt)
     have HSS:Hid (∀wz,Ext W2 wz→wz.cell? ⟨gb,go_+t*3+1,none⟩=some (.int .i64 s.2.1)∧wz.cell? ⟨gb,go_+t*3+2,none⟩=some (.int .i64 s.2.2)):=Lib.hid (fun wz e=>by have h:=st_at ((HGR.out.ext HY.out).ext e) hs;exact⟨h.2.1,h.2.2⟩)
     have HT1:=Lib.hid t1
     have hc1:wrap64 ((CN t:Int)+1)=(CN t:Int)+1:=wrap64_of (by omega) (by omega)
     have HC1:=Lib.hid hc1
     clear hs hsn hlit hB hst hgt w0 s1 s2 t1 hc hc1
     obtain⟨K0,hK0⟩: ∃K,K=s.1:=⟨_,rfl⟩
     rw[←hK0]at s0 HLIT
     clear hK0
     go_upto_region 15 with fail
     refine wp_region_later (by kernel_rfl) (by kernel_rfl) ?_
     repeat(go_big_quiet_step ((first|(go_at_call 27;with_reducible exact Calls.later _ (HLIT.out _))|fail)))
     refine wpQuiet_nil ?_
     intro z
     have HZ:=Lib.hid (HY.out.trans z.ext)
     have HSZ:=Lib.hid (HSS.out _ z.ext)
     generalize z.w=W3 at*
     clear s0 e0 e1 HLIT HSS HY
     cases B
     ·have HN1:Hid (CN (t+1)=CN t):=Lib.hid (by rw[HST.out.1];rfl)
      have t1:=HT1.out
      go_wp2_with fail
      try simp only[t1]
      go_roundw
      case rel=>first|exact⟨t+1,by omega,by go_num,by rw[HN1.out],HZ⟩|((repeat apply Exists.intro);exact⟨⟨t+1,by omega,by go_num,by rw[HN1.out],HZ⟩,rfl⟩)
      case measure=>simp[intOf];omega
     ·have hfr:=dFr_at (HST.out.2 rfl)
      have HN1:Hid (((CN (t+1):Nat):Int)=(CN t:Int)+1):=Lib.hid (by rw[HST.out.1];simp)
      obtain⟨hcl, -⟩:=List.getElem?_eq_some_iff.1 (HST.out.2 rfl)
      have hcN:CN t<NF:=by rw[HFL.out];exact hcl
      obtain⟨fb,fo,hfa, -, -⟩:=HFR.out.at_ (by omega)
      subst hfa
      obtain⟨f0,f1, -⟩:=frag_at (HFR.out.ext (HX2.out.trans HZ.out)) hfr
      have f0':W3.cell? ⟨fb,fo+CN t*8,none⟩=some (.int .i64 s.2.1):=f0
      have f1':W3.cell? ⟨fb,fo+CN t*8+1,none⟩=some (.int .i64 s.2.2):=f1
      obtain⟨s1,s2⟩:=HSZ.out
      have d3:decide ((CN t:Int)≥(NF:Int))=false:=by simp;omega
      have hcI:(CN t:Int)<(NF:Int):=by omega
      have hc0:(0:Int)≤(CN t:Int):=by omega
      have t1:=HT1.out
      have c1:=HC1.out
      clear hfr hcl f0 f1
      generalize CN t=CT at*
      go_upto_region 16 with fail
      go_quiet (fail)
      go_wp2_with fail
      try simp only[t1,c1]
      go_roundw
      case rel=>first|exact⟨t+1,by omega,by go_num,by rw[HN1.out],Lib.hid (HZ.out.drewN _)⟩|((repeat apply Exists.intro);exact⟨⟨t+1,by omega,by go_num,by rw[HN1.out],Lib.hid (HZ.out.drewN _)⟩,rfl⟩)
      case measure=>simp[intOf];omega
    ·obtain rfl:t=S.length:=by omega
     have d2:decide ((S.length:Int)<(S.length:Int))=false:=by simp
     have HXY:=Lib.hid (HX2.out.trans HY.out)
     obtain⟨⟨p0,p1⟩,⟨q0,q1⟩⟩:=HPP.out _ HXY.out
     obtain⟨i1,i0,i2⟩:=HI.out
     have HCV:Hid (((CN S.length:Nat):Int)=((dashL (dD R P) r98 0 (L.take (m+1+1))).length:Nat)):=Lib.hid (by rw[HK.out.2.1])
     have HAV:Hid ((AH:Int)+(LP:Int)=(aheadN (L.take (m+1+1)):Nat)):=Lib.hid (by rw[HG2.out];simp)
     have a1:Hid (wrap64 ((AH:Int)+(LP:Int))=(AH:Int)+(LP:Int)):=Lib.hid (wrap64_of (by omega) (by have:=HAH.out;have:=HLP.out;omega))
     have HML:Hid (m+1+1≤n):=Lib.hid (by omega)
     generalize CN S.length=CE at*
     go_upto_region 19 with fail
     refine wp_region_later (by kernel_rfl) (by kernel_rfl) ?_
     repeat(go_big_quiet_step ((first|(go_at_call 28;with_reducible exact Calls.later _ (HCT.out _))|fail)))
     refine wpQuiet_nil ?_
     intro z
     have HZ:=Lib.hid (HXY.out.trans z.ext)
     generalize z.w=W3 at*
     clear p0 p1 q0 q1
     have a1':=a1.out
     try simp only[a1']
     go_wp2_with fail
     try simp only[i2]
     go_roundw
     case rel=>first|exact⟨m+1,Or.inl HML.out,by go_num,by rw[HAV.out],by rw[HCV.out],HZ⟩|((repeat apply Exists.intro);exact⟨⟨m+1,Or.inl HML.out,by go_num,by rw[HAV.out],by rw[HCV.out],HZ⟩,rfl⟩)
     case measure=>simp[intOf];omega
  ·have hfull:L.take (m+1)=L:=List.take_of_length_le (by rw[HLN.out];omega)
   have d1:decide ((m:Int)+1<n)=false:=by simp;omega
   rw[hfull,←HFL.out]
   have d5:((NF:Int)==(NF:Int))=true:=by simp
   go_wp2_with fail
   refine(HAW.out _ (HW.out.ext (HEW.out.trans HX.out))).mono ?_
   rintro e w9 ⟨rfl,hE⟩
   have HE9:=Lib.hid (HEW.out.trans (HX.out.trans hE))
   clear hE
   go_wp2_with fail
   go_ret
   exact⟨rfl,HE9.out⟩
end Go.Proofs.YtplljnfjkkloeaaGreatDoor
