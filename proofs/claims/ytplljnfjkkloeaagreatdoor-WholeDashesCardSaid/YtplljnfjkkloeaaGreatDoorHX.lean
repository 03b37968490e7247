/- Proof text: what lies behind the pipe's slices, with the types of the blocks; a pipe as at first. By an AI agent. No condition beyond what each theorem states. -/
import Derived.Test.YtplljnfjkkloeaaGreatDoorSL
import Derived.Test.YtplljnfjkkloeaaGreatDoorHL
import Derived.Deep.WholeRow
import Derived.Laws.Tables
set_option linter.unusedVariables false
set_option linter.unusedSimpArgs false
set_option maxHeartbeats 8000000
namespace Go.Proofs.YtplljnfjkkloeaaGreatDoor
attribute [local go_sem] Go.Oper.semAt_some
open Go.RowKit
structure LiesB (s:Ps) (p:Hp) (l:Sl) (w:World):Prop where
 lies:Lies s p l w
 bc:0<p.C.length→ ∀ad,l.c=some ad→ ∃cur,Blk w ad.block 3 cur
 bz:0<p.Z.length→ ∀ad,l.z=some ad→ ∃cur,Blk w ad.block 3 cur
 ba: ∀ad,l.a=some ad→ ∃cur,Blk w ad.block 188 cur
 bb: ∀ad,l.b=some ad→ ∃cur,Blk w ad.block 188 cur
 bv:0<p.V.length→ ∀ad,l.v=some ad→ ∃cur,Blk w ad.block 149 cur
 bf:0<p.F.length→ ∀ad,l.f=some ad→ ∃cur,Blk w ad.block 4 cur
section
variable {s:Ps} {p:Hp} {l:Sl} {w w':World}
theorem LiesB.keep (h:LiesB s p l w) (k: ∀g t cs,t=3∨t=188∨t=149∨t=4→Blk w g t cs→Blk w' g t cs):LiesB s p l w':=by
 have ki:=fun g cs=>k g _ cs (.inl rfl)
 have km:=fun g cs=>k g _ cs (.inr (.inl rfl))
 have kv:=fun g cs=>k g _ cs (.inr (.inr (.inl rfl)))
 have kb:=fun g cs=>k g _ cs (.inr (.inr (.inr rfl)))
 refine⟨⟨((RdB.mk h.lies.c h.bc).keep ki).rd,((RdB.mk h.lies.z h.bz).keep ki).rd,⟨((RdB.mk h.lies.k.a (fun _=>h.ba)).keep km).rd,((RdB.mk h.lies.k.b (fun _=>h.bb)).keep km).rd,h.lies.k.m,h.lies.k.n,h.lies.k.k⟩,((RdB.mk h.lies.v h.bv).keep kv).rd,((RdB.mk h.lies.f h.bf).keep kb).rd⟩,?_,?_,?_,?_,?_,?_⟩
 ·exact fun h0 ad e=>let⟨cur,hb⟩:=h.bc h0 ad e;⟨cur,ki _ _ hb⟩
 ·exact fun h0 ad e=>let⟨cur,hb⟩:=h.bz h0 ad e;⟨cur,ki _ _ hb⟩
 ·exact fun ad e=>let⟨cur,hb⟩:=h.ba ad e;⟨cur,km _ _ hb⟩
 ·exact fun ad e=>let⟨cur,hb⟩:=h.bb ad e;⟨cur,km _ _ hb⟩
 ·exact fun h0 ad e=>let⟨cur,hb⟩:=h.bv h0 ad e;⟨cur,kv _ _ hb⟩
 ·exact fun h0 ad e=>let⟨cur,hb⟩:=h.bf h0 ad e;⟨cur,kb _ _ hb⟩
theorem LiesB.ext (h:LiesB s p l w) (e:Ext w w'):LiesB s p l w':=h.keep fun _ _ _ _ hb=>hb.ext e
end
def GivesB (s:Ps) (p:Hp) (w:World) (e:Ending) (w':World):Prop:= ∃l,e=.returned (.agg (s.cs p l))∧LiesB s p l w'∧Ext w w'
set_option maxRecDepth 100000 in
theorem pnew_B (w:World):Calls Tryz.prog 43 #[] w (GivesB ps0 hp0 w):=by
 have HS:=Lib.hid snew_any
 go_enter Tryz.func43,Tryz.ntmps43
 go_upto_region 1 with fail
 go_wp2_with fail
 refine(HS.out _).mono ?_
 rintro e w1 ⟨A,B,rfl,ha,hb,hE⟩
 have HA:=Lib.hid ha
 have HB:=Lib.hid hb
 have HE:=Lib.hid hE
 have HR:Hid (Blk w1 w.heap.size 53 Tryz.zeroCells53):=Lib.hid ((Blk.new _ _ _).ext hE)
 clear ha hb hE HS
 obtain⟨cs,hcs⟩: ∃cs,cs=ps00.cs hp0 (sl0 A B):=⟨_,rfl⟩
 have HCS:=Lib.hid hcs
 clear hcs
 go_wp2_with (first|(refine wpList_build' rfl 53 _ rfl cs (by rw[HCS.out];kernel_rfl) ?_)|(refine wpList_store_new' rfl 53 (.tmp 1) (.tmp 9) rfl Tryz.zeroCells53 cs rfl rfl (by rw[HCS.out];kernel_rfl) (by rw[HCS.out];kernel_rfl) (by rw[HCS.out];kernel_rfl) ?_))
 have HP0:Hid (Blk (w1.alloc (.cells cs 53)) w1.heap.size 53 cs):=Lib.hid (Blk.new _ _ _)
 have HA0:=Lib.hid (HA.out.alloc (.cells cs 53))
 have HB0:=Lib.hid (HB.out.alloc (.cells cs 53))
 have HR0:=Lib.hid (HR.out.alloc (.cells cs 53))
 have HE0:=Lib.hid (HE.out.alloc (.cells cs 53))
 have HL0:Hid (A<w1.heap.size∧B<w1.heap.size∧w.heap.size<w1.heap.size):=Lib.hid ⟨HA.out.lt,HB.out.lt,HR.out.lt⟩
 have HEX:Hid (Ext ((w.alloc (.cells Tryz.zeroCells53 53))) w1):=HE
 clear HA HB HR HE HEX
 generalize w1.alloc (.cells cs 53)=W0 at*
 generalize w1.heap.size=P at*
 refine wp_loop_rounds 7 ?_
 rw[rounds_succ]
 have c0:=(HP0.out.cell 17).trans (show cs[17]? =some (.int .i64 0) by rw[HCS.out];rfl)
 have f0:=HP0.out.frozen 17
 go_upto_region 6 with fail
 obtain⟨cs1,hcs1⟩: ∃c,c=({ps00 with s0:=⟨3,0,0,0,0⟩}:Ps).cs hp0 (sl0 A B):=⟨_,rfl⟩
 have HCS1:=Lib.hid hcs1
 have HP1:Hid (Blk (W0.setCell ⟨P,17,none⟩ (.int .i64 3)) P 53 cs1):=Lib.hid (by
  have h:=HP0.out.set_ 17 (.int .i64 3)
  rw[HCS.out]at h
  rw[hcs1]
  exact h)
 have hl0:=HL0.out
 have HA1:=Lib.hid (HA0.out.far (p:=⟨P,17,none⟩) (by simp;omega) (.int .i64 3))
 have HB1:=Lib.hid (HB0.out.far (p:=⟨P,17,none⟩) (by simp;omega) (.int .i64 3))
 have HR1:=Lib.hid (HR0.out.far (p:=⟨P,17,none⟩) (by simp;omega) (.int .i64 3))
 have HE1:=Lib.hid (HE0.out.setCell (p:=⟨P,17,none⟩) (.int .i64 3) (by simp;omega))
 clear c0 f0 hcs1 hl0 HP0 HA0 HB0 HR0 HE0
 generalize W0.setCell ⟨P,17,none⟩ (.int .i64 3)=W1 at*
 go_wp2_with fail
 rw[rounds_succ]
 have c1:=(HP1.out.cell 22).trans (show cs1[22]? =some (.int .i64 0) by rw[HCS1.out];rfl)
 have f1:=HP1.out.frozen 22
 go_upto_region 6 with fail
 obtain⟨cs2,hcs2⟩: ∃c,c=({{ps00 with s0:=⟨3,0,0,0,0⟩}with s1:=⟨3,0,0,0,0⟩}:Ps).cs hp0 (sl0 A B):=⟨_,rfl⟩
 have HCS2:=Lib.hid hcs2
 have HP2:Hid (Blk (W1.setCell ⟨P,22,none⟩ (.int .i64 3)) P 53 cs2):=Lib.hid (by
  have h:=HP1.out.set_ 22 (.int .i64 3)
  rw[HCS1.out]at h
  rw[hcs2]
  exact h)
 have hl1:=HL0.out
 have HA2:=Lib.hid (HA1.out.far (p:=⟨P,22,none⟩) (by simp;omega) (.int .i64 3))
 have HB2:=Lib.hid (HB1.out.far (p:=⟨P,22,none⟩) (by simp;omega) (.int .i64 3))
 have HR2:=Lib.hid (HR1.out.far (p:=⟨P,22,none⟩) (by simp;omega) (.int .i64 3))
 have HE2:=Lib.hid (HE1.out.setCell (p:=⟨P,22,none⟩) (.int .i64 3) (by simp;omega))
 clear c1 f1 hcs2 hl1 HP1 HA1 HB1 HR1 HE1
 generalize W1.setCell ⟨P,22,none⟩ (.int .i64 3)=W2 at*
 go_wp2_with fail
 rw[rounds_succ]
 have c2:=(HP2.out.cell 27).trans (show cs2[27]? =some (.int .i64 0) by rw[HCS2.out];rfl)
 have f2:=HP2.out.frozen 27
 go_upto_region 6 with fail
 obtain⟨cs3,hcs3⟩: ∃c,c=({{{ps00 with s0:=⟨3,0,0,0,0⟩}with s1:=⟨3,0,0,0,0⟩}with s2:=⟨3,0,0,0,0⟩}:Ps).cs hp0 (sl0 A B):=⟨_,rfl⟩
 have HCS3:=Lib.hid hcs3
 have HP3:Hid (Blk (W2.setCell ⟨P,27,none⟩ (.int .i64 3)) P 53 cs3):=Lib.hid (by
  have h:=HP2.out.set_ 27 (.int .i64 3)
  rw[HCS2.out]at h
  rw[hcs3]
  exact h)
 have hl2:=HL0.out
 have HA3:=Lib.hid (HA2.out.far (p:=⟨P,27,none⟩) (by simp;omega) (.int .i64 3))
 have HB3:=Lib.hid (HB2.out.far (p:=⟨P,27,none⟩) (by simp;omega) (.int .i64 3))
 have HR3:=Lib.hid (HR2.out.far (p:=⟨P,27,none⟩) (by simp;omega) (.int .i64 3))
 have HE3:=Lib.hid (HE2.out.setCell (p:=⟨P,27,none⟩) (.int .i64 3) (by simp;omega))
 clear c2 f2 hcs3 hl2 HP2 HA2 HB2 HR2 HE2
 generalize W2.setCell ⟨P,27,none⟩ (.int .i64 3)=W3 at*
 go_wp2_with fail
 rw[rounds_succ]
 have c3:=(HP3.out.cell 32).trans (show cs3[32]? =some (.int .i64 0) by rw[HCS3.out];rfl)
 have f3:=HP3.out.frozen 32
 go_upto_region 6 with fail
 obtain⟨cs4,hcs4⟩: ∃c,c=({{{{ps00 with s0:=⟨3,0,0,0,0⟩}with s1:=⟨3,0,0,0,0⟩}with s2:=⟨3,0,0,0,0⟩}with s3:=⟨3,0,0,0,0⟩}:Ps).cs hp0 (sl0 A B):=⟨_,rfl⟩
 have HCS4:=Lib.hid hcs4
 have HP4:Hid (Blk (W3.setCell ⟨P,32,none⟩ (.int .i64 3)) P 53 cs4):=Lib.hid (by
  have h:=HP3.out.set_ 32 (.int .i64 3)
  rw[HCS3.out]at h
  rw[hcs4]
  exact h)
 have hl3:=HL0.out
 have HA4:=Lib.hid (HA3.out.far (p:=⟨P,32,none⟩) (by simp;omega) (.int .i64 3))
 have HB4:=Lib.hid (HB3.out.far (p:=⟨P,32,none⟩) (by simp;omega) (.int .i64 3))
 have HR4:=Lib.hid (HR3.out.far (p:=⟨P,32,none⟩) (by simp;omega) (.int .i64 3))
 have HE4:=Lib.hid (HE3.out.setCell (p:=⟨P,32,none⟩) (.int .i64 3) (by simp;omega))
 clear c3 f3 hcs4 hl3 HP3 HA3 HB3 HR3 HE3
 generalize W3.setCell ⟨P,32,none⟩ (.int .i64 3)=W4 at*
 go_wp2_with fail
 rw[rounds_succ]
 have c4:=(HP4.out.cell 37).trans (show cs4[37]? =some (.int .i64 0) by rw[HCS4.out];rfl)
 have f4:=HP4.out.frozen 37
 go_upto_region 6 with fail
 obtain⟨cs5,hcs5⟩: ∃c,c=({{{{{ps00 with s0:=⟨3,0,0,0,0⟩}with s1:=⟨3,0,0,0,0⟩}with s2:=⟨3,0,0,0,0⟩}with s3:=⟨3,0,0,0,0⟩}with s4:=⟨3,0,0,0,0⟩}:Ps).cs hp0 (sl0 A B):=⟨_,rfl⟩
 have HCS5:=Lib.hid hcs5
 have HP5:Hid (Blk (W4.setCell ⟨P,37,none⟩ (.int .i64 3)) P 53 cs5):=Lib.hid (by
  have h:=HP4.out.set_ 37 (.int .i64 3)
  rw[HCS4.out]at h
  rw[hcs5]
  exact h)
 have hl4:=HL0.out
 have HA5:=Lib.hid (HA4.out.far (p:=⟨P,37,none⟩) (by simp;omega) (.int .i64 3))
 have HB5:=Lib.hid (HB4.out.far (p:=⟨P,37,none⟩) (by simp;omega) (.int .i64 3))
 have HR5:=Lib.hid (HR4.out.far (p:=⟨P,37,none⟩) (by simp;omega) (.int .i64 3))
 have HE5:=Lib.hid (HE4.out.setCell (p:=⟨P,37,none⟩) (.int .i64 3) (by simp;omega))
 clear c4 f4 hcs5 hl4 HP4 HA4 HB4 HR4 HE4
 generalize W4.setCell ⟨P,37,none⟩ (.int .i64 3)=W5 at*
 go_wp2_with fail
 rw[rounds_succ]
 have c5:=(HP5.out.cell 42).trans (show cs5[42]? =some (.int .i64 0) by rw[HCS5.out];rfl)
 have f5:=HP5.out.frozen 42
 go_upto_region 6 with fail
 obtain⟨cs6,hcs6⟩: ∃c,c=({{{{{{ps00 with s0:=⟨3,0,0,0,0⟩}with s1:=⟨3,0,0,0,0⟩}with s2:=⟨3,0,0,0,0⟩}with s3:=⟨3,0,0,0,0⟩}with s4:=⟨3,0,0,0,0⟩}with s5:=⟨3,0,0,0,0⟩}:Ps).cs hp0 (sl0 A B):=⟨_,rfl⟩
 have HCS6:=Lib.hid hcs6
 have HP6:Hid (Blk (W5.setCell ⟨P,42,none⟩ (.int .i64 3)) P 53 cs6):=Lib.hid (by
  have h:=HP5.out.set_ 42 (.int .i64 3)
  rw[HCS5.out]at h
  rw[hcs6]
  exact h)
 have hl5:=HL0.out
 have HA6:=Lib.hid (HA5.out.far (p:=⟨P,42,none⟩) (by simp;omega) (.int .i64 3))
 have HB6:=Lib.hid (HB5.out.far (p:=⟨P,42,none⟩) (by simp;omega) (.int .i64 3))
 have HR6:=Lib.hid (HR5.out.far (p:=⟨P,42,none⟩) (by simp;omega) (.int .i64 3))
 have HE6:=Lib.hid (HE5.out.setCell (p:=⟨P,42,none⟩) (.int .i64 3) (by simp;omega))
 clear c5 f5 hcs6 hl5 HP5 HA5 HB5 HR5 HE5
 generalize W5.setCell ⟨P,42,none⟩ (.int .i64 3)=W6 at*
 go_wp2_with fail
 rw[rounds_succ]
 have hsz:cs6.size=94:=by rw[HCS6.out];rfl
 go_wp2_with (first|(refine wpList_load_blk rfl (.tmp 1) 53 rfl 0 rfl HP6.out 94 agg_pipe size_pipe (by rw[hsz];exact Nat.le_refl _) cs6 (by rw[show 0+94=cs6.size by omega,Array.extract_size]) ?_)|(refine wpList_store_blk rfl (.tmp 0) (.tmp 18) 53 rfl 0 rfl (.agg cs6) rfl HR6.out (by show _=some cs6.size;rw[hsz];exact size_pipe) ?c1 ?c2 ?_))
 case c1=>exact fun u hu=>Ps.cs_one _ hp0 (sl0 A B) u (by rw[←HCS6.out];exact hu)
 case c2=>show 0+cs6.size≤_;rw[hsz];decide
 intro w3 hb hk
 rw[spl_all _ _ (by show cs6.size=_;rw[hsz];rfl)]at hb
 have HB3:Hid (Blk w3 w.heap.size 53 cs6):=Lib.hid hb
 have hl:=HL0.out
 have HE3:Hid (Ext w w3):=Lib.hid (hk.ext (((Ext.refl w).alloc _).trans HE6.out) (fun j hj=>by omega))
 have HAf:=Lib.hid (HA6.out.kp hk (HA6.out.ne_type HR6.out (by decide)))
 have HBf:=Lib.hid (HB6.out.kp hk (HB6.out.ne_type HR6.out (by decide)))
 clear hb hk
 go_wp2_with fail
 have hld:=run_load_blk (P:=Tryz.prog) HB3.out 53 0 94 agg_pipe size_pipe (by rw[hsz];exact Nat.le_refl _)
 rw[show 0+94=cs6.size by omega,Array.extract_size]at hld
 refine bodyPost_ret (v:=.agg cs6) ?_ rfl ⟨sl0 A B,by rw[HCS6.out];rfl,?_,HE3.out⟩
 ·simp only[results,Tryz.results43]
  simp[asAddr,Result.andThen,hld]
 ·exact⟨⟨Rd.empty _ _ _ _ (Nat.zero_le _),Rd.empty _ _ _ _ (Nat.zero_le _),⟨mat_rd HAf.out rfl,mat_rd HBf.out rfl,unitM_ok,unitM_ok,.inl rfl⟩,Rd.empty _ _ _ _ (Nat.zero_le _),Rd.empty _ _ _ _ (Nat.zero_le _)⟩,
   fun h=>absurd h (by simp[hp0]),fun h=>absurd h (by simp[hp0]),fun ad e=>by obtain rfl:=Option.some.inj e;exact⟨_,HAf.out⟩,fun ad e=>by obtain rfl:=Option.some.inj e;exact⟨_,HBf.out⟩,fun h=>absurd h (by simp[hp0]),fun h=>absurd h (by simp[hp0])⟩
end Go.Proofs.YtplljnfjkkloeaaGreatDoor
