/- Proof text: a command done with a pipe (pipe.Do). By an AI agent. No condition beyond what each theorem states. -/
import Derived.Test.YtplljnfjkkloeaaGreatDoorHU
set_option linter.unusedVariables false
set_option linter.unusedSimpArgs false
set_option maxHeartbeats 16000000
namespace Go.Proofs.YtplljnfjkkloeaaGreatDoor
attribute [local go_sem] Go.Oper.semAt_some
open Go.RowKit
theorem set_same {w:World} {g:Nat} {t:TypeId} {v:Value} (h:Blk w g t #[v]):Ext w (w.setCell ⟨g,0,none⟩ v):=by
 refine⟨rfl,rfl,rfl,by simp,fun k hk=>?_⟩
 by_cases hg:k=g
 ·subst hg
  have h2:=h.s1 v
  unfold Blk at h h2
  rw[h2,h]
 ·exact Below.heap_setCell w ⟨g,0,none⟩ v k hg
structure DoP (w wx:World) (s:Ps) (p:Hp) (J V O:Nat) (a:Value) (z:Array Value):Prop where
 g: ∃l,Blk wx J 136 (s.js p l a)∧LiesB s p l wx
 v:Blk wx V 134 #[.pointer (some ⟨J,0,none⟩)]
 o:Blk wx O 53 z
 e:Ext w wx
 lt:w.heap.size≤O
theorem DoP.ext {w wx wy:World} {s:Ps} {p:Hp} {J V O:Nat} {a:Value} {z:Array Value} (h:DoP w wx s p J V O a z) (e:Ext wx wy):DoP w wy s p J V O a z:=
 ⟨let⟨l,h1,h2⟩:=h.g;⟨l,h1.ext e,h2.ext e⟩,h.v.ext e,h.o.ext e,h.e.trans e,h.lt⟩
set_option maxRecDepth 100000 in
theorem do_step (w:World) (s s':Ps) (p p':Hp) (l:Sl) (A:Option Addr) (n c:Nat) (op:Int) (hl:LiesB s p l w)
  (HD: ∀w1 J,JobE w w1 J s p l (.slice A n c)→Calls Tryz.prog 55 #[.pointer (some ⟨J,0,none⟩),.agg #[.int .i64 op,.slice A n c]] w1 (JobP w w1 J s' p' (.slice A n c))):
  Calls Tryz.prog 31 #[.agg (s.cs p l),.agg #[.int .i64 op,.slice A n c]] w (GivesB s' p' w):=by
 have HDO:=Lib.hid HD
 have HL:=Lib.hid hl
 clear HD hl
 have HBJ:=Lib.hid (built_job s p l A n c)
 have HJ94:=Lib.hid (js_size s p l (.slice A n c))
 obtain⟨cs,hcs⟩: ∃cs,cs=s.cs p l:=⟨_,rfl⟩
 have HC94:Hid (cs.size=94):=Lib.hid (by rw[hcs];rfl)
 have HC1:Hid (∀u∈cs.toList,u.oneCell'=true):=Lib.hid (by rw[hcs];exact Ps.cs_one s p l)
 obtain⟨js,hjs⟩: ∃js,js=s.js p l (.slice A n c):=⟨_,rfl⟩
 rw[←hcs]at HBJ ⊢
 rw[←hjs]at HBJ
 have HJS:=Lib.hid hjs
 clear hcs hjs
 have HP0:Hid (Blk (((w.alloc (.cells cs 53)).alloc (.cells #[.int .i64 op,.slice A n c] 88)).alloc (.cells Tryz.zeroCells53 53)) w.heap.size 53 cs):=Lib.hid (((Blk.new _ _ _).alloc _).alloc _)
 have HR0:Hid (Blk (((w.alloc (.cells cs 53)).alloc (.cells #[.int .i64 op,.slice A n c] 88)).alloc (.cells Tryz.zeroCells53 53)) (w.heap.size+1) 88 #[.int .i64 op,.slice A n c]):=Lib.hid ((Blk.new' _ _ _ (by simp)).alloc _)
 have HO0:Hid (Blk (((w.alloc (.cells cs 53)).alloc (.cells #[.int .i64 op,.slice A n c] 88)).alloc (.cells Tryz.zeroCells53 53)) (w.heap.size+1+1) 53 Tryz.zeroCells53):=Lib.hid (Blk.new' _ _ _ (by simp))
 have HE0:Hid (Ext w (((w.alloc (.cells cs 53)).alloc (.cells #[.int .i64 op,.slice A n c] 88)).alloc (.cells Tryz.zeroCells53 53))):=Lib.hid ((((Ext.refl w).alloc _).alloc _).alloc _)
 have HS0:Hid ((((w.alloc (.cells cs 53)).alloc (.cells #[.int .i64 op,.slice A n c] 88)).alloc (.cells Tryz.zeroCells53 53)).heap.size=w.heap.size+3):=Lib.hid (by simp)
 go_enter Tryz.func31,Tryz.ntmps31
 go_upto_region 1 with fail
 generalize(((w.alloc (.cells cs 53)).alloc (.cells #[.int .i64 op,.slice A n c] 88)).alloc (.cells Tryz.zeroCells53 53))=W0 at*
 have r1:=HR0.out.c2.2
 go_wp2_with (first|(refine wpList_load_blk rfl (.tmp 2) 53 rfl 0 rfl HP0.out 94 agg_pipe size_pipe (by rw[HC94.out];exact Nat.le_refl _) cs (by rw[show 0+94=cs.size from HC94.out.symm,Array.extract_size]) ?_)|(refine wpList_build' rfl 136 _ rfl js (by rw[←HBJ.out];simp only[List.map_toArray,List.map_cons,List.map_nil];rfl) ?_))
 have HTRY:Hid (Calls Tryz.prog 39 #[.func (.func 54) #[] #[.pointer (some ⟨W0.heap.size+1,0,none⟩),.pointer (some ⟨w.heap.size+1,0,none⟩)]] ((W0.alloc (.cells js 136)).alloc (.cells #[.pointer (some ⟨W0.heap.size,0,none⟩)] 134)) fun e w'=>e=.returned (.int .i64 0)∧DoP w w' s' p' W0.heap.size (W0.heap.size+1) (w.heap.size+1+1) (.slice A n c) Tryz.zeroCells53):=Lib.hid (by
  have eA:Ext W0 ((W0.alloc (.cells js 136)).alloc (.cells #[.pointer (some ⟨W0.heap.size,0,none⟩)] 134)):=((Ext.refl W0).alloc _).alloc _
  have hJ:Blk ((W0.alloc (.cells js 136)).alloc (.cells #[.pointer (some ⟨W0.heap.size,0,none⟩)] 134)) W0.heap.size 136 js:=(Blk.new _ _ _).alloc _
  have hV:Blk ((W0.alloc (.cells js 136)).alloc (.cells #[.pointer (some ⟨W0.heap.size,0,none⟩)] 134)) (W0.heap.size+1) 134 #[.pointer (some ⟨W0.heap.size,0,none⟩)]:=Blk.new' _ _ _ (by simp)
  have hR:=HR0.out.ext eA
  have hO:=HO0.out.ext eA
  have hE:=HE0.out.trans eA
  have hsz:((W0.alloc (.cells js 136)).alloc (.cells #[.pointer (some ⟨W0.heap.size,0,none⟩)] 134)).heap.size=W0.heap.size+2:=by simp
  have h3:=HS0.out
  generalize((W0.alloc (.cells js 136)).alloc (.cells #[.pointer (some ⟨W0.heap.size,0,none⟩)] 134))=W1 at*
  have e1:Ext W1 (W1.alloc (.cells #[.int .i64 0] 25)):=(Ext.refl W1).alloc _
  have hD:=HDO.out (W1.alloc (.cells #[.int .i64 0] 25)) W0.heap.size ⟨by rw[←HJS.out];exact hJ.ext e1,HL.out,hE.trans e1,by omega⟩
  have h1:=do1_any (W0.heap.size+1) (w.heap.size+1) W0.heap.size js op (.slice A n c) (W1.alloc (.cells #[.int .i64 0] 25)) (JobP w (W1.alloc (.cells #[.int .i64 0] 25)) W0.heap.size s' p' (.slice A n c)) (hV.ext e1) (hR.ext e1) (hD.mono fun e w' h=>⟨h.1,by rw[h.1]at h;exact h⟩)
  refine try_ok W1 (fun _ _=>rfl) (h1.mono ?_)
  rintro e w' ⟨rfl,l',b1,b2,b3,b4⟩
  have hErr:Blk w' W1.heap.size 25 #[.int .i64 0]:=(Blk.new W1 25 #[.int .i64 0]).kp b4 (by omega)
  refine⟨rfl,hErr,DoP.ext ⟨⟨l',b1,b2⟩,(hV.ext e1).kp b4 (by omega),(hO.ext e1).kp b4 (by omega),b3,by omega⟩ (set_same hErr)⟩)
 refine HTRY.out.mono ?_
 rintro e w1 ⟨rfl,hX⟩
 have HX:=Lib.hid hX
 clear hX HTRY HP0 HR0 HO0 HE0 HS0 r1 HDO HBJ HJ94 HC94 HC1 HJS HL
 generalize W0.heap.size=J at*
 generalize w.heap.size+1+1=O at*
 obtain⟨l',g1,g2⟩:=HX.out.g
 have HG1:=Lib.hid g1
 have HG2:=Lib.hid g2
 clear g1 g2
 have v0:=HX.out.v.c1
 obtain⟨cs',hcs'⟩: ∃c,c=s'.cs p' l':=⟨_,rfl⟩
 have HCS':=Lib.hid hcs'
 have hsz':cs'.size=94:=by rw[hcs'];rfl
 clear hcs'
 go_wp2_with (first|(refine wpList_load_blk rfl (.tmp 18) 53 rfl 0 rfl HG1.out 94 agg_pipe size_pipe (by rw[js_size];omega) cs' (by rw[HCS'.out];exact js_pipe _ _ _ _) ?_)|(refine wpList_store_blk rfl (.tmp 4) (.tmp 19) 53 rfl 0 rfl (.agg cs') rfl HX.out.o (by show _=some cs'.size;rw[hsz'];exact size_pipe) ?c1 ?c2 ?_))
 case c1=>exact fun u hu=>Ps.cs_one _ p' l' u (by rw[←HCS'.out];exact hu)
 case c2=>show 0+cs'.size≤_;rw[hsz'];decide
 intro w3 hb hk
 rw[spl_all _ _ (by show cs'.size=_;rw[hsz'];rfl)]at hb
 have HB3:Hid (Blk w3 O 53 cs'):=Lib.hid hb
 have HE3:Hid (Ext w w3):=Lib.hid (hk.ext HX.out.e (fun j hj=>by have:=HX.out.lt;omega))
 have HL3:Hid (LiesB s' p' l' w3):=Lib.hid (HG2.out.keep (fun g t cs ht hg=>hg.kp hk (hg.ne_type HX.out.o (by rcases ht with rfl|rfl|rfl|rfl <;>decide))))
 clear hb hk v0
 go_wp2_with fail
 have hld:=run_load_blk (P:=Tryz.prog) HB3.out 53 0 94 agg_pipe size_pipe (by rw[hsz'];exact Nat.le_refl _)
 rw[show 0+94=cs'.size by omega,Array.extract_size]at hld
 refine bodyPost_ret (v:=.agg cs') ?_ rfl ⟨l',by rw[HCS'.out],HL3.out,HE3.out⟩
 simp only[results,Tryz.results31]
 simp[asAddr,Result.andThen,hld]
end Go.Proofs.YtplljnfjkkloeaaGreatDoor
set_option linter.unusedVariables false
set_option linter.unusedSimpArgs false
namespace Go.Proofs.YtplljnfjkkloeaaGreatDoor
attribute [local go_sem] Go.Oper.semAt_some
open Go.RowKit
structure Rq where
 op:Int
 A:Option Addr
 n:Nat
 c:Nat
@[reducible] def Rq.cells (q:Rq):List Value:=[.int .i64 q.op,.slice q.A q.n q.c]
theorem rq_at {w:World} {b off n cap j:Nat} {L:List Rq} {q:Rq} (h:Rd w 2 (some ⟨b,off,none⟩) n cap (L.flatMap Rq.cells)) (hs:L[j]? =some q):
  w.cell? ⟨b,off+j*2,none⟩=some (.int .i64 q.op)∧w.cell? ⟨b,off+j*2+1,none⟩=some (.slice q.A q.n q.c):=by
 have g:=fun i hi=>frow_get (f:=Rq.cells) (K:=2) (fun _=>rfl) hs i hi
 refine⟨h.get rfl (j:=j*2) (by have:=g 0 (by omega);rw[Nat.add_zero]at this;exact this),?_⟩
 rw[Nat.add_assoc];exact h.get rfl (g 1 (by omega))
structure RunL (w wx:World) (s:Ps) (p:Hp) (P O:Nat) (z:Array Value):Prop where
 g: ∃l,Blk wx P 53 (s.cs p l)∧LiesB s p l wx
 o:Blk wx O 53 z
 e:Ext w wx
 lt:w.heap.size≤P∧w.heap.size≤O∧P≠O
set_option maxRecDepth 100000 in
theorem run_any (st:Nat→Ps) (hp:Nat→Hp) (h0:st 0=ps0) (h1:hp 0=hp0) (L:List Rq) (a:Option Addr) (N cap:Nat) (w:World) (hL:L.length=N) (hr:Rd w 2 a N cap (L.flatMap Rq.cells)) (hN:N≤4096)
  (HD: ∀k q,L[k]? =some q→ ∀w1 l,Ext w w1→LiesB (st k) (hp k) l w1→Calls Tryz.prog 31 #[.agg ((st k).cs (hp k) l),.agg #[.int .i64 q.op,.slice q.A q.n q.c]] w1 (GivesB (st (k+1)) (hp (k+1)) w1)):
  Calls Tryz.prog 20 #[.slice a N cap] w (GivesB (st N) (hp N) w):=by
 have HDO:=Lib.hid HD
 have HR:=Lib.hid hr
 have HLL:=Lib.hid hL
 have HPN:Hid (∀wz,Calls Tryz.prog 43 #[] wz (GivesB (st 0) (hp 0) wz)):=Lib.hid (by rw[h0,h1];exact pnew_B)
 clear HD hr hL h0 h1
 go_enter Tryz.func20,Tryz.ntmps20
 go_upto_region 1 with fail
 go_wp2_with fail
 refine(HPN.out _).mono ?_
 rintro e w1 ⟨l0,he,hl0,hE⟩
 obtain⟨cs0,hcs0⟩: ∃c,c=(st 0).cs (hp 0) l0:=⟨_,rfl⟩
 rw[←hcs0]at he
 subst he
 have hc94:cs0.size=94:=by rw[hcs0];rfl
 have HCO:Hid (∀u∈cs0.toList,u.oneCell'=true):=Lib.hid (by rw[hcs0];exact Ps.cs_one _ _ _)
 have HO1:Hid (Blk w1 w.heap.size 53 Tryz.zeroCells53):=Lib.hid ((Blk.new _ _ _).ext hE)
 have HE1:Hid (Ext w w1):=Lib.hid (((Ext.refl w).alloc _).trans hE)
 have HL1:=Lib.hid hl0
 have HC0:=Lib.hid hcs0
 have hsz1:w.heap.size<w1.heap.size:=by have:=hE.size;simp at this;omega
 clear hl0 hE hcs0 HPN
 go_wp2_with (refine wpList_store_blk rfl (.tmp 3) (.tmp 6) 53 rfl 0 rfl (.agg cs0) rfl (Blk.new w1 53 Tryz.zeroCells53) (by show _=some cs0.size;rw[hc94];exact size_pipe) ?c1 ?c2 ?_)
 case c1=>exact fun u hu=>HCO.out u hu
 case c2=>show 0+cs0.size≤_;rw[hc94];decide
 intro w3 hb hk
 rw[spl_all _ _ (by show cs0.size=_;rw[hc94];rfl)]at hb
 have HB0:Hid (RunL w w3 (st 0) (hp 0) w1.heap.size w.heap.size Tryz.zeroCells53):=Lib.hid ⟨⟨l0,by rw[←HC0.out];exact hb,(HL1.out.ext ((Ext.refl w1).alloc _)).keep (fun g t cs ht hg=>hg.kp hk (hg.ne_type (Blk.new w1 53 Tryz.zeroCells53) (by rcases ht with rfl|rfl|rfl|rfl <;>decide)))⟩,
  (HO1.out.alloc _).kp hk (by omega),hk.ext (HE1.out.alloc _) (fun k hk=>by omega),⟨by omega,Nat.le_refl _,by omega⟩⟩
 clear hb hk HO1 HL1 HC0 HCO HE1
 generalize w1.heap.size=P at*
 go_wp2_with fail
 go_loopw [5,9] (fun _ i wr=> ∃k:Nat,k≤N∧i=.int .i64 k∧Hid (RunL w wr (st k) (hp k) P w.heap.size Tryz.zeroCells53)) (fun _ i _=>N-(intOf i).toNat)
 case atStart=>exact⟨0,Nat.zero_le _,rfl,HB0⟩
 case round=>
  clear HB0
  obtain⟨k,hk,rfl,HRn⟩:=hrel
  obtain⟨W3,rfl⟩: ∃W3:World,W3=wr:=⟨_,rfl⟩
  obtain⟨lk,g1,g2⟩:=HRn.out.g
  obtain⟨cs,hcs⟩: ∃c,c=(st k).cs (hp k) lk:=⟨_,rfl⟩
  rw[←hcs]at g1
  have hsz:cs.size=94:=by rw[hcs];rfl
  by_cases hlt:k<N
  ·obtain⟨q,hq⟩: ∃q,L[k]? =some q:=⟨_,List.getElem?_eq_getElem (by rw[HLL.out];exact hlt)⟩
   obtain⟨b,off,ha, -, -⟩:=HR.out.at_ (by omega)
   subst ha
   obtain⟨c0,c1⟩:=rq_at (HR.out.ext HRn.out.e) hq
   have HQ:=Lib.hid hq
   have HCS:=Lib.hid hcs
   have HG1:=Lib.hid g1
   have HG2:=Lib.hid g2
   have hkN:(k:Int)+1≤4096:=by omega
   have hk0:(0:Int)≤k:=by omega
   clear hq hcs g1 g2
   go_wp2_with (refine wpList_load_blk rfl (.tmp 3) 53 rfl 0 rfl (HG1.out.alloc _) 94 agg_pipe size_pipe (by rw[hsz];exact Nat.le_refl _) cs (by rw[show 0+94=cs.size from hsz.symm,Array.extract_size]) ?_)
   have eA:Ext W3 (W3.alloc (.cells #[.int .i64 q.op,.slice q.A q.n q.c] 88)):=(Ext.refl W3).alloc _
   have HGL:Hid (LiesB (st k) (hp k) lk (W3.alloc (.cells #[.int .i64 q.op,.slice q.A q.n q.c] 88))):=Lib.hid (HG2.out.ext eA)
   have HGP:Hid (Blk (W3.alloc (.cells #[.int .i64 q.op,.slice q.A q.n q.c] 88)) P 53 cs):=Lib.hid (HG1.out.ext eA)
   have HGO:=Lib.hid (HRn.out.o.ext eA)
   have HGE:=Lib.hid (HRn.out.e.trans eA)
   have HLT:=Lib.hid HRn.out.lt
   clear eA HG1 HG2 HRn
   have HDk:Hid (Calls Tryz.prog 31 #[.agg cs,.agg #[.int .i64 q.op,.slice q.A q.n q.c]] (W3.alloc (.cells #[.int .i64 q.op,.slice q.A q.n q.c] 88)) (GivesB (st (k+1)) (hp (k+1)) (W3.alloc (.cells #[.int .i64 q.op,.slice q.A q.n q.c] 88)))):=Lib.hid (by rw[HCS.out];exact HDO.out k q HQ.out _ lk HGE.out HGL.out)
   go_wp2_with fail
   refine HDk.out.mono ?_
   rintro e w5 ⟨l5,he,hl5,hE5⟩
   obtain⟨cs5,hcs5⟩: ∃c,c=(st (k+1)).cs (hp (k+1)) l5:=⟨_,rfl⟩
   rw[←hcs5]at he
   subst he
   have h594:cs5.size=94:=by rw[hcs5];rfl
   have HCO:Hid (∀u∈cs5.toList,u.oneCell'=true):=Lib.hid (by rw[hcs5];exact Ps.cs_one _ _ _)
   have HP5:=Lib.hid (HGP.out.ext hE5)
   have HO5:=Lib.hid (HGO.out.ext hE5)
   have HE5:=Lib.hid (HGE.out.trans hE5)
   have HL5:=Lib.hid hl5
   have HC5:=Lib.hid hcs5
   clear hl5 hE5 hcs5 HGP HGO HGE HGL HDk c0 c1
   go_wp2_with (refine wpList_store_blk rfl (.tmp 3) (.tmp 15) 53 rfl 0 rfl (.agg cs5) rfl HP5.out (by show _=some cs5.size;rw[h594];exact size_pipe) ?c1 ?c2 ?_)
   case c1=>exact fun u hu=>HCO.out u hu
   case c2=>show 0+cs5.size≤_;rw[h594,hsz];decide
   intro w6 hb hk6
   rw[spl_all _ _ (by show cs5.size=_;rw[h594,hsz])]at hb
   have HN1:Hid (RunL w w6 (st (k+1)) (hp (k+1)) P w.heap.size Tryz.zeroCells53):=Lib.hid ⟨⟨l5,by rw[←HC5.out];exact hb,HL5.out.keep (fun g t cs ht hg=>hg.kp hk6 (hg.ne_type HP5.out (by rcases ht with rfl|rfl|rfl|rfl <;>decide)))⟩,
    HO5.out.kp hk6 HLT.out.2.2.symm,hk6.ext HE5.out (fun k hk=>by have:=HLT.out.1;omega),HLT.out⟩
   clear hb hk6 HP5 HO5 HE5 HL5 HC5 HCO
   go_wp2_with fail
   go_roundw
   case rel=>first|exact⟨k+1,by omega,by go_num,HN1⟩|((repeat apply Exists.intro);exact⟨⟨k+1,by omega,by go_num,HN1⟩,rfl⟩)
   case measure=>simp[intOf];omega
  ·obtain rfl:k=N:=by omega
   have HCS:=Lib.hid hcs
   have HG1:=Lib.hid g1
   have HG2:=Lib.hid g2
   have HCO:Hid (∀u∈cs.toList,u.oneCell'=true):=Lib.hid (by rw[hcs];exact Ps.cs_one _ _ _)
   clear hcs g1 g2
   go_wp2_with (first|(refine wpList_load_blk rfl (.tmp 3) 53 rfl 0 rfl HG1.out 94 agg_pipe size_pipe (by rw[hsz];exact Nat.le_refl _) cs (by rw[show 0+94=cs.size from hsz.symm,Array.extract_size]) ?_)|(refine wpList_store_blk rfl (.tmp 2) (.tmp 17) 53 rfl 0 rfl (.agg cs) rfl HRn.out.o (by show _=some cs.size;rw[hsz];exact size_pipe) ?c1 ?c2 ?_))
   case c1=>exact fun u hu=>HCO.out u hu
   case c2=>show 0+cs.size≤_;rw[hsz];decide
   intro w6 hb hk6
   rw[spl_all _ _ (by show cs.size=_;rw[hsz];rfl)]at hb
   have HB3:=Lib.hid hb
   have HL3:Hid (LiesB (st k) (hp k) lk w6):=Lib.hid (HG2.out.keep (fun g t cs ht hg=>hg.kp hk6 (hg.ne_type HRn.out.o (by rcases ht with rfl|rfl|rfl|rfl <;>decide))))
   have HE3:=Lib.hid (hk6.ext HRn.out.e (fun k hk=>by have:=HRn.out.lt;omega))
   clear hb hk6
   go_wp2_with fail
   have hld:=run_load_blk (P:=Tryz.prog) HB3.out 53 0 94 agg_pipe size_pipe (by show 0+94≤cs.size;rw[hsz];exact Nat.le_refl _)
   rw[show 0+94=cs.size by omega,Array.extract_size]at hld
   refine bodyPost_ret (v:=.agg cs) ?_ rfl ⟨lk,by rw[HCS.out],HL3.out,HE3.out⟩
   simp only[results,Tryz.results20]
   simp[asAddr,Result.andThen,hld]
end Go.Proofs.YtplljnfjkkloeaaGreatDoor
set_option linter.unusedVariables false
set_option linter.unusedSimpArgs false
namespace Go.Proofs.YtplljnfjkkloeaaGreatDoor
attribute [local go_sem] Go.Oper.semAt_some
open Go.RowKit
inductive Step:Ps→Hp→Int→List Int→Ps→Hp→Prop
 |size (s:Ps) (p:Hp) (W H:Nat) (w1:1≤W) (w2:W≤1024) (h1:1≤H) (h2:H≤1024) (hf:(C4.mk s.f0 s.f1 s.f2 s.f3).Ok) (ho:s.op=false):
  Step s p 1 [(W:Int),(H:Int)] {s with W:=W,H:=H,port:=⟨0,0,W,H⟩} {p with C:=List.replicate (W*H) (pk s.f0 s.f1 s.f2 s.f3),Z:=List.replicate (W*H) s.far}
 |port (s:Ps) (p:Hp) (a b c d:Int) (hr:rightT (askT 5) [a,b,c,d]=0) (ho:s.op=false):Step s p 5 [a,b,c,d] {s with port:=⟨a,b,c,d⟩} p
 |color (s:Ps) (p:Hp) (a b c d:Int) (hr:rightT (askT 14) [a,b,c,d]=0):Step s p 14 [a,b,c,d] {s with c0:=a,c1:=b,c2:=c,c3:=d} p
 |begin (s:Ps) (p:Hp) (m:Int) (hr:rightT (askT 16) [m]=0) (hW:0<s.W) (ho:s.op=false):Step s p 16 [m] {s with op:=true,mode:=m} p
 |vertex (s:Ps) (p:Hp) (v:C4) (hr:rightT (askT 17) [v.a,v.b,v.c,v.d]=0) (hv:v.In) (hM:p.M=unitM) (hN:p.N=unitM) (hF:p.F.length=p.V.length) (hl:p.V.length<256) (ho:s.op=true):
  Step s p 17 [v.a,v.b,v.c,v.d] s {p with V:=p.V++[⟨v.a,v.b,v.c,v.d,s.c0,s.c1,s.c2,s.c3⟩],F:=p.F++[s.flag]}
 |fin (s:Ps) (p:Hp) (m k W H:Nat) (hd:Drawn s p m k) (h2:m=1→2≤p.V.length) (hr:Ready s p W H) (hT:Takes W H (s.lines p m k)) (ho:s.op=true):
  Step s p 18 [] {s with op:=false,mode:=0} {p with C:=fall W s.mix s.sf s.df p.C (s.lines p m k),V:=[],F:=[]}
 |dash (s:Ps) (p:Hp) (a b c:Int) (hr:rightT (askT 20) [a,b,c]=0) (ho:s.op=false):Step s p 20 [a,b,c] {s with dashed:=(a==1),dash:=⟨c,b,0⟩} p
 |mix (s:Ps) (p:Hp) (a b c:Int) (hr:rightT (askT 27) [a,b,c]=0) (ho:s.op=false):Step s p 27 [a,b,c] {s with mix:=(a==1),sf:=b,df:=c} p
theorem right_1 (W H:Nat) (w1:1≤W) (w2:W≤1024) (h1:1≤H) (h2:H≤1024):rightT (askT 1) [(W:Int),(H:Int)]=0:=by
 have e:askT 1=some [(1,1024),(1,1024)]:=rfl
 rw[e]
 simp[rightT,allIn,within]
 omega
theorem do_any {s s':Ps} {p p':Hp} {op:Int} {C:List Int} (hs:Step s p op C s' p') (w:World) (l:Sl) (A:Option Addr) (n c:Nat) (hl:LiesB s p l w) (hg:Glob w) (hr:Rd w 1 A n c (ivs C)) (hn:n≤4096):
  Calls Tryz.prog 31 #[.agg (s.cs p l),.agg #[.int .i64 op,.slice A n c]] w (GivesB s' p' w):=by
 refine do_step w s s' p p' l A n c op hl (fun w1 J hJ=>?_)
 have hg1:=hg.ext hJ.e
 have hr1:=hr.ext hJ.e
 have hlen:C.length=n:=by have:=hr.len;simpa using this
 have j58:w1.cell? ⟨J,58,none⟩=some (.bool s.op):=hJ.j.cell 58
 have mk: ∀(B o:Nat),A=some ⟨B,o,none⟩→ ∀wz,Ext w1 wz→JobIn w wz J s p l B o n c C:=fun B o hA wz e=>⟨by rw[←hA];exact hJ.j.ext e,hJ.lie,hJ.e.trans e,hJ.le,by rw[←hA];exact hr,hn⟩
 have arr:0<n→ ∃B o,A=some ⟨B,o,none⟩:=fun h0=>by obtain⟨B,o,hA, -, -⟩:=hr.at_ h0;exact⟨B,o,hA⟩
 have fin_: ∀{wz:World} {e:Ending} {w':World},Ext w1 wz→JobP w wz J s' p' (.slice A n c) e w'→e=.returned (.tuple #[])∧JobP w w1 J s' p' (.slice A n c) (.returned (.tuple #[])) w':=fun ez h=>⟨h.1,by have:=h.from ez;rw[h.1]at this;exact this⟩
 cases hs with
 |size W H q1 q2 q3 q4 hf ho=>
  obtain⟨B,o,rfl⟩:=arr (by rw[←hlen];simp)
  rw[ho]at j58
  exact do_image w1 J _ 1 _ n c _ (.inl rfl) hg1 hr1 (right_1 W H q1 q2 q3 q4) j58 (fun wz e=>(image_1 w wz J s p l B o n c _ W H (mk B o rfl wz e) rfl rfl q1 q2 q3 q4 hf).mono fun _ _ h=>fin_ e h)
 |port a b c' d hr' ho=>
  obtain⟨B,o,rfl⟩:=arr (by rw[←hlen];simp)
  rw[ho]at j58
  exact do_image w1 J _ 5 _ n c _ (.inr rfl) hg1 hr1 hr' j58 (fun wz e=>(image_5 w wz J s p l B o n c _ a b c' d (mk B o rfl wz e) rfl rfl rfl rfl).mono fun _ _ h=>fin_ e h)
 |color a b c' d hr'=>
  obtain⟨B,o,rfl⟩:=arr (by rw[←hlen];simp)
  exact do_verts w1 J _ 14 _ n c _ s.op (.inl rfl) hg1 hr1 hr' j58 (fun wz e=>(verts_14 w wz J s p l B o n c _ a b c' d (mk B o rfl wz e) rfl rfl rfl rfl).mono fun _ _ h=>fin_ e h)
 |begin m hr' hW ho=>
  obtain⟨B,o,rfl⟩:=arr (by rw[←hlen];simp)
  exact do_verts w1 J _ 16 _ n c _ s.op (.inr (.inl ⟨rfl,ho⟩)) hg1 hr1 hr' j58 (fun wz e=>(verts_16 w wz J s p l B o n c _ m (mk B o rfl wz e) rfl hW ho).mono fun _ _ h=>fin_ e h)
 |vertex v hr' hv hM hN hF hl' ho=>
  obtain⟨B,o,rfl⟩:=arr (by rw[←hlen];simp)
  obtain rfl:4=n:=by simpa using hlen
  exact do_verts w1 J _ 17 _ 4 c _ s.op (.inr (.inr ⟨.inl rfl,ho⟩)) hg1 hr1 hr' j58 (fun wz e=>verts_17 wz J _ ((vertex_any w wz J s p l B o c _ v (mk B o rfl wz e) rfl rfl rfl rfl hv hM hN hF hl').mono fun _ _ h=>⟨h.1,fin_ e (by rw[h.1]at h;exact h)⟩))
 |fin m k W H hd h2 hr' hT ho=>
  exact do_verts w1 J _ 18 _ n c _ s.op (.inr (.inr ⟨.inr rfl,ho⟩)) hg1 hr1 rfl j58 (fun wz e=>verts_18 wz J _ ((jend_any w wz J s p l _ m k W H (hJ.ext e) hd h2 hr' hT).mono fun _ _ h=>⟨h.1,fin_ e (by rw[h.1]at h;exact h)⟩))
 |dash a b c' hr' ho=>
  obtain⟨B,o,rfl⟩:=arr (by rw[←hlen];simp)
  rw[ho]at j58
  exact do_look w1 J _ 20 _ n c _ (.inr (.inl rfl)) hg1 hr1 hr' j58 (fun wz e=>(look_20 w wz J s p l B o n c _ a b c' (mk B o rfl wz e) rfl rfl rfl).mono fun _ _ h=>fin_ e h)
 |mix a b c' hr' ho=>
  obtain⟨B,o,rfl⟩:=arr (by rw[←hlen];simp)
  rw[ho]at j58
  exact do_look w1 J _ 27 _ n c _ (.inr (.inr rfl)) hg1 hr1 hr' j58 (fun wz e=>(look_27 w wz J s p l B o n c _ a b c' (mk B o rfl wz e) rfl rfl rfl).mono fun _ _ h=>fin_ e h)
inductive Steps:Ps→Hp→List (Int×List Int)→Ps→Hp→Prop
 |nil (s:Ps) (p:Hp):Steps s p [] s p
 |cons {s s1 s':Ps} {p p1 p':Hp} {c:Int×List Int} {L:List (Int×List Int)} (h:Step s p c.1 c.2 s1 p1) (t:Steps s1 p1 L s' p'):Steps s p (c::L) s' p'
theorem Steps.append {s s1 s':Ps} {p p1 p':Hp} {L M:List (Int×List Int)} (h:Steps s p L s1 p1) (t:Steps s1 p1 M s' p'):Steps s p (L++M) s' p':=by
 induction h with
 |nil=>exact t
 |cons h _ ih=>exact .cons h (ih t)
theorem Steps.states {s s':Ps} {p p':Hp} {L:List (Int×List Int)} (h:Steps s p L s' p'): ∃(st:Nat→Ps) (hp:Nat→Hp),st 0=s∧hp 0=p∧st L.length=s'∧hp L.length=p'∧ ∀k c,L[k]? =some c→Step (st k) (hp k) c.1 c.2 (st (k+1)) (hp (k+1)):=by
 induction h with
 |nil s p=>exact⟨fun _=>s,fun _=>p,rfl,rfl,rfl,rfl,fun k c h=>by simp at h⟩
 |@cons s s1 s' p p1 p' c L h t ih=>
  obtain⟨st,hp,h0,h1,h2,h3,h4⟩:=ih
  refine⟨fun k=>match k with|0=>s|k+1=>st k,fun k=>match k with|0=>p|k+1=>hp k,rfl,rfl,h2,h3,fun k d hk=>?_⟩
  cases k with
  |zero=>
   obtain rfl:c=d:=by simpa using hk
   show Step s p c.1 c.2 (st 0) (hp 0)
   rw[h0,h1]
   exact h
  |succ k=>exact h4 k d (by simpa using hk)
structure Cmds (w:World) (a:Option Addr) (N cap:Nat) (L:List (Int×List Int)):Prop where
 r: ∃Q:List Rq,Q.length=N∧Rd w 2 a N cap (Q.flatMap Rq.cells)∧ ∀(k:Nat) (q:Rq),Q[k]? =some q→ ∃C,L[k]? =some (q.op,C)∧Rd w 1 q.A q.n q.c (ivs C)∧q.n≤4096
 n:L.length=N
theorem run_cmds {s:Ps} {p:Hp} {L:List (Int×List Int)} (h:Steps ps0 hp0 L s p) (a:Option Addr) (N cap:Nat) (w:World) (hg:Glob w) (hc:Cmds w a N cap L) (hN:N≤4096):
  Calls Tryz.prog 20 #[.slice a N cap] w (GivesB s p w):=by
 obtain⟨st,hp,h0,h1,h2,h3,h4⟩:=h.states
 obtain⟨Q,q1,q2,q3⟩:=hc.r
 have hn:=hc.n
 rw[hn]at h2 h3
 rw[←h2,←h3]
 refine run_any st hp h0 h1 Q a N cap w q1 q2 hN (fun k q hq w1 l e hl=>?_)
 obtain⟨C,hC,hr,hn'⟩:=q3 k q hq
 exact do_any (h4 k _ hC) w1 l q.A q.n q.c hl (hg.ext e) (hr.ext e) hn'
end Go.Proofs.YtplljnfjkkloeaaGreatDoor
