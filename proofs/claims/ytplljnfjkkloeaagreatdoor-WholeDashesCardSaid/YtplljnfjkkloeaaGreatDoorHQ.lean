/- Proof text: all primitives drawn (pipe.Emit), of lines. By an AI agent. No condition beyond what each theorem states. -/
import Derived.Test.YtplljnfjkkloeaaGreatDoorHP
import Derived.Test.YtplljnfjkkloeaaGreatDoorHL
import Derived.Test.YtplljnfjkkloeaaGreatDoorTA
import Derived.Test.YtplljnfjkkloeaaGreatDoorRK
import Derived.Test.YtplljnfjkkloeaaGreatDoorYA
set_option linter.unusedVariables false
set_option linter.unusedSimpArgs false
set_option maxHeartbeats 16000000
namespace Go.Proofs.YtplljnfjkkloeaaGreatDoor
attribute [local go_sem] Go.Oper.semAt_some
open Go.RowKit
abbrev HQd0:List Nat:=[9,10,11,12,13,14,15,16,17,18,4]
section
variable {W x y:World} {ks:List (Nat×Nat)} {V:Nat→Value} {T:Nat→TypeId} {Z R:Nat→Array Value} {st:Nat→Bool} {u:Nat→Value}
theorem RF.other (h:RF W ks V [] T Z R st u x) (e:Ext x y) (i d:Nat) (hk: ∀q∈ks,q.1≠i∧q.2≠d) (v:Value):RF W ks V [] T Z R (ups st i) (upu u d v) y:=
 ⟨h.ext.trans e,fun q hq hs=>by
  obtain⟨q1,q2⟩:=hk q hq
  rw[ups_ne q1]at hs
  rw[upu_ne q2]
  exact h.val q hq hs,fun b hb=>(by cases hb),fun b hb=>(by cases hb)⟩
theorem RF.tick (h:RF W ks V [] T Z R st u x) (e:Ext W y) (i:Nat) (hk: ∀q∈ks,q.1≠i):RF W ks V [] T Z R (ups st i) u y:=
 ⟨e,fun q hq hs=>by
  rw[ups_ne (hk q hq)]at hs
  exact h.val q hq hs,fun b hb=>(by cases hb),fun b hb=>(by cases hb)⟩
end
structure Em (W:World) (F:Option Addr→Nat→Array Value) (st:Nat→Bool) (u:Nat→Value) (x:World):Prop where
 a:st 4=true→ ∃a c,u 13=.slice a 3 c∧RdB x 38 5 a 3 c (srow (base3 3))
 b:st 8=true→ ∃a c,u 17=.agg (F a c)∧RdB x 38 5 a 3 c (srow (base3 3))
 c:st 9=true→ ∃a c D,u 18=.pointer (some ⟨D,0,none⟩)∧RdB x 38 5 a 3 c (srow (base3 3))∧Blk x D 111 (F a c)∧W.heap.size≤D
 d:st 10=true→ ∃B,u 4=.pointer (some ⟨B,0,none⟩)∧W.heap.size≤B∧Blk x B 107 #[if st 11=true then u 18 else .pointer none]
section
variable {W x y:World} {F:Option Addr→Nat→Array Value} {st:Nat→Bool} {u:Nat→Value}
theorem Em.begin:Em W F (fun _=>false) u x:=⟨fun h=>(by cases h),fun h=>(by cases h),fun h=>(by cases h),fun h=>(by cases h)⟩
theorem Em.keep (h:Em W F st u x) (e:Ext x y) (i d:Nat) (v:Value) (hi:i≠4∧i≠8∧i≠9∧i≠10∧i≠11) (hd:d≠13∧d≠17∧d≠18∧d≠4):Em W F (ups st i) (upu u d v) y:=by
 obtain⟨i4,i8,i9,i10,i11⟩:=hi
 obtain⟨d13,d17,d18,d4⟩:=hd
 refine⟨fun hs=>?_,fun hs=>?_,fun hs=>?_,fun hs=>?_⟩
 ·rw[ups_ne (Ne.symm i4)]at hs
  obtain⟨a,c,h1,h2⟩:=h.a hs
  exact⟨a,c,by rw[upu_ne (Ne.symm d13)];exact h1,h2.ext e⟩
 ·rw[ups_ne (Ne.symm i8)]at hs
  obtain⟨a,c,h1,h2⟩:=h.b hs
  exact⟨a,c,by rw[upu_ne (Ne.symm d17)];exact h1,h2.ext e⟩
 ·rw[ups_ne (Ne.symm i9)]at hs
  obtain⟨a,c,D,h1,h2,h3,h4⟩:=h.c hs
  exact⟨a,c,D,by rw[upu_ne (Ne.symm d18)];exact h1,h2.ext e,h3.ext e,h4⟩
 ·rw[ups_ne (Ne.symm i10)]at hs
  obtain⟨B,h1,h2,h3⟩:=h.d hs
  exact⟨B,by rw[upu_ne (Ne.symm d4)];exact h1,h2,by rw[ups_ne (Ne.symm i11),upu_ne (Ne.symm d18)];exact h3.ext e⟩
theorem Em.sides (h:Em W F st u x) (e:Ext x y) {a:Option Addr} {c:Nat} (hr:RdB y 38 5 a 3 c (srow (base3 3))) (h8:st 8=false) (h9:st 9=false):Em W F (ups st 4) (upu u 13 (.slice a 3 c)) y:=by
 refine⟨fun _=>⟨a,c,upu_eq _ _,hr⟩,fun hs=>?_,fun hs=>?_,fun hs=>?_⟩
 ·rw[ups_ne (by decide),h8]at hs;cases hs
 ·rw[ups_ne (by decide),h9]at hs;cases hs
 ·rw[ups_ne (by decide)]at hs
  obtain⟨B,h1,h2,h3⟩:=h.d hs
  exact⟨B,by rw[upu_ne (by decide)];exact h1,h2,by rw[ups_ne (by decide),upu_ne (by decide)];exact h3.ext e⟩
theorem Em.build (h:Em W F st u x) {a:Option Addr} {c:Nat} (hr:RdB x 38 5 a 3 c (srow (base3 3))) (h9:st 9=false):Em W F (ups st 8) (upu u 17 (.agg (F a c))) x:=by
 refine⟨fun hs=>?_,fun _=>⟨a,c,upu_eq _ _,hr⟩,fun hs=>?_,fun hs=>?_⟩
 ·rw[ups_ne (by decide)]at hs
  obtain⟨a,c,h1,h2⟩:=h.a hs
  exact⟨a,c,by rw[upu_ne (by decide)];exact h1,h2⟩
 ·rw[ups_ne (by decide),h9]at hs;cases hs
 ·rw[ups_ne (by decide)]at hs
  obtain⟨B,h1,h2,h3⟩:=h.d hs
  exact⟨B,by rw[upu_ne (by decide)];exact h1,h2,by rw[ups_ne (by decide),upu_ne (by decide)];exact h3⟩
theorem Em.box (h:Em W F st u x) (hW:W.heap.size≤x.heap.size) {a:Option Addr} {c:Nat} (hr:RdB x 38 5 a 3 c (srow (base3 3))) (h11:st 11=false):Em W F (ups st 9) (upu u 18 (.pointer (some ⟨x.heap.size,0,none⟩))) (x.alloc (.cells (F a c) 111)):=by
 have e:Ext x (x.alloc (.cells (F a c) 111)):=(Ext.refl x).alloc _
 refine⟨fun hs=>?_,fun hs=>?_,fun _=>⟨a,c,x.heap.size,upu_eq _ _,hr.ext e,Blk.new _ _ _,hW⟩,fun hs=>?_⟩
 ·rw[ups_ne (by decide)]at hs
  obtain⟨a,c,h1,h2⟩:=h.a hs
  exact⟨a,c,by rw[upu_ne (by decide)];exact h1,h2.ext e⟩
 ·rw[ups_ne (by decide)]at hs
  obtain⟨a,c,h1,h2⟩:=h.b hs
  exact⟨a,c,by rw[upu_ne (by decide)];exact h1,h2.ext e⟩
 ·rw[ups_ne (by decide)]at hs
  obtain⟨B,h1,h2,h3⟩:=h.d hs
  rw[if_neg (by rw[h11];simp)]at h3
  exact⟨B,by rw[upu_ne (by decide)];exact h1,h2,by rw[ups_ne (by decide),if_neg (by rw[h11];simp)];exact h3.ext e⟩
theorem Em.var (h:Em W F st u x) (hW:W.heap.size≤x.heap.size) (h11:st 11=false):Em W F (ups st 10) (upu u 4 (.pointer (some ⟨x.heap.size,0,none⟩))) (x.alloc (.cells #[.pointer none] 107)):=by
 have e:Ext x (x.alloc (.cells #[.pointer none] 107)):=(Ext.refl x).alloc _
 refine⟨fun hs=>?_,fun hs=>?_,fun hs=>?_,fun _=>⟨x.heap.size,upu_eq _ _,hW,by rw[ups_ne (by decide),if_neg (by rw[h11];simp)];exact Blk.new _ _ _⟩⟩
 ·rw[ups_ne (by decide)]at hs
  obtain⟨a,c,h1,h2⟩:=h.a hs
  exact⟨a,c,by rw[upu_ne (by decide)];exact h1,h2.ext e⟩
 ·rw[ups_ne (by decide)]at hs
  obtain⟨a,c,h1,h2⟩:=h.b hs
  exact⟨a,c,by rw[upu_ne (by decide)];exact h1,h2.ext e⟩
 ·rw[ups_ne (by decide)]at hs
  obtain⟨a,c,D,h1,h2,h3,h4⟩:=h.c hs
  exact⟨a,c,D,by rw[upu_ne (by decide)];exact h1,h2.ext e,h3.ext e,h4⟩
theorem Em.store (h:Em W F st u x) {B:Nat} {z:Array Value} (hu:u 4=.pointer (some ⟨B,0,none⟩)) (h9:st 9=true) (hz:Blk x B 107 z) (hB:Blk y B 107 (u 18).cells) (hc:(u 18).cells= #[u 18]) (k:Kp (·≠B) x y) (hW:W.heap.size≤B):Em W F (ups st 11) u y:=by
 have hk: ∀{t:TypeId},t≠107→ ∀g cs,Blk x g t cs→Blk y g t cs:=fun ht g cs hb=>hb.kp k (hb.ne_type hz ht)
 refine⟨fun hs=>?_,fun hs=>?_,fun hs=>?_,fun _=>⟨B,hu,hW,by rw[ups_eq,if_pos rfl,←hc];exact hB⟩⟩
 ·rw[ups_ne (by decide)]at hs
  obtain⟨a,c,h1,h2⟩:=h.a hs
  exact⟨a,c,h1,h2.keep (hk (by decide))⟩
 ·rw[ups_ne (by decide)]at hs
  obtain⟨a,c,h1,h2⟩:=h.b hs
  exact⟨a,c,h1,h2.keep (hk (by decide))⟩
 ·rw[ups_ne (by decide)]at hs
  obtain⟨a,c,D,h1,h2,h3,h4⟩:=h.c hs
  exact⟨a,c,D,h1,h2.keep (hk (by decide)),hk (by decide) _ _ h3,h4⟩
end
structure Dr (w wx:World) (pc:Array Value) (F:Option Addr→Nat→Array Value) (P B D:Nat) (a:Option Addr) (c:Nat):Prop where
 p:Blk wx P 53 pc
 b:Blk wx B 107 #[.pointer (some ⟨D,0,none⟩)]
 d:Blk wx D 111 (F a c)
 s:RdB wx 38 5 a 3 c (srow (base3 3))
 lt:w.heap.size≤B∧w.heap.size≤D
 e:Ext w wx
theorem load_pipe {w:World} {g:Nat} {cs:Array Value} (hb:Blk w g 53 cs) (h:cs.size=94):(loadVar 53 ⟨g,0,none⟩).run Tryz.prog w=.ok (.agg cs) w:=by
 have:=run_load_blk (P:=Tryz.prog) hb 53 0 94 agg_pipe size_pipe (by omega)
 rw[show cs.extract 0 (0+94)=cs by rw[show 0+94=cs.size by omega];exact Array.extract_size]at this
 exact this
theorem wp_load_val {P:Program} {o:Oper} {a:Act} {w:World} {K:Act→World→Prop} {Q:Exit→Act→World→Prop} (x:Operand) (t:TypeId) (ho:o.op=.load t x) (ad:Addr) (hx:a.eval x=.pointer (some ad)) (v:Value)
  (hl:(loadVar t ad).run P w=.ok v w)(hK:K (a.put o.dst v) w):o.wp P a w K Q:=by
 unfold Oper.wp execOp
 simp only[ho,hx,Instr.loadAt,Instr.sureAddr,Sem.run_bind,Sem.run_pure,Result.andThen_ok,hl]
 exact hK
def Ps.d0 (s:Ps) (p:Hp) (l:Sl) (a:Option Addr) (c:Nat):Array Value:=s.ds p l ⟨0,0,s.W,s.H⟩ a c s.dash (.slice none 0 0) true
theorem built_ds (s:Ps) (p:Hp) (l:Sl) (a:Option Addr) (c:Nat):Tryz.prog.built 111 [(0,Value.agg (s.cs p l)),(1,Rc.v ⟨0,0,s.W,s.H⟩),(2,.slice a 3 c),(3,s.dash.v),(5,.bool true)]=some (s.d0 p l a c):=by kernel_rfl
def emV (s:Ps) (p:Hp) (l:Sl) (P:Nat):Nat→Value
 |9=>.agg (s.cs p l)|10=>.agg (s.cs p l)|12=>.agg (s.cs p l)|11=>Rc.v ⟨0,0,s.W,s.H⟩|14=>.pointer (some ⟨P,62,none⟩)|15=>.pointer (some ⟨P,65,none⟩)|16=>s.dash.v|_=>undef
structure Drawn (s:Ps) (p:Hp) (m n:Nat):Prop where
 cut:s.cut=false
 bare:s.bare
 mode:s.mode=m
 hm:m=1∨m=2
 flat:s.flat=false
 first:s.first=false
 soft:s.soft=false
 port:s.port.Port
 width:s.width=n
 n0:1≤n
 n1:n≤64
 dash:s.dash.Ok
 box:(Rc.mk 0 0 s.W s.H).Ok
 len:p.F.length=p.V.length
 le:p.V.length≤256
 vs: ∀v∈p.V,v.Seen∧v.Inside∧(vmap v s.port).Fits
def ncnt (m n:Nat):Nat:=if n<2 then 0 else lcnt m n
theorem ncnt_idx {m n k:Nat} (h:k<ncnt m n):lstep m*k+1<n:=by
 unfold ncnt at h
 split at h
 ·omega
 ·exact idx_lt h (by omega)
theorem ncnt_le (m n:Nat):ncnt m n≤n:=by
 unfold ncnt
 split
 ·omega
 ·have:=lcnt_le m n (by omega);omega
def PrimsQ (m N:Nat) (w:World) (e:Ending) (w':World):Prop:=
 ∃(L:List (Nat×Int)) (a:Option Addr) (c:Nat),L.length=N∧e=.returned (.tuple #[.slice a N c,.int .i64 0])∧RdB w' 116 3 a N c (L.flatMap prm)∧
  (∀j q,L[j]? =some q→Blk w' q.1 3 #[.int .i64 ((lstep m*j:Nat):Int),.int .i64 ((lstep m*j+1:Nat):Int)])∧Ext w w'
structure Lo (w wx:World) (s:Ps) (p:Hp) (l:Sl) (m P B D:Nat) (a:Option Addr) (c:Nat) (L:List (Nat×Int)) (pa:Option Addr) (N pcap:Nat) (d:Da) (Q:List Fr):Prop where
 pp:Blk wx P 53 (s.cs p l)
 bb:Blk wx B 107 #[.pointer (some ⟨D,0,none⟩)]
 ss:RdB wx 38 5 a 3 c (srow (base3 3))
 qq:RdB wx 116 3 pa N pcap (L.flatMap prm)
 ii: ∀j q,L[j]? =some q→Blk wx q.1 3 #[.int .i64 ((lstep m*j:Nat):Int),.int .i64 ((lstep m*j+1:Nat):Int)]
 dd: ∃out,Blk wx D 111 (s.ds p l ⟨0,0,s.W,s.H⟩ a c d out true)∧wx.ownsRow w.heap.size 68 8 out Q.length (Q.flatMap Fr.cells)
 e:Ext w wx
section
variable {w wx wy:World} {s:Ps} {p:Hp} {l:Sl} {m n P B D:Nat} {a:Option Addr} {c:Nat} {L:List (Nat×Int)} {pa:Option Addr} {N pcap:Nat} {d d':Da} {Q Q':List Fr}
theorem Lo.step (h:Lo w wx s p l m P B D a c L pa N pcap d Q) (k: ∀g t cs,t≠111→t≠68→Blk wx g t cs→Blk wy g t cs) (e:Ext w wy)
  (hd: ∃out,Blk wy D 111 (s.ds p l ⟨0,0,s.W,s.H⟩ a c d' out true)∧wy.ownsRow w.heap.size 68 8 out Q'.length (Q'.flatMap Fr.cells)):Lo w wy s p l m P B D a c L pa N pcap d' Q':=
 ⟨k _ _ _ (by decide) (by decide) h.pp,k _ _ _ (by decide) (by decide) h.bb,h.ss.keep (fun g cs=>k g _ cs (by decide) (by decide)),h.qq.keep (fun g cs=>k g _ cs (by decide) (by decide)),fun j q hq=>k _ _ _ (by decide) (by decide) (h.ii j q hq),hd,e⟩
theorem Lo.ext (h:Lo w wx s p l m P B D a c L pa N pcap d Q) (e:Ext wx wy):Lo w wy s p l m P B D a c L pa N pcap d Q:=
 h.step (fun g t cs _ _ hb=>hb.ext e) (h.e.trans e) (let⟨out,h1,h2⟩:=h.dd;⟨out,h1.ext e,ownsRow_ext h2 e⟩)
theorem Lo.dash (h:Lo w wx s p l m P B D a c L pa N pcap d Q) (hD:w.heap.size≤D) (q:Da):Lo w (((wx.setCell ⟨D,99,none⟩ (.int .i64 q.bits)).setCell ⟨D,100,none⟩ (.int .i64 q.every)).setCell ⟨D,101,none⟩ (.int .i64 q.done)) s p l m P B D a c L pa N pcap q Q:=by
 obtain⟨out,h1,h2⟩:=h.dd
 have kk:Kp (·≠D) wx (((wx.setCell ⟨D,99,none⟩ (.int .i64 q.bits)).setCell ⟨D,100,none⟩ (.int .i64 q.every)).setCell ⟨D,101,none⟩ (.int .i64 q.done)):=
  (((Kp.refl _ _).setCell (p:=⟨D,99,none⟩) _ (fun h=>h rfl)).setCell (p:=⟨D,100,none⟩) _ (fun h=>h rfl)).setCell (p:=⟨D,101,none⟩) _ (fun h=>h rfl)
 refine h.step (fun g t cs ht _ hb=>hb.kp kk (hb.ne_type h1 ht)) (kk.ext h.e (fun k hk=>by omega)) ⟨out,Blk.cast (((h1.set_ 99 _).set_ 100 _).set_ 101 _) rfl,own_kp h2 kk (fun g hg h=>own_ne_blk h2 h1 (by decide) (by rw[hg,h]))⟩
theorem linesK_one {m n:Nat} {dashed:Bool} {d0:Da} {r:Rc} {V:List Wv} {k:Nat} (h:m=1):linesK m n dashed d0 r V (k+1)=(wnext dashed d0 (wcount (V.getD (lstep m*k) wv0) (V.getD (lstep m*k+1) wv0) n),(linesK m n dashed d0 r V k).2++wlist (V.getD (lstep m*k) wv0) (V.getD (lstep m*k+1) wv0) n dashed d0 r):=by
 rw[linesK,if_pos h]
theorem linesK_two {m n:Nat} {dashed:Bool} {d0:Da} {r:Rc} {V:List Wv} {k:Nat} (h: ¬m=1):linesK m n dashed d0 r V (k+1)=(wnext dashed (linesK m n dashed d0 r V k).1 (wcount (V.getD (lstep m*k) wv0) (V.getD (lstep m*k+1) wv0) n),(linesK m n dashed d0 r V k).2++wlist (V.getD (lstep m*k) wv0) (V.getD (lstep m*k+1) wv0) n dashed (linesK m n dashed d0 r V k).1 r):=by
 rw[linesK,if_neg h]
theorem own_lt {w:World} {base:Nat} {e:TypeId} {size:Nat} {a:Option Addr} {n cap:Nat} {xs:List Value} (h:w.ownsRow base e size (.slice a n cap) n xs): ∀ad,a=some ad→base≤ad.block∧ad.block<w.heap.size:=by
 rintro ad rfl
 rcases h.2 with⟨h0, -⟩|⟨g,cap',cur,h0,hb,hg, -⟩
 ·cases h0
 ·injection h0 with h1
  injection h1 with h1
  subst h1
  exact⟨hb,(Array.getElem?_eq_some_iff.1 hg).1⟩
theorem prm_at {w:World} {b off n cap j:Nat} {L:List (Nat×Int)} {q:Nat×Int} (h:Rd w 3 (some ⟨b,off,none⟩) n cap (L.flatMap prm)) (hs:L[j]? =some q):
  w.cell? ⟨b,off+j*3,none⟩=some (.slice (some ⟨q.1,0,none⟩) 2 2)∧w.cell? ⟨b,off+j*3+1,none⟩=some (.slice none 0 0)∧w.cell? ⟨b,off+j*3+2,none⟩=some (.int .i64 q.2):=by
 have g:=fun i hi=>frow_get (f:=prm) (K:=3) (fun _=>rfl) hs i hi
 refine⟨h.get rfl (j:=j*3) (by have:=g 0 (by omega);rw[Nat.add_zero]at this;exact this),?_,?_⟩
 ·rw[Nat.add_assoc];exact h.get rfl (g 1 (by omega))
 ·rw[Nat.add_assoc];exact h.get rfl (g 2 (by omega))
theorem map_getD {V:List Vx} {i:Nat} {a:Vx} (f:Vx→Wv) (h:V[i]? =some a):(V.map f).getD i wv0=f a:=by
 rw[List.getD_eq_getElem?_getD,List.getElem?_map,h]
 rfl
set_option maxRecDepth 100000 in
theorem emit_round {k E:Nat} {q:Nat×Int} (h:Lo w wx s p l m P B D a c L pa N pcap d Q) (hE:Blk wx E 116 #[.slice (some ⟨q.1,0,none⟩) 2 2,.slice none 0 0,.int .i64 q.2]) (hq:L[k]? =some q) (hk:lstep m*k+1<p.V.length) (hdn:Drawn s p m n) (hl:Lies s p l w) (hd:d.Ok) (hD:w.heap.size≤D)
  (hQ:(Q++wlist ((p.V.map (vmap · s.port)).getD (lstep m*k) wv0) ((p.V.map (vmap · s.port)).getD (lstep m*k+1) wv0) n s.dashed d ⟨0,0,s.W,s.H⟩).length≤1000000000000):
  Calls Tryz.prog 39 #[.func (.func 40) #[] #[.pointer (some ⟨B,0,none⟩),.pointer (some ⟨E,0,none⟩)]] wx fun e w'=>e=.returned (.int .i64 0)∧
   Lo w w' s p l m P B D a c L pa N pcap (wnext s.dashed d (wcount ((p.V.map (vmap · s.port)).getD (lstep m*k) wv0) ((p.V.map (vmap · s.port)).getD (lstep m*k+1) wv0) n)) (Q++wlist ((p.V.map (vmap · s.port)).getD (lstep m*k) wv0) ((p.V.map (vmap · s.port)).getD (lstep m*k+1) wv0) n s.dashed d ⟨0,0,s.W,s.H⟩):=by
 obtain⟨va,ha⟩: ∃v,p.V[lstep m*k]? =some v:=⟨_,List.getElem?_eq_getElem (by omega)⟩
 obtain⟨vb,hb⟩: ∃v,p.V[lstep m*k+1]? =some v:=⟨_,List.getElem?_eq_getElem hk⟩
 rw[map_getD (vmap · s.port) ha,map_getD (vmap · s.port) hb]at*
 obtain⟨sa,ia,fa⟩:=hdn.vs va (List.mem_of_getElem? ha)
 obtain⟨sb,ib,fb⟩:=hdn.vs vb (List.mem_of_getElem? hb)
 obtain⟨out,d1,d2⟩:=h.dd
 obtain⟨bV,oV,hlv, -, -⟩:=hl.v.at_ (by omega)
 have e0:Ext wx (wx.alloc (.cells #[.int .i64 0] 25)):=(Ext.refl wx).alloc _
 have hsz:=h.e.size
 have HLine: ∀wz,Ext (wx.alloc (.cells #[.int .i64 0] 25)) wz→Calls Tryz.prog 64 #[.pointer (some ⟨D,0,none⟩),va.v,vb.v] wz fun e w'=>e=.returned (.tuple #[])∧
   (∃out',Blk w' D 111 (s.ds p l ⟨0,0,s.W,s.H⟩ a c (wnext s.dashed d (wcount (vmap va s.port) (vmap vb s.port) n)) out' true)∧w'.ownsRow w.heap.size 68 8 out' (Q++wlist (vmap va s.port) (vmap vb s.port) n s.dashed d ⟨0,0,s.W,s.H⟩).length ((Q++wlist (vmap va s.port) (vmap vb s.port) n s.dashed d ⟨0,0,s.W,s.H⟩).flatMap Fr.cells))∧Kept w.heap.size D 68 wz w':=fun wz e=>
  line_draw s p l ⟨0,0,s.W,s.H⟩ a c d out true Q va vb n D w.heap.size wz ((d1.ext e0).ext e) ((h.ss.rd.ext e0).ext e) (ownsRow_ext (ownsRow_ext d2 e0) e) (by have:=e0.size;have:=e.size;omega) sa sb ia ib hdn.port fa fb hdn.width hdn.n0 hdn.n1 hdn.soft hd hdn.box (by rw[List.length_append]at hQ;exact hQ)
 have HPrim:=prim_core s p l ⟨0,0,s.W,s.H⟩ a c d out true va vb (lstep m*k) (lstep m*k+1) q.1 bV oV q.2 D w.heap.size (wx.alloc (.cells #[.int .i64 0] 25)) _ (d1.ext e0) ((h.ii k q hq).ext e0) hlv ((hl.v.ext h.e).ext e0) ha hb hdn.flat HLine
 have HEm:=emit1_any B E D q.1 q.2 (wx.alloc (.cells #[.int .i64 0] 25)) _ (h.bb.ext e0) (hE.ext e0) HPrim
 refine try_ok wx (fun _ _=>rfl) (HEm.mono ?_)
 rintro e w' ⟨rfl,⟨out',o1,o2⟩,hK⟩
 have hErr:=hK.blk _ _ _ (Blk.new wx 25 #[.int .i64 0]) (by decide) (by have:=d1.lt;omega)
 have kk:Kp (·≠wx.heap.size) w' (w'.setCell ⟨wx.heap.size,0,none⟩ (.int .i64 0)):=(Kp.refl _ _).setCell (p:=⟨wx.heap.size,0,none⟩) _ (fun h=>h rfl)
 refine⟨rfl,hErr,h.step (fun g t cs h1 h2 hb=>?_) ?_ ⟨out',o1.far (by have:=d1.lt;simp;omega) _,own_kp o2 kk (fun g hg h=>own_ne_blk o2 hErr (by decide) (by rw[hg,h]))⟩⟩
 ·exact(hK.blk _ _ _ (hb.ext e0) h2 (hb.ne_type d1 h1)).far (by have:=hb.lt;simp;omega) _
 ·exact(hK.ext w (Nat.le_refl _) hD (h.e.trans e0)).setCell _ hsz
end
set_option maxRecDepth 100000 in
theorem emit_core (s:Ps) (p:Hp) (l:Sl) (m n N:Nat) (w:World) (hl:Lies s p l w) (hd:Drawn s p m n) (hN:N≤p.V.length) (hidx: ∀k,k<N→lstep m*k+1<p.V.length)
  (HPR: ∀wz,Calls Tryz.prog 38 #[.int .i64 (m:Int),.slice l.f p.F.length l.cf,.bool false] wz (PrimsQ m N wz)):
  Calls Tryz.prog 15 #[.agg (s.cs p l)] w fun e w'=> ∃a c,e=.returned (.tuple #[.slice a (linesK m n s.dashed s.dash ⟨0,0,s.W,s.H⟩ (p.V.map (vmap · s.port)) N).2.length c,.bool true])∧
   Rd w' 8 a (linesK m n s.dashed s.dash ⟨0,0,s.W,s.H⟩ (p.V.map (vmap · s.port)) N).2.length c ((linesK m n s.dashed s.dash ⟨0,0,s.W,s.H⟩ (p.V.map (vmap · s.port)) N).2.flatMap Fr.cells)∧(∀ad,a=some ad→w.heap.size≤ad.block∧ad.block<w'.heap.size)∧Ext w w':=by
 have HPR:=Lib.hid HPR
 have HL:=Lib.hid hl
 have HDN:=Lib.hid hd
 have HN:=Lib.hid (And.intro hN hidx)
 have HBX:=Lib.hid (fun wz=>pbox_any s p l wz hd.cut)
 have HSD:=Lib.hid (fun wz=>psides_B s p l wz hd.bare)
 have HBLT:=Lib.hid (fun a c=>built_ds s p l a c)
 clear hl hd hN hidx
 obtain⟨cs,hcs⟩: ∃cs,cs=s.cs p l:=⟨_,rfl⟩
 have HCS:=Lib.hid hcs
 have HC94:Hid (cs.size=94):=Lib.hid (by rw[hcs];rfl)
 have HP0:Hid (Blk (w.alloc (.cells (s.cs p l) 53)) w.heap.size 53 (s.cs p l)):=Lib.hid (Blk.new _ _ _)
 have HE0:Hid (Ext w (w.alloc (.cells (s.cs p l) 53))):=Lib.hid ((Ext.refl w).alloc _)
 have HLT:Hid (w.heap.size<(w.alloc (.cells (s.cs p l) 53)).heap.size):=Lib.hid (by simp)
 rw[←hcs]at HP0 HE0 HLT HBX HSD HBLT ⊢
 clear hcs
 go_enter Tryz.func15,Tryz.ntmps15
 go_upto_region 1 with fail
 generalize w.alloc (.cells cs 53)=W0 at*
 go_cut [4]from 9 to 18 (fun s4 wx=> ∃(B D:Nat) (a:Option Addr) (c:Nat),s4=.pointer (some ⟨B,0,none⟩)∧Hid (Dr w wx cs (s.d0 p l) w.heap.size B D a c))
 case first=>
  refine wp_region_fill HQd0 (fun st u x=>RF W0 [(0,9),(1,10),(2,11),(3,12),(5,14),(6,15),(7,16)] (emV s p l w.heap.size) [] (fun _=>0) (fun _=> #[]) (fun _=> #[]) st u x∧Em W0 (s.d0 p l) st u x) (by kernel_rfl) (by kernel_rfl) ?_ ?_ ?_
  ·rintro x rfl
   exact⟨RF.begin ((Ext.refl W0).drew),Em.begin⟩
  ·intro A' hA' st u x i o ho hst hdep hcl hRM
   obtain⟨hR,hM⟩:=hRM
   have hlen:A'.length=59:=by rw[hA'];rfl
   have h1:A'.getD 1 undef=.pointer (some ⟨w.heap.size,0,none⟩):=by rw[hA'];rfl
   clear hA'
   have hi:i<12:=(Array.getElem?_eq_some_iff.1 ho).1
   have HEX:=hR.ext
   rcases(by omega:i=0∨i=1∨i=2∨i=3∨i=4∨i=5∨i=6∨i=7∨i=8∨i=9∨i=10∨i=11)with rfl|rfl|rfl|rfl|rfl|rfl|rfl|rfl|rfl|rfl|rfl|rfl
   all_goals(obtain rfl:(⟨_,_,_,_,_,_⟩:Oper)=o:=Option.some.inj ho;refine wpOp_plain rfl rfl ?_)
   ·have q1:(⟨fillA A' HQd0 u,[]⟩:Act).eval (.tmp 1)=.pointer (some ⟨w.heap.size,0,none⟩):=(fillA_out (by omega) rfl).trans h1
    refine wp_load_val (.tmp 1) 53 rfl ⟨w.heap.size,0,none⟩ q1 (.agg cs) (load_pipe (HP0.out.ext HEX) HC94.out) ⟨_,fillA_put rfl,hR.call (Ext.refl x) 0 9 (by decide) (by decide) (by first|rfl|rw[HCS.out];rfl),hM.keep (Ext.refl x) 0 9 _ (by decide) (by decide)⟩
   ·have q1:(⟨fillA A' HQd0 u,[]⟩:Act).eval (.tmp 1)=.pointer (some ⟨w.heap.size,0,none⟩):=(fillA_out (by omega) rfl).trans h1
    refine wp_load_val (.tmp 1) 53 rfl ⟨w.heap.size,0,none⟩ q1 (.agg cs) (load_pipe (HP0.out.ext HEX) HC94.out) ⟨_,fillA_put rfl,hR.call (Ext.refl x) 1 10 (by decide) (by decide) (by first|rfl|rw[HCS.out];rfl),hM.keep (Ext.refl x) 1 10 _ (by decide) (by decide)⟩
   ·have q10:(⟨fillA A' HQd0 u,[]⟩:Act).eval (.tmp 10)=.agg cs:=(fillA_in (by omega) rfl).trans ((hR.val (1,10) (by decide) (hdep ⟨1,.data⟩ (by simp) rfl)).trans (by first|rfl|rw[HCS.out];rfl))
    refine wp_call rfl Tryz.func13 (by kernel_rfl) rfl (R:=fun e w'=>e=.returned (Rc.v ⟨0,0,s.W,s.H⟩)∧Ext x w') (by simp only[List.map_toArray,List.map_cons,List.map_nil,q10];exact(HBX.out x)) ?_
    rintro e w' ⟨rfl,hE⟩
    exact⟨_,rfl,_,fillA_put rfl,hR.call hE 2 11 (by decide) (by decide) (by first|rfl|rw[HCS.out];rfl),hM.keep hE 2 11 _ (by decide) (by decide)⟩
   ·have q1:(⟨fillA A' HQd0 u,[]⟩:Act).eval (.tmp 1)=.pointer (some ⟨w.heap.size,0,none⟩):=(fillA_out (by omega) rfl).trans h1
    refine wp_load_val (.tmp 1) 53 rfl ⟨w.heap.size,0,none⟩ q1 (.agg cs) (load_pipe (HP0.out.ext HEX) HC94.out) ⟨_,fillA_put rfl,hR.call (Ext.refl x) 3 12 (by decide) (by decide) (by first|rfl|rw[HCS.out];rfl),hM.keep (Ext.refl x) 3 12 _ (by decide) (by decide)⟩
   ·have q12:(⟨fillA A' HQd0 u,[]⟩:Act).eval (.tmp 12)=.agg cs:=(fillA_in (by omega) rfl).trans ((hR.val (3,12) (by decide) (hdep ⟨3,.data⟩ (by simp) rfl)).trans (by first|rfl|rw[HCS.out];rfl))
    have n8:st 8=false:=st_no (fun h=>hcl 8 _ rfl h ⟨4,.data⟩ (by simp) rfl) hst
    have n9:st 9=false:=st_no (fun h=>hcl 9 _ rfl h ⟨8,.data⟩ (by simp) rfl) n8
    refine wp_call rfl Tryz.func37 (by kernel_rfl) rfl (R:=SidesB x) (by simp only[List.map_toArray,List.map_cons,List.map_nil,q12];exact(HSD.out x)) ?_
    rintro e w' ⟨a,c,rfl,hr,hE⟩
    exact⟨_,rfl,_,fillA_put rfl,hR.other hE 4 13 (by decide) _,hM.sides hE hr n8 n9⟩
   ·have q1:(⟨fillA A' HQd0 u,[]⟩:Act).eval (.tmp 1)=.pointer (some ⟨w.heap.size,0,none⟩):=(fillA_out (by omega) rfl).trans h1
    refine wp_of_run (v:=.pointer (some ⟨w.heap.size,62,none⟩)) (w':=x) ?run ⟨_,fillA_put rfl,hR.call (Ext.refl x) 5 14 (by decide) (by decide) (by first|rfl|rw[HCS.out];rfl),hM.keep (Ext.refl x) 5 14 _ (by decide) (by decide)⟩
    case run=>simp only[Act.eval,Array.getD_eq_getD_getElem?]at q1;simp[execOp,q1,Act.eval,go_sem]
   ·have q14:(⟨fillA A' HQd0 u,[]⟩:Act).eval (.tmp 14)=.pointer (some ⟨w.heap.size,62,none⟩):=(fillA_in (by omega) rfl).trans ((hR.val (5,14) (by decide) (hdep ⟨5,.data⟩ (by simp) rfl)).trans (by first|rfl|rw[HCS.out];rfl))
    refine wp_of_run (v:=.pointer (some ⟨w.heap.size,65,none⟩)) (w':=x) ?run ⟨_,fillA_put rfl,hR.call (Ext.refl x) 6 15 (by decide) (by decide) (by first|rfl|rw[HCS.out];rfl),hM.keep (Ext.refl x) 6 15 _ (by decide) (by decide)⟩
    case run=>simp only[Act.eval,Array.getD_eq_getD_getElem?]at q14;simp[execOp,q14,Act.eval,go_sem]
   ·have q15:(⟨fillA A' HQd0 u,[]⟩:Act).eval (.tmp 15)=.pointer (some ⟨w.heap.size,65,none⟩):=(fillA_in (by omega) rfl).trans ((hR.val (6,15) (by decide) (hdep ⟨6,.data⟩ (by simp) rfl)).trans (by first|rfl|rw[HCS.out];rfl))
    have hP:=HP0.out.ext HEX
    have f0:x.cell? ⟨w.heap.size,65,none⟩=some (.int .i64 s.dash.bits):=by have:=hP.cell 65;rw[HCS.out]at this;exact this
    have f1:x.cell? ⟨w.heap.size,66,none⟩=some (.int .i64 s.dash.every):=by have:=hP.cell 66;rw[HCS.out]at this;exact this
    have f2:x.cell? ⟨w.heap.size,67,none⟩=some (.int .i64 s.dash.done):=by have:=hP.cell 67;rw[HCS.out]at this;exact this
    refine wp_of_run (v:=s.dash.v) (w':=x) ?run ⟨_,fillA_put rfl,hR.call (Ext.refl x) 7 16 (by decide) (by decide) (by first|rfl|rw[HCS.out];rfl),hM.keep (Ext.refl x) 7 16 _ (by decide) (by decide)⟩
    case run=>simp only[Act.eval,Array.getD_eq_getD_getElem?]at q15;simp[execOp,q15,Act.eval,go_sem,f0,f1,f2]
   ·have q9:(⟨fillA A' HQd0 u,[]⟩:Act).eval (.tmp 9)=.agg cs:=(fillA_in (by omega) rfl).trans ((hR.val (0,9) (by decide) (hdep ⟨0,.data⟩ (by simp) rfl)).trans (by first|rfl|rw[HCS.out];rfl))
    have q11:(⟨fillA A' HQd0 u,[]⟩:Act).eval (.tmp 11)=Rc.v ⟨0,0,s.W,s.H⟩:=(fillA_in (by omega) rfl).trans ((hR.val (2,11) (by decide) (hdep ⟨2,.data⟩ (by simp) rfl)).trans (by first|rfl|rw[HCS.out];rfl))
    have q16:(⟨fillA A' HQd0 u,[]⟩:Act).eval (.tmp 16)=s.dash.v:=(fillA_in (by omega) rfl).trans ((hR.val (7,16) (by decide) (hdep ⟨7,.data⟩ (by simp) rfl)).trans (by first|rfl|rw[HCS.out];rfl))
    have n9:st 9=false:=st_no (fun h=>hcl 9 _ rfl h ⟨8,.data⟩ (by simp) rfl) hst
    obtain⟨a,c,ha,hr⟩:=hM.a (hdep ⟨4,.data⟩ (by simp) rfl)
    have q13:(⟨fillA A' HQd0 u,[]⟩:Act).eval (.tmp 13)=.slice a 3 c:=(fillA_in (by omega) rfl).trans ha
    have hb:=HBLT.out a c
    have hb2:Tryz.prog.built 111 ((#[(0,Operand.tmp 9),(1,.tmp 11),(2,.tmp 13),(3,.tmp 16),(5,.const (.bool true))]:Array (Nat×Operand)).map fun(i,x)=>(i,(⟨fillA A' HQd0 u,[]⟩:Act).eval x)).toList=some (s.d0 p l a c):=by
     rw[←hb]
     simp only[List.map_toArray,List.map_cons,List.map_nil,q9,q11,q13,q16]
     rfl
    refine wp_build 111 _ rfl (by rw[hb2];rfl) ?_
    rw[hb2]
    exact⟨_,fillA_put rfl,hR.other (Ext.refl x) 8 17 (by decide) _,hM.build hr n9⟩
   ·have n11:st 11=false:=st_no (fun h=>hcl 11 _ rfl h ⟨9,.data⟩ (by simp) rfl) hst
    obtain⟨a,c,ha,hr⟩:=hM.b (hdep ⟨8,.data⟩ (by simp) rfl)
    have q17:(⟨fillA A' HQd0 u,[]⟩:Act).eval (.tmp 17)=.agg (s.d0 p l a c):=(fillA_in (by omega) rfl).trans ha
    generalize hF:s.d0 p l=F at*
    refine wp_of_run (v:=.pointer (some ⟨x.heap.size,0,none⟩)) (w':=x.alloc (.cells (F a c) 111)) ?run ⟨_,fillA_put rfl,hR.other ((Ext.refl x).alloc _) 9 18 (by decide) _,hM.box HEX.size hr n11⟩
    case run=>simp only[Act.eval,Array.getD_eq_getD_getElem?]at q17;simp[execOp,q17,Act.eval,go_sem]
   ·have n11:st 11=false:=st_no (fun h=>hcl 11 _ rfl h ⟨10,.data⟩ (by simp) rfl) hst
    refine wp_of_run (v:=.pointer (some ⟨x.heap.size,0,none⟩)) (w':=x.alloc (.cells #[.pointer none] 107)) ?run ⟨_,fillA_put rfl,hR.other ((Ext.refl x).alloc _) 10 4 (by decide) _,hM.var HEX.size n11⟩
    case run=>simp[execOp,Act.eval,go_sem]
   ·have h9_:st 9=true:=hdep ⟨9,.data⟩ (by simp) rfl
    obtain⟨a,c,D,p1,p2,p3,p4⟩:=hM.c h9_
    obtain⟨B,b1,b2,b3⟩:=hM.d (hdep ⟨10,.data⟩ (by simp) rfl)
    have q18:(⟨fillA A' HQd0 u,[]⟩:Act).eval (.tmp 18)=.pointer (some ⟨D,0,none⟩):=(fillA_in (by omega) rfl).trans p1
    have q4:(⟨fillA A' HQd0 u,[]⟩:Act).eval (.tmp 4)=.pointer (some ⟨B,0,none⟩):=(fillA_in (by omega) rfl).trans b1
    refine wp_store_blk (.tmp 4) (.tmp 18) 107 rfl q4 _ q18 b3 (by kernel_rfl) (fun v hv=>by
    have hv2:v=.pointer (some ⟨D,0,none⟩):=(by simpa[Value.cells]using hv)
    subst hv2
    rfl) rfl ?_
    intro w' hB hK
    exact⟨_,rfl,hR.tick (hK.ext HEX (fun k hk=>by omega)) 11 (by decide),hM.store b1 h9_ b3 (by rw[p1];exact hB) (by rw[p1];rfl) hK b2⟩
  ·intro st u x hall hRM
   obtain⟨hR,hM⟩:=hRM
   obtain⟨a,c,D,p1,p2,p3,p4⟩:=hM.c (hall 9 (by decide))
   obtain⟨B,b1,b2,b3⟩:=hM.d (hall 10 (by decide))
   rw[if_pos (hall 11 (by decide)),p1]at b3
   have hxE:=hR.ext
   clear hR hM hall
   simp[fillA,fillL,HQd0]
   go_wp2_with fail
   go_meet
   have h0:=HE0.out.size
   exact⟨B,D,a,c,b1,Lib.hid ⟨HP0.out.ext hxE,b3,p3,p2,⟨by omega,by omega⟩,HE0.out.trans hxE⟩⟩
 case rest=>
  obtain⟨B,D,a,c,rfl,HD⟩:=hcut
  clear HP0 HE0 HBX HSD HBLT
  generalize wc=W1 at*
  generalize hP:w.heap.size=P at*
  have HPE:=Lib.hid hP
  clear hP
  have c59:W1.cell? ⟨P,59,none⟩=some (.int .i64 (m:Int)):=by have:=HD.out.p.cell 59;rw[HCS.out]at this;rw[←HDN.out.mode];exact this
  have c61:W1.cell? ⟨P,61,none⟩=some (.slice l.f p.F.length l.cf):=by have:=HD.out.p.cell 61;rw[HCS.out]at this;exact this
  have c78:W1.cell? ⟨P,78,none⟩=some (.bool false):=by have:=HD.out.p.cell 78;rw[HCS.out]at this;rw[←HDN.out.first];exact this
  go_wp2_with (go_at_call 38;refine(HPR.out _).mono ?_;rintro e w2 ⟨L,pa,pcap,hLl,rfl,hrd,hb,hE⟩;have HLl:=Lib.hid hLl;have HRD:=Lib.hid hrd;have HB:=Lib.hid hb;have HE:=Lib.hid hE;clear hLl hrd hb hE c59 c61 c78)
  have H0:Hid (Lo w w2 s p l m P B D a c L pa N pcap s.dash []):=Lib.hid ⟨by rw[←HCS.out];exact HD.out.p.ext HE.out,HD.out.b.ext HE.out,HD.out.s.ext HE.out,HRD.out,HB.out,⟨_,HD.out.d.ext HE.out,World.ownsRow_nil _ _ _ _⟩,HD.out.e.trans HE.out⟩
  have HLT2:Hid (w.heap.size≤B∧w.heap.size≤D):=Lib.hid HD.out.lt
  clear HD HRD HB HE HPR
  go_loopw [8,31] (fun _ i wr=> ∃k:Nat,k≤N∧i=.int .i64 k∧Hid (Lo w wr s p l m P B D a c L pa N pcap (linesK m n s.dashed s.dash ⟨0,0,s.W,s.H⟩ (p.V.map (vmap · s.port)) k).1 (linesK m n s.dashed s.dash ⟨0,0,s.W,s.H⟩ (p.V.map (vmap · s.port)) k).2)) (fun _ i _=>N-(intOf i).toNat)
  case atStart=>exact⟨0,Nat.zero_le _,rfl,H0⟩
  case round=>
   clear H0
   obtain⟨k,hk,rfl,HR⟩:=hrel
   obtain⟨W3,rfl⟩: ∃W3:World,W3=wr:=⟨_,rfl⟩
   by_cases hlt:k<N
   ·obtain⟨pb,po,hpa, -, -⟩:=HR.out.qq.rd.at_ (by omega)
    obtain⟨q,hq⟩: ∃q,L[k]? =some q:=⟨_,List.getElem?_eq_getElem (by rw[HLl.out];exact hlt)⟩
    subst hpa
    obtain⟨c0,c1,c2⟩:=prm_at HR.out.qq.rd hq
    have HQ:=Lib.hid hq
    clear hq
    have c59:W3.cell? ⟨P,59,none⟩=some (.int .i64 (m:Int)):=by rw[←HDN.out.mode];exact HR.out.pp.cell 59
    have c65:W3.cell? ⟨P,65,none⟩=some (.int .i64 s.dash.bits):=HR.out.pp.cell 65
    have c66:W3.cell? ⟨P,66,none⟩=some (.int .i64 s.dash.every):=HR.out.pp.cell 66
    have c67:W3.cell? ⟨P,67,none⟩=some (.int .i64 s.dash.done):=HR.out.pp.cell 67
    have cB:=HR.out.bb.c1
    obtain⟨⟨z99,d99⟩,⟨z100,d100⟩,⟨z101,d101⟩⟩:(∃z,W3.cell? ⟨D,99,none⟩=some z)∧(∃z,W3.cell? ⟨D,100,none⟩=some z)∧(∃z,W3.cell? ⟨D,101,none⟩=some z):=by
     obtain⟨out,h1, -⟩:=HR.out.dd
     exact⟨⟨_,h1.cell 99⟩,⟨_,h1.cell 100⟩,⟨_,h1.cell 101⟩⟩
    obtain⟨f99,f100,f101⟩:W3.frozen? ⟨D,99,none⟩=false∧W3.frozen? ⟨D,100,none⟩=false∧W3.frozen? ⟨D,101,none⟩=false:=by
     obtain⟨out,h1, -⟩:=HR.out.dd
     exact⟨h1.frozen 99,h1.frozen 100,h1.frozen 101⟩
    have hlD:D<W3.heap.size:=by obtain⟨out,h1, -⟩:=HR.out.dd;exact h1.lt
    have hneD: ¬D=W3.heap.size:=by omega
    have hkN:(k:Int)+1≤256:=by have h1:=HN.out.1;have h2:=HDN.out.le;omega
    have hk0:(0:Int)≤k:=by omega
    have hneD': ¬W3.heap.size=D:=by omega
    have HV:Hid (∀j,j<k+1→((p.V.map (vmap · s.port)).getD (lstep m*j) wv0).Fits∧((p.V.map (vmap · s.port)).getD (lstep m*j+1) wv0).Fits):=Lib.hid (fun j hj=>by
     have hx:=HN.out.2 j (by omega)
     obtain⟨va,ha⟩: ∃v,p.V[lstep m*j]? =some v:=⟨_,List.getElem?_eq_getElem (by omega)⟩
     obtain⟨vb,hb⟩: ∃v,p.V[lstep m*j+1]? =some v:=⟨_,List.getElem?_eq_getElem hx⟩
     rw[map_getD (vmap · s.port) ha,map_getD (vmap · s.port) hb]
     exact⟨(HDN.out.vs va (List.mem_of_getElem? ha)).2.2,(HDN.out.vs vb (List.mem_of_getElem? hb)).2.2⟩)
    have HLEN:Hid ((linesK m n s.dashed s.dash ⟨0,0,s.W,s.H⟩ (p.V.map (vmap · s.port)) (k+1)).2.length≤1000000000000):=Lib.hid (by
     have h1:=linesK_len m n s.dashed s.dash ⟨0,0,s.W,s.H⟩ (p.V.map (vmap · s.port)) HDN.out.n0 HDN.out.n1 (k+1) HV.out
     have h2:=HN.out.1
     have h3:=HDN.out.le
     have h4:(k+1)*192000000≤256*192000000:=Nat.mul_le_mul_right _ (by omega)
     omega)
    have HOK:=Lib.hid (linesK_ok m n s.dashed s.dash ⟨0,0,s.W,s.H⟩ (p.V.map (vmap · s.port)) HDN.out.dash k)
    rcases HDN.out.hm with hm|hm
    ·have em:((m:Int)==1)=true:=by rw[hm];rfl
     have HM:=Lib.hid hm
     clear hm
     have HRU:=Lib.hid (emit_round (k:=k) (E:=W3.heap.size) ((HR.out.dash HLT2.out.2 s.dash).ext ((Ext.refl _).alloc (.cells #[.slice (some ⟨q.1,0,none⟩) 2 2,.slice none 0 0,.int .i64 q.2] 116))) (Blk.new' _ _ _ (by simp)) HQ.out (HN.out.2 k hlt) HDN.out HL.out HDN.out.dash HLT2.out.2 (by have:=HLEN.out;rw[linesK_one HM.out]at this;exact this))
     clear HR
     go_wp2_with (go_at_call 39;refine HRU.out.mono ?_;rintro e w5 ⟨rfl,hX⟩;have HX:=Lib.hid hX;clear hX c0 c1 c2 c59 c65 c66 c67 cB d99 d100 d101 f99 f100 f101 HRU)
     go_roundw
     case rel=>first|exact⟨k+1,by omega,by go_num,Lib.hid (by rw[linesK_one HM.out];exact HX.out)⟩|((repeat apply Exists.intro);exact⟨⟨k+1,by omega,by go_num,Lib.hid (by rw[linesK_one HM.out];exact HX.out)⟩,rfl⟩)
     case measure=>simp[intOf];omega
    ·have em:((m:Int)==1)=false:=by rw[hm];rfl
     have hm1: ¬m=1:=by omega
     have HM:=Lib.hid hm1
     clear hm hm1
     have HBE:Hid (Blk (W3.alloc (.cells #[.slice (some ⟨q.1,0,none⟩) 2 2,.slice none 0 0,.int .i64 q.2] 116)) W3.heap.size 116 #[.slice (some ⟨q.1,0,none⟩) 2 2,.slice none 0 0,.int .i64 q.2]):=Lib.hid (Blk.new _ _ _)
     have HR1:=Lib.hid (HR.out.ext ((Ext.refl W3).alloc (.cells #[.slice (some ⟨q.1,0,none⟩) 2 2,.slice none 0 0,.int .i64 q.2] 116)))
     have HRU:=Lib.hid (emit_round (k:=k) (E:=W3.heap.size) HR1.out HBE.out HQ.out (HN.out.2 k hlt) HDN.out HL.out HOK.out HLT2.out.2 (by have:=HLEN.out;rw[linesK_two HM.out]at this;exact this))
     clear HR HR1 HBE
     go_wp2_with (go_at_call 39;refine HRU.out.mono ?_;rintro e w5 ⟨rfl,hX⟩;have HX:=Lib.hid hX;clear hX c0 c1 c2 c59 c65 c66 c67 cB d99 d100 d101 f99 f100 f101 HRU)
     go_roundw
     case rel=>first|exact⟨k+1,by omega,by go_num,Lib.hid (by rw[linesK_two HM.out];exact HX.out)⟩|((repeat apply Exists.intro);exact⟨⟨k+1,by omega,by go_num,Lib.hid (by rw[linesK_two HM.out];exact HX.out)⟩,rfl⟩)
     case measure=>simp[intOf];omega
   ·obtain rfl:k=N:=by omega
    obtain⟨out,h1,h2⟩:=HR.out.dd
    obtain⟨oa,oc,rfl,hrd⟩:=ownsRow_rd h2
    have HRD:=Lib.hid hrd
    have HOL:=Lib.hid (own_lt h2)
    have cB:=HR.out.bb.c1
    have d102:W3.cell? ⟨D,102,none⟩=some (.slice oa (linesK m n s.dashed s.dash ⟨0,0,s.W,s.H⟩ (p.V.map (vmap · s.port)) k).2.length oc):=h1.cell 102
    have d103:W3.cell? ⟨D,103,none⟩=some (.bool true):=h1.cell 103
    have HEE:=Lib.hid HR.out.e
    clear h1 h2 hrd HR
    go_upto_region 11 with fail
    refine wp_region_later (by kernel_rfl) (by kernel_rfl) ?_
    repeat(go_big_quiet_step ((first|fail|fail)))
    refine wpQuiet_nil ?_
    intro y
    go_wp2_with fail
    refine bodyPost_ret (v:=.tuple #[.slice oa (linesK m n s.dashed s.dash ⟨0,0,s.W,s.H⟩ (p.V.map (vmap · s.port)) k).2.length oc,.bool true]) (by simp[results,Tryz.results15,go_sem]) rfl ?_
    exact⟨oa,oc,rfl,HRD.out.ext y.ext,fun ad e=>⟨(HOL.out ad e).1,Nat.lt_of_lt_of_le (HOL.out ad e).2 y.le⟩,HEE.out.trans y.ext⟩
end Go.Proofs.YtplljnfjkkloeaaGreatDoor
