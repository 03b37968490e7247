/- Proof text: wide.Line. By an AI agent. No condition beyond what each theorem states. -/
import Derived.Test.YtplljnfjkkloeaaGreatDoorQP
import Derived.Deep.RegionHeld3
set_option linter.unusedVariables false
set_option linter.unusedSimpArgs false
set_option maxHeartbeats 8000000
namespace Go.Proofs.YtplljnfjkkloeaaGreatDoor
attribute [local go_sem] Go.Oper.semAt_some
open Go.RowKit
structure Wl (a b:Wv) (d:Da) (r:Rc) (w wx:World):Prop where
 a:Blk wx w.heap.size 177 a.row
 b:Blk wx (w.heap.size+1) 177 b.row
 d:Blk wx (w.heap.size+1+1) 44 #[.int .i64 d.bits,.int .i64 d.every,.int .i64 d.done]
 r:Blk wx (w.heap.size+1+1+1) 48 r.row
 z:Blk wx (w.heap.size+1+1+1+1) 44 #[.int .i64 0,.int .i64 0,.int .i64 0]
 e:Ext w wx
theorem Wl.ext {a b:Wv} {d:Da} {r:Rc} {w wx wy:World} (h:Wl a b d r w wx) (x:Ext wx wy):Wl a b d r w wy:=⟨h.a.ext x,h.b.ext x,h.d.ext x,h.r.ext x,h.z.ext x,h.e.trans x⟩
structure Wc (a b:Wv) (d:Da) (r:Rc) (co:Co) (q:Da) (w:World) (B:Nat) (wx:World):Prop where
 l:Wl a b d r w wx
 c:Blk wx B 293 #[.int .i64 co.ax,.int .i64 co.ay,.int .i64 co.bx,.int .i64 co.by_,.bool co.flat]
 q:Blk wx (B+1) 44 #[.int .i64 q.bits,.int .i64 q.every,.int .i64 q.done]
 n:w.heap.size+1+1+1+1<B
theorem Wc.ext {a b:Wv} {d:Da} {r:Rc} {co:Co} {q:Da} {w:World} {B:Nat} {wx wy:World} (h:Wc a b d r co q w B wx) (x:Ext wx wy):Wc a b d r co q w B wy:=⟨h.l.ext x,h.c.ext x,h.q.ext x,h.n⟩
theorem Wc.set {a b:Wv} {d:Da} {r:Rc} {co:Co} {q:Da} {w:World} {B:Nat} {wx:World} (h:Wc a b d r co q w B wx) (q':Da):
  Wc a b d r co q' w B (((wx.setCell ⟨B+1,0,none⟩ (.int .i64 q'.bits)).setCell ⟨B+1,1,none⟩ (.int .i64 q'.every)).setCell ⟨B+1,2,none⟩ (.int .i64 q'.done)):=by
 have hn:=h.n
 have F: ∀{g t cs},Blk wx g t cs→g≠B+1→Blk (((wx.setCell ⟨B+1,0,none⟩ (.int .i64 q'.bits)).setCell ⟨B+1,1,none⟩ (.int .i64 q'.every)).setCell ⟨B+1,2,none⟩ (.int .i64 q'.done)) g t cs:=
  fun hb hne=>((hb.far hne _).far hne _).far hne _
 exact⟨⟨F h.l.a (by omega),F h.l.b (by omega),F h.l.d (by omega),F h.l.r (by omega),F h.l.z (by omega),((h.l.e.setCell _ (by simp;omega)).setCell _ (by simp;omega)).setCell _ (by simp;omega)⟩,F h.c (by omega),h.q.s3 _ _ _,h.n⟩
def St (L:List (Int×Int×Int)) (va:Option Addr) (wx:World):Prop:=
 ∀(i:Nat) (s:Int×Int×Int),L[i]? =some s→ ∃g cur,va=some ⟨g,0,none⟩∧Blk wx g 97 cur∧cur[i*3]? =some (.int .i64 s.1)∧cur[i*3+1]? =some (.int .i64 s.2.1)∧cur[i*3+2]? =some (.int .i64 s.2.2)
theorem stp_at: ∀(L:List (Int×Int×Int)) (i:Nat) (s:Int×Int×Int),L[i]? =some s→(L.flatMap stp)[i*3]? =some (.int .i64 s.1)∧(L.flatMap stp)[i*3+1]? =some (.int .i64 s.2.1)∧(L.flatMap stp)[i*3+2]? =some (.int .i64 s.2.2)
 |[],i,s,h=>by simp at h
 |x::L,0,s,h=>by
  simp at h
  subst h
  simp[stp]
 |x::L,i+1,s,h=>by
  have:=stp_at L i s (by simpa using h)
  rw[show(i+1)*3=i*3+3 by omega]
  simp only[List.flatMap_cons,stp,List.cons_append,List.nil_append]
  simpa[stp]using this
theorem St.of_own {L:List (Int×Int×Int)} {va:Option Addr} {vc base:Nat} {wx:World} (h:wx.ownsRow base 97 3 (.slice va L.length vc) L.length (L.flatMap stp)):St L va wx:=by
 intro i s hs
 have hi:i<L.length:=by
  rcases Nat.lt_or_ge i L.length with h1|h1
  ·exact h1
  ·rw[List.getElem?_eq_none h1]at hs;cases hs
 rcases ownsRow_blk h with⟨-,h0⟩|⟨g,cap,cur,hv, -,hb, -,hj⟩
 ·omega
 ·injection hv with hv
  obtain⟨e1,e2,e3⟩:=stp_at L i s hs
  exact⟨g,cur,hv,hb,by rw[hj _ (by omega)];exact e1,by rw[hj _ (by omega)];exact e2,by rw[hj _ (by omega)];exact e3⟩
theorem St.kept {L:List (Int×Int×Int)} {va:Option Addr} {base O:Nat} {wx wy:World} {cs:Array Value} (h:St L va wx) (k:Kept base O 68 wx wy) (hO:Blk wx O 63 cs):St L va wy:=by
 intro i s hs
 obtain⟨g,cur,h1,h2,h3⟩:=h i s hs
 refine⟨g,cur,h1,k.blk g _ _ h2 (by decide) ?_,h3⟩
 rintro rfl
 unfold Blk at h2 hO
 rw[h2]at hO
 injection hO with hO
 injection hO with _ hO
 exact absurd hO (by decide)
theorem take_flat {α β:Type} {S:List α} {k:Nat} {s:α} (hs:S[k]? =some s) (f:α→List β):(S.take (k+1)).flatMap f=(S.take k).flatMap f++f s:=by
 rw[List.take_add_one,hs,List.flatMap_append]
 simp
theorem agg_dash (W:World):(isAgg 44).run Tryz.prog W=.ok true W:=by kernel_rfl
theorem Wc.kept {a b:Wv} {d:Da} {r:Rc} {co:Co} {q:Da} {w:World} {B:Nat} {wx wy:World} {O:Nat} (h:Wc a b d r co q w B wx) (hO:B+1<O) (k:Kept w.heap.size O 68 wx wy):Wc a b d r co q w B wy:=by
 have hn:=h.n
 exact⟨⟨k.blk _ _ _ h.l.a (by decide) (by omega),k.blk _ _ _ h.l.b (by decide) (by omega),k.blk _ _ _ h.l.d (by decide) (by omega),k.blk _ _ _ h.l.r (by decide) (by omega),k.blk _ _ _ h.l.z (by decide) (by omega),k.ext w (Nat.le_refl _) (by omega) h.l.e⟩,
  k.blk _ _ _ h.c (by decide) (by omega),k.blk _ _ _ h.q (by decide) (by omega),h.n⟩
structure Wm (a b:Wv) (d:Da) (r:Rc) (co:Co) (q:Da) (w:World) (B O:Nat) (S:List (Int×Int×Int)) (va:Option Addr) (L:List Fr) (wx:World):Prop where
 c:Wc a b d r co q w B wx
 s: ∃v,SBox w.heap.size 63 68 8 Fr.cells O L v wx
 t:St S va wx
theorem Wm.ext {a b:Wv} {d:Da} {r:Rc} {co:Co} {q:Da} {w:World} {B O:Nat} {S:List (Int×Int×Int)} {va:Option Addr} {L:List Fr} {wx wy:World} (h:Wm a b d r co q w B O S va L wx) (x:Ext wx wy):Wm a b d r co q w B O S va L wy:=
 ⟨h.c.ext x,h.s.elim fun v hv=>⟨v,hv.ext x⟩,h.s.elim fun v hv=>h.t.kept (Kept.of_ext (base:=w.heap.size) x) hv.blk⟩
structure Wj (a b:Wv) (d:Da) (r:Rc) (co:Co) (q:Da) (w:World) (B O:Nat) (S:List (Int×Int×Int)) (va:Option Addr) (L:List Fr) (E:Nat) (f:Fr) (wx:World):Prop where
 c:Wc a b d r co q w B wx
 s: ∃v,SBox w.heap.size 63 68 8 Fr.cells O L v wx∧v.ownBlock≠some E
 t:St S va wx
 f:Blk wx E 68 #[.int .i64 f.x,.int .i64 f.y,.int .i64 f.z,.int .i64 f.c0,.int .i64 f.c1,.int .i64 f.c2,.int .i64 f.c3,.int .i64 f.m]
 n:B+1<O∧O<E
section
variable {a b:Wv} {d:Da} {r:Rc} {co:Co} {q:Da} {w:World} {B O:Nat} {S:List (Int×Int×Int)} {va:Option Addr} {L:List Fr} {E:Nat} {f:Fr} {wx wy:World}
theorem Wj.kp (h:Wj a b d r co q w B O S va L E f wx) (k:Kp (·≠E) wx wy) (f':Fr) (hf:Blk wy E 68 #[.int .i64 f'.x,.int .i64 f'.y,.int .i64 f'.z,.int .i64 f'.c0,.int .i64 f'.c1,.int .i64 f'.c2,.int .i64 f'.c3,.int .i64 f'.m]):Wj a b d r co q w B O S va L E f' wy:=by
 have hn:=h.c.n
 obtain⟨n1,n2⟩:=h.n
 refine⟨⟨⟨h.c.l.a.kp k (by omega),h.c.l.b.kp k (by omega),h.c.l.d.kp k (by omega),h.c.l.r.kp k (by omega),h.c.l.z.kp k (by omega),k.ext h.c.l.e (fun j hj=>by omega)⟩,h.c.c.kp k (by omega),h.c.q.kp k (by omega),h.c.n⟩,?_,?_,hf,h.n⟩
 ·obtain⟨v,hv,hne⟩:=h.s
  exact⟨v,⟨hv.blk.kp k (by omega),own_kp hv.own k (fun g hg e=>hne (by rw[hg,e]))⟩,hne⟩
 ·intro i s hs
  obtain⟨g,cur,h1,h2,h3⟩:=h.t i s hs
  refine⟨g,cur,h1,h2.kp k ?_,h3⟩
  rintro rfl
  have hf:=h.f
  unfold Blk at h2 hf
  rw[h2]at hf
  injection hf with hf
  injection hf with _ hf
  exact absurd hf (by decide)
theorem Wj.put {L':List Fr} (h:Wj a b d r co q w B O S va L E f wx) (k:Kept w.heap.size O 68 wx wy) (v v':Value) (hv:SBox w.heap.size 63 68 8 Fr.cells O L v wx) (hne:v.ownBlock≠some E)
  (hs:SBox w.heap.size 63 68 8 Fr.cells O L' v' wy)(hE: ∀E cs,v.ownBlock≠some E→E≠O→Blk wx E 68 cs→Blk wy E 68 cs∧v'.ownBlock≠some E):Wj a b d r co q w B O S va L' E f wy:=by
 obtain⟨n1,n2⟩:=h.n
 obtain⟨e1,e2⟩:=hE E _ hne (by omega) h.f
 exact⟨h.c.kept n1 k,⟨v',hs,e2⟩,h.t.kept k hv.blk,e1,h.n⟩
theorem Wj.wm (h:Wj a b d r co q w B O S va L E f wx):Wm a b d r co q w B O S va L wx:=⟨h.c,h.s.elim fun v hv=>⟨v,hv.1⟩,h.t⟩
theorem Wj.of (h:Wm a b d r co q w B O S va L wx) (hB:B+1<O) (x:Ext wx wy) (hE:wx.heap.size≤E) (hf:Blk wy E 68 #[.int .i64 f.x,.int .i64 f.y,.int .i64 f.z,.int .i64 f.c0,.int .i64 f.c1,.int .i64 f.c2,.int .i64 f.c3,.int .i64 f.m]):Wj a b d r co q w B O S va L E f wy:=by
 obtain⟨v,hv⟩:=h.s
 refine⟨h.c.ext x,⟨v,hv.ext x,?_⟩,h.t.kept (Kept.of_ext (base:=w.heap.size) x) hv.blk,hf,hB,?_⟩
 ·intro e
  obtain⟨cur,hc⟩:=ownsRow_block hv.own e
  have:=(Array.getElem?_eq_some_iff.1 hc).1
  omega
 ·have:=hv.blk.lt
  omega
end
def wat (a b:Wv) (flat:Bool) (x y:Int) (k:Nat):Fr:=if flat=true then wfrag a b x y x (y+k)else wfrag a b x y (x+k) y
theorem wat_zero (a b:Wv) (flat:Bool) (x y:Int):wat a b flat x y 0=wfrag a b x y x y:=by
 unfold wat
 split <;>simp
theorem wat_x (a b:Wv) (flat:Bool) (x y:Int) (k:Nat):(wat a b flat x y k).x=(if flat=true then x else x+k)∧(wat a b flat x y k).y=(if flat=true then y+k else y):=by
 unfold wat
 split <;>exact⟨rfl,rfl⟩
theorem wone_at (a b:Wv) (flat:Bool) (r:Rc) (x y:Int) (k:Nat):wone a b flat r x y k=if r.Has (wat a b flat x y k).x (wat a b flat x y k).y then[wat a b flat x y k]else[]:=by
 unfold wone wat
 split <;>rfl
theorem wone_push (a b:Wv) (flat:Bool) (r:Rc) (x y:Int) (k:Nat) (L:List Fr):L++(List.range (k+1)).flatMap (wone a b flat r x y)=if r.Has (wat a b flat x y k).x (wat a b flat x y k).y then(L++(List.range k).flatMap (wone a b flat r x y))++[wat a b flat x y k]else L++(List.range k).flatMap (wone a b flat r x y):=by
 rw[List.range_succ,List.flatMap_append,List.flatMap_cons,List.flatMap_nil,List.append_nil,wone_at]
 split <;>simp
def wnext (dashed:Bool) (d:Da) (k:Nat):Da:=if dashed=true then d.next k else d
set_option maxRecDepth 100000 in
theorem wline_any (a b:Wv) (n:Nat) (dashed:Bool) (d:Da) (r:Rc) (w:World) (ha:a.Fits) (hb:b.Fits) (hd:d.Ok) (hr:r.Ok) (n0:1≤n) (n1:n≤64):
  Calls Tryz.prog 131 #[a.v,b.v,.int .i64 (n:Int),.bool dashed,d.v,r.v] w fun e w'=>
   ∃v,e=.returned (.tuple #[v,(wnext dashed d (wcount a b n)).v])∧w'.ownsRow w.heap.size 68 8 v (wlist a b n dashed d r).length ((wlist a b n dashed d r).flatMap Fr.cells)∧Ext w w':=by
 have HWR:=Lib.hid (fun w=>wright_any a b n d w ha hb hd (by omega) (by omega))
 have HCO:=Lib.hid (fun w=>coreOf_any a b n w ha hb (by omega) (by omega))
 obtain⟨p1,p2,p3,p4⟩:=Co.pl (n:=n) ha hb (by omega) (by omega)
 have HCN:Hid (∀w,Calls Tryz.prog 184 #[.agg #[.int .i64 (coreOf a b n).ax,.int .i64 (coreOf a b n).ay],.agg #[.int .i64 (coreOf a b n).bx,.int .i64 (coreOf a b n).by_]] w fun e w'=>e=.returned (.int .i64 ((wcount a b n:Nat):Int))∧Ext w w'):=Lib.hid (fun w=>lcount_any _ _ _ _ w p1 p2 p3 p4)
 have hls:=lpix_short p1 p2 p3 p4
 have HNX:=Lib.hid (fun w=>dnext_any d (wcount a b n) w hd (by omega) (by unfold wcount;omega))
 have HRR:=Lib.hid (fun w=>rect_right r w hr)
 have HRE:=Lib.hid (fun w=>reach_any (coreOf a b n) r n w hr (by omega) (by omega))
 have HWI:Hid (∀w,Calls Tryz.prog 187 #[.agg #[.int .i64 (coreOf a b n).ax,.int .i64 (coreOf a b n).ay],.agg #[.int .i64 (coreOf a b n).bx,.int .i64 (coreOf a b n).by_],((coreOf a b n).reach r n).v] w (WithinP (wsteps a b n r) w)):=Lib.hid (fun w=>within_any _ _ _ _ ((coreOf a b n).reach r n) w p1 p2 p3 p4 (Co.reach_ok _ hr (by omega) (by omega)))
 have HSM:=Lib.hid (fun s (h:s∈wsteps a b n r)=>wsteps_mem ha hb n0 n1 hr h)
 have HSL:=Lib.hid (wsteps_len (r:=r) ha hb n0 n1)
 have HLI:=Lib.hid (fun k w (h1:0≤k) (h2:k≤1099511627776)=>lit_any d k w hd h1 h2)
 have HAL:=Lib.hid (fun x y w (h1:Pl x) (h2:Pl y)=>along_any a b x y w ha.ok hb.ok ⟨by have:=ha.x;omega,by have:=ha.x;omega⟩ ⟨by have:=ha.y;omega,by have:=ha.y;omega⟩ ⟨by have:=hb.x;omega,by have:=hb.x;omega⟩ ⟨by have:=hb.y;omega,by have:=hb.y;omega⟩ h1 h2)
 have HRO:=Lib.hid hr
 clear ha hb hd hr hls p1 p2 p3 p4
 go_enter Tryz.func131,Tryz.ntmps131
 go_wp2_with fail
 refine(HWR.out _).mono ?_
 rintro e w1 ⟨rfl,hE⟩
 obtain⟨x1,rfl⟩:=Later.mk' hE
 clear hE
 have HW1:Hid (Wl a b d r w x1.w):=Lib.hid ⟨by(repeat(first|with_reducible exact Hid.out (by assumption)|(with_reducible refine Blk.new' _ _ _ ?_;(simp;done))|with_reducible(first|refine Blk.alloc ?_ _|refine Blk.drew ?_|refine Blk.drewN ?_ _|refine Blk.later ?_ _)|(with_reducible refine Blk.far ?_ ?hp _;case hp=>first|(simp;done)|(simp;omega)|omega))),by(repeat(first|with_reducible exact Hid.out (by assumption)|(with_reducible refine Blk.new' _ _ _ ?_;(simp;done))|with_reducible(first|refine Blk.alloc ?_ _|refine Blk.drew ?_|refine Blk.drewN ?_ _|refine Blk.later ?_ _)|(with_reducible refine Blk.far ?_ ?hp _;case hp=>first|(simp;done)|(simp;omega)|omega))),by(repeat(first|with_reducible exact Hid.out (by assumption)|(with_reducible refine Blk.new' _ _ _ ?_;(simp;done))|with_reducible(first|refine Blk.alloc ?_ _|refine Blk.drew ?_|refine Blk.drewN ?_ _|refine Blk.later ?_ _)|(with_reducible refine Blk.far ?_ ?hp _;case hp=>first|(simp;done)|(simp;omega)|omega))),by(repeat(first|with_reducible exact Hid.out (by assumption)|(with_reducible refine Blk.new' _ _ _ ?_;(simp;done))|with_reducible(first|refine Blk.alloc ?_ _|refine Blk.drew ?_|refine Blk.drewN ?_ _|refine Blk.later ?_ _)|(with_reducible refine Blk.far ?_ ?hp _;case hp=>first|(simp;done)|(simp;omega)|omega))),by(repeat(first|with_reducible exact Hid.out (by assumption)|(with_reducible refine Blk.new' _ _ _ ?_;(simp;done))|with_reducible(first|refine Blk.alloc ?_ _|refine Blk.drew ?_|refine Blk.drewN ?_ _|refine Blk.later ?_ _)|(with_reducible refine Blk.far ?_ ?hp _;case hp=>first|(simp;done)|(simp;omega)|omega))),by(repeat(first|with_reducible(first|exact eR_ _|assumption|refine eA_ ?_ _|refine eD_ ?_|refine eN_ ?_ _|refine eL_ ?_ _)|(with_reducible refine eS_ ?_ _ ?hp;case hp=>first|(simp;done)|(simp;omega)|omega)))⟩
 generalize x1.w=w1 at*
 have ca:=HW1.out.a.c7
 have cb:=HW1.out.b.c7
 go_wp2_with fail
 refine(HCO.out _).mono ?_
 rintro e w1 ⟨rfl,hE⟩
 obtain⟨x2,rfl⟩:=Later.mk' hE
 clear hE
 have HW2:=Lib.hid (HW1.out.ext x2.ext)
 clear HW1 ca cb
 generalize x2.w=w2 at*
 have cd:=HW2.out.d.c3
 generalize hco:coreOf a b n=co at*
 have HCO2:=Lib.hid hco
 clear hco HCO HWR
 have hsz:w.heap.size+1+1+1+1<w2.heap.size:=HW2.out.z.lt
 go_upto_if 33 with(fail)
 clear cd
 have HC3:Hid (Wc a b d r co d w w2.heap.size ((w2.alloc (.cells #[.int .i64 co.ax,.int .i64 co.ay,.int .i64 co.bx,.int .i64 co.by_,.bool co.flat] 293)).alloc (.cells #[.int .i64 d.bits,.int .i64 d.every,.int .i64 d.done] 44))):=
  Lib.hid ⟨(HW2.out.ext ((Ext.refl _).alloc _)).ext ((Ext.refl _).alloc _),by(repeat(first|with_reducible exact Hid.out (by assumption)|(with_reducible refine Blk.new' _ _ _ ?_;(simp;done))|with_reducible(first|refine Blk.alloc ?_ _|refine Blk.drew ?_|refine Blk.drewN ?_ _|refine Blk.later ?_ _)|(with_reducible refine Blk.far ?_ ?hp _;case hp=>first|(simp;done)|(simp;omega)|omega))),by(repeat(first|with_reducible exact Hid.out (by assumption)|(with_reducible refine Blk.new' _ _ _ ?_;(simp;done))|with_reducible(first|refine Blk.alloc ?_ _|refine Blk.drew ?_|refine Blk.drewN ?_ _|refine Blk.later ?_ _)|(with_reducible refine Blk.far ?_ ?hp _;case hp=>first|(simp;done)|(simp;omega)|omega))),hsz⟩
 generalize(w2.alloc (.cells #[.int .i64 co.ax,.int .i64 co.ay,.int .i64 co.bx,.int .i64 co.by_,.bool co.flat] 293)).alloc (.cells #[.int .i64 d.bits,.int .i64 d.every,.int .i64 d.done] 44)=w3 at*
 clear HW2 hsz
 generalize w2.heap.size=B at*
 go_cut []from 34 to 40 (fun wx=>Hid (Wc a b d r co (wnext dashed d (wcount a b n)) w B wx))
 case first=>
  have cd:=HC3.out.l.d.c3
  have cc:=HC3.out.c.c5
  have cq:=HC3.out.q.c3
  have fq:=HC3.out.q.f3
  go_wp2_with fail
  ·refine wp_region_later_tail 7 (by kernel_rfl) (by kernel_rfl) ?_
   simp only[List.take_succ_cons,List.take_zero,List.drop_succ_cons,List.drop_zero]
   repeat(go_big_quiet_step ((first|(first|(go_at_call 184;exact Calls.later _ (HCN.out _))|(go_at_call 183;exact Calls.later _ (HNX.out _)))|fail)))
   refine wpQuiet_nil ?_
   intro y
   go_wp2_with fail
   go_meet
   have hda:dashed=true:=by assumption
   unfold wnext
   rw[if_pos hda]
   exact Lib.hid ((HC3.out.ext y.ext).set _)
  ·go_meet
   have hda: ¬dashed=true:=by first|assumption|simp_all
   unfold wnext
   rw[if_neg hda]
   exact HC3
 case rest=>
 have HC4:=hcut
 clear hcut HC3 HCN HNX
 generalize wc=w4 at*
 generalize hq:(wnext dashed d (wcount a b n))=q at*
 have HQ:=Lib.hid hq
 clear hq
 have cr:=HC4.out.l.r.c4
 have hmf: ∀(fn:Fn) (first cap:Array Value) (w:World),(Instr.makeFunc fn first cap).run Tryz.prog w=.ok (.func fn first cap) w:=fun _ _ _ _=>rfl
 go_wp2_with fail
 refine(HRR.out _).mono ?_
 rintro e w1 ⟨rfl,hE⟩
 obtain⟨x5,rfl⟩:=Later.mk' hE
 clear hE
 have HC5:=Lib.hid (HC4.out.ext x5.ext)
 clear HC4 cr
 generalize x5.w=w5 at*
 go_upto_region 11 with fail
 clear hmf
 have HC6:Hid (Wc a b d r co q w B (w5.alloc (.cells #[.slice none 0 0] 63))):=Lib.hid (HC5.out.ext ((Ext.refl _).alloc _))
 have HS6:Hid (SBox w.heap.size 63 68 8 Fr.cells w5.heap.size ([]:List Fr) (.slice none 0 0) (w5.alloc (.cells #[.slice none 0 0] 63))):=Lib.hid (SBox.nil (Blk.new _ _ _))
 have HN6:Hid (B+1<w5.heap.size):=Lib.hid HC5.out.q.lt
 clear HC5
 generalize w5.alloc (.cells #[.slice none 0 0] 63)=w6 at*
 generalize w5.heap.size=O at*
 have HSS:Hid (∀w',Ext w6 w'→w'.cell? ⟨B,0,none⟩=some (.int .i64 co.ax)∧w'.cell? ⟨B,1,none⟩=some (.int .i64 co.ay)∧w'.cell? ⟨B,2,none⟩=some (.int .i64 co.bx)∧w'.cell? ⟨B,3,none⟩=some (.int .i64 co.by_)∧w'.cell? ⟨B,4,none⟩=some (.bool co.flat)∧
   w'.cell? ⟨w.heap.size+1+1+1,0,none⟩=some (.int .i64 r.x0)∧w'.cell? ⟨w.heap.size+1+1+1,1,none⟩=some (.int .i64 r.y0)∧w'.cell? ⟨w.heap.size+1+1+1,2,none⟩=some (.int .i64 r.x1)∧w'.cell? ⟨w.heap.size+1+1+1,3,none⟩=some (.int .i64 r.y1)):=
  Lib.hid fun w' e=>⟨(HC6.out.ext e).c.c5.1,(HC6.out.ext e).c.c5.2.1,(HC6.out.ext e).c.c5.2.2.1,(HC6.out.ext e).c.c5.2.2.2.1,(HC6.out.ext e).c.c5.2.2.2.2,(HC6.out.ext e).l.r.c4⟩
 go_region_held3 (fun w'=>w'.cell? ⟨B,0,none⟩=some (.int .i64 co.ax)∧w'.cell? ⟨B,1,none⟩=some (.int .i64 co.ay)∧w'.cell? ⟨B,2,none⟩=some (.int .i64 co.bx)∧w'.cell? ⟨B,3,none⟩=some (.int .i64 co.by_)∧w'.cell? ⟨B,4,none⟩=some (.bool co.flat)∧
   w'.cell? ⟨w.heap.size+1+1+1,0,none⟩=some (.int .i64 r.x0)∧w'.cell? ⟨w.heap.size+1+1+1,1,none⟩=some (.int .i64 r.y0)∧w'.cell? ⟨w.heap.size+1+1+1,2,none⟩=some (.int .i64 r.x1)∧w'.cell? ⟨w.heap.size+1+1+1,3,none⟩=some (.int .i64 r.y1))
  (exact HSS.out _ (by(repeat(first|with_reducible(first|exact eR_ _|assumption|refine eA_ ?_ _|refine eD_ ?_|refine eN_ ?_ _|refine eL_ ?_ _)|(with_reducible refine eS_ ?_ _ ?hp;case hp=>first|(simp;done)|(simp;omega)|omega)))))
  (first
   |(go_at_call 188;refine(HRE.out _).mono ?_;rintro e w1 ⟨rfl,hE⟩;obtain⟨y,rfl⟩:=Later.mk' hE;clear hE)
   |(go_at_call 187;refine(HWI.out _).mono ?_;rintro e w1 ⟨v,rfl,ho,hE⟩;obtain⟨z,rfl⟩:=Later.mk' hE;clear hE;have HO:=Lib.hid ho;obtain⟨va,vc,rfl, -⟩:=ownsRow_rd ho;clear ho))
 have HM7:Hid (Wm a b d r co q w B O (wsteps a b n r) va [] z.w):=Lib.hid ⟨(HC6.out.ext (by(repeat(first|with_reducible(first|exact eR_ _|assumption|refine eA_ ?_ _|refine eD_ ?_|refine eN_ ?_ _|refine eL_ ?_ _)|(with_reducible refine eS_ ?_ _ ?hp;case hp=>first|(simp;done)|(simp;omega)|omega))))),⟨_,HS6.out.ext (by(repeat(first|with_reducible(first|exact eR_ _|assumption|refine eA_ ?_ _|refine eD_ ?_|refine eN_ ?_ _|refine eL_ ?_ _)|(with_reducible refine eS_ ?_ _ ?hp;case hp=>first|(simp;done)|(simp;omega)|omega))))⟩,St.of_own HO.out⟩
 clear HO HSS HC6 HS6 HRE HWI HRR
 generalize z.w=w7 at*
 generalize hS:wsteps a b n r=S at*
 have HSE:=Lib.hid hS
 clear hS
 go_wp2_with fail
 go_loopg [56] S.length (fun g i wx=> ∃k:Nat,k≤S.length∧g=S.length-k∧i=.int .i64 k∧Hid (Wm a b d r co q w B O S va ((S.take k).flatMap (wstep a b n dashed d r)) wx))
 case atStart=>exact⟨0,by omega,rfl,rfl,by simpa using HM7⟩
 case round=>
  clear HM7
  obtain⟨k,hk,rfl,rfl,HI⟩:=hrel
  have hSL:=HSL.out
  by_cases hlt:k<S.length
  ·obtain⟨s,hs⟩: ∃s,S[k]? =some s:=⟨_,List.getElem?_eq_getElem hlt⟩
   obtain⟨g,cur,rfl,hb,e1,e2,e3⟩:=HI.out.t k s hs
   have c0:=(hb.cell (k*3)).trans e1
   have c1:=(hb.cell (k*3+1)).trans e2
   have c2:=(hb.cell (k*3+2)).trans e3
   have cd:=HI.out.c.l.d.c3
   have HS:=Lib.hid hs
   have hm:=HSM.out s (List.mem_of_getElem? hs)
   obtain⟨m1,m2,m3,m4,m5,m6⟩:=hm
   obtain⟨sn,sx,sy⟩:=s
   simp only at c0 c1 c2 m1 m2 m3 m4 m5 m6
   clear hs hb e1 e2 e3
   go_upto_region 14 with fail
   have HM1:=Lib.hid (HI.out.ext ((Ext.refl wr).alloc (.cells #[.int .i64 sn,.int .i64 sx,.int .i64 sy] 97)))
   have HD1:Hid (Blk (wr.alloc (.cells #[.int .i64 sn,.int .i64 sx,.int .i64 sy] 97)) wr.heap.size 97 #[.int .i64 sn,.int .i64 sx,.int .i64 sy]):=Lib.hid (Blk.new _ _ _)
   have HOD:Hid (O<wr.heap.size):=Lib.hid (HI.out.s.elim fun v hv=>hv.blk.lt)
   clear HI c0 c1 c2 cd
   generalize wr.alloc (.cells #[.int .i64 sn,.int .i64 sx,.int .i64 sy] 97)=W1 at*
   generalize wr.heap.size=D at*
   have cd:=HM1.out.c.l.d.c3
   have cD:=HD1.out.c3
   go_cut [67]from 60 to 66 (fun p wx=>p=.bool (dashed&&!(d.lit sn))∧Hid (Wm a b d r co q w B O S (some ⟨g,0,none⟩) ((S.take k).flatMap (wstep a b n dashed d r)) wx)∧Hid (Blk wx D 97 #[.int .i64 sn,.int .i64 sx,.int .i64 sy]))
   case first=>
    cases dashed
    ·go_wp2_with fail
     go_meet
     exact⟨by simp,HM1,HD1⟩
    ·go_wp2_with fail
     refine(HLI.out sn _ m1 (by omega)).mono ?_
     rintro e w1 ⟨rfl,hE⟩
     obtain⟨x,rfl⟩:=Later.mk' hE
     clear hE
     go_wp2_with fail
     go_meet
     exact⟨by simp,Lib.hid (HM1.out.ext x.ext),Lib.hid (HD1.out.ext x.ext)⟩
   case rest=>
   obtain⟨rfl,HM2,HD2⟩:=hcut
   clear HM1 HD1 cd cD
   generalize wc=w8 at*
   cases hz:(dashed&&!(d.lit sn))
   ·have HZ:=Lib.hid hz
    clear hz
    have cD:=HD2.out.c3
    have ca:=HM2.out.c.l.a.c7
    have cb:=HM2.out.c.l.b.c7
    go_wp2_with fail
    refine(HAL.out sx sy _ ⟨by omega,by omega⟩ ⟨by omega,by omega⟩).mono ?_
    rintro e w1 ⟨rfl,hE⟩
    obtain⟨x,rfl⟩:=Later.mk' hE
    clear hE
    have HF3:Hid (Blk x.w w8.heap.size 68 #[.int .i64 sx,.int .i64 sy,.int .i64 0,.int .i64 0,.int .i64 0,.int .i64 0,.int .i64 0,.int .i64 64]):=Lib.hid (by(repeat(first|with_reducible exact Hid.out (by assumption)|(with_reducible refine Blk.new' _ _ _ ?_;(simp;done))|with_reducible(first|refine Blk.alloc ?_ _|refine Blk.drew ?_|refine Blk.drewN ?_ _|refine Blk.later ?_ _)|(with_reducible refine Blk.far ?_ ?hp _;case hp=>first|(simp;done)|(simp;omega)|omega))))
    have HEX:Hid (Ext w8 x.w):=Lib.hid (by(repeat(first|with_reducible(first|exact eR_ _|assumption|refine eA_ ?_ _|refine eD_ ?_|refine eN_ ?_ _|refine eL_ ?_ _)|(with_reducible refine eS_ ?_ _ ?hp;case hp=>first|(simp;done)|(simp;omega)|omega))))
    have HJ3:Hid (Wj a b d r co q w B O S (some ⟨g,0,none⟩) ((S.take k).flatMap (wstep a b n dashed d r)) w8.heap.size ⟨sx,sy,0,0,0,0,0,64⟩ x.w):=Lib.hid (Wj.of HM2.out HN6.out HEX.out (Nat.le_refl _) HF3.out)
    clear cD ca cb HM2 HD2 HEX
    have cf:=HF3.out.c8
    have ff:=HF3.out.f8
    generalize x.w=w9 at*
    generalize w8.heap.size=E at*
    go_wp2_with fail
    have HJ4:Hid (Wj a b d r co q w B O S (some ⟨g,0,none⟩) ((S.take k).flatMap (wstep a b n dashed d r)) E (wfrag a b sx sy sx sy) (((((w9.setCell ⟨E,2,none⟩ (.int .i64 (lmid a.z b.z (along a b sx sy).1 (along a b sx sy).2))).setCell ⟨E,3,none⟩ (.int .i64 (lmid a.c0 b.c0 (along a b sx sy).1 (along a b sx sy).2))).setCell ⟨E,4,none⟩ (.int .i64 (lmid a.c1 b.c1 (along a b sx sy).1 (along a b sx sy).2))).setCell ⟨E,5,none⟩ (.int .i64 (lmid a.c2 b.c2 (along a b sx sy).1 (along a b sx sy).2))).setCell ⟨E,6,none⟩ (.int .i64 (lmid a.c3 b.c3 (along a b sx sy).1 (along a b sx sy).2)))):=Lib.hid (HJ3.out.kp ((((((Kp.refl (·≠E) w9).setCell (p:=⟨E,2,none⟩) (.int .i64 (lmid a.z b.z (along a b sx sy).1 (along a b sx sy).2)) (fun h=>h rfl)).setCell (p:=⟨E,3,none⟩) (.int .i64 (lmid a.c0 b.c0 (along a b sx sy).1 (along a b sx sy).2)) (fun h=>h rfl)).setCell (p:=⟨E,4,none⟩) (.int .i64 (lmid a.c1 b.c1 (along a b sx sy).1 (along a b sx sy).2)) (fun h=>h rfl)).setCell (p:=⟨E,5,none⟩) (.int .i64 (lmid a.c2 b.c2 (along a b sx sy).1 (along a b sx sy).2)) (fun h=>h rfl)).setCell (p:=⟨E,6,none⟩) (.int .i64 (lmid a.c3 b.c3 (along a b sx sy).1 (along a b sx sy).2)) (fun h=>h rfl)) _ (by have:=(((((HF3.out.set_ 2 (.int .i64 (lmid a.z b.z (along a b sx sy).1 (along a b sx sy).2))).set_ 3 (.int .i64 (lmid a.c0 b.c0 (along a b sx sy).1 (along a b sx sy).2))).set_ 4 (.int .i64 (lmid a.c1 b.c1 (along a b sx sy).1 (along a b sx sy).2))).set_ 5 (.int .i64 (lmid a.c2 b.c2 (along a b sx sy).1 (along a b sx sy).2))).set_ 6 (.int .i64 (lmid a.c3 b.c3 (along a b sx sy).1 (along a b sx sy).2)));simpa[wfrag]using this))
    rw[←wat_zero a b co.flat sx sy]at HJ4
    clear HJ3 HF3 cf ff
    generalize(((((w9.setCell ⟨E,2,none⟩ (.int .i64 (lmid a.z b.z (along a b sx sy).1 (along a b sx sy).2))).setCell ⟨E,3,none⟩ (.int .i64 (lmid a.c0 b.c0 (along a b sx sy).1 (along a b sx sy).2))).setCell ⟨E,4,none⟩ (.int .i64 (lmid a.c1 b.c1 (along a b sx sy).1 (along a b sx sy).2))).setCell ⟨E,5,none⟩ (.int .i64 (lmid a.c2 b.c2 (along a b sx sy).1 (along a b sx sy).2))).setCell ⟨E,6,none⟩ (.int .i64 (lmid a.c3 b.c3 (along a b sx sy).1 (along a b sx sy).2)))=w10 at*
    go_loopg [86] n (fun gk i wx=> ∃j:Nat,j≤n∧gk=n-j∧i=.int .i64 j∧Hid (Wj a b d r co q w B O S (some ⟨g,0,none⟩) ((S.take k).flatMap (wstep a b n dashed d r)++(List.range j).flatMap (wone a b co.flat r sx sy)) E (wat a b co.flat sx sy j) wx))
    case atStart=>exact⟨0,by omega,rfl,rfl,by simpa using HJ4⟩
    case round=>
     clear HJ4
     obtain⟨j,hj,rfl,rfl,HJ⟩:=hrel
     by_cases hlt2:j<n
     ·obtain⟨v,hv,hne⟩:=HJ.out.s
      have HV:=Lib.hid hv
      have HNE:=Lib.hid hne
      clear hv hne
      have hLL:((S.take k).flatMap (wstep a b n dashed d r)++(List.range j).flatMap (wone a b co.flat r sx sy)).length<1000000000000:=by
       have g1:=flatMap_len (l:=S.take k) (f:=wstep a b n dashed d r) (m:=n) (fun x _=>wstep_len a b n dashed d r x)
       have g2:=flatMap_len (l:=List.range j) (f:=wone a b co.flat r sx sy) (m:=1) (fun x _=>wone_len a b _ r _ _ x)
       rw[List.length_take]at g1
       have g3:min k S.length*n≤3000000*64:=Nat.mul_le_mul (by omega) (by omega)
       simp only[List.length_append,List.length_range]at*
       omega
      have HP:=Lib.hid (wput_any (wat a b co.flat sx sy j) r (w.heap.size+1+1+1) O w.heap.size _ v _ HRO.out HJ.out.c.l.r HV.out (HJ.out.c.l.e.size) hLL)
      clear hLL
      have cf:=HJ.out.f.c8
      obtain⟨wx1,wy1⟩:=wat_x a b co.flat sx sy j
      have wb: -5000000≤(wat a b co.flat sx sy j).x∧(wat a b co.flat sx sy j).x≤5000000∧ -5000000≤(wat a b co.flat sx sy j).y∧(wat a b co.flat sx sy j).y≤5000000:=by
       rw[wx1,wy1];split <;>omega
      clear wx1 wy1
      obtain⟨wb1,wb2,wb3,wb4⟩:=wb
      go_wp2_with fail
      refine HP.out.mono ?_
      rintro e w1 ⟨rfl,⟨v',hs',hE'⟩,hK⟩
      rw[←wone_push]at hs'
      have HJ5:=Lib.hid (HJ.out.put hK v v' HV.out HNE.out hs' hE')
      clear hK hs' hE' HV HNE HP HJ cf
      have cc:=HJ5.out.c.c.c5
      have cf:=HJ5.out.f.c8
      have ff:=HJ5.out.f.f8
      obtain⟨cax,cay,cbx,cby,cfl⟩:=co
      cases cfl
      ·go_wp2_with fail
       go_roundg (n-(j+1))
       case measure=>omega
       case rel=>
        exact⟨j+1,by omega,rfl,by go_num,Lib.hid (HJ5.out.kp ((Kp.refl (·≠E) w1).setCell (p:=⟨E,0,none⟩) _ (fun h=>h rfl)) _ (by
         have:=HJ5.out.f.set_ 0 (.int .i64 ((wat a b false sx sy j).x+1))
         simpa[wat,wfrag,Int.add_assoc]using this))⟩
      ·go_wp2_with fail
       go_roundg (n-(j+1))
       case measure=>omega
       case rel=>
        exact⟨j+1,by omega,rfl,by go_num,Lib.hid (HJ5.out.kp ((Kp.refl (·≠E) w1).setCell (p:=⟨E,1,none⟩) _ (fun h=>h rfl)) _ (by
         have:=HJ5.out.f.set_ 1 (.int .i64 ((wat a b true sx sy j).y+1))
         simpa[wat,wfrag,Int.add_assoc]using this))⟩
     ·obtain rfl:j=n:=by omega
      have hw:wstep a b j dashed d r (sn,sx,sy)=(List.range j).flatMap (wone a b co.flat r sx sy):=by
       have hz:=HZ.out
       unfold wstep
       rw[if_neg (by
        intro h
        obtain⟨h1,h2⟩:=h
        simp only at h2
        rw[h1,h2]at hz
        simp at hz),HCO2.out]
      have HW:=Lib.hid hw
      clear hw
      go_wp2_with fail
      go_roundg (S.length-(k+1))
      case measure=>omega
      case rel=>exact⟨k+1,by omega,rfl,by go_num,Lib.hid (by rw[take_flat HS.out,HW.out];exact HJ.out.wm)⟩
   ·have HZ:=Lib.hid hz
    clear hz
    go_wp2_with fail
    go_roundg (S.length-(k+1))
    case measure=>omega
    case rel=>
     have hw:wstep a b n dashed d r (sn,sx,sy)=[]:=by
      have hz:=HZ.out
      simp at hz
      unfold wstep
      rw[if_pos ⟨hz.1,hz.2⟩]
     exact⟨k+1,by omega,rfl,by go_num,Lib.hid (by rw[take_flat HS.out,hw,List.append_nil];exact HM2.out)⟩
  ·obtain rfl:k=S.length:=by omega
   have hL:(S.take S.length).flatMap (wstep a b n dashed d r)=wlist a b n dashed d r:=by rw[List.take_length,←HSE.out];rfl
   rw[hL]at HI
   clear hL
   go_wp2_with fail
   obtain⟨v,hv⟩:=HI.out.s
   have HV:=Lib.hid hv
   obtain⟨sa,sc,rfl, -⟩:=ownsRow_rd hv.own
   clear hv
   have o0:=HV.out.blk.c1
   have cq:=HI.out.c.q.c3
   have cz:=HI.out.c.l.z.c3
   have fz:=HI.out.c.l.z.f3
   have hn:=HI.out.c.n
   refine wp_region_later_tail 3 (by kernel_rfl) (by kernel_rfl) ?_
   simp only[List.take_succ_cons,List.take_zero,List.drop_succ_cons,List.drop_zero]
   repeat(go_big_quiet_step ((first|fail|fail)))
   refine wpQuiet_nil ?_
   intro y
   go_wp2_with fail
   have Z0:=HI.out.c.l.z.ext y.ext
   have HZ:=Lib.hid (Z0.s3 (.int .i64 q.bits) (.int .i64 q.every) (.int .i64 q.done))
   have ho:=HN6.out
   have HVF:=Lib.hid ((((HV.out.ext y.ext).far Z0 (by decide) (by omega) 0 (.int .i64 q.bits)).far (Z0.set_ 0 (.int .i64 q.bits)) (by decide) (by omega) 1 (.int .i64 q.every)).far ((Z0.set_ 0 (.int .i64 q.bits)).set_ 1 (.int .i64 q.every)) (by decide) (by omega) 2 (.int .i64 q.done)).own
   have HE:Ext w (((y.w.setCell ⟨w.heap.size+1+1+1+1,0,none⟩ (.int .i64 q.bits)).setCell ⟨w.heap.size+1+1+1+1,1,none⟩ (.int .i64 q.every)).setCell ⟨w.heap.size+1+1+1+1,2,none⟩ (.int .i64 q.done)):=
    (((HI.out.c.l.e.trans y.ext).setCell _ (by simp;omega)).setCell _ (by simp;omega)).setCell _ (by simp;omega)
   refine bodyPost_ret (results_tmp_cell rfl _ _ _ (ad:=⟨w.heap.size+1+1+1+1,0,none⟩) rfl (run_load_blk HZ.out 44 0 3 agg_dash (by kernel_rfl) (by simp))) rfl ⟨.slice sa (wlist a b n dashed d r).length sc,?_,HVF.out,HE⟩
   rw[HQ.out]
   rfl
end Go.Proofs.YtplljnfjkkloeaaGreatDoor
