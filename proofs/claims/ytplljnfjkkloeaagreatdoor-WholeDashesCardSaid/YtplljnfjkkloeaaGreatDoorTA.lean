/- Proof text: at which part a line comes in or goes out (packages trim, rastrumref09). By an AI agent. No condition beyond what each theorem states. -/
import Derived.Test.YtplljnfjkkloeaaGreatDoorRG
import Derived.Deep.LoopGhost
import Derived.Deep.CutBlock
import Derived.Deep.RegionHeld3
import Derived.Deep.CutRange
import Derived.Test.YtplljnfjkkloeaaGreatDoorGM
import Derived.Test.YtplljnfjkkloeaaGreatDoorLI
set_option linter.unusedVariables false
set_option linter.unusedSimpArgs false
set_option maxHeartbeats 4000000
namespace Go.Proofs.YtplljnfjkkloeaaGreatDoor
open Go.RowKit
def Pt (p q k n d:Int):Prop:=
 (p<0∧q<0∧k=3∧n=0∧d=0)∨(p<0∧0≤q∧k=1∧n= -p∧d=q-p)∨(0≤p∧q<0∧k=2∧n=p∧d=p-q)∨(0≤p∧0≤q∧k=0∧n=0∧d=0)
theorem part_of (s:Sd) (a b:Vx) (w:World) (hs:s.Ok) (ha:a.Fit) (hb:b.Fit) (k n d:Int) (h:Pt (dist s a) (dist s b) k n d):
  Calls Tryz.prog 127 #[s.v,a.v,b.v] w fun e w'=>e=.returned (.tuple #[.int .i64 k,.int .i64 n,.int .i64 d])∧Ext w w':=by
 obtain⟨g1,g2⟩:=dist_bound hs ha
 obtain⟨g3,g4⟩:=dist_bound hs hb
 have HS:=Lib.hid hs;clear hs
 have HA:=Lib.hid ha;clear ha
 have HB:=Lib.hid hb;clear hb
 have hd:(decide (dist s a<0)=true∧decide (dist s b<0)=true∧k=3∧n=0∧d=0)∨(decide (dist s a<0)=true∧decide (dist s b<0)=false∧k=1∧n= -dist s a∧d=dist s b-dist s a)∨
   (decide (dist s a<0)=false∧decide (dist s b<0)=true∧k=2∧n=dist s a∧d=dist s a-dist s b)∨(decide (dist s a<0)=false∧decide (dist s b<0)=false∧k=0∧n=0∧d=0):=by
  rcases h with⟨h1,h2,h3⟩|⟨h1,h2,h3⟩|⟨h1,h2,h3⟩|⟨h1,h2,h3⟩
  ·exact .inl ⟨by simpa using h1,by simpa using h2,h3⟩
  ·exact .inr (.inl ⟨by simpa using h1,by simpa using h2,h3⟩)
  ·exact .inr (.inr (.inl ⟨by simpa using h1,by simpa using h2,h3⟩))
  ·exact .inr (.inr (.inr ⟨by simpa using h1,by simpa using h2,h3⟩))
 clear h
 rcases hd with⟨d1,d2,rfl,rfl,rfl⟩|⟨d1,d2,rfl,rfl,rfl⟩|⟨d1,d2,rfl,rfl,rfl⟩|⟨d1,d2,rfl,rfl,rfl⟩
 all_goals
  go_enter Tryz.func127,Tryz.ntmps127
  go_wp2_with fail
  refine wp_region_later (by kernel_rfl) (by kernel_rfl) ?_
  repeat(go_big_quiet_step ((first|(go_at_call 84;with_reducible exact Calls.later _ (dist_any s a _ HS.out HA.out))|(go_at_call 84;with_reducible exact Calls.later _ (dist_any s b _ HS.out HB.out)))))
  refine wpQuiet_nil ?_
  intro y
  go_wp2_with fail
  go_ret3
  exact⟨rfl,by(repeat(first|with_reducible(first|exact eR_ _|assumption|refine eA_ ?_ _|refine eD_ ?_|refine eN_ ?_ _|refine eL_ ?_ _)|(with_reducible refine eS_ ?_ _ ?hp;case hp=>first|(simp;done)|(simp;omega)|omega)))⟩
end Go.Proofs.YtplljnfjkkloeaaGreatDoor
set_option linter.unusedVariables false
set_option linter.unusedSimpArgs false
namespace Go.Proofs.YtplljnfjkkloeaaGreatDoor
open Go.RowKit
@[reducible] def put8 (w:World) (g:Nat) (u:Vx):World:=(((((((w.setCell ⟨g,0,none⟩ (.int .i64 u.x)).setCell ⟨g,1,none⟩ (.int .i64 u.y)).setCell ⟨g,2,none⟩ (.int .i64 u.z)).setCell ⟨g,3,none⟩ (.int .i64 u.w)).setCell ⟨g,4,none⟩ (.int .i64 u.c0)).setCell ⟨g,5,none⟩ (.int .i64 u.c1)).setCell ⟨g,6,none⟩ (.int .i64 u.c2)).setCell ⟨g,7,none⟩ (.int .i64 u.c3)
theorem Blk.far8 {w:World} {g g':Nat} {t:TypeId} {cs:Array Value} (h:Blk w g t cs) (hne:g≠g') (u:Vx):Blk (put8 w g' u) g t cs:=
 (((((((h.far hne _).far hne _).far hne _).far hne _).far hne _).far hne _).far hne _).far hne _
theorem put8_ext {w wr:World} {g:Nat} (h:Ext w wr) (hg:w.heap.size≤g) (u:Vx):Ext w (put8 wr g u):=
 (((((((h.setCell _ hg).setCell _ hg).setCell _ hg).setCell _ hg).setCell _ hg).setCell _ hg).setCell _ hg).setCell _ hg
theorem both8 {w:World} {g g':Nat} {t:TypeId} {v v':Vx} (h:Blk w g t v.row) (h':Blk w g' t v'.row) (hne:g≠g') (u u':Vx):
  Blk (put8 (put8 w g u) g' u') g t u.row∧Blk (put8 (put8 w g u) g' u') g' t u'.row:=
 ⟨(h.set8 u).far8 hne u',(h'.far8 (Ne.symm hne) u).set8 u'⟩
def cuts (l:List Sd) (a b:Vx):List (Int×Int):=l.map fun s=>(dist s a,dist s b)
@[reducible] def cutR (x:Int×Int):Array Value:= #[.int .i64 x.1,.int .i64 x.2]
def TrimB (a b:Vx) (f g:Int×Int) (w wr:World):Prop:=
 Blk wr w.heap.size 149 a.row∧Blk wr (w.heap.size+1) 149 b.row∧Blk wr (w.heap.size+1+1) 149 V0.row∧Blk wr (w.heap.size+1+1+1) 149 V0.row∧
  Blk wr (w.heap.size+1+1+1+1) 231 (cutR f)∧Blk wr (w.heap.size+1+1+1+1+1) 231 (cutR g)∧Ext w wr
theorem TrimB.later {a b:Vx} {f g:Int×Int} {w wr:World} (h:TrimB a b f g w wr) (x:Later wr):TrimB a b f g w x.w:=by
 obtain⟨h1,h2,h3,h4,h5,h6,h7⟩:=h
 exact⟨h1.later x,h2.later x,h3.later x,h4.later x,h5.later x,h6.later x,h7.later x⟩
theorem TrimB.alloc {a b:Vx} {f g:Int×Int} {w wr:World} (h:TrimB a b f g w wr) (o:Obj):TrimB a b f g w (wr.alloc o):=by
 obtain⟨h1,h2,h3,h4,h5,h6,h7⟩:=h
 exact⟨h1.alloc _,h2.alloc _,h3.alloc _,h4.alloc _,h5.alloc _,h6.alloc _,h7.alloc _⟩
theorem TrimB.drew {a b:Vx} {f g:Int×Int} {w wr:World} (h:TrimB a b f g w wr):TrimB a b f g w wr.drew:=by
 obtain⟨h1,h2,h3,h4,h5,h6,h7⟩:=h
 exact⟨h1,h2,h3,h4,h5,h6,h7.drew⟩
def TrimE (a b u v:Vx) (f g:Int×Int) (w wr:World) (P Q:Nat):Prop:=
 w.heap.size+5<P∧w.heap.size+5<Q∧P≠Q∧Blk wr P 149 u.row∧Blk wr Q 149 v.row∧TrimB a b f g w wr
theorem TrimE.later {a b u v:Vx} {f g:Int×Int} {w wr:World} {P Q:Nat} (h:TrimE a b u v f g w wr P Q) (x:Later wr):TrimE a b u v f g w x.w P Q:=by
 obtain⟨h1,h2,h3,h4,h5,h6⟩:=h
 exact⟨h1,h2,h3,h4.later x,h5.later x,h6.later x⟩
theorem TrimB.far8 {a b:Vx} {f g:Int×Int} {w wr:World} (h:TrimB a b f g w wr) {P:Nat} (hP:w.heap.size+5<P) (u:Vx):TrimB a b f g w (put8 wr P u):=by
 obtain⟨h1,h2,h3,h4,h5,h6,h7⟩:=h
 exact⟨h1.far8 (by omega) u,h2.far8 (by omega) u,h3.far8 (by omega) u,h4.far8 (by omega) u,h5.far8 (by omega) u,h6.far8 (by omega) u,put8_ext h7 (by omega) u⟩
theorem cells2 {w:World} {g:Nat} {t:TypeId} {x:Int×Int} (h:Blk w g t (cutR x)):w.cell? ⟨g,0,none⟩=some (.int .i64 x.1)∧w.cell? ⟨g,1,none⟩=some (.int .i64 x.2)∧w.frozen? ⟨g,0,none⟩=false∧w.frozen? ⟨g,1,none⟩=false:=
 ⟨h.cell 0,h.cell 1,h.frozen 0,h.frozen 1⟩
end Go.Proofs.YtplljnfjkkloeaaGreatDoor
set_option linter.unusedVariables false
set_option linter.unusedSimpArgs false
namespace Go.Proofs.YtplljnfjkkloeaaGreatDoor
attribute [local go_sem] Go.Oper.semAt_some
open Go.RowKit
set_option maxRecDepth 100000 in
theorem trim_zero (l:List Sd) (a b:Vx) (A:Option Addr) (n cap:Nat) (w:World) (hr:Rd w 5 A n cap (srow l)) (hl:l.length=n) (hok: ∀s∈l,s.Ok) (ha:a.Fit) (hb:b.Fit) (hz: ∀s∈l,0≤dist s a∧0≤dist s b):
  Calls Tryz.prog 88 #[a.v,b.v,.slice A n cap] w fun e w'=>e=.returned (.tuple #[a.v,b.v,.bool true])∧Ext w w':=by
 have hn:(n:Int)≤9223372036854775807:=hr.nat_le
 have HR:=Lib.hid hr;clear hr
 have HL:=Lib.hid hl;clear hl
 have HO:=Lib.hid hok;clear hok
 have HZ:=Lib.hid hz;clear hz
 have HA:=Lib.hid ha;clear ha
 have HB:=Lib.hid hb;clear hb
 go_enter Tryz.func88,Tryz.ntmps88
 go_wp2_with fail
 go_loopg [12,13,14,15,16,21] n (fun gh _ _ _ _ _ i wr=> ∃j:Nat,j≤n∧gh=n-j∧i=.int .i64 j∧TrimB a b (0,0) (0,0) w wr)
 case atStart=>
  refine⟨0,Nat.zero_le _,rfl,rfl,⟨?_,?_,?_,?_,?_,?_,by(repeat(first|with_reducible(first|exact eR_ _|assumption|refine eA_ ?_ _|refine eD_ ?_|refine eN_ ?_ _|refine eL_ ?_ _)|(with_reducible refine eS_ ?_ _ ?hp;case hp=>first|(simp;done)|(simp;omega)|omega)))⟩⟩
  all_goals(try unfold V0)
  all_goals(repeat(first|(with_reducible refine Blk.new' _ _ _ ?_;(simp;done))|with_reducible refine Blk.alloc ?_ _))
 case round=>
  obtain⟨j,hj,rfl,rfl,hT⟩:=hrel
  have HT:=Lib.hid hT;clear hT
  by_cases hlt:j<n
  ·obtain⟨s,hs⟩: ∃s,l[j]? =some s:=⟨_,List.getElem?_eq_getElem (by rw[HL.out];exact hlt)⟩
   have hRr:=HR.out.ext HT.out.2.2.2.2.2.2
   obtain⟨ab,ao,hA,hAb,hcell⟩:=hRr.at_ (by omega)
   subst hA
   obtain⟨c0,c1,c2,c3,c4⟩:=side_at hRr hs
   clear hRr hcell hAb
   have hsm:=List.mem_of_getElem? hs
   have HSO:Hid s.Ok:=Lib.hid (HO.out s hsm)
   have hP:Pt (dist s a) (dist s b) 0 0 0:=.inr (.inr (.inr ⟨(HZ.out s hsm).1,(HZ.out s hsm).2,rfl,rfl,rfl⟩))
   have HP:=Lib.hid hP
   clear hs hsm hP
   obtain⟨a0,a1,a2,a3,a4,a5,a6,a7⟩:=cells8 HT.out.1
   obtain⟨b0,b1,b2,b3,b4,b5,b6,b7⟩:=cells8 HT.out.2.1
   have hsz:w.heap.size+1+1+1+1+1<wr.heap.size:=HT.out.2.2.2.2.2.1.lt
   have hz1:w.heap.size<wr.heap.size:=by omega
   have hz2:w.heap.size+1<wr.heap.size:=by omega
   go_upto_region 5 with fail
   go_wp2_with fail
   refine(part_of s a b _ HSO.out HA.out HB.out 0 0 0 HP.out).mono ?_
   rintro e w1 ⟨rfl,hE⟩
   obtain⟨x,rfl⟩:=Later.mk' hE
   clear hE
   have HT2:=Lib.hid ((((HT.out.alloc (.cells s.row.toArray 38)).later x).alloc (.cells (cutR (0,0)) 231)))
   clear hsz hz1 hz2 c0 c1 c2 c3 c4 a0 a1 a2 a3 a4 a5 a6 a7 b0 b1 b2 b3 b4 b5 b6 b7
   obtain⟨f0,f1,f2,f3⟩:=cells2 HT2.out.2.2.2.2.1
   obtain⟨g0,g1,g2,g3⟩:=cells2 HT2.out.2.2.2.2.2.1
   go_wp2_with fail
   go_roundg (n-(j+1))
   case measure=>omega
   case rel=>exact⟨j+1,by omega,rfl,by go_num,HT2.out⟩
  ·obtain rfl:j=n:=by omega
   obtain⟨a0,a1,a2,a3,a4,a5,a6,a7⟩:=cells8 HT.out.1
   obtain⟨b0,b1,b2,b3,b4,b5,b6,b7⟩:=cells8 HT.out.2.1
   have KA:=HT.out.1
   have KB:=HT.out.2.1
   have hz:=HT.out.2.2.2.2.2.1.lt
   go_upto_region 19 with fail
   go_cut [17,18]from 79 to 80 (fun p q wx=> ∃P Q:Nat,p=.pointer (some ⟨P,0,none⟩)∧q=.pointer (some ⟨Q,0,none⟩)∧TrimE a b a b (0,0) (0,0) w wx P Q)
   case first=>
    go_region_held3 (fun w'=>w'.cell? ⟨w.heap.size,0,none⟩=some (.int .i64 a.x)∧w'.cell? ⟨w.heap.size,1,none⟩=some (.int .i64 a.y)∧w'.cell? ⟨w.heap.size,2,none⟩=some (.int .i64 a.z)∧w'.cell? ⟨w.heap.size,3,none⟩=some (.int .i64 a.w)∧w'.cell? ⟨w.heap.size,4,none⟩=some (.int .i64 a.c0)∧w'.cell? ⟨w.heap.size,5,none⟩=some (.int .i64 a.c1)∧w'.cell? ⟨w.heap.size,6,none⟩=some (.int .i64 a.c2)∧w'.cell? ⟨w.heap.size,7,none⟩=some (.int .i64 a.c3)∧w'.cell? ⟨w.heap.size+1,0,none⟩=some (.int .i64 b.x)∧w'.cell? ⟨w.heap.size+1,1,none⟩=some (.int .i64 b.y)∧w'.cell? ⟨w.heap.size+1,2,none⟩=some (.int .i64 b.z)∧w'.cell? ⟨w.heap.size+1,3,none⟩=some (.int .i64 b.w)∧w'.cell? ⟨w.heap.size+1,4,none⟩=some (.int .i64 b.c0)∧w'.cell? ⟨w.heap.size+1,5,none⟩=some (.int .i64 b.c1)∧w'.cell? ⟨w.heap.size+1,6,none⟩=some (.int .i64 b.c2)∧w'.cell? ⟨w.heap.size+1,7,none⟩=some (.int .i64 b.c3)) ((refine vcells (t:=149) ?_ ?_ <;>(repeat(first|with_reducible assumption|with_reducible refine Blk.alloc ?_ _|with_reducible refine Blk.drew ?_|with_reducible refine Blk.far ?_ ?_ _|(dsimp only;omega))))) (fail)
    all_goals
     go_wp2_with fail
     go_meet
     refine⟨_,_,rfl,rfl,by omega,by omega,by omega,?_,?_,((HT.out.alloc _).alloc _).drew⟩
     all_goals(repeat(first|with_reducible refine Blk.drew ?_|(with_reducible refine Blk.new' _ _ _ ?_;(simp;done))|with_reducible refine Blk.alloc ?_ _))
   case rest=>
    clear HT KA KB hz a0 a1 a2 a3 a4 a5 a6 a7 b0 b1 b2 b3 b4 b5 b6 b7
    obtain⟨P,Q,rfl,rfl,hTE⟩:=hcut
    have HTE:=Lib.hid hTE;clear hTE
    obtain⟨f0,f1,f2,f3⟩:=cells2 HTE.out.2.2.2.2.2.2.2.2.2.1
    obtain⟨g0,g1,g2,g3⟩:=cells2 HTE.out.2.2.2.2.2.2.2.2.2.2.1
    have KP:=HTE.out.2.2.2.1
    have KQ:=HTE.out.2.2.2.2.1
    have hP:=HTE.out.1
    have hQ:=HTE.out.2.1
    obtain⟨q0,q1,q2,q3,q4,q5,q6,q7⟩:=cells8 HTE.out.2.2.2.2.2.2.2.1
    obtain⟨r0,r1,r2,r3,r4,r5,r6,r7⟩:=frees8 HTE.out.2.2.2.2.2.2.2.1
    obtain⟨s0,s1,s2,s3,s4,s5,s6,s7⟩:=cells8 HTE.out.2.2.2.2.2.2.2.2.1
    obtain⟨t0,t1,t2,t3,t4,t5,t6,t7⟩:=frees8 HTE.out.2.2.2.2.2.2.2.2.1
    go_upto_region 24 with fail
    clear f0 f1 f2 f3 g0 g1 g2 g3
    go_region_held3 (fun w'=>w'.cell? ⟨P,0,none⟩=some (.int .i64 a.x)∧w'.cell? ⟨P,1,none⟩=some (.int .i64 a.y)∧w'.cell? ⟨P,2,none⟩=some (.int .i64 a.z)∧w'.cell? ⟨P,3,none⟩=some (.int .i64 a.w)∧w'.cell? ⟨P,4,none⟩=some (.int .i64 a.c0)∧w'.cell? ⟨P,5,none⟩=some (.int .i64 a.c1)∧w'.cell? ⟨P,6,none⟩=some (.int .i64 a.c2)∧w'.cell? ⟨P,7,none⟩=some (.int .i64 a.c3)∧w'.cell? ⟨Q,0,none⟩=some (.int .i64 b.x)∧w'.cell? ⟨Q,1,none⟩=some (.int .i64 b.y)∧w'.cell? ⟨Q,2,none⟩=some (.int .i64 b.z)∧w'.cell? ⟨Q,3,none⟩=some (.int .i64 b.w)∧w'.cell? ⟨Q,4,none⟩=some (.int .i64 b.c0)∧w'.cell? ⟨Q,5,none⟩=some (.int .i64 b.c1)∧w'.cell? ⟨Q,6,none⟩=some (.int .i64 b.c2)∧w'.cell? ⟨Q,7,none⟩=some (.int .i64 b.c3)) ((refine vcells (t:=149) ?_ ?_ <;>(repeat(first|with_reducible assumption|with_reducible refine Blk.alloc ?_ _|with_reducible refine Blk.drew ?_|with_reducible refine Blk.far ?_ ?_ _|(dsimp only;omega))))) (fail)
    clear q0 q1 q2 q3 q4 q5 q6 q7 r0 r1 r2 r3 r4 r5 r6 r7 s0 s1 s2 s3 s4 s5 s6 s7 t0 t1 t2 t3 t4 t5 t6 t7
    go_wp2_with fail
    obtain⟨R1,R2⟩:=both8 (HTE.out.2.2.2.2.2.2.2.1) (HTE.out.2.2.2.2.2.2.2.2.1) (by omega) a b
    obtain⟨q0,q1,q2,q3,q4,q5,q6,q7⟩:=cells8 R1
    obtain⟨s0,s1,s2,s3,s4,s5,s6,s7⟩:=cells8 R2
    refine bodyPost_ret (v:=.tuple #[a.v,b.v,.bool true]) (by simp[results,Tryz.results88,q0,q1,q2,q3,q4,q5,q6,q7,s0,s1,s2,s3,s4,s5,s6,s7,go_sem]) rfl ⟨rfl,?_⟩
    exact(put8_ext (put8_ext HTE.out.2.2.2.2.2.2.2.2.2.2.2 (by omega) _) (by omega) _).drew
end Go.Proofs.YtplljnfjkkloeaaGreatDoor
set_option linter.unusedVariables false
set_option linter.unusedSimpArgs false
namespace Go.Proofs.YtplljnfjkkloeaaGreatDoor
attribute [local go_sem] Go.Oper.semAt_some
open Go.RowKit
def Ps.ds (s:Ps) (p:Hp) (l:Sl) (r:Rc) (A:Option Addr) (c:Nat) (d:Da) (out:Value) (whole:Bool):Array Value:= #[.int .i64 s.err,.int .i64 s.W,.int .i64 s.H,.slice l.c p.C.length l.cc,.slice l.z p.Z.length l.cz,.int .i64 s.f0,.int .i64 s.f1,.int .i64 s.f2,.int .i64 s.f3,.int .i64 s.far,.int .i64 s.port.x0,.int .i64 s.port.y0,.int .i64 s.port.x1,.int .i64 s.port.y1,.int .i64 s.mm,.slice l.a 1 l.ca,.slice l.b 1 l.cb,.int .i64 s.s0.k,.int .i64 s.s0.p0,.int .i64 s.s0.p1,.int .i64 s.s0.p2,.int .i64 s.s0.p3,.int .i64 s.s1.k,.int .i64 s.s1.p0,.int .i64 s.s1.p1,.int .i64 s.s1.p2,.int .i64 s.s1.p3,.int .i64 s.s2.k,.int .i64 s.s2.p0,.int .i64 s.s2.p1,.int .i64 s.s2.p2,.int .i64 s.s2.p3,.int .i64 s.s3.k,.int .i64 s.s3.p0,.int .i64 s.s3.p1,.int .i64 s.s3.p2,.int .i64 s.s3.p3,.int .i64 s.s4.k,.int .i64 s.s4.p0,.int .i64 s.s4.p1,.int .i64 s.s4.p2,.int .i64 s.s4.p3,.int .i64 s.s5.k,.int .i64 s.s5.p0,.int .i64 s.s5.p1,.int .i64 s.s5.p2,.int .i64 s.s5.p3,.bool s.o0,.bool s.o1,.bool s.o2,.bool s.o3,.bool s.o4,.bool s.o5,.int .i64 s.c0,.int .i64 s.c1,.int .i64 s.c2,.int .i64 s.c3,.bool s.flag,.bool s.op,.int .i64 s.mode,.slice l.v p.V.length l.cv,.slice l.f p.F.length l.cf,.int .i64 s.width,.bool s.soft,.bool s.dashed,.int .i64 s.dash.bits,.int .i64 s.dash.every,.int .i64 s.dash.done,.int .i64 s.size,.int .i64 s.kind,.int .i64 s.front,.int .i64 s.back,.bool s.ccw,.int .i64 s.cull,.bool s.offset,.int .i64 s.factor,.int .i64 s.units,.bool s.flat,.bool s.first,.bool s.cut,.int .i64 s.box.x0,.int .i64 s.box.y0,.int .i64 s.box.x1,.int .i64 s.box.y1,.bool s.deep,.int .i64 s.func,.bool s.keep,.bool s.mix,.int .i64 s.sf,.int .i64 s.df,.bool s.k0,.bool s.k1,.bool s.k2,.bool s.k3,.int .i64 r.x0,.int .i64 r.y0,.int .i64 r.x1,.int .i64 r.y1,.slice A 3 c,.int .i64 d.bits,.int .i64 d.every,.int .i64 d.done,out,.bool whole]
def Vx.Inside (v:Vx):Prop:=1≤v.w∧0≤v.z+v.w∧0≤v.w-v.z
theorem Vx.Seen.fit {v:Vx} (h:v.Seen):v.Fit:=by
 obtain⟨⟨w0,w1⟩,⟨x0,x1⟩,⟨y0,y1⟩,⟨z0,z1⟩,⟨c00,c01⟩,⟨c10,c11⟩,⟨c20,c21⟩,⟨c30,c31⟩⟩:=h
 refine⟨four_cases ⟨?_,?_,?_,?_⟩,four_cases ⟨⟨c00,c01⟩,⟨c10,c11⟩,⟨c20,c21⟩,⟨c30,c31⟩⟩⟩ <;>(unfold inMost;simp only[Vx.e];omega)
theorem base3_ok: ∀s∈base3 3,s.Ok:=by
 intro s hs
 simp only[base3,List.mem_cons,List.not_mem_nil,or_false]at hs
 rcases hs with rfl|rfl|rfl
 ·exact .inr ⟨by simp,by simp,four_cases ⟨rfl,rfl,rfl,rfl⟩⟩
 ·exact .inr ⟨by simp,by simp,four_cases ⟨rfl,rfl,rfl,rfl⟩⟩
 ·exact .inr ⟨by simp,by simp,four_cases ⟨rfl,rfl,rfl,rfl⟩⟩
theorem trim_in (a b:Vx) (A:Option Addr) (c:Nat) (w:World) (hr:Rd w 5 A 3 c (srow (base3 3))) (ha:a.Seen) (hb:b.Seen) (ia:a.Inside) (ib:b.Inside):
  Calls Tryz.prog 88 #[a.v,b.v,.slice A 3 c] w fun e w'=>e=.returned (.tuple #[a.v,b.v,.bool true])∧Ext w w':=by
 refine trim_zero (base3 3) a b A 3 c w hr rfl base3_ok ha.fit hb.fit (fun s hs=>?_)
 unfold Vx.Inside at ia ib
 simp only[base3,List.mem_cons,List.not_mem_nil,or_false]at hs
 rcases hs with rfl|rfl|rfl <;>simp[dist] <;>omega
theorem Blk.cast {w:World} {g:Nat} {t:TypeId} {cs cs':Array Value} (h:Blk w g t cs) (e:cs=cs'):Blk w g t cs':=e▸h
end Go.Proofs.YtplljnfjkkloeaaGreatDoor
set_option linter.unusedVariables false
set_option linter.unusedSimpArgs false
namespace Go.Proofs.YtplljnfjkkloeaaGreatDoor
open Go.RowKit
structure RF (W:World) (ks:List (Nat×Nat)) (V:Nat→Value) (bs:List (Nat×Nat×Nat)) (T:Nat→TypeId) (Z R:Nat→Array Value) (st:Nat→Bool) (u:Nat→Value) (x:World):Prop where
 ext:Ext W x
 val: ∀q∈ks,st q.1=true→u q.2=V q.2
 box: ∀b∈bs,st b.1=true→ ∃P,u b.2.1=.pointer (some ⟨P,0,none⟩)∧W.heap.size≤P∧Blk x P (T b.2.1) (if st b.2.2=true then R b.2.1 else Z b.2.1)
 ne: ∀b∈bs,∀c∈bs,b.1≠c.1→st b.1=true→st c.1=true→u b.2.1≠u c.2.1
section
variable {W x y:World} {ks:List (Nat×Nat)} {V:Nat→Value} {bs:List (Nat×Nat×Nat)} {T:Nat→TypeId} {Z R:Nat→Array Value} {st:Nat→Bool} {u:Nat→Value}
theorem RF.begin (e:Ext W x):RF W ks V bs T Z R (fun _=>false) u x:=
 ⟨e,fun _ _ h=>by simp at h,fun _ _ h=>by simp at h,fun _ _ _ _ _ h=>by simp at h⟩
theorem ups_ne {i j:Nat} (h:j≠i):ups st i j=st j:=by simp[ups,h]
theorem ups_eq (i:Nat):ups st i i=true:=by simp[ups]
theorem upu_ne {d t:Nat} {v:Value} (h:t≠d):upu u d v t=u t:=by simp[upu,h]
theorem upu_eq (d:Nat) (v:Value):upu u d v d=v:=by simp[upu]
theorem RF.call (h:RF W ks V bs T Z R st u x) (e:Ext x y) (i d:Nat) (hk: ∀q∈ks,(q.2=d↔q.1=i)) (hb: ∀b∈bs,b.1≠i∧b.2.1≠d∧b.2.2≠i) {v:Value} (hv:v=V d):RF W ks V bs T Z R (ups st i) (upu u d v) y:=by
 subst hv
 refine⟨h.ext.trans e,fun q hq hs=>?_,fun b hm hs=>?_,fun b hm c hc hne hs ht=>?_⟩
 ·by_cases hi:q.1=i
  ·rw[(hk q hq).2 hi,upu_eq]
  ·rw[upu_ne (fun hd=>hi ((hk q hq).1 hd))]
   rw[ups_ne hi]at hs
   exact h.val q hq hs
 ·obtain⟨b1,b2,b3⟩:=hb b hm
  rw[ups_ne b1]at hs
  rw[upu_ne b2,ups_ne b3]
  obtain⟨P,p1,p2,p3⟩:=h.box b hm hs
  exact⟨P,p1,p2,p3.ext e⟩
 ·obtain⟨b1,b2,b3⟩:=hb b hm
  obtain⟨c1,c2,c3⟩:=hb c hc
  rw[ups_ne b1]at hs
  rw[ups_ne c1]at ht
  rw[upu_ne b2,upu_ne c2]
  exact h.ne b hm c hc hne hs ht
theorem RF.alloc (h:RF W ks V bs T Z R st u x) (i d j:Nat) (hk: ∀q∈ks,q.1≠i∧q.2≠d) (hb: ∀b∈bs,(b.1=i→b=(i,d,j))∧(b.2.1=d→b=(i,d,j))∧b.2.2≠i) (hj:st j=false) {t:TypeId} {z:Array Value} (ht:t=T d) (hz:z=Z d):
  RF W ks V bs T Z R (ups st i) (upu u d (.pointer (some ⟨x.heap.size,0,none⟩))) (x.alloc (.cells z t)):=by
 subst ht;subst hz
 refine⟨h.ext.alloc _,fun q hq hs=>?_,fun b hm hs=>?_,fun b hm c hc hne hs ht=>?_⟩
 ·obtain⟨q1,q2⟩:=hk q hq
  rw[ups_ne q1]at hs
  rw[upu_ne q2]
  exact h.val q hq hs
 ·obtain⟨b1,b2,b3⟩:=hb b hm
  by_cases hi:b.1=i
  ·obtain rfl:=b1 hi
   refine⟨x.heap.size,upu_eq _ _,h.ext.size,?_⟩
   rw[ups_ne b3,hj]
   exact Blk.new x _ _
  ·rw[ups_ne hi]at hs
   rw[upu_ne (fun hd=>hi (by rw[b2 hd])),ups_ne b3]
   obtain⟨P,p1,p2,p3⟩:=h.box b hm hs
   exact⟨P,p1,p2,p3.alloc _⟩
 ·obtain⟨b1,b2,b3⟩:=hb b hm
  obtain⟨c1,c2,c3⟩:=hb c hc
  by_cases hi:b.1=i
  ·have hci:c.1≠i:=fun hh=>hne (hi.trans hh.symm)
   obtain rfl:=b1 hi
   rw[ups_ne hci]at ht
   rw[upu_eq,upu_ne (fun hd=>hci (by rw[c2 hd]))]
   obtain⟨P,p1,p2,p3⟩:=h.box c hc ht
   rw[p1]
   intro he
   have:=p3.lt
   simp only[Value.pointer.injEq,Option.some.injEq,Addr.mk.injEq]at he
   omega
  ·by_cases hci:c.1=i
   ·obtain rfl:=c1 hci
    rw[ups_ne hi]at hs
    rw[upu_eq,upu_ne (fun hd=>hi (by rw[b2 hd]))]
    obtain⟨P,p1,p2,p3⟩:=h.box b hm hs
    rw[p1]
    intro he
    have:=p3.lt
    simp only[Value.pointer.injEq,Option.some.injEq,Addr.mk.injEq]at he
    omega
   ·rw[ups_ne hi]at hs
    rw[ups_ne hci]at ht
    rw[upu_ne (fun hd=>hi (by rw[b2 hd])),upu_ne (fun hd=>hci (by rw[c2 hd]))]
    exact h.ne b hm c hc hne hs ht
theorem RF.store (h:RF W ks V bs T Z R st u x) (i d j:Nat) (hm:(i,d,j)∈bs) (hk: ∀q∈ks,q.1≠j) (hb: ∀b∈bs,b.1≠j∧(b.2.2=j→b=(i,d,j))∧(b.1=i→b=(i,d,j))) (hi:st i=true) {P:Nat} (hu:u d=.pointer (some ⟨P,0,none⟩)) (hP:Blk y P (T d) (R d)) (k:Kp (·≠P) x y):RF W ks V bs T Z R (ups st j) u y:=by
 obtain⟨P',p1,p2, -⟩:=h.box _ hm hi
 have hPP:P=P':=by
  rw[hu]at p1
  simp only[Value.pointer.injEq,Option.some.injEq,Addr.mk.injEq]at p1
  exact p1.1
 subst hPP
 refine⟨k.ext h.ext (fun q hq=>by omega),fun q hq hs=>?_,fun b hb' hs=>?_,fun b hb' c hc hne hs ht=>?_⟩
 ·rw[ups_ne (hk q hq)]at hs
  exact h.val q hq hs
 ·obtain⟨b1,b2,b3⟩:=hb b hb'
  rw[ups_ne b1]at hs
  by_cases hj:b.2.2=j
  ·obtain rfl:=b2 hj
   rw[ups_eq]
   exact⟨P,hu,p2,hP⟩
  ·rw[ups_ne hj]
   obtain⟨Q,q1,q2,q3⟩:=h.box b hb' hs
   refine⟨Q,q1,q2,q3.kp k ?_⟩
   intro hQ
   have hbi:b.1≠i:=fun hh=>hj (by rw[b3 hh])
   refine h.ne b hb' (i,d,j) hm hbi hs hi ?_
   rw[q1]
   show _=u d
   rw[hu,hQ]
 ·obtain⟨b1,_,_⟩:=hb b hb'
  obtain⟨c1,_,_⟩:=hb c hc
  rw[ups_ne b1]at hs
  rw[ups_ne c1]at ht
  exact h.ne b hb' c hc hne hs ht
theorem st_no {i j:Nat} (h:st j=true→st i=true) (hi:st i=false):st j=false:=by
 cases hj:st j with
 |false=>rfl
 |true=>rw[h hj]at hi;cases hi
end
theorem wp_store_blk {P:Program} {Q:Exit→Act→World→Prop} {w:World} {g:Nat} {e:TypeId} {cs:Array Value} {o:Oper} {a:Act} {K:Act→World→Prop} (x y:Operand) (t:TypeId) (ho:o.op=.store t x y) (hx:a.eval x=.pointer (some ⟨g,0,none⟩)) (v:Value) (hy:a.eval y=v)
  (h:Blk w g e cs)(hs:(P.info? t).map (·.size)=some v.cells.size)(h1: ∀u∈v.cells.toList,u.oneCell'=true)(hfit:v.cells.size=cs.size)
  (hK: ∀w',Blk w' g e v.cells→Kp (·≠g) w w'→K (a.put o.dst undef) w'):o.wp P a w K Q:=by
 have hso:=run_store_blk (P:=P) h t 0 v hs h1 (by omega)
 unfold Oper.wp execOp
 simp only[ho,hx,hy,Instr.storeAt,Instr.sureAddr,Sem.run_bind,Sem.run_pure,Result.andThen_ok,hso]
 refine hK _ ?_ (Kp.setRow _ (fun hf=>hf rfl))
 rw[spl_all _ _ hfit]
 exact h.row
end Go.Proofs.YtplljnfjkkloeaaGreatDoor
