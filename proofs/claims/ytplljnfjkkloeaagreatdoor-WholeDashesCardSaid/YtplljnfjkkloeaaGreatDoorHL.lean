/- Proof text: primitives of two vertices (build.plans, Count, sides, Prims in the modes 1 and 2). By an AI agent. No condition beyond what each theorem states. -/
import Derived.Test.YtplljnfjkkloeaaGreatDoorRK
import Derived.Test.YtplljnfjkkloeaaGreatDoorSL
set_option linter.unusedVariables false
set_option linter.unusedSimpArgs false
set_option maxHeartbeats 16000000
namespace Go.Proofs.YtplljnfjkkloeaaGreatDoor
attribute [local go_sem] Go.Oper.semAt_some
open Go.RowKit
def lstep (mode:Nat):Nat:=if mode=1 then 2 else 1
def PlanP (mode:Nat) (w:World) (e:Ending) (w':World):Prop:=
 ∃V:Nat,e=.returned (.agg #[.int .i64 (lstep mode:Int),.slice (some ⟨V,0,none⟩) 2 2,.slice none 0 0,.int .i64 0,.int .i64 1,.bool false,.bool false])∧Blk w' V 3 #[.int .i64 0,.int .i64 1]∧Ext w w'
set_option maxRecDepth 100000 in
theorem plans_one (w:World):Calls Tryz.prog 59 #[.int .i64 1] w (PlanP 1 w):=by
 go_enter Tryz.func59,Tryz.ntmps59
 go_wp2_with fail
 refine bodyPost_ret (v:=.agg #[.int .i64 2,.slice (some ⟨w.heap.size+1+1,0,none⟩) 2 2,.slice none 0 0,.int .i64 0,.int .i64 1,.bool false,.bool false]) (by simp[results,Tryz.results59,go_sem]) rfl ⟨w.heap.size+1+1,rfl,?_,?_⟩
 ·(repeat(first|with_reducible exact Hid.out (by assumption)|(with_reducible refine Blk.new' _ _ _ ?_;(simp;done))|with_reducible(first|refine Blk.alloc ?_ _|refine Blk.drew ?_|refine Blk.drewN ?_ _|refine Blk.later ?_ _)|(with_reducible refine Blk.far ?_ ?hp _;case hp=>first|(simp;done)|(simp;omega)|omega)))
 ·(repeat(first|with_reducible(first|exact eR_ _|assumption|refine eA_ ?_ _|refine eD_ ?_|refine eN_ ?_ _|refine eL_ ?_ _)|(with_reducible refine eS_ ?_ _ ?hp;case hp=>first|(simp;done)|(simp;omega)|omega)))
set_option maxRecDepth 100000 in
theorem plans_two (w:World):Calls Tryz.prog 59 #[.int .i64 2] w (PlanP 2 w):=by
 go_enter Tryz.func59,Tryz.ntmps59
 go_wp2_with fail
 refine bodyPost_ret (v:=.agg #[.int .i64 1,.slice (some ⟨w.heap.size+1+1+1,0,none⟩) 2 2,.slice none 0 0,.int .i64 0,.int .i64 1,.bool false,.bool false]) (by simp[results,Tryz.results59,go_sem]) rfl ⟨w.heap.size+1+1+1,rfl,?_,?_⟩
 ·(repeat(first|with_reducible exact Hid.out (by assumption)|(with_reducible refine Blk.new' _ _ _ ?_;(simp;done))|with_reducible(first|refine Blk.alloc ?_ _|refine Blk.drew ?_|refine Blk.drewN ?_ _|refine Blk.later ?_ _)|(with_reducible refine Blk.far ?_ ?hp _;case hp=>first|(simp;done)|(simp;omega)|omega)))
 ·(repeat(first|with_reducible(first|exact eR_ _|assumption|refine eA_ ?_ _|refine eD_ ?_|refine eN_ ?_ _|refine eL_ ?_ _)|(with_reducible refine eS_ ?_ _ ?hp;case hp=>first|(simp;done)|(simp;omega)|omega)))
end Go.Proofs.YtplljnfjkkloeaaGreatDoor
set_option linter.unusedVariables false
set_option linter.unusedSimpArgs false
namespace Go.Proofs.YtplljnfjkkloeaaGreatDoor
attribute [local go_sem] Go.Oper.semAt_some
open Go.RowKit
def lcnt (mode n:Nat):Nat:=(n-2)/lstep mode+1
theorem tdiv_two (n:Nat) (h:2≤n):((n:Int)-2).tdiv 2+1=(lcnt 1 n:Nat):=by
 have:((n:Int)-2)=((n-2:Nat):Int):=by omega
 rw[this,Int.tdiv_eq_ediv_of_nonneg (by omega)]
 simp[lcnt,lstep]
theorem tdiv_one (n:Nat) (h:2≤n):((n:Int)-2).tdiv 1+1=(lcnt 2 n:Nat):=by
 have:((n:Int)-2)=((n-2:Nat):Int):=by omega
 rw[this,Int.tdiv_eq_ediv_of_nonneg (by omega)]
 simp[lcnt,lstep]
theorem lcnt_le (mode n:Nat) (h:2≤n):lcnt mode n≤n-1:=by
 unfold lcnt
 have:=Nat.div_le_self (n-2) (lstep mode)
 omega
theorem wrap_cnt (m n:Nat) (h:2≤n) (h2:n≤256) (hm:m=1∨m=2):wrap64 (wrap64 (((n:Int)-2).tdiv ((lstep m:Nat):Int))+1)=(lcnt m n:Nat):=by
 have hl:=lcnt_le m n h
 have e:((n:Int)-2).tdiv ((lstep m:Nat):Int)+1=(lcnt m n:Nat):=by
  rcases hm with rfl|rfl
  ·exact tdiv_two n h
  ·exact tdiv_one n h
 have hlo:0≤((n:Int)-2).tdiv ((lstep m:Nat):Int):=Int.tdiv_nonneg (by omega) (by omega)
 generalize((n:Int)-2).tdiv ((lstep m:Nat):Int)=q at*
 unfold wrap64
 omega
set_option maxRecDepth 100000 in
theorem count_one (n:Nat) (w:World) (h2:2≤n) (h3:n≤256):Calls Tryz.prog 60 #[.int .i64 1,.int .i64 n] w fun e w'=>e=.returned (.int .i64 (lcnt 1 n:Nat))∧Ext w w':=by
 have HQ:=Lib.hid (wrap_cnt 1 n h2 h3 (by omega))
 have b0:decide ((n:Int)<1)=false:=by simp;omega
 have b1:decide ((256:Int)<n)=false:=by simp;omega
 have b2:decide ((n:Int)<2)=false:=by simp;omega
 go_enter Tryz.func60,Tryz.ntmps60
 go_wp2_with (go_at_call 59;refine(plans_one _).mono ?_;rintro e w1 ⟨V,rfl,hB,hE⟩;obtain⟨y1,rfl⟩:=Later.mk' hE;clear hE)
 go_ret
 exact⟨congrArg (fun z=>Ending.returned (.int .i64 z)) HQ.out,by(repeat(first|with_reducible(first|exact eR_ _|assumption|refine eA_ ?_ _|refine eD_ ?_|refine eN_ ?_ _|refine eL_ ?_ _)|(with_reducible refine eS_ ?_ _ ?hp;case hp=>first|(simp;done)|(simp;omega)|omega)))⟩
set_option maxRecDepth 100000 in
theorem count_two (n:Nat) (w:World) (h2:2≤n) (h3:n≤256):Calls Tryz.prog 60 #[.int .i64 2,.int .i64 n] w fun e w'=>e=.returned (.int .i64 (lcnt 2 n:Nat))∧Ext w w':=by
 have HQ:=Lib.hid (wrap_cnt 2 n h2 h3 (by omega))
 have b0:decide ((n:Int)<1)=false:=by simp;omega
 have b1:decide ((256:Int)<n)=false:=by simp;omega
 have b2:decide ((n:Int)<2)=false:=by simp;omega
 go_enter Tryz.func60,Tryz.ntmps60
 go_wp2_with (go_at_call 59;refine(plans_two _).mono ?_;rintro e w1 ⟨V,rfl,hB,hE⟩;obtain⟨y1,rfl⟩:=Later.mk' hE;clear hE)
 go_ret
 exact⟨congrArg (fun z=>Ending.returned (.int .i64 z)) HQ.out,by(repeat(first|with_reducible(first|exact eR_ _|assumption|refine eA_ ?_ _|refine eD_ ?_|refine eN_ ?_ _|refine eL_ ?_ _)|(with_reducible refine eS_ ?_ _ ?hp;case hp=>first|(simp;done)|(simp;omega)|omega)))⟩
set_option maxRecDepth 100000 in
theorem sides_two (a b:Option Addr) (n m c m':Nat) (f:Bool) (w:World) (h:n<3):Calls Tryz.prog 61 #[.slice a n c,.slice b m m',.bool f] w fun e w'=>e=.returned (.slice none 0 0)∧w'=w:=by
 have b0:decide ((n:Int)<3)=true:=by simp;omega
 go_enter Tryz.func61,Tryz.ntmps61
 go_wp2_with fail
 go_ret
 exact⟨rfl,rfl⟩
end Go.Proofs.YtplljnfjkkloeaaGreatDoor
set_option linter.unusedVariables false
set_option linter.unusedSimpArgs false
namespace Go.Proofs.YtplljnfjkkloeaaGreatDoor
attribute [local go_sem] Go.Oper.semAt_some
open Go.RowKit
structure RdB (w:World) (t:TypeId) (size:Nat) (a:Option Addr) (n cap:Nat) (xs:List Value):Prop where
 rd:Rd w size a n cap xs
 bk:0<n→ ∀ad,a=some ad→ ∃cur,Blk w ad.block t cur
theorem RdB.ext {w w':World} {t:TypeId} {size:Nat} {a:Option Addr} {n cap:Nat} {xs:List Value} (h:RdB w t size a n cap xs) (e:Ext w w'):RdB w' t size a n cap xs:=
 ⟨h.rd.ext e,fun hn ad ha=>let⟨cur,hb⟩:=h.bk hn ad ha;⟨cur,hb.ext e⟩⟩
theorem RdB.keep {w w':World} {t:TypeId} {size:Nat} {a:Option Addr} {n cap:Nat} {xs:List Value} (h:RdB w t size a n cap xs) (k: ∀g cs,Blk w g t cs→Blk w' g t cs):RdB w' t size a n cap xs:=by
 refine⟨⟨h.rd.len,h.rd.le,h.rd.mx,fun h0=>?_⟩,fun hn ad ha=>let⟨cur,hb⟩:=h.bk hn ad ha;⟨cur,k _ _ hb⟩⟩
 obtain⟨b,off,ha,hb,hc⟩:=h.rd.at_ h0
 obtain⟨cur,hB⟩:=h.bk h0 _ ha
 have hB':=k _ _ hB
 exact⟨b,off,ha,hB'.lt,fun j hj=>(World.cell?_of_block (w:=w) (a:=⟨b,off+j,none⟩) (hB'.trans hB.symm)).trans (hc j hj)⟩
theorem ownsRow_rdB {w:World} {base:Nat} {e:TypeId} {size:Nat} {v:Value} {n:Nat} {xs:List Value} (h:w.ownsRow base e size v n xs): ∃a cap,v=.slice a n cap∧RdB w e size a n cap xs:=by
 obtain⟨a,cap,rfl,hr⟩:=ownsRow_rd h
 refine⟨a,cap,rfl,hr,fun hn ad ha=>?_⟩
 subst ha
 exact ownsRow_block h (g:=ad.block) (by simp[Value.ownBlock])
def ListPostB (l:List Sd) (w:World) (e:Ending) (w':World):Prop:= ∃a c,e=.returned (.tuple #[.slice a (3+l.length) c,.int .i64 0])∧RdB w' 38 5 a (3+l.length) c (srow (base3 3++l))∧Ext w w'
def SidesB (w:World) (e:Ending) (w':World):Prop:= ∃a c,e=.returned (.slice a 3 c)∧RdB w' 38 5 a 3 c (srow (base3 3))∧Ext w w'
set_option maxRecDepth 100000 in
theorem list_yesB (l:List Sd) (a:Option Addr) (n cap:Nat) (w:World) (hr:Rd w 5 a n cap (srow l)) (hl:l.length=n) (hn:n<7) (hok: ∀s∈l,s.k=3∧s.Ok):
  Calls Tryz.prog 57 #[.slice a n cap] w (ListPostB l w):=by
 obtain⟨cur,hmk⟩:=make_sides n hn
 have HR:=Lib.hid hr;clear hr
 have HL:=Lib.hid hl;clear hl
 have HO:=Lib.hid hok;clear hok
 have m1:=fun W=>(hmk W).1
 have M2:=Lib.hid (fun W=>(hmk W).2)
 clear hmk
 have d0:decide ((n:Int)>6)=false:=by simp;omega
 go_enter Tryz.func57,Tryz.ntmps57
 go_wp2_with fail
 have ho:=M2.out w
 clear m1 M2
 go_loopw [5,15] (fun _ i wr=> ∃k:Nat,k≤3∧i=.int .i64 k∧wr.ownsRow w.heap.size 38 5 (.slice (some ⟨w.heap.size,0,none⟩) 3 (3+n)) 3 (srow (base3 k))∧Ext w wr) (fun _ i _=>3-(intOf i).toNat)
 case atStart=>exact⟨0,by omega,rfl,ho,by(repeat(first|with_reducible(first|exact eR_ _|assumption|refine eA_ ?_ _|refine eD_ ?_|refine eN_ ?_ _|refine eL_ ?_ _)|(with_reducible refine eS_ ?_ _ ?hp;case hp=>first|(simp;done)|(simp;omega)|omega)))⟩
 case round=>
  obtain⟨k,hk,rfl,ho,hE⟩:=hrel
  by_cases hlt:k<3
  ·go_wp2_with (refine wpList_store_own rfl (.tmp 22) (.tmp 20) 3 rfl w.heap.size 38 5 w.heap.size 3 (3+n) (srow (base3 k)) (k*5) rfl (.int .i64 k) rfl ho size3 ?c1 ?c2 ?_)
   case c1=>simp[Value.cells,Value.oneCell']
   case c2=>simp[Value.cells];omega
   intro w2 ho2 hg2
   have hE2:Ext w w2:=hE.grown hg2 (by simp)
   clear hg2 hE
   go_wp2_with fail
   go_roundw
   case rel=>exact⟨k+1,by omega,by go_num,by rw[←base_step k hlt];exact ho2,hE2⟩
   case measure=>simp[intOf];omega
  ·obtain rfl:k=3:=by omega
   go_wp2_with fail
   go_loopw [4,7,26] (fun vv _ i wr=> ∃(j:Nat) (v:Value),j≤n∧v=vv∧i=.int .i64 j∧wr.ownsRow w.heap.size 38 5 v (3+j) (srow (base3 3++l.take j))∧Ext w wr) (fun _ _ i _=>n-(intOf i).toNat)
   case atStart=>exact⟨0,_,by omega,rfl,rfl,by simpa using ho,hE⟩
   case round=>
    clear ho hE
    obtain⟨j,v,hj,rfl,rfl,hi,hE⟩:=hrel
    by_cases hlt:j<n
    ·obtain⟨s,hs⟩: ∃s,l[j]? =some s:=⟨_,List.getElem?_eq_getElem (by rw[HL.out];exact hlt)⟩
     obtain⟨b,off,ha,hb,hcell⟩:=(HR.out.ext hE).at_ (by omega)
     subst ha
     have HR5:=(HR.out.ext hE)
     obtain⟨c0,c1,c2,c3,c4⟩:=side_at HR5 hs
     have HS:=Lib.hid hs
     have hok:=HO.out s (List.mem_of_getElem? hs)
     have d1:(s.k !=3)=false:=by simp[hok.1]
     have HK:=Lib.hid hok.2
     clear hok hcell HR5 hs
     have HO2:=Lib.hid hi;clear hi
     have HE:=Lib.hid hE;clear hE
     go_wp2_with fail
     refine(right_yes s _ HK.out).mono ?_
     rintro e w1 ⟨rfl,hE1⟩
     obtain⟨x1,rfl⟩:=Later.mk' hE1
     clear hE1
     obtain⟨k0,k1,k2,k3,k4⟩:=cells5 (s:=s) ((Blk.new wr 38 s.row.toArray).later x1)
     have ho:=ownsRow_ext HO2.out (((Ext.refl wr).alloc (.cells s.row.toArray 38)).later x1)
     have HE2:=Lib.hid ((HE.out.alloc (.cells s.row.toArray 38)).later x1)
     clear c0 c1 c2 c3 c4
     have HA1:=Lib.hid (news_at x1.w s.row 38)
     go_wp2_with (refine wpList_append_src rfl (.tmp 38) (.tmp 40) 108 rfl w.heap.size 38 _ 5 40 Tryz.underlying108 info_side rfl (by decide) v (3+j) (srow (base3 3++l.take j)) rfl (ho.alloc _) ⟨x1.w.heap.size,0,none⟩ 1 1 s.row rfl rfl ?c1 ?c2 ?c3 (by decide) ?c5 ?_)
     case c1=>simpa[Addr.add]using HA1.out
     case c2=>exact srow_one [s]
     case c3=>omega
     case c5=>have:=HE2.out.size;simp;omega
     intro v' w' ho' hg' _
     have HE3:=Lib.hid ((HE2.out.alloc (.cells s.row.toArray 38)).grown hg' (fun k hk=>by
      rcases ho.2 with⟨h0,_⟩|⟨g,cap,cur,h0,hb0,_⟩
      ·rw[h0]at hk;simp[Value.ownBlock]at hk
      ·rw[h0]at hk;simp[Value.ownBlock]at hk;omega))
     rw[srow_take HS.out]at ho'
     clear hg' ho HE HE2 HA1 HO2
     go_wp2_with fail
     go_roundw
     case rel=>(repeat apply Exists.intro);exact⟨⟨j+1,v',by omega,rfl,by go_num,by rw[←Nat.add_assoc];exact ho',HE3.out⟩,rfl⟩
     case measure=>simp[intOf];omega
    ·obtain rfl:j=n:=by omega
     obtain⟨a',c',rfl,hrd⟩:=ownsRow_rdB hi
     go_wp2_with fail
     go_ret2
     refine⟨a',c',by rw[HL.out];rfl,?_,hE⟩
     rw[HL.out]
     rw[List.take_of_length_le (by rw[HL.out];exact Nat.le_refl _)]at hrd
     exact hrd
set_option maxRecDepth 100000 in
theorem psides_cellsB (cs:Array Value) (w:World) (h0:cs[47]? =some (.bool false)) (h1:cs[48]? =some (.bool false)) (h2:cs[49]? =some (.bool false)) (h3:cs[50]? =some (.bool false)) (h4:cs[51]? =some (.bool false)) (h5:cs[52]? =some (.bool false)):
  Calls Tryz.prog 37 #[.agg cs] w (SidesB w):=by
 have HLI:=Lib.hid (fun wz=>list_yesB [] none 0 0 wz (Rd.empty _ _ _ _ (by unfold maxLen;omega)) rfl (by omega) (by simp))
 have HE0:Hid (Ext w (w.alloc (.cells cs 53))):=Lib.hid (by(repeat(first|with_reducible(first|exact eR_ _|assumption|refine eA_ ?_ _|refine eD_ ?_|refine eN_ ?_ _|refine eL_ ?_ _)|(with_reducible refine eS_ ?_ _ ?hp;case hp=>first|(simp;done)|(simp;omega)|omega))))
 have hb:=Blk.new w 53 cs
 have c0:=(hb.cell 47).trans h0
 have c1:=(hb.cell 48).trans h1
 have c2:=(hb.cell 49).trans h2
 have c3:=(hb.cell 50).trans h3
 have c4:=(hb.cell 51).trans h4
 have c5:=(hb.cell 52).trans h5
 have i0:=fun w=>(idx_b6 false false false false false false w).1
 have i1:=fun w=>(idx_b6 false false false false false false w).2.1
 have i2:=fun w=>(idx_b6 false false false false false false w).2.2.1
 have i3:=fun w=>(idx_b6 false false false false false false w).2.2.2.1
 have i4:=fun w=>(idx_b6 false false false false false false w).2.2.2.2.1
 have i5:=fun w=>(idx_b6 false false false false false false w).2.2.2.2.2
 clear h0 h1 h2 h3 h4 h5 hb
 go_enter Tryz.func37,Tryz.ntmps37
 go_upto_region 1 with fail
 generalize w.alloc (.cells cs 53)=W0 at*
 go_wp2_with fail
 refine wp_loop_rounds 7 ?_
 rw[rounds_succ]
 go_wp2_with fail
 rw[rounds_succ]
 go_wp2_with fail
 rw[rounds_succ]
 go_wp2_with fail
 rw[rounds_succ]
 go_wp2_with fail
 rw[rounds_succ]
 go_wp2_with fail
 rw[rounds_succ]
 go_wp2_with fail
 rw[rounds_succ]
 go_wp2_with fail
 refine(HLI.out _).mono ?_
 rintro e w1 ⟨a,c,rfl,hr,hE⟩
 have HR:=Lib.hid hr
 have HE:=Lib.hid (HE0.out.trans hE)
 clear hr hE
 go_wp2_with fail
 go_ret
 exact⟨a,c,rfl,by simpa using HR.out,HE.out⟩
theorem psides_B (s:Ps) (p:Hp) (l:Sl) (w:World) (h:s.bare):Calls Tryz.prog 37 #[.agg (s.cs p l)] w (SidesB w):=by
 obtain⟨h0,h1,h2,h3,h4,h5⟩:=h
 exact psides_cellsB _ w (by rw[←h0];rfl) (by rw[←h1];rfl) (by rw[←h2];rfl) (by rw[←h3];rfl) (by rw[←h4];rfl) (by rw[←h5];rfl)
end Go.Proofs.YtplljnfjkkloeaaGreatDoor
set_option linter.unusedVariables false
set_option linter.unusedSimpArgs false
namespace Go.Proofs.YtplljnfjkkloeaaGreatDoor
attribute [local go_sem] Go.Oper.semAt_some
open Go.RowKit
@[reducible] def prm (q:Nat×Int):List Value:=[.slice (some ⟨q.1,0,none⟩) 2 2,.slice none 0 0,.int .i64 q.2]
theorem make_i2 (w:World):(Instr.makeSlice 26 (.int .i64 2) (.int .i64 2)).run Tryz.prog w=.ok (.slice (some ⟨w.heap.size,0,none⟩) 2 2) (w.alloc (.cells #[.int .i64 0,.int .i64 0] 3)):=by kernel_rfl
structure Pr (w wx:World) (m k:Nat) (G V0:Nat) (out:Value) (L:List (Nat×Int)):Prop where
 e:Ext w wx
 g:Blk wx G 142 #[.int .i64 (lstep m:Int),.slice (some ⟨V0,0,none⟩) 2 2,.slice none 0 0,.int .i64 0,.int .i64 1,.bool false,.bool false]
 v:Blk wx V0 3 #[.int .i64 0,.int .i64 1]
 len:L.length=k
 own:wx.ownsRow w.heap.size 116 3 out k (L.flatMap prm)
 b: ∀j q,L[j]? =some q→Blk wx q.1 3 #[.int .i64 ((lstep m*j:Nat):Int),.int .i64 ((lstep m*j+1:Nat):Int)]
theorem lstep_pos (m:Nat):0<lstep m:=by unfold lstep;split <;>omega
theorem idx_lt {m n k:Nat} (h:k<lcnt m n) (h2:2≤n):lstep m*k+1<n:=by
 unfold lcnt at h
 have:=(Nat.le_div_iff_mul_le (lstep_pos m)).1 (by omega:k≤(n-2)/lstep m)
 rw[Nat.mul_comm]at this
 omega
theorem rem_id (q n:Nat) (h:q<n) (h2:n≤256):(q:Int).tmod (max (n:Int) 1)=q:=by
 have e:max (n:Int) 1=n:=by omega
 rw[e,Int.tmod_eq_emod_of_nonneg (by omega)]
 exact Int.emod_eq_of_lt (by omega) (by omega)
theorem rem_0 (m k n:Nat) (h:lstep m*k+1<n) (h2:n≤256):(wrap64 (wrap64 ((lstep m:Int)*k))).tmod (max (n:Int) 1)=((lstep m*k:Nat):Int):=by
 rw[←Int.natCast_mul,wrap64_of (n:=((lstep m*k:Nat):Int)) (by omega) (by omega),wrap64_of (by omega) (by omega)]
 exact rem_id _ _ (by omega) h2
theorem rem_1 (m k n:Nat) (h:lstep m*k+1<n) (h2:n≤256):(wrap64 (wrap64 ((lstep m:Int)*k)+1)).tmod (max (n:Int) 1)=((lstep m*k+1:Nat):Int):=by
 rw[←Int.natCast_mul,wrap64_of (n:=((lstep m*k:Nat):Int)) (by omega) (by omega),wrap64_of (by omega) (by omega)]
 exact rem_id (lstep m*k+1) _ (by omega) h2
def pirow (m k:Nat):Nat→Array Value
 |0=> #[.int .i64 0,.int .i64 0]
 |1=> #[.int .i64 ((lstep m*k:Nat):Int),.int .i64 0]
 |_=> #[.int .i64 ((lstep m*k:Nat):Int),.int .i64 ((lstep m*k+1:Nat):Int)]
structure Pi (w wx:World) (m k X j:Nat):Prop where
 e:Ext w wx
 x:Blk wx X 3 (pirow m k j)
 lt:w.heap.size≤X
theorem Pr.ext {w wx wy:World} {m k G V0:Nat} {out:Value} {L:List (Nat×Int)} (h:Pr w wx m k G V0 out L) (e:Ext wx wy):Pr w wy m k G V0 out L:=
 ⟨h.e.trans e,h.g.ext e,h.v.ext e,h.len,ownsRow_ext h.own e,fun j q hq=>(h.b j q hq).ext e⟩
theorem Pr.grown {w wx wy:World} {m k G V0 X:Nat} {out:Value} {L:List (Nat×Int)} {z:Int} (h:Pr w wx m k G V0 out L) (hX:Blk wx X 3 (pirow m k 2)) (hg:wx.grownBy wy out.ownBlock) {v':Value} (ho:wy.ownsRow w.heap.size 116 3 v' (k+1) (L.flatMap prm++prm (X,z))):Pr w wy m (k+1) G V0 v' (L++[(X,z)]):=by
 refine⟨h.e.grown hg (fun q hq=>?_),h.g.grown' hg (own_ne_blk h.own h.g (by decide)),h.v.grown' hg (own_ne_blk h.own h.v (by decide)),by simp[h.len],by rw[List.flatMap_append];simpa using ho,fun j q hq=>?_⟩
 ·rcases h.own.2 with⟨h0, -⟩|⟨g,cap',cur,h0,hb', -⟩
  ·rw[h0]at hq;simp[Value.ownBlock]at hq
  ·rw[h0]at hq
   simp[Value.ownBlock]at hq
   omega
 ·rcases Nat.lt_or_ge j L.length with hj|hj
  ·rw[List.getElem?_append_left hj]at hq
   exact(h.b j q hq).grown' hg (own_ne_blk h.own (h.b j q hq) (by decide))
  ·rw[List.getElem?_append_right hj]at hq
   have hj2:j=k:=by
    have hl:=h.len
    rcases Nat.lt_or_ge (j-L.length) 1 with h1|h1
    ·omega
    ·rw[List.getElem?_eq_none (by simpa using h1)]at hq;cases hq
   subst hj2
   rw[show j-L.length=0 by have:=h.len;omega]at hq
   obtain rfl:(X,z)=q:=by simpa using hq
   exact hX.grown' hg (own_ne_blk h.own hX (by decide))
theorem info_prim:(Tryz.prog.info? 116).map (fun i=>(i.zero,i.size,i.bytes))=some (some (.agg #[.slice none 0 0,.slice none 0 0,.int .i64 0]),3,56):=by kernel_rfl
def PrimsP (m n:Nat) (w:World) (e:Ending) (w':World):Prop:=
 ∃(L:List (Nat×Int)) (a:Option Addr) (c:Nat),L.length=lcnt m n∧e=.returned (.tuple #[.slice a (lcnt m n) c,.int .i64 0])∧RdB w' 116 3 a (lcnt m n) c (L.flatMap prm)∧
  (∀j q,L[j]? =some q→Blk w' q.1 3 #[.int .i64 ((lstep m*j:Nat):Int),.int .i64 ((lstep m*j+1:Nat):Int)])∧Ext w w'
set_option maxRecDepth 100000 in
theorem prims_core (m n:Nat) (A:Option Addr) (c:Nat) (w:World) (hm:m=1∨m=2) (h2:2≤n) (h3:n≤256)
  (HP: ∀w,Calls Tryz.prog 59 #[.int .i64 (m:Int)] w (PlanP m w))(HC: ∀w,Calls Tryz.prog 60 #[.int .i64 (m:Int),.int .i64 n] w fun e w'=>e=.returned (.int .i64 (lcnt m n:Nat))∧Ext w w'):
  Calls Tryz.prog 38 #[.int .i64 (m:Int),.slice A n c,.bool false] w (PrimsP m n w):=by
 have HPL:=Lib.hid HP
 have HCO:=Lib.hid HC
 have HM:=Lib.hid (And.intro hm (And.intro h2 h3))
 clear HP HC
 have m0:decide ((m:Int)<0)=false:=by simp
 have m1:decide ((9:Int)<m)=false:=by simp;omega
 have m2:((m:Int)==9)=false:=by simp;omega
 have m3:decide ((256:Int)<n)=false:=by simp;omega
 clear hm h2 h3
 go_enter Tryz.func38,Tryz.ntmps38
 go_wp2_with (go_at_call 59;refine(HPL.out _).mono ?_;rintro e w1 ⟨V,rfl,hB,hE⟩;obtain⟨y1,rfl⟩:=Later.mk' hE;have HBV:=Lib.hid hB;clear hE hB)
 refine(HCO.out _).mono ?_
 rintro e w2 ⟨rfl,hE⟩
 have HB0:Hid (Pr w w2 m 0 y1.w.heap.size V (.slice none 0 0) []):=Lib.hid ⟨(y1.ext.alloc _).trans hE,((Blk.new y1.w _ _).ext hE),((HBV.out.alloc _).ext hE),rfl,World.ownsRow_nil _ _ _ _,fun j q h=>by simp at h⟩
 clear HBV hE HPL HCO m0 m1 m2 m3
 generalize y1.w.heap.size=G at*
 generalize hN:lcnt m n=N at*
 go_wp2_with fail
 go_loopw [9,10,11,12,13,14,15,35] (fun o _ _ _ _ _ _ i wr=> ∃(k:Nat) (v:Value) (L:List (Nat×Int)),k≤N∧v=o∧i=.int .i64 k∧Hid (Pr w wr m k G V v L)) (fun _ _ _ _ _ _ _ i _=>N-(intOf i).toNat)
 case atStart=>exact⟨0,_,_,Nat.zero_le _,rfl,rfl,HB0⟩
 case round=>
  clear HB0
  obtain⟨k,v,L,hk,rfl,rfl,HR⟩:=hrel
  obtain⟨W1,rfl⟩: ∃W1:World,W1=wr:=⟨_,rfl⟩
  by_cases hlt:k<N
  ·obtain⟨g0,g1,g2,g3,g4,g5,g6⟩:=HR.out.g.c7
   obtain⟨v0,v1⟩:=HR.out.v.c2
   go_upto_region 13 with fail
   go_cut [47]from 40 to 46 (fun s wx=>s=.bool false∧Hid (wx=W1))
   case first=>
    go_wp2_with fail
    all_goals
     go_meet
     exact⟨rfl,Lib.hid rfl⟩
   case rest=>
    obtain⟨rfl,HW⟩:=hcut
    obtain rfl:=HW.out
    have mk2:=make_i2
    have HR1:=Lib.hid (HR.out.e.alloc (.cells #[.int .i64 0,.int .i64 0] 3))
    have HX0:Hid (Pi wc (wc.alloc (.cells #[.int .i64 0,.int .i64 0] 3)) m k wc.heap.size 0):=Lib.hid ⟨(Ext.refl _).alloc _,Blk.new _ _ _,Nat.le_refl _⟩
    go_wp2_with fail
    generalize wc.alloc (.cells #[.int .i64 0,.int .i64 0] 3)=W2 at*
    generalize hX:wc.heap.size=X at*
    clear mk2 hX HR1 g0 g1 g2 g3 g4 g5 g6 v0 v1
    go_loopw [13,14,55] (fun _ _ i wr2=> ∃j:Nat,j≤2∧i=.int .i64 j∧Hid (Pi wc wr2 m k X j)) (fun _ _ i _=>2-(intOf i).toNat)
    case atStart=>exact⟨0,by omega,rfl,HX0⟩
    case round=>
     obtain⟨j,hj,rfl,HPi⟩:=hrel
     obtain⟨W3,rfl⟩: ∃W3:World,W3=wr:=⟨_,rfl⟩
     rcases(by omega:j=0∨j=1∨j=2)with rfl|rfl|rfl
     ·obtain⟨g0, -⟩:=(HR.out.g.ext HPi.out.e).c7
      obtain⟨v0,v1⟩:=(HR.out.v.ext HPi.out.e).c2
      have x0:W3.cell? ⟨X,0,none⟩=some (.int .i64 0):=HPi.out.x.cell 0
      have z0:=HPi.out.x.frozen 0
      have HN1:Hid (Pi wc (W3.setCell ⟨X,0,none⟩ (.int .i64 ((wrap64 (wrap64 ((lstep m:Int)*k))).tmod (max (n:Int) 1)))) m k X 1):=Lib.hid ⟨HPi.out.e.setCell _ HPi.out.lt,Blk.cast (HPi.out.x.set_ 0 _) (by simp[pirow,rem_0 m k n (idx_lt (hN▸hlt) HM.out.2.1) HM.out.2.2]),HPi.out.lt⟩
      go_wp2_with fail
      go_roundw
      case rel=>first|exact⟨1,by omega,rfl,HN1⟩|((repeat apply Exists.intro);exact⟨⟨1,by omega,rfl,HN1⟩,rfl⟩)
      case measure=>first|(simp[intOf];done)|(simp[intOf];omega)
     ·obtain⟨g0, -⟩:=(HR.out.g.ext HPi.out.e).c7
      obtain⟨v0,v1⟩:=(HR.out.v.ext HPi.out.e).c2
      have x0:W3.cell? ⟨X,1,none⟩=some (.int .i64 0):=HPi.out.x.cell 1
      have z0:=HPi.out.x.frozen 1
      have HN1:Hid (Pi wc (W3.setCell ⟨X,1,none⟩ (.int .i64 ((wrap64 (wrap64 ((lstep m:Int)*k)+1)).tmod (max (n:Int) 1)))) m k X 2):=Lib.hid ⟨HPi.out.e.setCell _ HPi.out.lt,Blk.cast (HPi.out.x.set_ 1 _) (by simp[pirow,rem_1 m k n (idx_lt (hN▸hlt) HM.out.2.1) HM.out.2.2]),HPi.out.lt⟩
      go_wp2_with fail
      go_roundw
      case rel=>first|exact⟨2,by omega,rfl,HN1⟩|((repeat apply Exists.intro);exact⟨⟨2,by omega,rfl,HN1⟩,rfl⟩)
      case measure=>first|(simp[intOf];done)|(simp[intOf];omega)
     ·have HG:Hid (∀w',Ext W3 w'→w'.cell? ⟨G,0,none⟩=some (.int .i64 (lstep m:Int))∧w'.cell? ⟨G,4,none⟩=some (.int .i64 1)∧w'.cell? ⟨G,5,none⟩=some (.bool false)):=Lib.hid (fun w' e=>by
       obtain⟨g0,g1,g2,g3,g4,g5,g6⟩:=(HR.out.g.ext (HPi.out.e.trans e)).c7
       exact⟨g0,g4,g5⟩)
      have HSD:Hid (∀w,Calls Tryz.prog 61 #[.slice (some ⟨X,0,none⟩) 2 2,.slice A n c,.bool false] w fun e w'=>e=.returned (.slice none 0 0)∧w'=w):=Lib.hid (fun w=>sides_two _ _ 2 n 2 c false w (by omega))
      have n0: ¬n=0:=by have:=HM.out.2.1;omega
      have n1: ¬(n:Int)=0:=by omega
      have g6:=(HR.out.g.ext HPi.out.e).c7.2.2.2.2.2.2
      go_wp2_with fail
      go_region_held3 (fun w'=>w'.cell? ⟨G,0,none⟩=some (.int .i64 (lstep m:Int))∧w'.cell? ⟨G,4,none⟩=some (.int .i64 1)∧w'.cell? ⟨G,5,none⟩=some (.bool false))
       (exact HG.out _ (by(repeat(first|with_reducible(first|exact eR_ _|assumption|refine eA_ ?_ _|refine eD_ ?_|refine eN_ ?_ _|refine eL_ ?_ _)|(with_reducible refine eS_ ?_ _ ?hp;case hp=>first|(simp;done)|(simp;omega)|omega)))))
       (first
        |(go_at_call 61;refine(HSD.out _).mono ?_;rintro e w9 ⟨rfl,rfl⟩))
      all_goals
       clear HG n0 n1 g6
       generalize(IntKind.i64.wrap (IntKind.i64.wrap ((lstep m:Int)*(k:Int))+1)).tmod (n:Int)=z at*
       have HBE:Hid (Blk ((W3.alloc (.cells #[.slice (some ⟨X,0,none⟩) 2 2,.slice none 0 0,.int .i64 z] 116)).drew) W3.heap.size 116 #[.slice (some ⟨X,0,none⟩) 2 2,.slice none 0 0,.int .i64 z]):=Lib.hid (by(repeat(first|with_reducible exact Hid.out (by assumption)|(with_reducible refine Blk.new' _ _ _ ?_;(simp;done))|with_reducible(first|refine Blk.alloc ?_ _|refine Blk.drew ?_|refine Blk.drewN ?_ _|refine Blk.later ?_ _)|(with_reducible refine Blk.far ?_ ?hp _;case hp=>first|(simp;done)|(simp;omega)|omega))))
       have hE4:Ext wc ((W3.alloc (.cells #[.slice (some ⟨X,0,none⟩) 2 2,.slice none 0 0,.int .i64 z] 116)).drew):=(HPi.out.e.alloc _).drew
       have HQ:=Lib.hid (HR.out.ext hE4)
       have HXR:Hid (Blk ((W3.alloc (.cells #[.slice (some ⟨X,0,none⟩) 2 2,.slice none 0 0,.int .i64 z] 116)).drew) X 3 (pirow m k 2)):=Lib.hid ((HPi.out.x.alloc _).drew)
       clear hE4 HPi HR HX0
       generalize((W3.alloc (.cells #[.slice (some ⟨X,0,none⟩) 2 2,.slice none 0 0,.int .i64 z] 116)).drew)=W4 at*
       generalize W3.heap.size=E at*
       have cE:=HBE.out.c3
       obtain⟨i0,hi0,hz0,hz1,hz2⟩:=info_parts info_prim
       go_wp2_with (refine wpList_append_lies _ rfl (.tmp 104) (.tmp 106) 112 rfl w.heap.size 116 i0 _ 3 56 Tryz.underlying112 hi0 hz0 hz1 hz2 rfl (by decide) v k (L.flatMap prm) rfl (HQ.out.own.alloc _) ⟨_,0,none⟩ 1 1 (prm (X,z)) rfl rfl (news_at _ _ _) (by simp[prm,Value.oneCell']) (by decide) ?c3 ?c4 ?c6 _ rfl ?_)
       case c3=>have:=lcnt_le m n HM.out.2.1;have:=HM.out.2.2;unfold maxLen;omega
       case c4=>have:=lcnt_le m n HM.out.2.1;have:=HM.out.2.2;omega
       case c6=>have:=HQ.out.e.size;simp;omega
       intro gn cap w5 ho hg hlie _
       have HR2:=Lib.hid (Pr.grown (HQ.out.ext ((Ext.refl W4).alloc _)) (HXR.out.alloc _) hg ho)
       clear ho hg hlie cE
       have hkN:(k:Int)+1≤256:=by have:=lcnt_le m n HM.out.2.1;have:=HM.out.2.2;omega
       have hk0:(0:Int)≤k:=by omega
       go_wp2_with fail
       go_roundw
       case rel=>first|exact⟨k+1,_,_,by omega,rfl,by go_num,HR2⟩|((repeat apply Exists.intro);exact⟨⟨k+1,_,_,by omega,rfl,by go_num,HR2⟩,rfl⟩)
       case measure=>simp[intOf];omega
  ·obtain rfl:k=N:=by omega
   obtain⟨sa,sc,rfl,hrd⟩:=ownsRow_rdB HR.out.own
   go_wp2_with fail
   refine bodyPost_ret (v:=.tuple #[.slice sa k sc,.int .i64 0]) (by simp[results,Tryz.results38,go_sem]) rfl ?_
   exact⟨L,sa,sc,by rw[hN];exact HR.out.len,by rw[hN],by rw[hN];exact hrd,HR.out.b,HR.out.e⟩
end Go.Proofs.YtplljnfjkkloeaaGreatDoor
