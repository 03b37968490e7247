/- Proof text: commands that a law tells (rec, places, shape). By an AI agent. No condition beyond what each theorem states. -/
import Derived.Test.YtplljnfjkkloeaaGreatDoorJM
import Derived.Test.YtplljnfjkkloeaaGreatDoorQP
import Derived.Test.YtplljnfjkkloeaaGreatDoorWH
import Derived.Test.YtplljnfjkkloeaaGreatDoorLN
import Derived.Test.YtplljnfjkkloeaaGreatDoorB
set_option linter.unusedVariables false
set_option linter.unusedSimpArgs false
set_option maxHeartbeats 16000000
namespace Go.Proofs.YtplljnfjkkloeaaGreatDoor
attribute [local go_sem] Go.Oper.semAt_some
open Go.RowKit
theorem info_rq:(Tryz.prog.info? 88).map (fun i=>(i.zero,i.size,i.bytes))=some (some (.agg #[.int .i64 0,.slice none 0 0]),2,32):=by kernel_rfl
set_option maxRecDepth 100000 in
theorem rec_any (op:Int) (A:Option Addr) (n c:Nat) (w:World):Calls Tryz.prog 25 #[.int .i64 op,.slice A n c] w fun e w'=>e=.returned (.agg #[.int .i64 op,.slice A n c])∧Ext w w':=by
 go_enter Tryz.func25,Tryz.ntmps25
 go_wp2_with fail
 have HZ:=Blk.new w 88 #[.int .i64 op,.slice A n c]
 obtain⟨z0,z1⟩:=HZ.c2
 exact bodyPost_ret (v:=.agg #[.int .i64 op,.slice A n c]) (by simp[results,Tryz.results25,go_sem,z0,z1]) rfl ⟨rfl,by(repeat(first|with_reducible(first|exact eR_ _|assumption|refine eA_ ?_ _|refine eD_ ?_|refine eN_ ?_ _|refine eL_ ?_ _)|(with_reducible refine eS_ ?_ _ ?hp;case hp=>first|(simp;done)|(simp;omega)|omega)))⟩
structure CmdO (w:World) (base:Nat) (v:Value) (L:List (Int×List Int)) (Q:List Rq):Prop where
 n:Q.length=L.length
 own:w.ownsRow base 88 2 v L.length (Q.flatMap Rq.cells)
 q: ∀(k:Nat) (q:Rq),Q[k]? =some q→ ∃C,L[k]? =some (q.op,C)∧RdB w 3 1 q.A q.n q.c (ivs C)∧q.n≤4096
theorem own_ge {w:World} {base:Nat} {e:TypeId} {size:Nat} {v:Value} {n:Nat} {xs:List Value} (h:w.ownsRow base e size v n xs): ∀g,v.ownBlock=some g→base≤g:=by
 intro g hg
 rcases h.2 with⟨h0, -⟩|⟨g',cap',cur,h0,hb, -⟩
 ·rw[h0]at hg;simp[Value.ownBlock]at hg
 ·rw[h0]at hg
  simp[Value.ownBlock]at hg
  omega
theorem CmdO.ext {w w':World} {base:Nat} {v:Value} {L:List (Int×List Int)} {Q:List Rq} (h:CmdO w base v L Q) (e:Ext w w'):CmdO w' base v L Q:=
 ⟨h.n,ownsRow_ext h.own e,fun k q hq=>let⟨C,h1,h2,h3⟩:=h.q k q hq;⟨C,h1,h2.ext e,h3⟩⟩
theorem CmdO.cat {w w':World} {base:Nat} {v v':Value} {L M:List (Int×List Int)} {Q R:List Rq} (h:CmdO w base v L Q) (hn:R.length=M.length) (hr: ∀(k:Nat) (q:Rq),R[k]? =some q→ ∃C,M[k]? =some (q.op,C)∧RdB w 3 1 q.A q.n q.c (ivs C)∧q.n≤4096)
  (hg:w.grownBy w' v.ownBlock)(ho:w'.ownsRow base 88 2 v' (L.length+M.length) (Q.flatMap Rq.cells++R.flatMap Rq.cells)):CmdO w' base v' (L++M) (Q++R):=by
 have kk: ∀g cs,Blk w g 3 cs→Blk w' g 3 cs:=fun g cs hb=>hb.grown' hg (own_ne_blk h.own hb (by decide))
 refine⟨by simp[h.n,hn],by rw[List.length_append,List.flatMap_append];exact ho,fun k q hq=>?_⟩
 rcases Nat.lt_or_ge k Q.length with hk|hk
 ·rw[List.getElem?_append_left hk]at hq
  obtain⟨C,h1,h2,h3⟩:=h.q k q hq
  exact⟨C,by rw[List.getElem?_append_left (by rw[←h.n];exact hk)];exact h1,h2.keep kk,h3⟩
 ·rw[List.getElem?_append_right hk]at hq
  obtain⟨C,h1,h2,h3⟩:=hr _ q hq
  exact⟨C,by rw[List.getElem?_append_right (by rw[←h.n];exact hk),←h.n];exact h1,h2.keep kk,h3⟩
theorem CmdO.cmds {w:World} {base:Nat} {v:Value} {L:List (Int×List Int)} {Q:List Rq} (h:CmdO w base v L Q): ∃a cap,v=.slice a L.length cap∧Cmds w a L.length cap L:=by
 obtain⟨a,cap,rfl,hr⟩:=ownsRow_rd h.own
 exact⟨a,cap,rfl,⟨Q,h.n,hr,fun k q hq=>let⟨C,h1,h2,h3⟩:=h.q k q hq;⟨C,h1,h2.rd,h3⟩⟩,rfl⟩
theorem blk_rdB {w:World} {X n:Nat} {C:List Int} (h:Blk w X 3 (irow C)) (hn:C.length=n) (hm:n≤4096):RdB w 3 1 (some ⟨X,0,none⟩) n n (ivs C):=
 ⟨irow_rd h hn (by unfold maxLen;omega),fun _ ad e=>by obtain rfl:=Option.some.inj e;exact⟨_,h⟩⟩
def placesL (W H:Int):List (Int×List Int):=[(1,[W,H]),(5,[-128, -128,256,256]),(27,[1,1,1]),(14,[1,1,1,1])]
set_option maxRecDepth 100000 in
theorem places_any (W H:Int) (w:World):Calls Tryz.prog 21 #[.int .i64 W,.int .i64 H] w fun e w'=> ∃v Q,e=.returned v∧CmdO w' w.heap.size v (placesL W H) Q∧Ext w w':=by
 have HRC:=Lib.hid (fun op A n c wz=>rec_any op A n c wz)
 go_enter Tryz.func21,Tryz.ntmps21
 go_wp2_with fail
 refine(HRC.out _ _ _ _ _).mono ?_
 rintro e w1 ⟨rfl,hE⟩
 obtain⟨y1,rfl⟩:=Later.mk' hE
 clear hE
 have B1:Hid (Blk y1.w w.heap.size 3 (irow [W,H])):=Lib.hid ((Blk.new w 3 (irow [W,H])).later y1)
 have l1:w.heap.size<y1.w.heap.size:=B1.out.lt
 have E1:Hid (Ext w y1.w):=Lib.hid (by(repeat(first|with_reducible(first|exact eR_ _|assumption|refine eA_ ?_ _|refine eD_ ?_|refine eN_ ?_ _|refine eL_ ?_ _)|(with_reducible refine eS_ ?_ _ ?hp;case hp=>first|(simp;done)|(simp;omega)|omega))))
 generalize y1.w=W1 at*
 go_wp2_with fail
 refine(HRC.out _ _ _ _ _).mono ?_
 rintro e w1 ⟨rfl,hE⟩
 obtain⟨y2,rfl⟩:=Later.mk' hE
 clear hE
 have B2:Hid (Blk y2.w W1.heap.size 3 (irow [-128, -128,256,256])):=Lib.hid ((Blk.new W1 3 (irow [-128, -128,256,256])).later y2)
 have E2:Hid (Ext W1 y2.w):=Lib.hid (by(repeat(first|with_reducible(first|exact eR_ _|assumption|refine eA_ ?_ _|refine eD_ ?_|refine eN_ ?_ _|refine eL_ ?_ _)|(with_reducible refine eS_ ?_ _ ?hp;case hp=>first|(simp;done)|(simp;omega)|omega))))
 generalize y2.w=W2 at*
 go_wp2_with fail
 refine(HRC.out _ _ _ _ _).mono ?_
 rintro e w1 ⟨rfl,hE⟩
 obtain⟨y3,rfl⟩:=Later.mk' hE
 clear hE
 have B3:Hid (Blk y3.w W2.heap.size 3 (irow [1,1,1])):=Lib.hid ((Blk.new W2 3 (irow [1,1,1])).later y3)
 have E3:Hid (Ext W2 y3.w):=Lib.hid (by(repeat(first|with_reducible(first|exact eR_ _|assumption|refine eA_ ?_ _|refine eD_ ?_|refine eN_ ?_ _|refine eL_ ?_ _)|(with_reducible refine eS_ ?_ _ ?hp;case hp=>first|(simp;done)|(simp;omega)|omega))))
 generalize y3.w=W3 at*
 go_wp2_with fail
 refine(HRC.out _ _ _ _ _).mono ?_
 rintro e w1 ⟨rfl,hE⟩
 obtain⟨y4,rfl⟩:=Later.mk' hE
 clear hE
 have B4:Hid (Blk y4.w W3.heap.size 3 (irow [1,1,1,1])):=Lib.hid ((Blk.new W3 3 (irow [1,1,1,1])).later y4)
 have E4:Hid (Ext W3 y4.w):=Lib.hid (by(repeat(first|with_reducible(first|exact eR_ _|assumption|refine eA_ ?_ _|refine eD_ ?_|refine eN_ ?_ _|refine eL_ ?_ _)|(with_reducible refine eS_ ?_ _ ?hp;case hp=>first|(simp;done)|(simp;omega)|omega))))
 generalize y4.w=W4 at*
 go_wp2_with fail
 refine bodyPost_ret (v:=.slice (some ⟨W4.heap.size,0,none⟩) 4 4) (by simp[results,Tryz.results21,go_sem]) rfl ?_
 have e4:=(Ext.refl W4).alloc (.cells #[.int .i64 1,.slice (some ⟨w.heap.size,0,none⟩) 2 2,.int .i64 5,.slice (some ⟨W1.heap.size,0,none⟩) 4 4,.int .i64 27,.slice (some ⟨W2.heap.size,0,none⟩) 3 3,.int .i64 14,.slice (some ⟨W3.heap.size,0,none⟩) 4 4] 88)
 have eW:=((E1.out.trans E2.out).trans E3.out).trans E4.out
 refine⟨_,[⟨1,some ⟨w.heap.size,0,none⟩,2,2⟩,⟨5,some ⟨W1.heap.size,0,none⟩,4,4⟩,⟨27,some ⟨W2.heap.size,0,none⟩,3,3⟩,⟨14,some ⟨W3.heap.size,0,none⟩,4,4⟩],rfl,⟨rfl,?_,?_⟩,eW.trans e4⟩
 ·exact World.ownsRow_lit W4 _ 4 eW.size (by unfold maxLen;omega) rfl
 ·intro k q hq
  rcases(by omega:k=0∨k=1∨k=2∨k=3∨4≤k)with rfl|rfl|rfl|rfl|hk
  ·obtain rfl:=Option.some.inj hq
   exact⟨[W,H],rfl,blk_rdB ((((B1.out.ext E2.out).ext E3.out).ext E4.out).ext e4) rfl (by show 2≤4096;omega),by show 2≤4096;omega⟩
  ·obtain rfl:=Option.some.inj hq
   exact⟨[-128, -128,256,256],rfl,blk_rdB (((B2.out.ext E3.out).ext E4.out).ext e4) rfl (by show 4≤4096;omega),by show 4≤4096;omega⟩
  ·obtain rfl:=Option.some.inj hq
   exact⟨[1,1,1],rfl,blk_rdB ((B3.out.ext E4.out).ext e4) rfl (by show 3≤4096;omega),by show 3≤4096;omega⟩
  ·obtain rfl:=Option.some.inj hq
   exact⟨[1,1,1,1],rfl,blk_rdB (B4.out.ext e4) rfl (by show 4≤4096;omega),by show 4≤4096;omega⟩
  ·rw[List.getElem?_eq_none (by simpa using hk)]at hq
   cases hq
@[reducible] def ptc (p:Int×Int):List Value:=[.int .i64 p.1,.int .i64 p.2]
theorem pt_at {w:World} {b off n cap j:Nat} {L:List (Int×Int)} {q:Int×Int} (h:Rd w 2 (some ⟨b,off,none⟩) n cap (L.flatMap ptc)) (hs:L[j]? =some q):
  w.cell? ⟨b,off+j*2,none⟩=some (.int .i64 q.1)∧w.cell? ⟨b,off+j*2+1,none⟩=some (.int .i64 q.2):=by
 have g:=fun i hi=>frow_get (f:=ptc) (K:=2) (fun _=>rfl) hs i hi
 refine⟨h.get rfl (j:=j*2) (by have:=g 0 (by omega);rw[Nat.add_zero]at this;exact this),?_⟩
 rw[Nat.add_assoc];exact h.get rfl (g 1 (by omega))
def vcmd (p:Int×Int):Int×List Int:=(17,[p.1,p.2,0,32768])
def shapeL (m:Int) (pts:List (Int×Int)):List (Int×List Int):=(16,[m])::pts.map vcmd++[(18,[])]
theorem take_succ_map {pts:List (Int×Int)} {k:Nat} {q:Int×Int} (h:pts[k]? =some q):(pts.take (k+1)).map vcmd=(pts.take k).map vcmd++[vcmd q]:=by
 obtain⟨hk,rfl⟩:=List.getElem?_eq_some_iff.1 h
 rw[List.take_succ_eq_append_getElem hk,List.map_append]
 rfl
set_option maxRecDepth 100000 in
theorem shape_any (m:Int) (pts:List (Int×Int)) (a:Option Addr) (n cap:Nat) (w:World) (hr:Rd w 2 a n cap (pts.flatMap ptc)) (hl:pts.length=n) (hn:n≤100):
  Calls Tryz.prog 22 #[.int .i64 m,.slice a n cap] w fun e w'=> ∃v Q,e=.returned v∧CmdO w' w.heap.size v (shapeL m pts) Q∧Ext w w':=by
 have HRC:=Lib.hid (fun op A n c wz=>rec_any op A n c wz)
 have HRD:=Lib.hid hr
 have HLN:=Lib.hid hl
 clear hr hl
 go_enter Tryz.func22,Tryz.ntmps22
 go_wp2_with fail
 refine(HRC.out _ _ _ _ _).mono ?_
 rintro e w1 ⟨rfl,hE⟩
 obtain⟨y1,rfl⟩:=Later.mk' hE
 clear hE
 have B1:Hid (Blk y1.w w.heap.size 3 (irow [m])):=Lib.hid ((Blk.new w 3 (irow [m])).later y1)
 have E1:Hid (Ext w y1.w):=Lib.hid (by(repeat(first|with_reducible(first|exact eR_ _|assumption|refine eA_ ?_ _|refine eD_ ?_|refine eN_ ?_ _|refine eL_ ?_ _)|(with_reducible refine eS_ ?_ _ ?hp;case hp=>first|(simp;done)|(simp;omega)|omega))))
 generalize y1.w=W1 at*
 go_wp2_with fail
 have H0:Hid (CmdO (W1.alloc (.cells #[.int .i64 16,.slice (some ⟨w.heap.size,0,none⟩) 1 1] 88)) w.heap.size (.slice (some ⟨W1.heap.size,0,none⟩) 1 1) ((16,[m])::(pts.take 0).map vcmd) [⟨16,some ⟨w.heap.size,0,none⟩,1,1⟩]∧Ext w (W1.alloc (.cells #[.int .i64 16,.slice (some ⟨w.heap.size,0,none⟩) 1 1] 88))):=Lib.hid ⟨⟨rfl,World.ownsRow_lit W1 _ 1 E1.out.size (by unfold maxLen;omega) rfl,fun k q hq=>by
   cases k with
   |zero=>
    obtain rfl:=Option.some.inj hq
    exact⟨[m],rfl,blk_rdB (B1.out.alloc _) rfl (by show 1≤4096;omega),by show 1≤4096;omega⟩
   |succ k=>simp at hq⟩,E1.out.alloc _⟩
 clear B1 E1
 go_loopw [5,6] (fun o i wr=> ∃(k:Nat) (v:Value) (Q:List Rq),k≤n∧v=o∧i=.int .i64 k∧Hid (CmdO wr w.heap.size v ((16,[m])::(pts.take k).map vcmd) Q∧Ext w wr)) (fun _ i _=>n-(intOf i).toNat)
 case atStart=>exact⟨0,_,_,Nat.zero_le _,rfl,rfl,H0⟩
 case round=>
  clear H0
  obtain⟨k,v,Q,hk,rfl,rfl,HC⟩:=hrel
  obtain⟨W3,rfl⟩: ∃W3:World,W3=wr:=⟨_,rfl⟩
  have HE3:=Lib.hid HC.out.2
  by_cases hlt:k<n
  ·obtain⟨q,hq⟩: ∃q,pts[k]? =some q:=⟨_,List.getElem?_eq_getElem (by rw[HLN.out];exact hlt)⟩
   obtain⟨b,off,ha, -, -⟩:=HRD.out.at_ (by omega)
   subst ha
   have HSS:Hid (∀w',Ext w w'→w'.cell? ⟨b,off+k*2,none⟩=some (.int .i64 q.1)∧w'.cell? ⟨b,off+k*2+1,none⟩=some (.int .i64 q.2)):=Lib.hid (fun w' e=>pt_at (HRD.out.ext e) hq)
   have HLk:((16,[m])::(pts.take k).map vcmd).length=k+1:=by simp[HLN.out];omega
   have HOWN:Hid (∀w',Ext W3 w'→w'.ownsRow w.heap.size 88 2 v (k+1) (Q.flatMap Rq.cells)):=Lib.hid (fun w' e=>by have:=ownsRow_ext HC.out.1.own e;rw[HLk]at this;exact this)
   have HQ:=Lib.hid hq
   have HLK:=Lib.hid HLk
   have hkN:(k:Int)+1≤100:=by omega
   have hk0:(0:Int)≤k:=by omega
   have hkn:(k:Int)<n:=by omega
   clear hq HLk
   go_upto_region 5 with fail
   go_region_held3 (fun w'=>w'.cell? ⟨b,off+k*2,none⟩=some (.int .i64 q.1)∧w'.cell? ⟨b,off+k*2+1,none⟩=some (.int .i64 q.2))
    (first|(refine HSS.out _ (HE3.out.trans ?_);(repeat(first|with_reducible(first|exact eR_ _|assumption|refine eA_ ?_ _|refine eD_ ?_|refine eN_ ?_ _|refine eL_ ?_ _)|(with_reducible refine eS_ ?_ _ ?hp;case hp=>first|(simp;done)|(simp;omega)|omega)));done)|exact HSS.out _ HAPP.out)
    (first
     |(go_at_call 25;refine(HRC.out _ _ _ _ _).mono ?_;rintro e w1 ⟨rfl,hE⟩;obtain⟨y1,rfl⟩:=Later.mk' hE;clear hE)
     |(refine step_append_src rfl (.tmp 17) (.tmp 30) 22 rfl w.heap.size 88 _ 2 32 Tryz.underlying22 info_rq rfl (by decide) v (k+1) (Q.flatMap Rq.cells) rfl (HOWN.out _ (by(repeat(first|with_reducible(first|exact eR_ _|assumption|refine eA_ ?_ _|refine eD_ ?_|refine eN_ ?_ _|refine eL_ ?_ _)|(with_reducible refine eS_ ?_ _ ?hp;case hp=>first|(simp;done)|(simp;omega)|omega))))) ⟨y1.w.heap.size,0,none⟩ 1 1 [.int .i64 17,.slice (some ⟨W3.heap.size,0,none⟩) 4 4] rfl rfl (news_at _ _ _) (by intro u hu;simp at hu;rcases hu with rfl|rfl <;>rfl) (by omega) (by decide) (by have:=HE3.out.size;have:=y1.le;simp at *;omega) ?_;intro v' w' ho' hg' _;have HAPP:Hid (Ext w w'):=Lib.hid (by refine Ext.grown (HE3.out.trans ?_) hg' (fun g hk=>own_ge (HOWN.out W3 (Ext.refl _)) g hk);(repeat(first|with_reducible(first|exact eR_ _|assumption|refine eA_ ?_ _|refine eD_ ?_|refine eN_ ?_ _|refine eL_ ?_ _)|(with_reducible refine eS_ ?_ _ ?hp;case hp=>first|(simp;done)|(simp;omega)|omega))))))
   have eB:Ext W3 (y1.w.alloc (.cells #[.int .i64 17,.slice (some ⟨W3.heap.size,0,none⟩) 4 4] 88)):=by(repeat(first|with_reducible(first|exact eR_ _|assumption|refine eA_ ?_ _|refine eD_ ?_|refine eN_ ?_ _|refine eL_ ?_ _)|(with_reducible refine eS_ ?_ _ ?hp;case hp=>first|(simp;done)|(simp;omega)|omega)))
   have HN1:Hid (CmdO w' w.heap.size v' ((16,[m])::(pts.take (k+1)).map vcmd) (Q++[⟨17,some ⟨W3.heap.size,0,none⟩,4,4⟩])∧Ext w w'):=Lib.hid ⟨by
    have h:=(HC.out.1.ext eB).cat (M:=[vcmd q]) (R:=[⟨17,some ⟨W3.heap.size,0,none⟩,4,4⟩]) (v':=v') (w':=w') rfl (fun j r hj=>by
     cases j with
     |zero=>
      obtain rfl:=Option.some.inj hj
      exact⟨[q.1,q.2,0,32768],rfl,blk_rdB ((((Blk.new W3 3 (irow [q.1,q.2,0,32768])).drew).later y1).alloc _) rfl (by show 4≤4096;omega),by show 4≤4096;omega⟩
     |succ j=>simp at hj) hg' (by rw[HLK.out];exact ho')
    rw[take_succ_map HQ.out]
    exact h,HAPP.out⟩
   clear ho' hg' HAPP eB HSS HOWN HC HE3
   go_wp2_with fail
   go_roundw
   case rel=>first|exact⟨k+1,v',_,by omega,rfl,by go_num,HN1⟩|((repeat apply Exists.intro);exact⟨⟨k+1,v',_,by omega,rfl,by go_num,HN1⟩,rfl⟩)
   case measure=>simp[intOf];omega
  ·obtain rfl:k=n:=by omega
   have hfull:pts.take k=pts:=List.take_of_length_le (by rw[HLN.out];exact Nat.le_refl _)
   have HLk:((16,[m])::(pts.take k).map vcmd).length=k+1:=by simp[HLN.out]
   have HOWN:Hid (∀w',Ext W3 w'→w'.ownsRow w.heap.size 88 2 v (k+1) (Q.flatMap Rq.cells)):=Lib.hid (fun w' e=>by have:=ownsRow_ext HC.out.1.own e;rw[HLk]at this;exact this)
   have HLK:=Lib.hid HLk
   have HFU:=Lib.hid hfull
   clear HLk hfull
   go_wp2_with fail
   refine(HRC.out _ _ _ _ _).mono ?_
   rintro e w1 ⟨rfl,hE⟩
   obtain⟨y1,rfl⟩:=Later.mk' hE
   clear hE
   have HNw:=Lib.hid (news_at y1.w [.int .i64 18,.slice none 0 0] 88)
   go_wp2_with (refine wpList_append_src rfl (.tmp 32) (.tmp 34) 22 rfl w.heap.size 88 _ 2 32 Tryz.underlying22 info_rq rfl (by decide) v (k+1) (Q.flatMap Rq.cells) rfl (HOWN.out _ (by(repeat(first|with_reducible(first|exact eR_ _|assumption|refine eA_ ?_ _|refine eD_ ?_|refine eN_ ?_ _|refine eL_ ?_ _)|(with_reducible refine eS_ ?_ _ ?hp;case hp=>first|(simp;done)|(simp;omega)|omega))))) ⟨y1.w.heap.size,0,none⟩ 1 1 [.int .i64 18,.slice none 0 0] rfl rfl ?c1 ?c2 ?c3 (by decide) ?c5 ?_)
   case c1=>simpa[Addr.add]using HNw.out
   case c2=>intro u hu;simp at hu;rcases hu with rfl|rfl <;>rfl
   case c3=>omega
   case c5=>have:=HE3.out.size;have:=y1.le;simp at *;omega
   intro v' w' ho' hg' _
   have eB:Ext W3 (y1.w.alloc (.cells #[.int .i64 18,.slice none 0 0] 88)):=by(repeat(first|with_reducible(first|exact eR_ _|assumption|refine eA_ ?_ _|refine eD_ ?_|refine eN_ ?_ _|refine eL_ ?_ _)|(with_reducible refine eS_ ?_ _ ?hp;case hp=>first|(simp;done)|(simp;omega)|omega)))
   have HN1:CmdO w' w.heap.size v' (shapeL m pts) (Q++[⟨18,none,0,0⟩]):=by
    have h:=(HC.out.1.ext eB).cat (M:=[(18,[])]) (R:=[⟨18,none,0,0⟩]) (v':=v') (w':=w') rfl (fun j r hj=>by
     cases j with
     |zero=>
      obtain rfl:=Option.some.inj hj
      exact⟨[],rfl,⟨Rd.empty _ _ _ _ (Nat.zero_le _),fun h=>absurd h (by decide)⟩,Nat.zero_le _⟩
     |succ j=>simp at hj) hg' (by rw[HLK.out];exact ho')
    rw[HFU.out]at h
    exact h
   have hEx:Ext w w':=(HE3.out.trans eB).grown hg' (fun g hk=>own_ge (HOWN.out W3 (Ext.refl _)) g hk)
   have HFIN:=Lib.hid (And.intro HN1 hEx)
   clear HN1 hEx ho' hg' eB HOWN HC HE3
   go_wp2_with fail
   exact bodyPost_ret (v:=v') (by simp[results,Tryz.results22,go_sem]) rfl ⟨v',_,rfl,HFIN.out.1,HFIN.out.2⟩
end Go.Proofs.YtplljnfjkkloeaaGreatDoor
set_option linter.unusedVariables false
set_option linter.unusedSimpArgs false
namespace Go.Proofs.YtplljnfjkkloeaaGreatDoor
attribute [local go_sem] Go.Oper.semAt_some
open Go.RowKit
end Go.Proofs.YtplljnfjkkloeaaGreatDoor
set_option linter.unusedVariables false
set_option linter.unusedSimpArgs false
namespace Go.Proofs.YtplljnfjkkloeaaGreatDoor
open Go.RowKit
def sB (n:Int) (dashed:Bool) (d:Da):Ps:={ps0 with W:=9,H:=8,port:=⟨-128, -128,256,256⟩,mix:=true,sf:=1,df:=1,c0:=1,c1:=1,c2:=1,c3:=1,width:=n,dashed:=dashed,dash:=d}
def pB:Hp:={hp0 with C:=List.replicate 72 0,Z:=List.replicate 72 16777215}
def d00:Da:=⟨65535,1,0⟩
theorem byte_0:byte 0:=⟨by decide,by decide⟩
theorem byte_1:byte 1:=⟨by decide,by decide⟩
theorem places_steps:Steps ps0 hp0 (placesL 9 8) (sB 1 false d00) pB:=by
 refine .cons (c:=(1,[9,8])) (Step.size ps0 hp0 9 8 (by decide) (by decide) (by decide) (by decide) ⟨byte_0,byte_0,byte_0,byte_0⟩ rfl) ?_
 refine .cons (c:=(5,[-128, -128,256,256])) (Step.port _ _ (-128) (-128) 256 256 rfl rfl) ?_
 refine .cons (c:=(27,[1,1,1])) (Step.mix _ _ 1 1 1 rfl rfl) ?_
 refine .cons (c:=(14,[1,1,1,1])) (Step.color _ _ 1 1 1 1 rfl) ?_
 exact .nil _ _
def vxu (q:Int×Int):Vx:=⟨q.1,q.2,0,32768,1,1,1,1⟩
def Unit (q:Int×Int):Prop:=(-1048576≤q.1∧q.1≤1048576)∧(-1048576≤q.2∧q.2≤1048576)
theorem right_17 {q:Int×Int} (h:Unit q):rightT (askT 17) [q.1,q.2,0,32768]=0:=by
 have e:askT 17=some [(-1048576,1048576),(-1048576,1048576),(-1048576,1048576),(-1048576,1048576)]:=rfl
 rw[e]
 unfold Unit at h
 simp[rightT,allIn,within]
 omega
theorem verts_steps (s:Ps) (h0:s.op=true) (c0:s.c0=1) (c1:s.c1=1) (c2:s.c2=1) (c3:s.c3=1): ∀(pts:List (Int×Int)) (p:Hp),(∀q∈pts,Unit q)→p.M=unitM→p.N=unitM→p.F.length=p.V.length→p.V.length+pts.length≤256→
  Steps s p (pts.map vcmd) s {p with V:=p.V++pts.map vxu,F:=p.F++List.replicate pts.length s.flag}
 |[],p,_,_,_,_,_=>by
  simp only[List.map_nil,List.append_nil,List.length_nil,List.replicate_zero]
  exact .nil _ _
 |q::pts,p,hu,hM,hN,hF,hl=>by
  have hq:=hu q (by simp)
  have ih:=verts_steps s h0 c0 c1 c2 c3 pts {p with V:=p.V++[vxu q],F:=p.F++[s.flag]} (fun r hr=>hu r (by simp[hr])) hM hN (by simp[hF]) (by simp only[List.length_append,List.length_cons,List.length_nil]at *;omega)
  have hv:(C4.mk q.1 q.2 0 32768).In:=by
   unfold Unit at hq
   unfold C4.In
   simp only
   omega
  have st:=Step.vertex s p ⟨q.1,q.2,0,32768⟩ (right_17 hq) hv hM hN hF (by simp only[List.length_cons]at hl;omega) h0
  rw[c0,c1,c2,c3]at st
  have:=Steps.cons (c:=vcmd q) st ih
  simpa[List.append_assoc,List.replicate_succ,vxu]using this
def sV (n:Int) (dashed:Bool) (d:Da):Ps:={sB n dashed d with op:=true,mode:=2}
def pV (pts:List (Int×Int)):Hp:={pB with V:=pts.map vxu,F:=List.replicate pts.length true}
theorem begin_steps (n:Int) (dashed:Bool) (d:Da) (pts:List (Int×Int)) (hu: ∀q∈pts,Unit q) (hl:pts.length≤256):Steps (sB n dashed d) pB ((16,[2])::pts.map vcmd) (sV n dashed d) (pV pts):=by
 refine .cons (c:=(16,[2])) (Step.begin (sB n dashed d) pB 2 rfl (show(0:Int)<9 by decide) rfl) ?_
 have:=verts_steps (sV n dashed d) rfl rfl rfl rfl rfl pts pB hu rfl rfl rfl (by simp only[pB,hp0,List.length_nil];omega)
 exact this
theorem vmap_unit (q:Int×Int):vmap (vxu q) ⟨-128, -128,256,256⟩=uv q:=by
 unfold vmap vxu uv
 simp only[Wv.mk.injEq,and_true]
 refine⟨by omega,by omega,by decide⟩
theorem uv_fits {q:Int×Int} (h:Unit q):(uv q).Fits:=by
 unfold Unit at h
 exact⟨by unfold uv;simp only;omega,by unfold uv;simp only;omega,by unfold uv;simp only;omega,byte_1,byte_1,byte_1,byte_1⟩
theorem port_unit:(Rc.mk (-128) (-128) 256 256).Port:=⟨by decide,by decide,by decide,by decide⟩
theorem drawn_unit (n:Nat) (dashed:Bool) (d:Da) (pts:List (Int×Int)) (hu: ∀q∈pts,Unit q) (hl:pts.length≤256) (n0:1≤n) (n1:n≤64) (hd:d.Ok):Drawn (sV n dashed d) (pV pts) 2 n:=by
 refine⟨rfl,⟨rfl,rfl,rfl,rfl,rfl,rfl⟩,rfl,.inr rfl,rfl,rfl,rfl,port_unit,rfl,n0,n1,hd,r98_ok,by simp[pV],by simpa[pV]using hl,?_⟩
 intro v hv
 obtain⟨q,hq,rfl⟩: ∃q∈pts,vxu q=v:=by simpa[pV]using hv
 have h:=hu q hq
 refine⟨?_,?_,?_⟩
 ·unfold Unit at h
  exact⟨by unfold vxu;simp only;omega,by unfold vxu;simp only;omega,by unfold vxu;simp only;omega,by unfold vxu;simp only;omega,byte_1,byte_1,byte_1,byte_1⟩
 ·unfold Vx.Inside vxu;simp only;omega
 ·show(vmap (vxu q) ⟨-128, -128,256,256⟩).Fits
  rw[vmap_unit]
  exact uv_fits h
theorem ncnt_two (n:Nat):ncnt 2 n=n-1:=by
 unfold ncnt lcnt lstep
 split
 ·omega
 ·simp;omega
theorem lines_unit (n:Nat) (dashed:Bool) (d:Da) (pts:List (Int×Int)):(sV n dashed d).lines (pV pts) 2 n=stripL n dashed r98 d (pts.map uv):=by
 unfold Ps.lines
 rw[ncnt_two]
 have e:(pV pts).V.map (vmap · (sV n dashed d).port)=pts.map uv:=by
  show(pts.map vxu).map (vmap · ⟨-128, -128,256,256⟩)=_
  rw[List.map_map]
  exact List.map_congr_left fun q _=>vmap_unit q
 have hl:(pV pts).V.length=(pts.map uv).length:=by simp[pV]
 rw[e,hl]
 exact linesK_strip n dashed r98 (pts.map uv) d
def endC (n:Nat) (dashed:Bool) (d:Da) (pts:List (Int×Int)):List Int:=fall 9 true 1 1 (List.replicate 72 0) (stripL n dashed r98 d (pts.map uv))
def sE (n:Int) (dashed:Bool) (d:Da):Ps:={sV n dashed d with op:=false,mode:=0}
def pE (n:Nat) (dashed:Bool) (d:Da) (pts:List (Int×Int)):Hp:={pB with C:=endC n dashed d pts}
theorem d00_ok:d00.Ok:=⟨by decide,by decide,by decide,by decide,by decide,by decide⟩
end Go.Proofs.YtplljnfjkkloeaaGreatDoor
set_option linter.unusedVariables false
set_option linter.unusedSimpArgs false
namespace Go.Proofs.YtplljnfjkkloeaaGreatDoor
attribute [local go_sem] Go.Oper.semAt_some
open Go.RowKit
theorem recs_rq {w:World}: ∀{vs:List Value} {l:List R},RecCells (Rd w 1) vs l→(∀r∈l,r.2.length≤4096)→ ∃Q:List Rq,Q.length=l.length∧vs=Q.flatMap Rq.cells∧ ∀(k:Nat) (q:Rq),Q[k]? =some q→ ∃C,l[k]? =some (q.op,C)∧Rd w 1 q.A q.n q.c (ivs C)∧q.n≤4096
 |[],[],_,_=>⟨[],rfl,rfl,fun k q h=>by simp at h⟩
 |x::y::vs,r::l,⟨h1,⟨a,c,h2,h3⟩,h4⟩,hl=>by
  obtain⟨Q,q1,q2,q3⟩:=recs_rq h4 (fun r hr=>hl r (by simp[hr]))
  refine⟨⟨r.1,a,r.2.length,c⟩::Q,by simp[q1],by rw[h1,h2,q2];rfl,fun k q hk=>?_⟩
  cases k with
  |zero=>
   obtain rfl:=Option.some.inj hk
   exact⟨r.2,rfl,h3,hl r (by simp)⟩
  |succ k=>exact q3 k q (by simpa using hk)
 |[],_::_,h,_=>h.elim
 |[_],[],h,_=>h.elim
 |[_],_::_,h,_=>h.elim
 |_::_::_,[],h,_=>h.elim
theorem recs_cmds {w:World} {a:Option Addr} {n cap:Nat} {l:List R} (h:RdRecs w a n cap l) (hl: ∀r∈l,r.2.length≤4096):Cmds w a n cap l:=by
 have hn:=h.len
 obtain⟨vs,h1,h2⟩:=h
 obtain⟨Q,q1,q2,q3⟩:=recs_rq h2 hl
 exact⟨⟨Q,q1.trans hn,by rw[←q2];exact h1,q3⟩,hn⟩
def awakeL:List (Int×List Int):=[(1,[4,1]),(16,[1]),(17,[-1,0,0,1]),(17,[1,0,0,1]),(18,[])]
theorem awake_parse:parseT [115,105,122,101,32,52,32,49,10,98,101,103,105,110,32,49,10,118,101,114,116,101,120,32,45,49,32,48,32,48,32,49,10,118,101,114,116,101,120,32,49,32,48,32,48,32,49,10,101,110,100,10]=.ok awakeL:=by kernel_rfl
def sA:Ps:={ps0 with W:=4,H:=1,port:=⟨0,0,4,1⟩,op:=true,mode:=1}
def vA (x:Int):Vx:=⟨x,0,0,1,255,255,255,255⟩
def pA:Hp:={hp0 with C:=List.replicate 4 0,Z:=List.replicate 4 16777215,V:=[vA (-1),vA 1],F:=[true,true]}
def frA (x:Int):Fr:=⟨x,0,8388607,255,255,255,255,64⟩
theorem lines_awake:sA.lines pA 1 1=[frA 0,frA 1,frA 2]:=by kernel_rfl
theorem byte_255:byte 255:=⟨by decide,by decide⟩
theorem drawn_awake:Drawn sA pA 1 1:=by
 refine⟨rfl,⟨rfl,rfl,rfl,rfl,rfl,rfl⟩,rfl,.inl rfl,rfl,rfl,rfl,(⟨by decide,by decide,by decide,by decide⟩:(Rc.mk 0 0 4 1).Port),rfl,by decide,by decide,d00_ok,(by unfold Rc.Ok;decide:(Rc.mk 0 0 4 1).Ok),rfl,by decide,?_⟩
 intro v hv
 have hv:v=vA (-1)∨v=vA 1:=by simpa[pA]using hv
 rcases hv with rfl|rfl
 ·exact⟨⟨by decide,by decide,by decide,by decide,byte_255,byte_255,byte_255,byte_255⟩,⟨by decide,by decide,by decide⟩,⟨by decide,by decide,by decide,byte_255,byte_255,byte_255,byte_255⟩⟩
 ·exact⟨⟨by decide,by decide,by decide,by decide,byte_255,byte_255,byte_255,byte_255⟩,⟨by decide,by decide,by decide⟩,⟨by decide,by decide,by decide,byte_255,byte_255,byte_255,byte_255⟩⟩
theorem ready_awake:Ready sA pA 4 1:=by
 refine⟨rfl,rfl,rfl,rfl,by decide,by decide,by decide,by decide,fun v hv=>?_,(⟨by decide,by decide,by decide,by decide,by decide,by decide⟩:(Op3.mk ⟨0,0,0,0⟩ 1 true false 1 0).Ok),rfl,rfl,rfl,rfl,rfl⟩
 have hv:v∈List.replicate 4 (0:Int):=hv
 rw[List.mem_replicate]at hv
 obtain⟨-,rfl⟩:=hv
 omega
theorem takes_awake:Takes 4 1 (sA.lines pA 1 1):=by
 rw[lines_awake]
 have fits: ∀x,(frA x).Fits:=fun x=>⟨byte_255,byte_255,byte_255,byte_255,(show(0:Int)≤8388607∧(8388607:Int)≤16777215 by decide),(show(0:Int)<64∧(64:Int)≤64 by decide)⟩
 intro f hf
 simp only[List.mem_cons,List.not_mem_nil,or_false]at hf
 rcases hf with rfl|rfl|rfl <;>exact⟨fits _,by unfold frA;decide,by unfold frA;decide,by unfold frA;decide,by unfold frA;decide⟩
def pA2:Hp:={hp0 with C:=[4294967295,4294967295,4294967295,0],Z:=List.replicate 4 16777215}
def sA2:Ps:={sA with op:=false,mode:=0}
theorem image_awake:fall 4 false 1 0 (List.replicate 4 0) [frA 0,frA 1,frA 2]=[4294967295,4294967295,4294967295,0]:=by kernel_rfl
theorem awake_steps:Steps ps0 hp0 awakeL sA2 pA2:=by
 refine .cons (c:=(1,[4,1])) (Step.size ps0 hp0 4 1 (by decide) (by decide) (by decide) (by decide) ⟨byte_0,byte_0,byte_0,byte_0⟩ rfl) ?_
 refine .cons (c:=(16,[1])) (Step.begin _ _ 1 rfl (show(0:Int)<4 by decide) rfl) ?_
 refine .cons (c:=(17,[-1,0,0,1])) (Step.vertex _ _ ⟨-1,0,0,1⟩ rfl (by unfold C4.In;decide) rfl rfl rfl (by decide) rfl) ?_
 refine .cons (c:=(17,[1,0,0,1])) (Step.vertex _ _ ⟨1,0,0,1⟩ rfl (by unfold C4.In;decide) rfl rfl rfl (by decide) rfl) ?_
 have h:=Step.fin sA pA 1 1 4 1 drawn_awake (fun _=>by decide) ready_awake takes_awake rfl
 rw[lines_awake]at h
 have e:fall (4:Nat) sA.mix sA.sf sA.df pA.C [frA 0,frA 1,frA 2]=[4294967295,4294967295,4294967295,0]:=image_awake
 rw[e]at h
 exact .cons (c:=(18,[])) h (.nil _ _)
end Go.Proofs.YtplljnfjkkloeaaGreatDoor
set_option linter.unusedVariables false
set_option linter.unusedSimpArgs false
namespace Go.Proofs.YtplljnfjkkloeaaGreatDoor
attribute [local go_sem] Go.Oper.semAt_some
open Go.RowKit
set_option maxRecDepth 100000 in
theorem awake_any (w:World) (hW:Wd w):Calls Tryz.prog 10 #[] w fun e w'=>e=.returned (.bool true)∧Ext w w':=by
 have HW:=Lib.hid hW
 have G1:=Lib.hid (fun w1 h=>parse_any ⟨#[115,105,122,101,32,52,32,49,10,98,101,103,105,110,32,49,10,118,101,114,116,101,120,32,45,49,32,48,32,48,32,49,10,118,101,114,116,101,120,32,49,32,48,32,48,32,49,10,101,110,100,10]⟩ w1 (by decide) h)
 simp only[]at G1
 rw[awake_parse]at G1
 clear hW
 go_enter Tryz.func10,Tryz.ntmps10
 go_wp2_with fail
 refine(G1.out _ HW.out).mono ?_
 rintro e w1 ⟨v,vs,rfl,ho,hr,hE⟩
 obtain⟨ra,rc,rfl,hrd⟩:=recs_of ho hr
 have HCM:Hid (Cmds w1 ra 5 rc awakeL):=Lib.hid (recs_cmds hrd (by intro r hr;simp[awakeL]at hr;rcases hr with rfl|rfl|rfl|rfl|rfl <;>decide))
 have HE1:=Lib.hid hE
 clear ho hr hE hrd G1
 rw[show awakeL.length=5 from rfl]
 have HRN:Hid (∀wz,Ext w1 wz→Calls Tryz.prog 20 #[.slice ra 5 rc] wz (GivesB sA2 pA2 wz)):=Lib.hid (fun wz e=>by
  obtain⟨Q,q1,q2,q3⟩:=HCM.out.r
  exact run_cmds awake_steps ra 5 rc wz ((HW.out.ext HE1.out).ext e).glob ⟨⟨Q,q1,q2.ext e,fun k q hq=>let⟨C,c1,c2,c3⟩:=q3 k q hq;⟨C,c1,c2.ext e,c3⟩⟩,HCM.out.n⟩ (by omega))
 go_wp2_with fail
 refine(HRN.out _ (by(repeat(first|with_reducible(first|exact eR_ _|assumption|refine eA_ ?_ _|refine eD_ ?_|refine eN_ ?_ _|refine eL_ ?_ _)|(with_reducible refine eS_ ?_ _ ?hp;case hp=>first|(simp;done)|(simp;omega)|omega))))).mono ?_
 rintro e w2 ⟨l,he,hl,hE⟩
 obtain⟨cs,hcs⟩: ∃c,c=sA2.cs pA2 l:=⟨_,rfl⟩
 rw[←hcs]at he
 subst he
 have hsz:cs.size=94:=by rw[hcs];rfl
 have HC0:Hid (cs[0]? =some (.int .i64 0)):=Lib.hid (by rw[hcs];rfl)
 have HC3:Hid (cs[3]? =some (.slice l.c 4 l.cc)):=Lib.hid (by rw[hcs];rfl)
 have HCO:Hid (∀u∈cs.toList,u.oneCell'=true):=Lib.hid (by rw[hcs];exact Ps.cs_one _ _ _)
 have HRC:Hid (Rd w2 1 l.c 4 l.cc (ivs [4294967295,4294967295,4294967295,0])):=Lib.hid hl.lies.c
 have HE2:=Lib.hid (HE1.out.trans (by(repeat(first|with_reducible(first|exact eR_ _|assumption|refine eA_ ?_ _|refine eD_ ?_|refine eN_ ?_ _|refine eL_ ?_ _)|(with_reducible refine eS_ ?_ _ ?hp;case hp=>first|(simp;done)|(simp;omega)|omega))):Ext w1 w2))
 clear hcs hl hE HRN HCM
 go_wp2_with (refine wpList_store_blk rfl (.tmp 4) (.tmp 11) 53 rfl 0 rfl (.agg cs) rfl (Blk.new w2 53 Tryz.zeroCells53) (by show _=some cs.size;rw[hsz];exact size_pipe) ?c1 ?c2 ?_)
 case c1=>exact fun u hu=>HCO.out u hu
 case c2=>show 0+cs.size≤_;rw[hsz];decide
 intro w3 hb hk
 rw[spl_all _ _ (by show cs.size=_;rw[hsz];rfl)]at hb
 have HE3:=Lib.hid (hk.ext ((HE2.out).alloc (.cells Tryz.zeroCells53 53)) (fun k hk=>by have:=HE2.out.size;omega))
 have HR3:Hid (Rd w3 1 l.c 4 l.cc (ivs [4294967295,4294967295,4294967295,0])):=Lib.hid ((HRC.out.ext ((Ext.refl w2).alloc (.cells Tryz.zeroCells53 53))).kp hk (fun ad e=>by have:=HRC.out.ptr (by omega) ad e;omega))
 have q0:=(hb.cell 0).trans HC0.out
 have q3:=(hb.cell 3).trans HC3.out
 obtain⟨cb,co,hcl, -, -⟩:=HR3.out.at_ (by omega)
 rw[hcl]at q3
 have x0:w3.cell? ⟨cb,co,none⟩=some (.int .i64 4294967295):=HR3.out.get hcl (j:=0) rfl
 have x2:w3.cell? ⟨cb,co+2,none⟩=some (.int .i64 4294967295):=HR3.out.get hcl (j:=2) rfl
 have x3:w3.cell? ⟨cb,co+3,none⟩=some (.int .i64 0):=HR3.out.get hcl (j:=3) rfl
 clear hb hk hcl HRC HR3
 generalize w2.heap.size=G at*
 go_wp2_with fail
 exact bodyPost_ret (v:=.bool true) (by simp[results,Tryz.results10,go_sem]) rfl ⟨rfl,HE3.out⟩
end Go.Proofs.YtplljnfjkkloeaaGreatDoor
set_option linter.unusedVariables false
set_option linter.unusedSimpArgs false
namespace Go.Proofs.YtplljnfjkkloeaaGreatDoor
end Go.Proofs.YtplljnfjkkloeaaGreatDoor
set_option linter.unusedVariables false
set_option linter.unusedSimpArgs false
namespace Go.Proofs.YtplljnfjkkloeaaGreatDoor
open Go.RowKit
theorem rq_one (Q:List Rq): ∀u∈Q.flatMap Rq.cells,u.oneCell'=true:=by
 intro u hu
 rw[List.mem_flatMap]at hu
 obtain⟨q, -,hu⟩:=hu
 simp at hu
 rcases hu with rfl|rfl <;>rfl
end Go.Proofs.YtplljnfjkkloeaaGreatDoor
set_option linter.unusedVariables false
set_option linter.unusedSimpArgs false
namespace Go.Proofs.YtplljnfjkkloeaaGreatDoor
attribute [local go_sem] Go.Oper.semAt_some
open Go.RowKit
end Go.Proofs.YtplljnfjkkloeaaGreatDoor
