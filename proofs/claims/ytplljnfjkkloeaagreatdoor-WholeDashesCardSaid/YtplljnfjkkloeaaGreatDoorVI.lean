/- Proof text: a line's pixels in a rectangle, as the document lists them (rastrumref14.Within). By an AI agent. No condition beyond what each theorem states. -/
import Derived.Test.YtplljnfjkkloeaaGreatDoorVF
import Derived.Test.YtplljnfjkkloeaaGreatDoorJE
import Derived.Deep.CutBlock
set_option linter.unusedVariables false
set_option linter.unusedSimpArgs false
set_option maxHeartbeats 16000000
namespace Go.Proofs.YtplljnfjkkloeaaGreatDoor
attribute [local go_sem] Go.Oper.semAt_some
open Go.RowKit
theorem ownb_lt {w:World} {base:Nat} {e:TypeId} {size:Nat} {v:Value} {n:Nat} {xs:List Value} (h:w.ownsRow base e size v n xs): ∀g,v.ownBlock=some g→g<w.heap.size:=by
 intro g hg
 rcases h.2 with⟨h0, -⟩|⟨g',cap',cur,h0,hb,hgg, -⟩
 ·rw[h0]at hg;simp[Value.ownBlock]at hg
 ·rw[h0]at hg
  simp[Value.ownBlock]at hg
  subst hg
  exact(Array.getElem?_eq_some_iff.1 hgg).1
theorem blk_rd1 {w:World} {G:Nat} {T:TypeId} {x0 x1 x2:Value} (h:Blk w G T #[x0,x1,x2]):Rd w 3 (some ⟨G,0,none⟩) 1 1 [x0,x1,x2]:=
 ⟨rfl,Nat.le_refl _,by unfold maxLen;omega,fun _=>⟨G,0,rfl,h.lt,fun j hj=>by rw[Nat.zero_add,h.cell];simp⟩⟩
theorem info_st:(Tryz.prog.info? 97).map (fun i=>(i.zero,i.size,i.bytes))=some (some (.agg #[.int .i64 0,.int .i64 0,.int .i64 0]),3,24):=by kernel_rfl
theorem size_st:(Tryz.prog.info? 97).map (·.size)=some 3:=by kernel_rfl
structure InL (W1 wr:World) (O:List (Int×Int×Int)) (v:Value):Prop where
 own:wr.ownsRow W1.heap.size 97 3 v O.length (O.flatMap stC)
 e:Ext W1 wr
abbrev D20:List Nat:=[78,79,80,81,82,83,84,85,7]
abbrev K20:List (Nat×Nat):=[(0,78),(1,79),(2,80),(3,81),(4,82),(5,83),(6,84),(7,85),(8,7)]
abbrev C20:List (Nat×List Nat):=[(5,[5,6,7,8]),(7,[7,8]),(8,[8])]
def F20 (W1:World) (B2 k:Nat) (ov rv sv:Value) (s:Int×Int×Int) (T D:List (Int×Int×Int)) (slot:Nat) (v:Value) (x:World):Prop:=match slot with
 |78=>v=ov
 |79=>v=.int .i64 (k:Int)
 |80=>v=sv
 |81=>v=.agg #[.int .i64 s.1,.int .i64 s.2.1,.int .i64 s.2.2]
 |82=> ∃G,v=.slice (some ⟨G,0,none⟩) 1 1∧Blk x G 97 #[.int .i64 s.1,.int .i64 s.2.1,.int .i64 s.2.2]
 |83=>x.ownsRow W1.heap.size 97 3 v (k+1) ((T++[s]).flatMap stC)∧x.ownsRow B2 97 3 rv D.length (D.flatMap stC)∧Ext W1 x
 |84=>v=rv
 |85=>InL W1 x (T++s::D) v
 |7=>InL W1 x (T++s::D) v
 |_=>True
theorem F20_ext {W1:World} {B2 k:Nat} {ov rv sv:Value} {s:Int×Int×Int} {T D:List (Int×Int×Int)} {x y:World} (e:Ext x y) (slot:Nat) (v:Value) (h:F20 W1 B2 k ov rv sv s T D slot v x):F20 W1 B2 k ov rv sv s T D slot v y:=by
 unfold F20
 split
 all_goals first|exact(let⟨G,h1,h2⟩:=h;⟨G,h1,h2.ext e⟩)|exact⟨ownsRow_ext h.1 e,ownsRow_ext h.2.1 e,h.2.2.trans e⟩|exact⟨ownsRow_ext h.own e,h.e.trans e⟩|exact h|trivial
set_option maxRecDepth 100000 in
theorem rwithin_any (ax ay bx by_:Int) (w:World) (ha:Unit (ax,ay)) (hb:Unit (bx,by_)):
  Calls Tryz.prog 26 #[.agg (ptR ax ay),.agg (ptR bx by_),.agg #[.int .i64 0,.int .i64 0,.int .i64 9,.int .i64 8]] w fun e w'=> ∃a c,e=.returned (.slice a (stepL ax ay bx by_ r98).length c)∧Rd w' 3 a (stepL ax ay bx by_ r98).length c ((stepL ax ay bx by_ r98).flatMap stC)∧Ext w w':=by
 obtain⟨A,hA⟩: ∃P,P=w.heap.size:=⟨_,rfl⟩
 obtain⟨B,hB⟩: ∃P,P=A+1:=⟨_,rfl⟩
 obtain⟨R,hR⟩: ∃P,P=B+1:=⟨_,rfl⟩
 have BA:Hid (Blk (((w.alloc (.cells (ptR ax ay) 79)).alloc (.cells (ptR bx by_) 79)).alloc (.cells #[.int .i64 0,.int .i64 0,.int .i64 9,.int .i64 8] 48)) A 79 (ptR ax ay)):=Lib.hid (by rw[hA];exact((Blk.new _ _ _).alloc _).alloc _)
 have BB:Hid (Blk (((w.alloc (.cells (ptR ax ay) 79)).alloc (.cells (ptR bx by_) 79)).alloc (.cells #[.int .i64 0,.int .i64 0,.int .i64 9,.int .i64 8] 48)) B 79 (ptR bx by_)):=Lib.hid (by
  have:=(Blk.new (w.alloc (.cells (ptR ax ay) 79)) 79 (ptR bx by_)).alloc (.cells #[.int .i64 0,.int .i64 0,.int .i64 9,.int .i64 8] 48)
  rw[World.size_alloc,←hA,←hB]at this
  exact this)
 have BR:Hid (Blk (((w.alloc (.cells (ptR ax ay) 79)).alloc (.cells (ptR bx by_) 79)).alloc (.cells #[.int .i64 0,.int .i64 0,.int .i64 9,.int .i64 8] 48)) R 48 #[.int .i64 0,.int .i64 0,.int .i64 9,.int .i64 8]):=Lib.hid (by
  have:=Blk.new ((w.alloc (.cells (ptR ax ay) 79)).alloc (.cells (ptR bx by_) 79)) 48 #[.int .i64 0,.int .i64 0,.int .i64 9,.int .i64 8]
  rw[World.size_alloc,World.size_alloc,←hA,←hB,←hR]at this
  exact this)
 have HE0:Hid (Ext w (((w.alloc (.cells (ptR ax ay) 79)).alloc (.cells (ptR bx by_) 79)).alloc (.cells #[.int .i64 0,.int .i64 0,.int .i64 9,.int .i64 8] 48))):=Lib.hid ((((Ext.refl w).alloc _).alloc _).alloc _)
 have HWD:Hid (∀wz,Calls Tryz.prog 48 #[.agg (ptR ax ay),.agg (ptR bx by_)] wz fun e w'=>e=.returned (.bool (!(wayOf ax ay bx by_).turned))∧Ext wz w'):=Lib.hid (fun wz=>wide_any ax ay bx by_ wz ha hb)
 have HEX:Hid (∀(i j:Nat) wz,i≤9→j≤8→Calls Tryz.prog 24 #[.agg (ptR ax ay),.agg (ptR bx by_),.int .i64 i,.int .i64 j] wz fun e w'=>e=.returned (.bool (decide (rExits ax ay bx by_ i j)))∧Ext wz w'):=Lib.hid (fun i j wz hi hj=>exits_any ax ay bx by_ i j wz ha hb ⟨by omega,by omega⟩ ⟨by omega,by omega⟩)
 have HOF:Hid (∀wz,Calls Tryz.prog 47 #[.agg (ptR ax ay),.agg (ptR bx by_)] wz fun e w'=>e=.returned (.agg (ofR ax ay bx by_))∧Ext wz w'):=Lib.hid (fun wz=>rof_any ax ay bx by_ wz ha hb)
 have hu:=way_unit ha hb
 have b1:=lst_in hu.1.1.1 hu.1.1.2
 obtain⟨F,hF⟩: ∃F,F=lst (wayOf ax ay bx by_).au:=⟨_,rfl⟩
 obtain⟨G,hG⟩: ∃F,F=lst (wayOf ax ay bx by_).bu:=⟨_,rfl⟩
 obtain⟨X0,hX⟩: ∃F,F=(if ofB ax ay bx by_=true then inX ax ay else 0):=⟨_,rfl⟩
 obtain⟨Y0,hY⟩: ∃F,F=(if ofB ax ay bx by_=true then inY ax ay else 0):=⟨_,rfl⟩
 obtain⟨E1,hE1⟩: ∃F,F=ofE ax ay bx by_:=⟨_,rfl⟩
 obtain⟨T,hT⟩: ∃T,T=(wayOf ax ay bx by_).turned:=⟨_,rfl⟩
 have HNU:Hid (∀(i j:Nat) wz,i≤9→j≤8→rExits ax ay bx by_ i j→Calls Tryz.prog 49 #[.agg (liC F G X0 Y0 E1),.int .i64 i,.int .i64 j,.int .i64 (if T=true then(j:Int)else(i:Int))] wz fun e w'=>e=.returned (.int .i64 (onum ax ay bx by_ i j))∧Ext wz w'):=Lib.hid (fun i j wz hi hj hx=>by
  have hne: ¬(ax=bx∧ay=by_):=fun h=>by rw[h.1,h.2]at hx;exact exits_same hx
  rw[←num_onum hne,hF,hG,hX,hY,hE1,hT]
  exact rnum_any _ _ _ _ _ _ _ _ wz (by omega) (by split <;>omega))
 unfold ofR at HOF
 rw[←hF,←hG,←hX,←hY,←hE1]at HOF
 rw[←hT]at HWD
 clear hF hG hX hY hE1 hT b1 hu ha hb
 go_enter Tryz.func26,Tryz.ntmps26
 go_upto_region 1 with fail
 simp only[←hA,←hB,←hR]
 clear hA hB hR
 generalize(((w.alloc (.cells (ptR ax ay) 79)).alloc (.cells (ptR bx by_) 79)).alloc (.cells #[.int .i64 0,.int .i64 0,.int .i64 9,.int .i64 8] 48))=W0 at*
 obtain⟨r0,r1,r2,r3⟩:=BR.out.c4
 go_wp2_with fail
 refine(rright_98 _).mono ?_
 rintro e w1 ⟨rfl,hE⟩
 have HE1:=Lib.hid hE
 clear hE r0 r1 r2 r3
 obtain⟨a0,a1⟩:=(BA.out.ext HE1.out).c2
 obtain⟨b0,b1⟩:=(BB.out.ext HE1.out).c2
 go_wp2_with fail
 refine(HOF.out _).mono ?_
 rintro e w2 ⟨rfl,hE⟩
 have HE2:=Lib.hid (HE1.out.trans hE)
 clear hE a0 a1 b0 b1 HE1 HOF
 go_upto_region 5 with fail
 have HL:Hid (Blk (w2.alloc (.cells #[.int .i64 F,.int .i64 G,.int .i64 X0,.int .i64 Y0,.bool E1] 123)) w2.heap.size 123 (liC F G X0 Y0 E1)):=Lib.hid (Blk.new _ _ _)
 have HE3:Hid (Ext W0 (w2.alloc (.cells #[.int .i64 F,.int .i64 G,.int .i64 X0,.int .i64 Y0,.bool E1] 123))):=Lib.hid (HE2.out.alloc _)
 generalize(w2.alloc (.cells #[.int .i64 F,.int .i64 G,.int .i64 X0,.int .i64 Y0,.bool E1] 123))=W1 at*
 generalize w2.heap.size=PL at*
 have BA1:=Lib.hid (BA.out.ext HE3.out)
 have BB1:=Lib.hid (BB.out.ext HE3.out)
 have BR1:=Lib.hid (BR.out.ext HE3.out)
 have HEW:=Lib.hid (HE0.out.trans HE3.out)
 clear HE2 BA BB BR HE3 HE0
 obtain⟨r0,r1,r2,r3⟩:=BR1.out.c4
 have H0:Hid (InL W1 W1 (outK ax ay bx by_ 0 0) (.slice none 0 0)):=Lib.hid ⟨by rw[outK_zero];exact World.ownsRow_nil _ _ _ _,Ext.refl _⟩
 go_wp2_with fail
 clear r0 r1 r2 r3
 go_loopw [7,9] (fun o x wr=> ∃(i:Nat) (v:Value),i≤9∧v=o∧x=.int .i64 i∧Hid (InL W1 wr (outK ax ay bx by_ i 0) v)) (fun _ x _=>9-(intOf x).toNat)
 case atStart=>exact⟨0,_,by omega,rfl,rfl,H0⟩
 case round=>
  clear H0
  obtain⟨i,v,hi,rfl,rfl,HC⟩:=hrel
  obtain⟨W2,rfl⟩: ∃W2:World,W2=wr:=⟨_,rfl⟩
  obtain⟨r0,r1,r2,r3⟩:=(BR1.out.ext HC.out.e).c4
  by_cases hlt:i<9
  ·have d1:decide ((i:Int)<9)=true:=by simp;omega
   have i1:wrap64 ((i:Int)+1)=(i:Int)+1:=wrap64_of (by omega) (by omega)
   go_wp2_with fail
   clear r0 r1 r2 r3
   go_loopw [7,10] (fun o y wr=> ∃(j:Nat) (v:Value),j≤8∧v=o∧y=.int .i64 j∧Hid (InL W1 wr (outK ax ay bx by_ i j) v)) (fun _ y _=>8-(intOf y).toNat)
   case atStart=>exact⟨0,_,by omega,rfl,rfl,HC⟩
   case round=>
    clear HC
    obtain⟨j,v,hj,rfl,rfl,HC⟩:=hrel
    obtain⟨W3,rfl⟩: ∃W3:World,W3=wr:=⟨_,rfl⟩
    obtain⟨r0,r1,r2,r3⟩:=(BR1.out.ext HC.out.e).c4
    by_cases hjt:j<8
    ·have d2:decide ((j:Int)<8)=true:=by simp;omega
     have j1:wrap64 ((j:Int)+1)=(j:Int)+1:=wrap64_of (by omega) (by omega)
     obtain⟨a0,a1⟩:=(BA1.out.ext HC.out.e).c2
     obtain⟨b0,b1⟩:=(BB1.out.ext HC.out.e).c2
     have HCE:=Lib.hid (HEX.out i j W3 hi hj)
     obtain⟨D,hD⟩: ∃D,D=decide (rExits ax ay bx by_ i j):=⟨_,rfl⟩
     rw[←hD]at HCE
     have HDD:=Lib.hid hD
     clear hD
     go_wp2_with fail
     refine HCE.out.mono ?_
     rintro e w4 ⟨rfl,hE⟩
     have HC4:Hid (InL W1 w4 (outK ax ay bx by_ i j) v):=Lib.hid ⟨ownsRow_ext HC.out.own hE,HC.out.e.trans hE⟩
     clear hE a0 a1 b0 b1 r0 r1 r2 r3 HCE HC
     cases D
     ·have HN1:Hid (InL W1 w4 (outK ax ay bx by_ i (j+1)) v):=Lib.hid (by rw[outK_no (of_decide_eq_false HDD.out.symm)];exact HC4.out)
      go_wp2_with fail
      try simp only[j1]
      go_roundw
      case rel=>first|exact⟨j+1,v,by omega,rfl,by go_num,HN1⟩|((repeat apply Exists.intro);exact⟨⟨j+1,v,by omega,rfl,by go_num,HN1⟩,rfl⟩)
      case measure=>simp[intOf];omega
     ·have HXX:=Lib.hid (of_decide_eq_true HDD.out.symm)
      obtain⟨a0,a1⟩:=(BA1.out.ext HC4.out.e).c2
      obtain⟨b0,b1⟩:=(BB1.out.ext HC4.out.e).c2
      have hlen:=outK_len ax ay bx by_ i j
      obtain⟨K,hK⟩: ∃K,K=onum ax ay bx by_ i j:=⟨_,rfl⟩
      have HYES:Hid (outK ax ay bx by_ i (j+1)=insK (K,i,j) (outK ax ay bx by_ i j)):=Lib.hid (by rw[hK];exact outK_yes HXX.out)
      have HN3:Hid (∀wz,Calls Tryz.prog 49 #[.agg (liC F G X0 Y0 E1),.int .i64 i,.int .i64 j,.int .i64 (if T=true then(j:Int)else(i:Int))] wz fun e w'=>e=.returned (.int .i64 K)∧Ext wz w'):=Lib.hid (fun wz=>by rw[hK];exact HNU.out i j wz hi hj HXX.out)
      generalize outK ax ay bx by_ i j=O at*
      have HLEN:Hid (O.length≤72):=Lib.hid (by omega)
      clear hK hlen HNU HXX HDD
      go_upto_region 13 with fail
      go_wp2_with fail
      refine(HWD.out _).mono ?_
      rintro e w5 ⟨rfl,hE⟩
      have HC5:Hid (InL W1 w5 O v):=Lib.hid ⟨ownsRow_ext HC4.out.own hE,HC4.out.e.trans hE⟩
      clear hE a0 a1 b0 b1 HC4
      obtain⟨l0,l1,l2,l3,l4⟩:=(HL.out.ext HC5.out.e).c5
      cases T
      all_goals
       simp only[if_true,if_false,Bool.false_eq_true]at HN3
       go_wp2_with fail
       refine(HN3.out _).mono ?_
       rintro e w6 ⟨rfl,hE⟩
       have HC6:Hid (InL W1 w6 O v):=Lib.hid ⟨ownsRow_ext HC5.out.own hE,HC5.out.e.trans hE⟩
       clear hE l0 l1 l2 l3 l4 HC5
       go_upto_region 16 with fail
       have HBX:Hid (Blk (w6.alloc (.cells #[.int .i64 K,.int .i64 i,.int .i64 j] 97)) w6.heap.size 97 #[.int .i64 K,.int .i64 i,.int .i64 j]):=Lib.hid (Blk.new _ _ _)
       have HC7:Hid (InL W1 (w6.alloc (.cells #[.int .i64 K,.int .i64 i,.int .i64 j] 97)) O v):=Lib.hid ⟨ownsRow_ext HC6.out.own ((Ext.refl w6).alloc _),HC6.out.e.alloc _⟩
       have HGB:Hid (∀g,v.ownBlock=some g→g<w6.heap.size):=Lib.hid (ownb_lt HC6.out.own)
       clear HC6
       generalize(w6.alloc (.cells #[.int .i64 K,.int .i64 i,.int .i64 j] 97))=W7 at*
       generalize w6.heap.size=PS at*
       obtain⟨va,vc,hv,hrd⟩:=ownsRow_rd HC7.out.own
       subst hv
       have HRO:=Lib.hid hrd
       clear hrd
       go_upto_block 4 with fail
       go_cut [13]from 57 to 72 (fun s13 wx=> ∃k:Nat,s13=.int .i64 k∧Hid (k≤O.length∧cutK K O=k∧Ext W7 wx))
       case first=>
        go_wp2_with fail
        go_loopw [13] (fun a wr=> ∃k:Nat,k≤O.length∧a=.int .i64 k∧Hid (Ext W7 wr∧ ∀m,m<k→ ∃t,O[m]? =some t∧t.1<K)) (fun a _=>O.length-(intOf a).toNat)
        case atStart=>exact⟨0,Nat.zero_le _,rfl,Lib.hid ⟨Ext.refl _,fun m hm=>absurd hm (Nat.not_lt_zero m)⟩⟩
        case round=>
         obtain⟨k,hk,rfl,HX⟩:=hrel
         obtain⟨W8,rfl⟩: ∃W8:World,W8=wr:=⟨_,rfl⟩
         by_cases hkn:k<O.length
         ·obtain⟨t,ht⟩: ∃t,O[k]? =some t:=⟨_,List.getElem?_eq_getElem hkn⟩
          obtain⟨b,off,hva, -, -⟩:=HRO.out.at_ (by omega)
          subst hva
          obtain⟨c0, -, -⟩:=st_at (HRO.out.ext HX.out.1) ht
          obtain⟨s0,s1,s2⟩:=(HBX.out.ext HX.out.1).c3
          have d3:decide ((k:Int)<(O.length:Int))=true:=by simp;omega
          have k1:wrap64 ((k:Int)+1)=(k:Int)+1:=wrap64_of (by omega) (by have:=HLEN.out;omega)
          have hkI:(k:Int)<(O.length:Int):=by omega
          have hk0:(0:Int)≤(k:Int):=by omega
          obtain⟨t1,ht1⟩: ∃t1,t1=t.1:=⟨_,rfl⟩
          rw[←ht1]at c0
          by_cases hlt1:t1<K
          ·have d4:decide (t1<K)=true:=by simpa using hlt1
           have HNX:Hid (∀m,m<k+1→ ∃t,O[m]? =some t∧t.1<K):=Lib.hid (fun m hm=>by
            rcases(by omega:m<k∨m=k)with h|rfl
            ·exact HX.out.2 m h
            ·exact⟨t,ht,by rw[←ht1];exact hlt1⟩)
           clear ht ht1 hlt1
           go_upto_region 17 with fail
           go_quiet (fail)
           go_wp2_with fail
           try simp only[k1]
           go_roundw
           case rel=>first|exact⟨k+1,by omega,by go_num,Lib.hid ⟨HX.out.1.drewN _,HNX.out⟩⟩|((repeat apply Exists.intro);exact⟨⟨k+1,by omega,by go_num,Lib.hid ⟨HX.out.1.drewN _,HNX.out⟩⟩,rfl⟩)
           case measure=>simp[intOf];omega
          ·have d4:decide (t1<K)=false:=by simpa using hlt1
           have HCK:Hid (cutK K O=k):=Lib.hid (cutK_at K O k HX.out.2 (fun u hu=>by rw[ht]at hu;obtain rfl:=Option.some.inj hu;rw[←ht1];exact hlt1) (by omega))
           clear ht ht1 hlt1
           go_upto_region 17 with fail
           go_quiet (fail)
           go_wp2_with fail
           go_meet
           exact⟨k,rfl,Lib.hid ⟨hk,HCK.out,HX.out.1.drewN _⟩⟩
         ·obtain⟨s0,s1,s2⟩:=(HBX.out.ext HX.out.1).c3
          have d3:decide ((k:Int)<(O.length:Int))=false:=by simp;omega
          have HCK:Hid (cutK K O=k):=Lib.hid (cutK_at K O k HX.out.2 (fun u hu=>by rw[List.getElem?_eq_none (by omega)]at hu;cases hu) (by omega))
          go_upto_region 17 with fail
          go_quiet (fail)
          go_wp2_with fail
          go_meet
          exact⟨k,rfl,Lib.hid ⟨hk,HCK.out,HX.out.1.drewN _⟩⟩
       case rest=>
        obtain⟨k,rfl,HX⟩:=hcut
        generalize wc=W8 at*
        have hk:=HX.out.1
        have HC8:Hid (InL W1 W8 O (.slice va O.length vc)):=Lib.hid ⟨ownsRow_ext HC7.out.own HX.out.2.2,HC7.out.e.trans HX.out.2.2⟩
        have HB8:=Lib.hid (HBX.out.ext HX.out.2.2)
        obtain⟨ta,tc,htl,hrt⟩:=rd_tail (P:=Tryz.prog) Tryz.underlying93 size_st (HRO.out.ext HX.out.2.2) k hk
        rw[stC_drop]at hrt
        have HRT:=Lib.hid hrt
        have hDl:(O.drop k).length=O.length-k:=List.length_drop
        have hTl:(O.take k).length=k:=by rw[List.length_take];omega
        obtain⟨D,hD⟩: ∃D,D=O.drop k:=⟨_,rfl⟩
        obtain⟨T,hT⟩: ∃T,T=O.take k:=⟨_,rfl⟩
        have HINS:Hid (insK (K,(i:Int),(j:Int)) O=T++(K,(i:Int),(j:Int))::D):=Lib.hid (by unfold insK;rw[HX.out.2.1,hT,hD])
        rw[←hD]at hDl HRT
        rw[←hT]at hTl
        have HDT:=Lib.hid (And.intro hDl hTl)
        have HTK:=Lib.hid hT
        clear hrt hDl hTl hD hT HBX HRO HC7 HX
        go_wp2_with (refine wpList_append_rd rfl (.tmp 73) (.tmp 76) 93 rfl W8.heap.size 97 _ 3 24 Tryz.underlying93 info_st rfl (by decide) (.slice (some ⟨W8.heap.size,0,none⟩) 0 0) 0 [] rfl (World.ownsRow_lit W8 #[] 0 (Nat.le_refl _) (by unfold maxLen;omega) rfl) ta (O.length-k) tc (D.flatMap stC) rfl (HRT.out.ext (by(repeat(first|with_reducible(first|exact eR_ _|assumption|refine eA_ ?_ _|refine eD_ ?_|refine eN_ ?_ _|refine eL_ ?_ _)|(with_reducible refine eS_ ?_ _ ?hp;case hp=>first|(simp;done)|(simp;omega)|omega))))) (stC_one _) ?c3 (by decide) ?c5 ?_)
        case c3=>have:=HLEN.out;omega
        case c5=>simp
        intro rv w9 ho' hg'
        have hE9:Ext W8 w9:=Ext.grown ((Ext.refl W8).alloc _) hg' (fun g hg=>by simp[Value.ownBlock]at hg;omega)
        have HRV:Hid (w9.ownsRow W8.heap.size 97 3 rv D.length (D.flatMap stC)):=Lib.hid (by rw[HDT.out.1];simpa using ho')
        have HC9:Hid (InL W1 w9 O (.slice va O.length vc)):=Lib.hid ⟨ownsRow_ext HC8.out.own hE9,HC8.out.e.trans hE9⟩
        have HB9:=Lib.hid (HB8.out.ext hE9)
        have hlt8:=HB8.out.lt
        clear ho' hg' hE9 HRT htl
        obtain⟨sv,hsv,hso,hsb⟩:=own_head (P:=Tryz.prog) Tryz.underlying93 size_st HC9.out.own k hk
        rw[stC_take,←HTK.out]at hso
        have HSO:=Lib.hid hso
        have HSV:=Lib.hid hsv
        have HNE:Hid (rv.ownBlock=none∨rv.ownBlock≠sv.ownBlock):=Lib.hid (by
         cases hrb:rv.ownBlock with
         |none=>exact .inl rfl
         |some g2=>
          right
          intro h
          have h1:=own_ge HRV.out g2 hrb
          have h2:=HGB.out g2 (by rw[←hsb,←h])
          omega)
        have hkl:=HLEN.out
        have HKL:Hid (k≤O.length∧O.length≤72):=Lib.hid ⟨hk,hkl⟩
        clear hso hsv hsb hlt8 hk hkl HGB HTK HC8 HB8 HLEN
        go_upto_region 20 with fail
        refine wp_region_fill D20 (fun st u x=>EQ (fun u x=>u 7=.slice va O.length vc∧Ext w9 x) (F20 W1 W8.heap.size k (.slice va O.length vc) rv sv (K,(i:Int),(j:Int)) T D) K20 C20 st u x) (by kernel_rfl) (by kernel_rfl) ?_ ?_ ?_
        ·rintro x rfl
         exact EQ.begin ⟨rfl,(Ext.refl w9).drew⟩
        ·intro A' hA' st u x m o ho hst hdep hcl hR
         have hlen:A'.length=87:=by rw[hA'];rfl
         have h12:A'.getD 12 undef=.pointer (some ⟨PS,0,none⟩):=by rw[hA'];rfl
         have h13:A'.getD 13 undef=.int .i64 (k:Int):=by rw[hA'];rfl
         have h14:A'.getD 14 undef=rv:=by rw[hA'];rfl
         clear hA'
         have hm:m<9:=(Array.getElem?_eq_some_iff.1 ho).1
         have ev: ∀t,t<87→D20.contains t=true→(⟨fillA A' D20 u,[]⟩:Act).eval (.tmp t)=u t:=fun t h k=>fillA_in (by omega) k
         have z7:st 8=true→st 7=true:=fun h=>hcl 8 _ rfl h ⟨7,.data⟩ (by simp) rfl
         have z5:st 7=true→st 5=true:=fun h=>hcl 7 _ rfl h ⟨5,.data⟩ (by simp) rfl
         have z4:st 5=true→st 4=true:=fun h=>hcl 5 _ rfl h ⟨4,.data⟩ (by simp) rfl
         have z3:st 4=true→st 3=true:=fun h=>hcl 4 _ rfl h ⟨3,.data⟩ (by simp) rfl
         have z0:st 5=true→st 0=true:=fun h=>hcl 2 _ rfl (hcl 5 _ rfl h ⟨2,.data⟩ (by simp) rfl) ⟨0,.data⟩ (by simp) rfl
         have z2:st 5=true→st 2=true:=fun h=>hcl 5 _ rfl h ⟨2,.data⟩ (by simp) rfl
         rcases(by omega:m=0∨m=1∨m=2∨m=3∨m=4∨m=5∨m=6∨m=7∨m=8)with rfl|rfl|rfl|rfl|rfl|rfl|rfl|rfl|rfl
         all_goals(obtain rfl:(⟨_,_,_,_,_,_⟩:Oper)=o:=Option.some.inj ho;refine wpOp_plain rfl rfl ?_)
         ·obtain⟨h7, -⟩:=hR.e (all3 (st_no (fun h=>z0 h) hst) (st_no (fun h=>z0 (z5 h)) hst) (st_no (fun h=>z0 (z5 (z7 h))) hst))
          have q7:_=(.slice va O.length vc:Value):=(ev 7 (by decide) rfl).trans h7
          refine wp_of_run (v:=.slice va O.length vc) (w':=x) ?run ⟨_,fillA_put rfl,hR.quiet 0 78 (by decide) (by decide) (fun h=>⟨by rw[upu_ne (by decide)];exact h.1,h.2⟩) rfl⟩
          case run=>simp only[Act.eval,Array.getD_eq_getD_getElem?]at q7;simp[execOp,q7,Act.eval,go_sem]
         ·have q13:(⟨fillA A' D20 u,[]⟩:Act).eval (.tmp 13)=.int .i64 (k:Int):=(fillA_out (by omega) rfl).trans h13
          refine wp_of_run (v:=.int .i64 (k:Int)) (w':=x) ?run ⟨_,fillA_put rfl,hR.quiet 1 79 (by decide) (by decide) (fun h=>⟨by rw[upu_ne (by decide)];exact h.1,h.2⟩) rfl⟩
          case run=>simp only[Act.eval,Array.getD_eq_getD_getElem?]at q13;simp[execOp,q13,Act.eval,go_sem]
         ·have n5:=st_no z2 hst
          have AL:=fun j=>all3 (P:=fun c:Nat×List Nat=>st c.1=true→j∈c.2) (a:=(5,[5,6,7,8])) (b:=(7,[7,8])) (c:=(8,[8])) (no_of n5) (no_of (st_no z5 n5)) (no_of (st_no z7 (st_no z5 n5)))
          have f78:=hR.val (0,78) (by decide) (hdep ⟨0,.data⟩ (by simp) rfl) (AL 0)
          have f79:=hR.val (1,79) (by decide) (hdep ⟨1,.data⟩ (by simp) rfl) (AL 1)
          have q78:_=(.slice va O.length vc:Value):=(ev 78 (by decide) rfl).trans f78
          have q79:_=(.int .i64 (k:Int):Value):=(ev 79 (by decide) rfl).trans f79
          have f0:=HSV.out x
          refine wp_of_run (v:=sv) (w':=x) ?run ⟨_,fillA_put rfl,hR.quiet 2 80 (by decide) (by decide) (fun h=>⟨by rw[upu_ne (by decide)];exact h.1,h.2⟩) rfl⟩
          case run=>simp only[Act.eval,Array.getD_eq_getD_getElem?]at q78 q79;simp[execOp,q78,q79,Act.eval,Instr.sliceAt,f0]
         ·have n5:=st_no (fun h=>z3 (z4 h)) hst
          obtain⟨-,HE⟩:=hR.e (all3 n5 (st_no z5 n5) (st_no z7 (st_no z5 n5)))
          have q12:(⟨fillA A' D20 u,[]⟩:Act).eval (.tmp 12)=.pointer (some ⟨PS,0,none⟩):=(fillA_out (by omega) rfl).trans h12
          obtain⟨s0,s1,s2⟩:=(HB9.out.ext HE).c3
          refine wp_of_run (v:=.agg #[.int .i64 K,.int .i64 (i:Int),.int .i64 (j:Int)]) (w':=x) ?run ⟨_,fillA_put rfl,hR.quiet 3 81 (by decide) (by decide) (fun h=>⟨by rw[upu_ne (by decide)];exact h.1,h.2⟩) rfl⟩
          case run=>simp only[Act.eval,Array.getD_eq_getD_getElem?]at q12;simp[execOp,q12,Act.eval,go_sem,s0,s1,s2]
         ·have n5:=st_no z4 hst
          have f81:=hR.val (3,81) (by decide) (hdep ⟨3,.data⟩ (by simp) rfl) (all3 (no_of n5) (no_of (st_no z5 n5)) (no_of (st_no z7 (st_no z5 n5))))
          have q81:_=(.agg #[.int .i64 K,.int .i64 (i:Int),.int .i64 (j:Int)]:Value):=(ev 81 (by decide) rfl).trans f81
          refine wp_of_run (v:=.slice (some ⟨x.heap.size,0,none⟩) 1 1) (w':=x.alloc (.cells #[.int .i64 K,.int .i64 (i:Int),.int .i64 (j:Int)] 97)) ?run ⟨_,fillA_put rfl,hR.step 4 82 (by decide) (by decide) (fun h=>⟨by rw[upu_ne (by decide)];exact h.1,h.2.alloc _⟩) (fun s v=>F20_ext ((Ext.refl x).alloc _) s v) ⟨_,rfl,Blk.new _ _ _⟩⟩
          case run=>simp only[Act.eval,Array.getD_eq_getD_getElem?]at q81;simp[execOp,q81,Act.eval,go_sem]
         ·have n7:=st_no z5 hst
          have n8:=st_no z7 n7
          obtain⟨-,HE⟩:=hR.e (all3 hst n7 n8)
          have f80:=hR.val (2,80) (by decide) (hdep ⟨2,.data⟩ (by simp) rfl) (all3 (no_of hst) (no_of n7) (no_of n8))
          obtain⟨G2,g82,b82⟩:=hR.val (4,82) (by decide) (hdep ⟨4,.data⟩ (by simp) rfl) (all3 (no_of hst) (no_of n7) (no_of n8))
          have q80:_=(sv:Value):=(ev 80 (by decide) rfl).trans f80
          have q82:_=(.slice (some ⟨G2,0,none⟩) 1 1:Value):=(ev 82 (by decide) rfl).trans g82
          refine wp_append_rd (.tmp 80) (.tmp 82) 93 rfl W1.heap.size 97 _ 3 24 Tryz.underlying93 info_st rfl (by decide) sv k (T.flatMap stC) q80 (ownsRow_ext HSO.out HE) (some ⟨G2,0,none⟩) 1 1 (stC (K,(i:Int),(j:Int))) q82 (blk_rd1 b82) (by intro v hv;simp at hv;rcases hv with rfl|rfl|rfl <;>rfl) (by have:=HKL.out;omega) (by decide) (Nat.le_trans HC9.out.e.size HE.size) ?_
          intro v' w' ho' hg'
          have hf:F20 W1 W8.heap.size k (.slice va O.length vc) rv sv (K,(i:Int),(j:Int)) T D 83 v' w':=⟨by rw[List.flatMap_append];simpa using ho',(ownsRow_ext HRV.out HE).kept hg' HNE.out,(HC9.out.e.trans HE).grown hg' (fun g hk=>own_ge HSO.out g hk)⟩
          refine⟨_,fillA_put rfl,hR.cut (5,[5,6,7,8]) (by decide) 83 (by decide) (fun q hq hn hl hs v hF=>?_) hf⟩
          rcases(by decide: ∀q∈K20,q.1≠5→q.1∈[5,6,7,8]→(q=(6,84)∨q.1=7∨q.1=8)) q hq hn hl with rfl|h|h
          ·exact hF
          ·rw[h,n7]at hs;cases hs
          ·rw[h,n8]at hs;cases hs
         ·have q14:(⟨fillA A' D20 u,[]⟩:Act).eval (.tmp 14)=rv:=(fillA_out (by omega) rfl).trans h14
          refine wp_of_run (v:=rv) (w':=x) ?run ⟨_,fillA_put rfl,hR.quiet 6 84 (by decide) (by decide) (fun h=>⟨by rw[upu_ne (by decide)];exact h.1,h.2⟩) rfl⟩
          case run=>simp only[Act.eval,Array.getD_eq_getD_getElem?]at q14;simp[execOp,q14,Act.eval,go_sem]
         ·have n8:=st_no z7 hst
          obtain⟨fo,fr,fe⟩:=hR.val (5,83) (by decide) (hdep ⟨5,.data⟩ (by simp) rfl) (all3 (fun _=>by decide) (no_of hst) (no_of n8))
          have f84:=hR.val (6,84) (by decide) (hdep ⟨6,.data⟩ (by simp) rfl) (all3 (fun _=>by decide) (no_of hst) (no_of n8))
          obtain⟨ra,rc,hrv,hrr⟩:=ownsRow_rd fr
          have q83:=ev 83 (by decide) rfl
          have q84:_=(.slice ra D.length rc:Value):=((ev 84 (by decide) rfl).trans f84).trans hrv
          refine wp_append_rd (.tmp 83) (.tmp 84) 93 rfl W1.heap.size 97 _ 3 24 Tryz.underlying93 info_st rfl (by decide) (u 83) (k+1) ((T++[(K,(i:Int),(j:Int))]).flatMap stC) q83 fo ra D.length rc (D.flatMap stC) q84 hrr (stC_one _) (by have:=HKL.out;have:=HDT.out.1;omega) (by decide) fe.size ?_
          intro v' w' ho' hg'
          have hf:F20 W1 W8.heap.size k (.slice va O.length vc) rv sv (K,(i:Int),(j:Int)) T D 85 v' w':=⟨by
           rw[←List.flatMap_append]at ho'
           have e1:T++[(K,(i:Int),(j:Int))]++D=T++(K,(i:Int),(j:Int))::D:=by simp
           have e2:k+1+D.length=(T++(K,(i:Int),(j:Int))::D).length:=by rw[List.length_append,List.length_cons,HDT.out.2];omega
           rw[e1,e2]at ho'
           exact ho',fe.grown hg' (fun g hk=>own_ge fo g hk)⟩
          refine⟨_,fillA_put rfl,hR.cut (7,[7,8]) (by decide) 85 (by decide) (fun q hq hn hl hs v hF=>?_) hf⟩
          have h:=(by decide: ∀q∈K20,q.1≠7→q.1∈[7,8]→q.1=8) q hq hn hl
          rw[h,n8]at hs
          cases hs
         ·have f85:=hR.val (7,85) (by decide) (hdep ⟨7,.data⟩ (by simp) rfl) (all3 (fun _=>by decide) (fun _=>by decide) (no_of hst))
          have q85:=ev 85 (by decide) rfl
          refine wp_of_run (v:=u 85) (w':=x) ?run ⟨_,fillA_put rfl,hR.cut (8,[8]) (by decide) 7 (by decide) (fun q hq hn hl=>absurd (by simpa using hl) hn) f85⟩
          case run=>simp only[Act.eval,Array.getD_eq_getD_getElem?]at q85;simp[execOp,q85,Act.eval,go_sem]
        intro st u x hall hR
        have hF:=hR.val (8,7) (by decide) (hall 8 (by decide)) (all3 (fun _=>by decide) (fun _=>by decide) (fun _=>by decide))
        clear hR hall
        simp[fillA,fillL,D20]
        obtain⟨vn,hvn⟩: ∃v,v=u 7:=⟨_,rfl⟩
        rw[←hvn]at hF ⊢
        have HN1:Hid (InL W1 x (outK ax ay bx by_ i (j+1)) vn):=Lib.hid (by rw[HYES.out,HINS.out];exact hF)
        clear hF hvn
        go_wp2_with fail
        try simp only[j1]
        go_roundw
        case rel=>first|exact⟨j+1,vn,by omega,rfl,by go_num,HN1⟩|((repeat apply Exists.intro);exact⟨⟨j+1,vn,by omega,rfl,by go_num,HN1⟩,rfl⟩)
        case measure=>simp[intOf];omega
    ·obtain rfl:j=8:=by omega
     have HN1:Hid (InL W1 W3 (outK ax ay bx by_ (i+1) 0) v):=Lib.hid (by rw[←outK_turn];exact HC.out)
     go_wp2_with fail
     try simp only[i1]
     go_roundw
     case rel=>first|exact⟨i+1,v,by omega,rfl,by go_num,HN1⟩|((repeat apply Exists.intro);exact⟨⟨i+1,v,by omega,rfl,by go_num,HN1⟩,rfl⟩)
     case measure=>simp[intOf];omega
  ·obtain rfl:i=9:=by omega
   have ho:=HC.out.own
   rw[outK_all]at ho
   obtain⟨ra,rc,rfl,hrd⟩:=ownsRow_rd ho
   have HRD:=Lib.hid hrd
   have HE9:=Lib.hid (HEW.out.trans HC.out.e)
   clear ho hrd
   go_wp2_with fail
   exact bodyPost_ret (v:=.slice ra (stepL ax ay bx by_ r98).length rc) (by simp[results,Tryz.results26,go_sem]) rfl ⟨_,_,rfl,HRD.out,HE9.out⟩
end Go.Proofs.YtplljnfjkkloeaaGreatDoor
