/- Proof text: the command of a line (script.line). By an AI agent. No condition beyond what each theorem states. -/
import Derived.Test.YtplljnfjkkloeaaGreatDoorSH
import Derived.Test.YtplljnfjkkloeaaGreatDoorNM
import Derived.Test.YtplljnfjkkloeaaGreatDoorRows
import Derived.ProofKit
import Derived.OpenShut
import Derived.Carry
import Derived.ChangeSame
import Derived.ChangeVars
import Derived.JoinedOf
import Derived.RowKit
import Derived.RowKitTokens
import Derived.LaidLaws
import Derived.LaidHandle
import Derived.Lib.LaidTab
import Derived.Lib.LaidU8
import Derived.Lib.SmallJoins
import Derived.Stop.Joined
import Derived.Below
import Derived.Lay
import Derived.MakeChecks
import Derived.HandedShaped
import Derived.Shelf.Vars
set_option linter.unusedVariables false
set_option linter.unusedSimpArgs false
set_option maxHeartbeats 2000000
namespace Go.Proofs.YtplljnfjkkloeaaGreatDoor
open Go.RowKit
def strLen:Value→Nat
 |.string s=>s.size
 |_=>0
def flagN:Value→Nat
 |.bool true=>1
 |_=>0
def bs (l:List UInt8):ByteArray:=⟨l.toArray⟩
set_option maxRecDepth 10000 in
theorem line_any (s:ByteArray) (w:World) (hs:s.size≤1000000) (hW:Wd w):Calls Tryz.prog 53 #[.string s] w (LineP w (lineT s.data.toList)):=by
 obtain⟨L,hL⟩: ∃L,L=s.data.toList:=⟨_,rfl⟩
 have HW:=Lib.hid hW
 have hLs:L.length≤1000000:=by rw[hL,←Lib.size_eq];exact hs
 have C1:=Lib.hid (fun w1 h=>cut_any s ⟨#[32]⟩ 32 w1 hs rfl h)
 rw[←hL]at C1 ⊢
 obtain⟨p,hp⟩: ∃p,p=cut1 32 L:=⟨_,rfl⟩
 rw[←hp]at C1
 have hpl:=cut1_len 32 L
 rw[←hp]at hpl
 obtain⟨tot,ht⟩: ∃tot,tot=lineT L:=⟨_,rfl⟩
 rw[←ht]
 have HT:=Lib.hid ht
 have HP:=Lib.hid hp
 have HE0:=Lib.hid ((Ext.refl w).alloc (.cells #[.int .i64 0,.slice none 0 0] 88))
 have B0:=Lib.hid (Blk.new w 88 #[.int .i64 0,.slice none 0 0])
 obtain⟨p1,p2,p3⟩:=p
 simp only[]at C1 hpl
 have O1:=Lib.hid (fun w1=>op_any ⟨p1.toArray⟩ w1)
 obtain⟨r,hr⟩: ∃r,r=opT ⟨p1.toArray⟩:=⟨_,rfl⟩
 rw[←hr]at O1
 have HR:=Lib.hid hr
 have HY:Hid (p2.length≤1000000):=Lib.hid (by have:=hpl.2.1;omega)
 have HM:Hid (p3=false→p2=[]):=Lib.hid hpl.2.2.2
 clear hpl hp ht hL hLs hr hs hW
 obtain⟨op,ok⟩:=r
 simp only[]at O1
 cases ok with
 |false=>
  have HN:Hid (tot=.error 5):=Lib.hid (by
   rw[HT.out];unfold lineT
   rw[←HP.out,←HR.out];rfl)
  go_enter Tryz.func53,Tryz.ntmps53
  go_upto_region 1 with fail
  generalize(w.alloc (.cells #[.int .i64 0,.slice none 0 0] 88))=W0 at B0 HE0 ⊢
  go_wp2_with fail
  refine(C1.out _ (HW.out.ext HE0.out)).mono ?_
  rintro e w1 ⟨rfl,hE⟩
  have B1:=Lib.hid (B0.out.ext hE)
  have HE1:=Lib.hid (HE0.out.trans hE)
  clear hE B0 HE0
  go_wp2_with fail
  refine(O1.out _).mono ?_
  rintro e w2 ⟨rfl,hE⟩
  have B2:=Lib.hid (B1.out.ext hE)
  have HE2:=Lib.hid (HE1.out.trans hE)
  clear hE B1 HE1
  obtain⟨c0,c1,f0,f1⟩:=B2.out.two
  go_wp2_with fail
  try simp only[Exit.inBlock,Exit.then]
  obtain⟨s0,s1, -, -⟩:=((B2.out.set_ 0 (.int .i64 0)).set_ 1 (.slice none 0 0)).two
  refine bodyPost_ret (v:=.tuple #[.agg #[.int .i64 0,.slice none 0 0],.int .i64 5]) (by simp[results,Tryz.results53,go_sem,s0,s1]) rfl ?_
  rw[HN.out]
  exact⟨rfl,(HE2.out.setCell _ (Nat.le_refl _)).setCell _ (Nat.le_refl _)⟩
 |true=>
  have HN:Hid (lineE op (contN [] (numsT (restW (p1,p2,p3))))=tot):=Lib.hid (by
   rw[HT.out];unfold lineT
   rw[←HP.out,←HR.out,contN_nil];rfl)
  clear HT HP HR
  go_enter Tryz.func53,Tryz.ntmps53
  go_upto_region 1 with fail
  generalize(w.alloc (.cells #[.int .i64 0,.slice none 0 0] 88))=W0 at B0 HE0 ⊢
  go_wp2_with fail
  refine(C1.out _ (HW.out.ext HE0.out)).mono ?_
  rintro e w1 ⟨rfl,hE⟩
  have B1:=Lib.hid (B0.out.ext hE)
  have HE1:=Lib.hid (HE0.out.trans hE)
  clear hE B0 HE0
  go_wp2_with fail
  refine(O1.out _).mono ?_
  rintro e w2 ⟨rfl,hE⟩
  have B2:=Lib.hid (B1.out.ext hE)
  have HE2:=Lib.hid (HE1.out.trans hE)
  clear hE B1 HE1 O1 C1
  have HI:Hid (LnI w (w2.alloc (.cells #[.int .i64 op,.slice none 0 0] 88)) w2.heap.size op (.slice none 0 0) []):=Lib.hid ⟨B2.out.alloc _,Blk.new _ _ _,World.ownsRow_nil _ _ _ _,B2.out.lt,HE2.out.alloc _⟩
  obtain⟨P,hP⟩: ∃P,P=w2.heap.size:=⟨_,rfl⟩
  have HPP:=Lib.hid hP
  clear B2 HE2
  go_wp2_with fail
  rw[←hP]at HI ⊢
  clear hP
  generalize(w2.alloc (.cells #[.int .i64 op,.slice none 0 0] 88))=W2 at HI ⊢
  go_loopw [5,6] (fun y m wr=> ∃(Y:List UInt8) (M:Bool) (v:Value) (acc:List Int),y=.string ⟨Y.toArray⟩∧m=.bool M∧Hid (LnI w wr P op v acc)∧Hid (acc.length+Y.length+(if M then 1 else 0)≤1000001)∧Hid (lineE op (contN acc (numsT (if M then splitW Y else[])))=tot)) (fun y m _=>strLen y+flagN m)
  case atStart=>exact⟨p2,p3,.slice none 0 0,[],rfl,rfl,HI,Lib.hid (by have:=HY.out;simp;split <;>omega),HN⟩
  case round=>
   clear HI HN HM HY
   obtain⟨Y,M,v,acc,rfl,rfl,HI,HB,HN⟩:=hrel
   cases M with
   |true=>
    have C2:=Lib.hid (fun w1 h=>cut_any ⟨Y.toArray⟩ ⟨#[32]⟩ 32 w1 (by have:=HB.out;show Y.toArray.size≤_;simp at this ⊢;omega) rfl h)
    simp only[]at C2
    obtain⟨q,hq⟩: ∃q,q=cut1 32 Y:=⟨_,rfl⟩
    rw[←hq]at C2
    have hql:=cut1_len 32 Y
    rw[←hq]at hql
    have hsp:=splitW_is Y
    rw[←hq]at hsp
    obtain⟨q1,q2,q3⟩:=q
    simp only[]at C2 hql hsp
    have HQ:=Lib.hid hql
    have N1:=Lib.hid (fun w1 h=>number_any ⟨q1.toArray⟩ w1 (by have h1:=HB.out;have h2:=HQ.out.1;show q1.toArray.size≤_;simp at h1 h2 ⊢;omega) h)
    simp only[]at N1
    have hn:=HN.out
    rw[if_pos rfl,hsp]at hn
    obtain⟨x,hx⟩: ∃x,x=numT q1:=⟨_,rfl⟩
    rw[←hx]at N1
    by_cases h0:(numT q1).2=0
    ·rw[nums_step h0,←hx]at hn
     rw[←hx]at h0
     obtain⟨n,c⟩:=x
     simp only[]at h0 hn N1
     subst h0
     have HN2:=Lib.hid hn
     clear hn hx hq hql hsp HN
     go_wp2_with fail
     refine(C2.out _ (HW.out.ext HI.out.ext)).mono ?_
     rintro e w3 ⟨rfl,hE⟩
     have HI3:=Lib.hid (HI.out.ext' hE)
     clear hE HI
     go_wp2_with fail
     refine(N1.out _ (HW.out.ext HI3.out.ext)).mono ?_
     rintro e w4 ⟨rfl,hE⟩
     have HI4:=Lib.hid (HI3.out.ext' hE)
     clear hE HI3
     obtain⟨c0,c1,f0,f1⟩:=HI4.out.box.two
     go_wp2_with (refine wpList_append_rd rfl (.tmp 48) (.tmp 50) 26 rfl (P+1) 3 _ 1 8 Tryz.underlying26 info3 rfl (by decide) v acc.length (ivs acc) rfl (HI4.out.own.alloc _) (some ⟨w4.heap.size,0,none⟩) 1 1 [.int .i64 n] rfl (Rd_new w4 [.int .i64 n] 3 1 1 rfl (by unfold maxLen;omega)) (by simp[Value.oneCell']) ?_ (by decide) ?_ ?_)
     ·have:=HB.out;simp at this ⊢;omega
     ·have:=HI4.out.box.lt;simp;omega
     intro v' w5 ho hg
     obtain⟨av,cv,rfl, -⟩:=ownsRow_rd ho
     obtain⟨hb,hI⟩:=HI4.out.grow _ ho hg
     have HI5:=Lib.hid hI
     obtain⟨d0,d1,g0,g1⟩:=hb.two
     clear ho hg hb hI c0 c1 f0 f1 HI4
     go_wp2_with fail
     go_roundw
     case rel=>
      have hbb:Hid ((acc++[n]).length+q2.length+(if q3 then 1 else 0)≤1000001):=Lib.hid (by
       have h1:=HB.out;have h2:=HQ.out
       cases q3 with
       |true=>have:=h2.2.2.1 rfl;simp at h1 ⊢;omega
       |false=>have:=h2.2.2.2 rfl;subst this;simp at h1 ⊢;omega)
      first|exact⟨q2,q3,_,acc++[n],rfl,rfl,HI5,hbb,HN2⟩|((repeat apply Exists.intro);exact⟨⟨q2,q3,_,acc++[n],rfl,rfl,HI5,hbb,HN2⟩,rfl⟩)
     case measure=>
      have h2:=HQ.out
      cases q3 with
      |true=>have:=h2.2.2.1 rfl;simp[strLen,flagN,ByteArray.size];omega
      |false=>have:=h2.2.2.2 rfl;subst this;simp[strLen,flagN,ByteArray.size];try omega
    ·rw[nums_bad h0,←hx]at hn
     rw[←hx]at h0
     obtain⟨n,c⟩:=x
     simp only[]at h0 hn N1
     have HN2:Hid (tot=.error c):=Lib.hid hn.symm
     have t1:(c !=0)=true:=by simpa using h0
     clear hn hx hq hql hsp HN h0
     go_wp2_with fail
     refine(C2.out _ (HW.out.ext HI.out.ext)).mono ?_
     rintro e w3 ⟨rfl,hE⟩
     have HI3:=Lib.hid (HI.out.ext' hE)
     clear hE HI
     go_wp2_with fail
     refine(N1.out _ (HW.out.ext HI3.out.ext)).mono ?_
     rintro e w4 ⟨rfl,hE⟩
     have HI4:=Lib.hid (HI3.out.ext' hE)
     clear hE HI3
     obtain⟨c0,c1,f0,f1⟩:=HI4.out.res.two
     go_wp2_with fail
     try simp only[Exit.inBlock,Exit.then]
     obtain⟨s0,s1, -, -⟩:=((HI4.out.res.set_ 0 (.int .i64 0)).set_ 1 (.slice none 0 0)).two
     refine bodyPost_ret (v:=.tuple #[.agg #[.int .i64 0,.slice none 0 0],.int .i64 c]) (by simp[results,Tryz.results53,go_sem,s0,s1]) rfl ?_
     rw[HN2.out]
     exact⟨rfl,(HI4.out.ext.setCell _ (Nat.le_refl _)).setCell _ (Nat.le_refl _)⟩
   |false=>
    have hn:=HN.out
    rw[if_neg (by decide),nums_end]at hn
    have A1:=Lib.hid (fun w1 h=>arity_any op w1 h)
    obtain⟨m,hm⟩: ∃m,m=((askT op).getD []).length:=⟨_,rfl⟩
    rw[←hm]at A1
    have hm16:=ask_len op
    rw[←hm]at hm16
    have hal:acc.length≤1000001:=by have:=HB.out;omega
    have hl:lineE op (.ok acc)=if m=acc.length then .ok (op,acc)else .error 1:=by rw[hm];rfl
    rw[hl]at hn
    obtain⟨av,cv,rfl, -⟩:=ownsRow_rd HI.out.own
    obtain⟨k,hk⟩: ∃k,k=acc.length:=⟨_,rfl⟩
    rw[←hk]at hn hal
    have HK:=Lib.hid hk
    by_cases he:m=k
    ·rw[if_pos he]at hn
     subst he
     have HN2:=Lib.hid hn
     have t1:((m:Int) !=m)=false:=by simp
     rw[←hk]at HI
     clear hn HN hm hl hk
     go_wp2_with fail
     refine(A1.out _ (HW.out.ext HI.out.ext).glob).mono ?_
     rintro e w4 ⟨rfl,hE⟩
     have HI4:=Lib.hid (HI.out.ext' hE)
     clear hE HI
     obtain⟨c0,c1,f0,f1⟩:=HI4.out.res.two
     obtain⟨d0,d1,g0,g1⟩:=HI4.out.box.two
     go_wp2_with fail
     try simp only[Exit.inBlock,Exit.then]
     obtain⟨s0,s1, -, -⟩:=((HI4.out.res.set_ 0 (.int .i64 op)).set_ 1 (.slice av m cv)).two
     refine bodyPost_ret (v:=.tuple #[.agg #[.int .i64 op,.slice av m cv],.int .i64 0]) (by simp[results,Tryz.results53,go_sem,s0,s1]) rfl ?_
     rw[←HN2.out]
     have hd:=HI4.out.done (grown_trans (grown_set w4 w.heap.size 0 (.int .i64 op)) (grown_set _ _ 1 (.slice av m cv)))
     exact⟨_,rfl,hd.1,hd.2⟩
    ·rw[if_neg he]at hn
     have HN2:=Lib.hid hn
     have t1:((m:Int) !=k)=true:=by simp;omega
     rw[←hk]at HI
     clear hn HN hm hl hk
     go_wp2_with fail
     refine(A1.out _ (HW.out.ext HI.out.ext).glob).mono ?_
     rintro e w4 ⟨rfl,hE⟩
     have HI4:=Lib.hid (HI.out.ext' hE)
     clear hE HI
     obtain⟨c0,c1,f0,f1⟩:=HI4.out.res.two
     obtain⟨d0,d1,g0,g1⟩:=HI4.out.box.two
     go_wp2_with fail
     try simp only[Exit.inBlock,Exit.then]
     obtain⟨s0,s1, -, -⟩:=((HI4.out.res.set_ 0 (.int .i64 0)).set_ 1 (.slice none 0 0)).two
     refine bodyPost_ret (v:=.tuple #[.agg #[.int .i64 0,.slice none 0 0],.int .i64 1]) (by simp[results,Tryz.results53,go_sem,s0,s1]) rfl ?_
     rw[←HN2.out]
     exact⟨rfl,(HI4.out.ext.setCell _ (Nat.le_refl _)).setCell _ (Nat.le_refl _)⟩
end Go.Proofs.YtplljnfjkkloeaaGreatDoor
set_option linter.unusedVariables false
set_option linter.unusedSimpArgs false
namespace Go.Proofs.YtplljnfjkkloeaaGreatDoor
open Go.RowKit
def GivesRecs (w:World) (g:G) (e:Ending) (w':World):Prop:=
 match g with
 |.ok l=> ∃v vs,e=.returned (.tuple #[v,.int .i64 0,.int .i64 0])∧w'.ownsRow w.heap.size 88 2 v l.length vs∧RecCells (RdT w' 3 1) vs l∧Ext w w'
 |.error (k,c)=>e=.returned (.tuple #[.slice none 0 0,.int .i64 k,.int .i64 c])∧Ext w w'
theorem gives_err {w w':World} {g:G} {k:Nat} {c:Int} {e:Ending} (h:g=.error (k,c)) (he:e=.returned (.tuple #[.slice none 0 0,.int .i64 (k:Int),.int .i64 c])) (hE:Ext w w'):GivesRecs w g e w':=by
 rw[h];exact⟨he,hE⟩
theorem data_mk (l:List UInt8):(⟨l.toArray⟩:ByteArray).data.toList=l:=by simp
set_option maxRecDepth 10000 in
theorem parse_any (s:ByteArray) (w:World) (hs:s.size≤1000000) (hW:Wd w):Calls Tryz.prog 30 #[.string s] w (GivesRecs w (parseT s.data.toList)):=by
 have HT:Hid (cont [] (parseF s.data.toList.length s.data.toList 0)=parseT s.data.toList):=Lib.hid (by rw[cont_nil];rfl)
 obtain⟨tot,ht⟩: ∃tot,tot=parseT s.data.toList:=⟨_,rfl⟩
 rw[←ht]at HT ⊢
 have HW:=Lib.hid hW
 have HS:Hid (s.data.toList.length≤1000000):=Lib.hid (by rw[←Lib.size_eq];exact hs)
 clear ht hW hs
 go_enter Tryz.func30,Tryz.ntmps30
 go_wp2_with fail
 go_loopw [0,5] (fun sv v wr=> ∃(S:ByteArray) (f:Nat) (pre:List R) (vs:List Value),sv=.string S∧Hid (wr.ownsRow w.heap.size 88 2 v pre.length vs)∧Hid (RecCells (RdT wr 3 1) vs pre)∧Hid (Ext w wr)∧Hid (S.data.toList.length≤f∧S.data.toList.length≤1000000∧pre.length≤4096)∧Hid (cont pre (parseF f S.data.toList pre.length)=tot)) (fun sv _ _=>strLen sv)
 case atStart=>exact⟨s,s.data.toList.length,[],[],rfl,Lib.hid (World.ownsRow_nil _ _ _ _),Lib.hid trivial,Lib.hid (Ext.refl _),Lib.hid ⟨Nat.le_refl _,HS.out,by simp⟩,HT⟩
 case round=>
  clear HT HS
  obtain⟨S,f,pre,vs,rfl,HO,HRC,HE,HB,HT⟩:=hrel
  obtain⟨av,capv,rfl, -⟩:=ownsRow_rd HO.out
  have hp4:=HB.out.2.2
  by_cases h0:S=⟨#[]⟩
  ·subst h0
   have hh:=HT.out
   rw[show(⟨#[]⟩:ByteArray).data.toList=[]from rfl,parseF_nil]at hh
   have HT2:Hid (tot=.ok pre):=Lib.hid (by rw[←hh];simp[cont])
   clear hh HT
   go_wp2_with fail
   go_ret3
   rw[HT2.out]
   exact⟨_,vs,rfl,HO.out,HRC.out,HE.out⟩
  ·obtain⟨d0,hpos⟩:=empty_no h0
   have hne:S.data.toList≠[]:=by
    intro e
    have:=Lib.size_eq S
    rw[e,List.length_nil]at this
    omega
   obtain⟨f,rfl⟩: ∃f',f=f'+1:=⟨f-1,by
    have h1:=HB.out.1
    have h2:=Lib.size_eq S
    omega⟩
   have HNE:=Lib.hid hne
   obtain⟨c,hc⟩: ∃c,c=pre.length:=⟨_,rfl⟩
   have HC:=Lib.hid hc
   rw[←hc]at HO hp4 ⊢
   by_cases hfull:c=4096
   ·have HT2:Hid (tot=.error (c+1,12)):=Lib.hid (by
     rw[←HT.out,←HC.out,parseF_full hne hfull];rfl)
    have t1:decide ((c:Int)+1>4096)=true:=by simp;omega
    clear h0 hne HT hc hfull
    go_wp2_with fail
    go_ret3
    exact gives_err HT2.out (by simp) HE.out
   ·have t1:decide ((c:Int)+1>4096)=false:=by simp;omega
    have C1:=Lib.hid (fun w1 h=>cut_any S ⟨#[10]⟩ 10 w1 (by rw[Lib.size_eq];exact HB.out.2.1) rfl h)
    have hpl:=cut1_len 10 S.data.toList
    obtain⟨p,hp⟩: ∃p,p=cut1 10 S.data.toList:=⟨_,rfl⟩
    rw[←hp]at C1 hpl
    have HP:=Lib.hid hp
    have HF:=Lib.hid hfull
    obtain⟨p1,p2,p3⟩:=p
    simp only[]at C1 hpl
    have HPL:=Lib.hid hpl
    clear h0 hne hp hfull hpl hc
    cases p3 with
    |false=>
     have HT2:Hid (tot=.error (c+1,11)):=Lib.hid (by
      rw[←HT.out,←HC.out,parseF_open HNE.out HF.out (by rw[←HP.out])];rfl)
     clear HT
     go_wp2_with fail
     refine(C1.out _ (HW.out.ext HE.out)).mono ?_
     rintro e w1 ⟨rfl,hE⟩
     have HE1:=Lib.hid (HE.out.trans hE)
     clear hE
     go_wp2_with fail
     go_ret3
     exact gives_err HT2.out (by simp) HE1.out
    |true=>
     have L1:=Lib.hid (fun w1 h=>line_any ⟨p1.toArray⟩ w1 (by rw[Lib.size_eq];simp only[List.toList_toArray];exact Nat.le_trans HPL.out.1 HB.out.2.1) h)
     simp only[List.toList_toArray]at L1
     cases hl:lineT p1 with
     |error d=>
      have HT2:Hid (tot=.error (c+1,d)):=Lib.hid (by
       rw[←HT.out,←HC.out,parseF_bad HNE.out HF.out (by rw[←HP.out]) (by rw[←HP.out];exact hl)];rfl)
      rw[hl]at L1
      have hd0:d≠0:=line_err hl
      have t2:(d !=0)=true:=by simpa using hd0
      clear HT hl hd0
      go_wp2_with fail
      refine(C1.out _ (HW.out.ext HE.out)).mono ?_
      rintro e w1 ⟨rfl,hE⟩
      have HE1:=Lib.hid (HE.out.trans hE)
      clear hE
      go_wp2_with fail
      refine(L1.out _ (HW.out.ext HE1.out)).mono ?_
      rintro e w2 ⟨rfl,hE⟩
      have HE2:=Lib.hid (HE1.out.trans hE)
      clear hE
      go_wp2_with fail
      go_ret3
      exact gives_err HT2.out (by simp) (HE2.out.alloc _)
     |ok r=>
      obtain⟨op,A⟩:=r
      have HT2:Hid (cont (pre++[(op,A)]) (parseF f p2 (c+1))=tot):=Lib.hid (by
       rw[←HT.out,←HC.out,parseF_cont HNE.out HF.out (by rw[←HP.out]) (by rw[←HP.out];exact hl),←HP.out])
      rw[hl]at L1
      clear HT hl
      go_wp2_with fail
      refine(C1.out _ (HW.out.ext HE.out)).mono ?_
      rintro e w1 ⟨rfl,hE⟩
      have HE1:=Lib.hid (HE.out.trans hE)
      have HO1:=Lib.hid (ownsRow_ext HO.out hE)
      have HR1:Hid (RecCells (RdT w1 3 1) vs pre):=Lib.hid (HRC.out.mono fun _ _ _ _ hx=>hx.ext hE)
      clear hE HE HO HRC
      go_wp2_with fail
      refine(L1.out _ (HW.out.ext HE1.out)).mono ?_
      rintro e w2 ⟨u,rfl,ho,hE⟩
      obtain⟨au,cu,rfl,hu⟩:=ownsRow_rdT ho
      have HE2:=Lib.hid (HE1.out.trans hE)
      have HO2:=Lib.hid (ownsRow_ext HO1.out hE)
      have HR2:Hid (RecCells (RdT w2 3 1) vs pre):=Lib.hid (HR1.out.mono fun _ _ _ _ hx=>hx.ext hE)
      have HU:=Lib.hid hu
      clear hE ho hu HE1 HO1 HR1
      have hrd:Rd ((w2.alloc (.cells #[.int .i64 op,.slice au A.length cu] 88)).alloc (.cells #[.int .i64 op,.slice au A.length cu] 88)) 2 (some ⟨w2.heap.size+1,0,none⟩) 1 1 [.int .i64 op,.slice au A.length cu]:=by
       have:=Rd_new (w2.alloc (.cells #[.int .i64 op,.slice au A.length cu] 88)) [.int .i64 op,.slice au A.length cu] 88 2 1 rfl (by unfold maxLen;omega)
       rw[World.size_alloc]at this
       exact this
      have HRD:=Lib.hid hrd
      clear hrd
      go_wp2_with (refine wpList_append_rd rfl (.tmp 38) (.tmp 40) 22 rfl w.heap.size 88 _ 2 32 Tryz.underlying22 info24 rfl (by decide) (.slice av c capv) c vs rfl ((HO2.out.alloc _).alloc _) (some ⟨w2.heap.size+1,0,none⟩) 1 1 [.int .i64 op,.slice au A.length cu] rfl HRD.out (rec_one _ _ _ _) ?_ (by decide) ?_ ?_)
      ·omega
      ·have:=HE2.out.size;simp;omega
      intro v' w5 ho hg
      obtain⟨av',cv',rfl, -⟩:=ownsRow_rd ho
      have tr: ∀a n c xs,RdT w2 3 1 a n c xs→RdT w5 3 1 a n c xs:=fun a n c xs hx=>(hx.ext (((Ext.refl w2).alloc _).alloc _)).grown ((HO2.out.alloc _).alloc _) hg (by decide)
      have HR5:Hid (RecCells (RdT w5 3 1) (vs++[.int .i64 op,.slice au A.length cu]) (pre++[(op,A)])):=Lib.hid ((HR2.out.mono tr).snoc op A au cu (tr _ _ _ _ HU.out))
      have HO5:Hid (w5.ownsRow w.heap.size 88 2 (.slice av' (c+1) cv') (pre++[(op,A)]).length (vs++[.int .i64 op,.slice au A.length cu])):=Lib.hid (by rw[List.length_append,←HC.out];exact ho)
      have HE5:=Lib.hid (((HE2.out.alloc _).alloc _).grown hg (fun k hk=>(HO2.out.lt _ hk).1))
      have HT5:Hid (cont (pre++[(op,A)]) (parseF f (⟨p2.toArray⟩:ByteArray).data.toList (pre++[(op,A)]).length)=tot):=Lib.hid (by rw[data_mk,List.length_append,←HC.out];exact HT2.out)
      have HB5:Hid ((⟨p2.toArray⟩:ByteArray).data.toList.length≤f∧(⟨p2.toArray⟩:ByteArray).data.toList.length≤1000000∧(pre++[(op,A)]).length≤4096):=Lib.hid (by
       rw[data_mk,List.length_append,←HC.out]
       have h1:=HB.out;have h2:=HPL.out.2.2.1 (by simp);have h3:=HF.out
       simp only[List.length_cons,List.length_nil]
       omega)
      have hms:p2.length<S.size:=by rw[Lib.size_eq];exact HPL.out.2.2.1 (by simp)
      clear ho hg tr HR2 HO2 HE2 HU HT2 HRD
      go_wp2_with fail
      go_roundw
      case rel=>first|exact⟨⟨p2.toArray⟩,f,pre++[(op,A)],_,rfl,HO5,HR5,HE5,HB5,HT5⟩|((repeat apply Exists.intro);exact⟨⟨⟨p2.toArray⟩,f,pre++[(op,A)],_,rfl,HO5,HR5,HE5,HB5,HT5⟩,rfl⟩)
      case measure=>
       show p2.toArray.size<S.size
       rw[List.size_toArray]
       exact hms
end Go.Proofs.YtplljnfjkkloeaaGreatDoor
set_option linter.unusedVariables false
set_option linter.unusedSimpArgs false
set_option maxRecDepth 100000
namespace Go.Proofs.YtplljnfjkkloeaaGreatDoor
open Go.ChangeShapes Go.WideShapes Go.ChangeAt Go.RowKit Go.Joins
theorem own:ownKnob Tryz.prog.godebug=none:=by kernel_rfl
theorem laidOut:laidOutB Tryz.prog=true:=by kernel_rfl
theorem c3:Tryz.prog.cellsOf 3=1:=by kernel_rfl
theorem cp2:Tryz.prog.cellsOf 162=2:=by kernel_rfl
theorem cu64:Tryz.prog.cellsOf 259=1:=by kernel_rfl
theorem c20:Tryz.prog.cellsOf 416=20:=by kernel_rfl
abbrev laidL:List (String×DataW Unit):=[("math/bits.deBruijn32tab",Rows.laid_math_bits_deBruijn32tab),("math/bits.deBruijn64tab",Rows.laid_math_bits_deBruijn64tab),("internal/strconv.uint64pow10",Rows.laid_internal_strconv_uint64pow10),("rastrum/code.on",Rows.laid_rastrum_code_on),("rastrum/code.byteful",Rows.laid_rastrum_code_byteful),("strconv.ErrRange",Rows.laid_strconv_ErrRange),("strconv.ErrSyntax",Rows.laid_strconv_ErrSyntax)]
theorem pow_tab:(Rows.laid_internal_strconv_uint64pow10:DataW Unit)=Lib.tabData .u64 Lib.pow10Tab:=by kernel_rfl
theorem tb_of_laid {W:World} (h:laidMet Tryz.prog laidL W):Tb W:=by
 obtain⟨g,t,cs,fuel,p,hg,ht,hv,hd⟩:=Lib.laidMet.reads h (n:= "internal/strconv.uint64pow10") (d:=Rows.laid_internal_strconv_uint64pow10) (.tail _ (.tail _ (.head _)))
 obtain rfl:=Option.some.inj ((show Tryz.prog.globalNamed "internal/strconv.uint64pow10" =some 8 by kernel_rfl).symm.trans hg)
 obtain rfl:=Option.some.inj ((show(Tryz.prog.globals[8]?).map (·.type)=some 416 by kernel_rfl).symm.trans ht)
 unfold Tb Lib.TabIs
 rw[pow_tab]at hd
 rw[hv,←Lib.cells_of_tab Tryz.underlying416 Tryz.underlying259 cu64 c20 hd]
theorem glob_of_laid {W:World} (h:laidMet Tryz.prog laidL W):Glob W:=by
 obtain⟨g1,t1,cs1,f1,p1,hg1,ht1,hv1,hd1⟩:=Lib.laidMet.reads h (n:= "rastrum/code.on") (d:=Rows.laid_rastrum_code_on) (.tail _ (.tail _ (.tail _ (.head _))))
 obtain⟨g2,t2,cs2,f2,p2,hg2,ht2,hv2,hd2⟩:=Lib.laidMet.reads h (n:= "rastrum/code.byteful") (d:=Rows.laid_rastrum_code_byteful) (.tail _ (.tail _ (.tail _ (.tail _ (.head _)))))
 obtain rfl:=Option.some.inj ((show Tryz.prog.globalNamed "rastrum/code.on" =some 2 by kernel_rfl).symm.trans hg1)
 obtain rfl:=Option.some.inj ((show Tryz.prog.globalNamed "rastrum/code.byteful" =some 1 by kernel_rfl).symm.trans hg2)
 obtain rfl:=Option.some.inj ((show(Tryz.prog.globals[2]?).map (·.type)=some 162 by kernel_rfl).symm.trans ht1)
 obtain rfl:=Option.some.inj ((show(Tryz.prog.globals[1]?).map (·.type)=some 162 by kernel_rfl).symm.trans ht2)
 have e1:cs1.toList=[0,1].map (Value.int .i64):=Lib.cells_of_tab (zs:=[0,1]) Tryz.underlying162 Tryz.underlying3 c3 cp2 hd1
 have e2:cs2.toList=[0,255].map (Value.int .i64):=Lib.cells_of_tab (zs:=[0,255]) Tryz.underlying162 Tryz.underlying3 c3 cp2 hd2
 have a1:cs1= #[.int .i64 0,.int .i64 1]:=by cases cs1;simp_all
 have a2:cs2= #[.int .i64 0,.int .i64 255]:=by cases cs2;simp_all
 subst a1;subst a2
 exact⟨World.var?_cell hg2 hv2 0,World.var?_cell hg2 hv2 1,World.var?_cell hg1 hv1 0,World.var?_cell hg1 hv1 1⟩
theorem err_of_laid {W:World} (h:laidMet Tryz.prog laidL W): ∃te pe,W.cell? ⟨5,0,none⟩=some (.iface te pe):=by
 obtain⟨g,t,cs,fuel,p,hg,ht,hv,hd⟩:=Lib.laidMet.reads h (n:= "strconv.ErrRange") (d:=Rows.laid_strconv_ErrRange) (.tail _ (.tail _ (.tail _ (.tail _ (.tail _ (.head _))))))
 obtain rfl:=Option.some.inj ((show Tryz.prog.globalNamed "strconv.ErrRange" =some 5 by kernel_rfl).symm.trans hg)
 obtain rfl:=Option.some.inj ((show(Tryz.prog.globals[5]?).map (·.type)=some 199 by kernel_rfl).symm.trans ht)
 obtain⟨_,u,v,he,_,_⟩:=iface_of_trod Tryz.underlying199 hd
 have hc:=World.var?_cell hg hv 0
 have h0:cs[0]? =some (.iface u v):=by
  have:cs= #[.iface u v]:=by cases cs;simp_all
  rw[this];rfl
 exact⟨u,v,hc.trans h0⟩
theorem len_of_shape {W:World} (h:W.ShapedOpen Tryz.prog): ∃m,W.cell? ⟨0,0,none⟩=some (.int .i64 m):=
 cell_of_shapedOpen_int (zero:= #[.int .i64 0]) (t:=3) h (of_decide_eq_true (by kernel_rfl)) (by kernel_rfl) rfl (by kernel_rfl) (by kernel_rfl) Tryz.underlying3
theorem wd_of {W:World} (h:laidMetH Tryz.prog laidL W) (hs:W.ShapedOpen Tryz.prog):Wd W:=by
 rw[MakeChecks.laidMetH_plain _ _ _ (by kernel_rfl)]at h
 exact⟨glob_of_laid h,tb_of_laid h,err_of_laid h,len_of_shape hs⟩
theorem laid_met (os:Os) (args:Array Value):laidMetH Tryz.prog laidL ((World.laidAll Tryz.prog os laidL).forCall (fun _ _=>0) ⟨#[],args,[]⟩).memory:=by
 rw[MakeChecks.laidMetH_plain _ _ _ (by kernel_rfl)]
 exact laidMet_laidAll _ (by kernel_rfl) (by kernel_rfl)
theorem handed_both {H:Type} {enc:TypeId×Value→H} {a:Assume} {C:Checked} {os:Os} {f:FuncId} {fn:Func} {s:ChangeSpec} {conds:List PathCond} {apart fresh handsOn again:Bool} {X:World→Array Value→Prop}
  (hX: ∀(w w':World) (args:Array Value),w.heap=w'.heap→X w args→X w' args)
  (own:ownKnob C.prog.godebug=none)(started:os.Started)(noInit:C.prog.inits.idxOf? f=none)(hfn:C.prog.funcs[f]? =some fn)
  (witness: ∃(w:World) (tape:Tape) (i:Input),w.os=os∧(w.forCall tape i).Shaped C.prog∧i.vars=[]∧Input.okWide C.prog (w.forCall tape i) .any w.heap.size f i∧
   ((s.pre enc C.prog fn conds apart (w.forCall tape i).memory i.args∧X (w.forCall tape i).memory i.args)∧sizedMet enc C.prog fn (OpenSpec.ofChange s) apart (w.forCall tape i).memory i.args)∧a.holds C.prog (lone (Frame.enter C.prog f i.args .normal) [] (w.forCall tape i)))
  (contract: ∀(W:World) (base:Nat) (args:Array Value) (ds gs:List (DataW H)) (before:List MemPlace),
   (∀(j:Nat) t v,fn.params[j]? =some t→args[j]? =some v→Value.okWide C.prog W .any base t v)→
   DataW.Whole enc C.prog fn.params.toList s.vars apart W args.toList ds gs before→
   conds.all (PathCond.test C.prog ⟨fn.params.toList,ds,s.plain.varTypes C.prog,gs⟩)=true→
   W.ShapedOpen C.prog→X W args→
   a.holds C.prog (lone (Frame.enter C.prog f args .normal) [] W)→
   Calls C.prog f args W fun e W'=> ∃v,e=.returned v∧s.post enc C.prog fn apart fresh handsOn again W args v W'):
  ReturnsInHanded a C os f .any (fun w args=>(s.pre enc C.prog fn conds apart w args∧X w args)∧sizedMet enc C.prog fn (OpenSpec.ofChange s) apart w args) (s.post enc C.prog fn apart fresh handsOn again):=by
 refine returnsInHanded_of_calls own started noInit witness ?_
 intro w tape i _ hsh _ hok hpre hholds
 obtain⟨_,_,_,fn',hfn',_,_,_,_,hval⟩:=hok
 have e:fn'=fn:=Option.some.inj (hfn'.symm.trans hfn)
 subst e
 obtain⟨⟨⟨ds,gs,before,hw,hc⟩,hx⟩,hz⟩:=hpre
 have hw':=DataW.Whole.of_heap (w':=w.forCall tape i) (by rfl) hw
 refine(contract (w.forCall tape i) w.heap.size i.args ds gs before hval hw' hc hsh (hX _ _ _ (by rfl) hx) hholds).mono fun e W' ⟨v,he,hp⟩=>?_
 subst he
 exact ChangeSpec.post_blind hp
end Go.Proofs.YtplljnfjkkloeaaGreatDoor
