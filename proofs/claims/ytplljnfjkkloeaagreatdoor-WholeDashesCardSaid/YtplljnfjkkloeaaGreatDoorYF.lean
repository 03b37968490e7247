/- Proof text: the document's diamond (rastrumref13: Exits); points that are few and near. By an AI agent. No condition beyond what each theorem states. -/
import Derived.Test.YtplljnfjkkloeaaGreatDoorYE
import Derived.Test.YtplljnfjkkloeaaGreatDoorMA
import Derived.Test.YtplljnfjkkloeaaGreatDoorWH
set_option linter.unusedVariables false
set_option linter.unusedSimpArgs false
set_option maxHeartbeats 16000000
namespace Go.Proofs.YtplljnfjkkloeaaGreatDoor
attribute [local go_sem] Go.Oper.semAt_some
open Go.RowKit
set_option maxRecDepth 100000 in
theorem exits_any (ax ay bx by_ gx gy:Int) (w:World) (ha:(-1048576≤ax∧ax≤1048576)∧(-1048576≤ay∧ay≤1048576)) (hb:(-1048576≤bx∧bx≤1048576)∧(-1048576≤by_∧by_≤1048576)) (hx: -5000≤gx∧gx≤5000) (hy: -5000≤gy∧gy≤5000):
  Calls Tryz.prog 24 #[.agg (ptR ax ay),.agg (ptR bx by_),.int .i64 gx,.int .i64 gy] w fun e w'=>e=.returned (.bool (decide (rExits ax ay bx by_ gx gy)))∧Ext w w':=by
 have HME:=Lib.hid (fun wz=>meets_any ax ay bx by_ gx gy wz ha hb hx hy)
 have HIN:=Lib.hid (fun wz=>inside_any bx by_ gx gy wz hb hx hy)
 obtain⟨r,hr⟩: ∃r,r=decide (rExits ax ay bx by_ gx gy):=⟨_,rfl⟩
 rw[←hr]
 have hr2:r=(decide (rMeets ax ay bx by_ gx gy)&&!decide (rIn bx by_ gx gy)):=by
  rw[hr,Bool.eq_iff_iff]
  simp only[Bool.and_eq_true,Bool.not_eq_true',decide_eq_true_eq,decide_eq_false_iff_not]
  exact Iff.rfl
 clear hr ha hb hx hy
 generalize decide (rMeets ax ay bx by_ gx gy)=B1 at*
 generalize decide (rIn bx by_ gx gy)=B2 at*
 have HR:=Lib.hid hr2
 clear hr2
 cases B1 <;>cases B2
 all_goals
  have HRV:Hid (r=_):=Lib.hid HR.out
  go_enter Tryz.func24,Tryz.ntmps24
  go_wp2_with (first|(go_at_call 45;refine(HME.out _).mono ?_;rintro e w1 ⟨rfl,hE⟩;obtain⟨z,rfl⟩:=Later.mk' hE;clear hE)|(go_at_call 46;refine(HIN.out _).mono ?_;rintro e w1 ⟨rfl,hE⟩;obtain⟨z,rfl⟩:=Later.mk' hE;clear hE))
  go_ret
  exact⟨by rw[HR.out];rfl,by(repeat(first|with_reducible(first|exact eR_ _|assumption|refine eA_ ?_ _|refine eD_ ?_|refine eN_ ?_ _|refine eL_ ?_ _)|(with_reducible refine eS_ ?_ _ ?hp;case hp=>first|(simp;done)|(simp;omega)|omega)))⟩
instance (q:Int×Int):Decidable (Unit q):=by unfold Unit;infer_instance
def nearT (L:List (Int×Int)) (most:Int):Bool:=decide ((L.length:Int)≤most∧ ∀q∈L,Unit q)
set_option maxRecDepth 100000 in
theorem near_any (L:List (Int×Int)) (A:Option Addr) (n cap:Nat) (most:Int) (w:World) (hr:Rd w 2 A n cap (L.flatMap ptc)) (hL:L.length=n):
  Calls Tryz.prog 19 #[.slice A n cap,.int .i64 most] w fun e w'=>e=.returned (.bool (nearT L most))∧w=w':=by
 have hn:=hr.nat_le
 have HR:=Lib.hid hr
 have HL:=Lib.hid hL
 obtain⟨r,hrr⟩: ∃r,r=nearT L most:=⟨_,rfl⟩
 rw[←hrr]
 unfold nearT at hrr
 rw[hL]at hrr
 have HRR:=Lib.hid hrr
 clear hr hL hrr
 go_enter Tryz.func19,Tryz.ntmps19
 by_cases hm:most<n
 ·have b0:decide ((n:Int)>most)=true:=by simpa using hm
  have HV:Hid (r=false):=Lib.hid (by rw[HRR.out];apply decide_eq_false;rintro⟨h, -⟩;omega)
  clear hm
  go_wp2_with fail
  go_ret
  exact⟨by rw[HV.out];rfl,rfl⟩
 have b0:decide ((n:Int)>most)=false:=by simpa using hm
 have HM:=Lib.hid hm
 clear hm
 go_wp2_with fail
 go_loop [5] (fun i=> ∃k:Nat,k≤n∧i=.int .i64 k∧Hid (∀j q,j<k→L[j]? =some q→Unit q)) (fun i=>n-(intOf i).toNat)
 case atStart=>exact⟨0,Nat.zero_le _,rfl,Lib.hid (fun j q hj=>by omega)⟩
 case round=>
  obtain⟨k,hk,rfl,HX⟩:=hrel
  by_cases hlt:k<n
  ·obtain⟨q,hq⟩: ∃q,L[k]? =some q:=⟨_,List.getElem?_eq_getElem (by rw[HL.out];exact hlt)⟩
   obtain⟨b,off,ha, -, -⟩:=HR.out.at_ (by omega)
   subst ha
   obtain⟨c0,c1⟩:=pt_at HR.out hq
   have HQ:=Lib.hid hq
   have hk0:(0:Int)≤k:=by omega
   have hkn:(k:Int)<n:=by omega
   have HB: ∃b1 b2 b3 b4:Bool,decide (q.1< -1048576)=b1∧decide (q.1>1048576)=b2∧decide (q.2< -1048576)=b3∧decide (q.2>1048576)=b4∧decide (Unit q)=(!b1&&!b2&&!b3&&!b4):=by
    refine⟨_,_,_,_,rfl,rfl,rfl,rfl,?_⟩
    unfold Unit
    simp only[←decide_not,←Bool.decide_and]
    apply decide_eq_decide.2
    omega
   obtain⟨b1,b2,b3,b4,e1,e2,e3,e4,hu⟩:=HB
   clear hq
   by_cases hun:Unit q
   ·rw[decide_eq_true hun]at hu
    have HU:=Lib.hid hun
    clear hun
    cases b1 <;>cases b2 <;>cases b3 <;>cases b4 <;>first|(exfalso;simp at hu;done)|skip
    clear hu
    have HN:Hid (∀j q,j<k+1→L[j]? =some q→Unit q):=Lib.hid (fun j q' hj hq'=>by
     by_cases hjk:j=k
     ·subst hjk
      rw[HQ.out]at hq'
      obtain rfl:=Option.some.inj hq'
      exact HU.out
     ·exact HX.out j q' (by omega) hq')
    have hk1:wrap64 ((k:Int)+1)=(k:Int)+1:=wrap64_of (by omega) (by omega)
    go_wp2_with fail
    go_round
    case rel=>first|exact⟨k+1,by omega,by go_num,HN⟩|((repeat apply Exists.intro);exact⟨⟨k+1,by omega,by go_num,HN⟩,rfl⟩)
    case measure=>simp[intOf];omega
   ·rw[decide_eq_false hun]at hu
    have HV:Hid (r=false):=Lib.hid (by rw[HRR.out];apply decide_eq_false;rintro⟨-,h⟩;exact hun (h q (List.mem_of_getElem? HQ.out)))
    clear hun
    cases b1 <;>cases b2 <;>cases b3 <;>cases b4 <;>first|(exfalso;simp at hu;done)|skip
    all_goals
     clear hu
     go_wp2_with fail
     go_ret
     exact⟨by rw[HV.out];rfl,rfl⟩
  ·obtain rfl:k=n:=by omega
   have HV:Hid (r=true):=Lib.hid (by
    rw[HRR.out]
    apply decide_eq_true
    refine⟨by have:=HM.out;omega,fun q hq=>?_⟩
    obtain⟨j,hj,rfl⟩:=List.getElem_of_mem hq
    exact HX.out j _ (by rw[←HL.out];exact hj) (List.getElem?_eq_getElem hj))
   go_wp2_with fail
   go_ret
   exact⟨by rw[HV.out];rfl,rfl⟩
end Go.Proofs.YtplljnfjkkloeaaGreatDoor
set_option linter.unusedVariables false
set_option linter.unusedSimpArgs false
namespace Go.Proofs.YtplljnfjkkloeaaGreatDoor
theorem wayOf_start (ax ay bx by_:Int):(if(wayOf ax ay bx by_).turned=true then(wayOf ax ay bx by_).au=ay∧(wayOf ax ay bx by_).av=ax else(wayOf ax ay bx by_).au=ax∧(wayOf ax ay bx by_).av=ay):=by
 unfold wayOf
 by_cases h:max (bx-ax) (-(bx-ax))<max (by_-ay) (-(by_-ay))
 ·rw[if_pos h];exact⟨rfl,rfl⟩
 ·rw[if_neg h];exact⟨rfl,rfl⟩
theorem rExits_way {ax ay bx by_ x y:Int} (hne: ¬(ax=bx∧ay=by_)) (W:Way) (hW:wayOf ax ay bx by_=W):
  rExits ax ay bx by_ x y↔W.meets (if W.turned=true then y else x) (if W.turned=true then x else y)∧ ¬W.inW W.bu W.bv (if W.turned=true then y else x) (if W.turned=true then x else y):=by
 unfold rExits
 rw[rMeets_is hne,rIn_is (ax:=ax) (ay:=ay) (bx:=bx) (by_:=by_)]
 have hend:=wayOf_end ax ay bx by_
 rw[hW]at hend ⊢
 by_cases ht:W.turned=true
 ·simp only[if_pos ht]at hend ⊢
  rw[hend.1,hend.2]
 ·simp only[if_neg ht]at hend ⊢
  rw[hend.1,hend.2]
theorem wayOf_pa {ax ay bx by_:Int} (W:Way) (hW:wayOf ax ay bx by_=W) (x y:Int):W.pa=some (if W.turned=true then(y,x)else(x,y))↔dIn ax ay=some (x,y):=by
 have hs:=wayOf_start ax ay bx by_
 rw[hW]at hs
 unfold Way.pa dInW
 by_cases ht:W.turned=true
 ·simp only[if_pos ht]at hs ⊢
  rw[hs.1,hs.2]
  cases dIn ax ay with
  |none=>simp
  |some p=>
   obtain⟨p1,p2⟩:=p
   simp only[Option.map_some,Option.some.injEq,Prod.mk.injEq]
   exact And.comm
 ·simp only[if_neg ht]at hs ⊢
  rw[hs.1,hs.2]
theorem extra_exits {ax ay bx by_:Int} (hne: ¬(ax=bx∧ay=by_)) (W:Way) (hW:wayOf ax ay bx by_=W):
  W.extra=true↔ ∃x y,dIn ax ay=some (x,y)∧rExits ax ay bx by_ x y∧ ¬W.crossed (if W.turned=true then y else x):=by
 have hok:=wayOf_ok hne
 rw[hW]at hok
 rw[W.extra_is]
 constructor
 ·rintro⟨u,v,hp,hc,hb⟩
  have ha:=(W.pa_is u v).1 hp
  refine⟨if W.turned=true then v else u,if W.turned=true then u else v,?_,?_,?_⟩
  ·rw[←wayOf_pa W hW]
   by_cases ht:W.turned=true
   ·simp only[if_pos ht];exact hp
   ·simp only[if_neg ht];exact hp
  ·rw[rExits_way hne W hW]
   by_cases ht:W.turned=true
   ·simp only[if_pos ht];exact⟨Way.in_meets hok (.inl ha),hb⟩
   ·simp only[if_neg ht];exact⟨Way.in_meets hok (.inl ha),hb⟩
  ·by_cases ht:W.turned=true
   ·simp only[if_pos ht];exact hc
   ·simp only[if_neg ht];exact hc
 ·rintro⟨x,y,hd,hx,hc⟩
  have hp:=(wayOf_pa W hW x y).2 hd
  have hb:=((rExits_way hne W hW).1 hx).2
  by_cases ht:W.turned=true
  ·simp only[if_pos ht]at hp hb hc
   exact⟨y,x,hp,hc,hb⟩
  ·simp only[if_neg ht]at hp hb hc
   exact⟨x,y,hp,hc,hb⟩
theorem crossed_lst (W:Way) (u:Int):W.crossed u↔min (lst W.au) (lst W.bu)≤u∧u<max (lst W.au) (lst W.bu):=by
 unfold Way.crossed lst
 omega
theorem size_lst (W:Way):(W.size:Int)=max (lst W.au) (lst W.bu)-min (lst W.au) (lst W.bu):=by
 unfold Way.size Way.first Way.last
 split <;>omega
theorem last_lst (W:Way) (h:0<W.size):W.last-W.step=if lst W.bu<lst W.au then lst W.bu else lst W.bu-1:=by
 unfold Way.size at h
 unfold Way.step
 by_cases hl:lst W.bu<lst W.au
 ·have e1:W.first=lst W.au-1:=by unfold Way.first;rw[if_pos hl]
  have e2:W.last=lst W.bu-1:=by unfold Way.last;rw[if_pos hl]
  rw[if_pos hl,if_pos (by omega)]
  omega
 ·have e1:W.first=lst W.au:=by unfold Way.first;rw[if_neg hl]
  have e2:W.last=lst W.bu:=by unfold Way.last;rw[if_neg hl]
  rw[if_neg hl,if_neg (by omega)]
  omega
theorem last_crossed (W:Way) (h:0<W.size):W.crossed (W.last-W.step):=by
 rw[crossed_lst,last_lst W h]
 have:=size_lst W
 split <;>omega
theorem across_near {W:Way} (h:W.Ok) (u q:Int) (hq:q=(((256*u+128-W.au)*(W.bv-W.av)).tdiv (W.bu-W.au))):
  (W.av+q).tdiv 256-3≤W.across u∧W.across u≤(W.av+q).tdiv 256+3:=by
 have hp:=h.pos
 have hT: ∃T:Int,W.dv*(256*u+128-W.au)=T∧q*W.du-W.du<T∧T<q*W.du+W.du:=by
  refine⟨_,rfl,?_⟩
  have key: ∀(a D:Int),0<D→a.tdiv D*D-D<a∧a<a.tdiv D*D+D:=by
   intro a D hD
   have h1:=Int.mul_tdiv_add_tmod a D
   have h2:=Int.tmod_lt_of_pos a hD
   have h3: -D<a.tmod D:=by
    rcases Int.le_total 0 a with h4|h4
    ·have:=Int.tmod_nonneg D h4;omega
    ·have h5:=Int.tmod_nonneg D (show 0≤ -a by omega)
     have h6:=Int.tmod_lt_of_pos (-a) hD
     rw[Int.neg_tmod]at h5 h6
     omega
   rw[Int.mul_comm]at h1
   omega
  unfold Way.du Way.dv at*
  by_cases hs:W.bu<W.au
  ·rw[if_pos hs]at hp
   rw[if_pos hs,if_pos hs]
   have e:q=((W.av-W.bv)*(256*u+128-W.au)).tdiv (W.au-W.bu):=by
    rw[hq,show(W.bu-W.au)= -(W.au-W.bu) by omega,show(256*u+128-W.au)*(W.bv-W.av)= -((W.av-W.bv)*(256*u+128-W.au)) by grind,Int.neg_tdiv,Int.tdiv_neg,Int.neg_neg]
   rw[e]
   exact key _ _ hp
  ·rw[if_neg hs]at hp
   rw[if_neg hs,if_neg hs]
   have e:q=((W.bv-W.av)*(256*u+128-W.au)).tdiv (W.bu-W.au):=by
    rw[hq,Int.mul_comm]
   rw[e]
   exact key _ _ hp
 obtain⟨T,hT0,hT1,hT2⟩:=hT
 have hb:W.back=0∨W.back=1:=by
  rcases h.b0 with h1|h1
  ·exact .inl h1.1
  ·exact .inr h1.1
 have ha:=(div_is (n:=W.num u) (d:=256*W.du) (v:=W.across u) (by omega)).1 rfl
 unfold Way.num at ha
 rw[hT0]at ha
 generalize W.across u=A at*
 generalize W.du=D at*
 have e1:(256*A)*D<(W.av+q+1)*D:=by
  have:256*D*A=(256*A)*D:=by grind
  have:(W.av+q+1)*D=W.av*D+q*D+D:=by grind
  omega
 have e2:(W.av+q-2)*D<(256*A+256)*D:=by
  have:256*D*A=(256*A)*D:=by grind
  have:(256*A+256)*D=256*A*D+256*D:=by grind
  have:(W.av+q-2)*D=W.av*D+q*D-D-D:=by grind
  omega
 have e3:=Int.lt_of_mul_lt_mul_right e1 (by omega)
 have e4:=Int.lt_of_mul_lt_mul_right e2 (by omega)
 have e5:=Int.mul_tdiv_add_tmod (W.av+q) 256
 have e6:=Int.tmod_lt_of_pos (W.av+q) (show(0:Int)<256 by omega)
 have e7: -256<(W.av+q).tmod 256:=by
  rcases Int.le_total 0 (W.av+q)with h4|h4
  ·have:=Int.tmod_nonneg 256 h4;omega
  ·have h5:=Int.tmod_nonneg 256 (show 0≤ -(W.av+q) by omega)
   have h6:=Int.tmod_lt_of_pos (-(W.av+q)) (show(0:Int)<256 by omega)
   rw[Int.neg_tmod]at h5 h6
   omega
 omega
theorem col_open {ax ay bx by_:Int} (hne: ¬(ax=bx∧ay=by_)) (W:Way) (hW:wayOf ax ay bx by_=W) (hs:0<W.size) (c:Int)
  (hc:c-3≤W.across (W.last-W.step)∧W.across (W.last-W.step)≤c+3):
  (∃k,c-3≤k∧k≤c+3∧rExits ax ay bx by_ (if W.turned=true then k else W.last-W.step) (if W.turned=true then W.last-W.step else k))↔W.open_=false:=by
 have hok:=wayOf_ok hne
 rw[hW]at hok
 have hcr:=last_crossed W hs
 have key: ∀k,rExits ax ay bx by_ (if W.turned=true then k else W.last-W.step) (if W.turned=true then W.last-W.step else k)↔(W.meets (W.last-W.step) k∧ ¬W.inW W.bu W.bv (W.last-W.step) k):=by
  intro k
  rw[rExits_way hne W hW]
  by_cases ht:W.turned=true
  ·simp only[if_pos ht]
  ·simp only[if_neg ht]
 constructor
 ·rintro⟨k,h1,h2,h3⟩
  rw[key,Way.exits hok]at h3
  rcases h3 with⟨-,h4,h5⟩|⟨h4, -⟩
  ·cases ho:W.open_ with
   |false=>rfl
   |true=>
    have:=(W.open_is.1 ho).2
    rw[h4]at this
    exact absurd this h5
  ·exact absurd hcr h4
 ·intro ho
  refine⟨W.across (W.last-W.step),hc.1,hc.2,?_⟩
  rw[key,Way.exits hok]
  left
  refine⟨hcr,rfl,fun hi=>?_⟩
  have:=W.open_is.2 ⟨hs,hi⟩
  rw[ho]at this
  cases this
theorem lpix_length {ax ay bx by_:Int} (hne: ¬(ax=bx∧ay=by_)) (W:Way) (hW:wayOf ax ay bx by_=W):
  ((lpix ax ay bx by_).length:Int)=(max (lst W.au) (lst W.bu)-min (lst W.au) (lst W.bu))-(if W.open_=true then 1 else 0)+(if W.extra=true then 1 else 0):=by
 unfold lpix
 rw[if_neg hne,List.length_map,hW,W.pix_len]
 unfold Way.count Way.many
 have h1:=size_lst W
 have h2:W.open_=true→0<W.size:=fun h=>(W.open_is.1 h).1
 by_cases ho:W.open_=true
 ·have:=h2 ho
  simp only[if_pos ho]
  split <;>omega
 ·simp only[if_neg ho]
  split <;>omega
end Go.Proofs.YtplljnfjkkloeaaGreatDoor
set_option linter.unusedVariables false
set_option linter.unusedSimpArgs false
namespace Go.Proofs.YtplljnfjkkloeaaGreatDoor
attribute [local go_sem] Go.Oper.semAt_some
open Go.RowKit
theorem tdiv_256 (u:Int):256*u.tdiv 256≤u+255∧u≤256*u.tdiv 256+255:=by
 rcases Int.le_total 0 u with h|h
 ·rw[Int.tdiv_eq_ediv_of_nonneg h];omega
 ·obtain⟨v,rfl⟩: ∃v,u= -v:=⟨-u,by omega⟩
  rw[Int.neg_tdiv,Int.tdiv_eq_ediv_of_nonneg (by omega)];omega
theorem lst_in {u:Int} (h0: -1048576≤u) (h1:u≤1048576): -4097≤lst u∧lst u≤4097:=by unfold lst;omega
set_option maxRecDepth 100000 in
theorem ahead_any (u:Int) (w:World) (h0: -1048576≤u) (h1:u≤1048576):Calls Tryz.prog 69 #[.int .i64 u] w fun e w'=>e=.returned (.int .i64 (lst u))∧w=w':=by
 obtain⟨M,hM⟩: ∃M,M=lst u:=⟨_,rfl⟩
 obtain⟨q,hq⟩: ∃q,q=u.tdiv 256:=⟨_,rfl⟩
 rw[←hM]
 have hq1:=tdiv_256 u
 rw[←hq]at hq1
 unfold lst at hM
 have hMM:u≤256*M+128∧256*M-128<u:=by omega
 have e0:u.tdiv 256=q:=hq.symm
 have e1:wrap64 q=q:=wrap64_of (by omega) (by omega)
 have e2:wrap64 (q-3)=q-3:=wrap64_of (by omega) (by omega)
 have HQ:Hid (-10000≤q-3∧q-3≤M):=Lib.hid (by omega)
 have HMM:=Lib.hid (And.intro hMM (And.intro h0 h1))
 clear hMM hM hq hq1 h0 h1
 go_enter Tryz.func69,Tryz.ntmps69
 go_wp2_with fail
 simp only[e2]
 go_loopw [3] (fun i wr=> ∃m:Int,i=.int .i64 m∧Hid (wr=w∧ -10000≤m∧m≤M)) (fun i _=>(M-intOf i).toNat)
 case atStart=>exact⟨_,rfl,Lib.hid ⟨rfl,HQ.out⟩⟩
 case round=>
  obtain⟨m,rfl,HX⟩:=hrel
  obtain⟨rfl,hm0,hm1⟩:=HX.out
  obtain⟨⟨a0,a1⟩,b0,b1⟩:=HMM.out
  have f1:wrap64 (256*m)=256*m:=wrap64_of (by omega) (by omega)
  have f2:wrap64 (256*m+128)=256*m+128:=wrap64_of (by omega) (by omega)
  have f3:wrap64 (m+1)=m+1:=wrap64_of (by omega) (by omega)
  by_cases hlt:m<M
  ·have d1:decide (256*m+128<u)=true:=by simp;omega
   have HN:Hid (-10000≤m+1∧m+1≤M):=Lib.hid (by omega)
   clear a0 a1 b0 b1 hm0 hm1
   go_wp2_with fail
   simp only[f3]
   go_roundw
   case rel=>first|exact⟨m+1,rfl,Lib.hid ⟨rfl,HN.out⟩⟩|exact⟨m+1,rfl,Lib.hid ⟨trivial,HN.out⟩⟩
   case measure=>simp[intOf];omega
  ·have d1:decide (256*m+128<u)=false:=by simp;omega
   have HMN:Hid (m=M):=Lib.hid (by omega)
   clear a0 a1 b0 b1 hm0 hm1 hlt
   go_wp2_with fail
   go_ret
   exact⟨by rw[HMN.out];rfl,rfl⟩
theorem ahead_later (u:Int) (w:World) (h0: -1048576≤u) (h1:u≤1048576):Calls Tryz.prog 69 #[.int .i64 u] w fun e w'=>e=.returned (.int .i64 (lst u))∧Ext w w':=
 (ahead_any u w h0 h1).mono fun e w' h=>⟨h.1,by rw[h.2];exact Ext.refl _⟩
set_option maxRecDepth 100000 in
theorem wide_any (ax ay bx by_:Int) (w:World) (ha:Unit (ax,ay)) (hb:Unit (bx,by_)):Calls Tryz.prog 48 #[.agg (ptR ax ay),.agg (ptR bx by_)] w fun e w'=>e=.returned (.bool (!(wayOf ax ay bx by_).turned))∧Ext w w':=by
 obtain⟨P1,hP1⟩: ∃P,P=w.heap.size:=⟨_,rfl⟩
 obtain⟨P2,hP2⟩: ∃P,P=P1+1:=⟨_,rfl⟩
 have HB1:Hid (Blk ((w.alloc (.cells (ptR ax ay) 79)).alloc (.cells (ptR bx by_) 79)) P1 79 (ptR ax ay)):=Lib.hid (by rw[hP1];exact(Blk.new _ _ _).alloc _)
 have HB2:Hid (Blk ((w.alloc (.cells (ptR ax ay) 79)).alloc (.cells (ptR bx by_) 79)) P2 79 (ptR bx by_)):=Lib.hid (by
  have:=Blk.new (w.alloc (.cells (ptR ax ay) 79)) 79 (ptR bx by_)
  rw[World.size_alloc,←hP1,←hP2]at this
  exact this)
 have HE0:Hid (Ext w ((w.alloc (.cells (ptR ax ay) 79)).alloc (.cells (ptR bx by_) 79))):=Lib.hid (((Ext.refl w).alloc _).alloc _)
 obtain⟨B,hB⟩: ∃B,B=!(wayOf ax ay bx by_).turned:=⟨_,rfl⟩
 rw[←hB]
 obtain⟨X,hX⟩: ∃X,X=bx-ax:=⟨_,rfl⟩
 obtain⟨Y,hY⟩: ∃Y,Y=by_-ay:=⟨_,rfl⟩
 unfold Unit at ha hb
 simp only at ha hb
 have e1:wrap64 (bx-ax)=X:=by rw[←hX];exact wrap64_of (by omega) (by omega)
 have e2:wrap64 (by_-ay)=Y:=by rw[←hY];exact wrap64_of (by omega) (by omega)
 have e3:wrap64 (-X)= -X:=wrap64_of (by omega) (by omega)
 have e4:wrap64 (-Y)= -Y:=wrap64_of (by omega) (by omega)
 have e5:wrap64 (0-X)= -X:=by rw[Int.zero_sub];exact e3
 have e6:wrap64 (0-Y)= -Y:=by rw[Int.zero_sub];exact e4
 have d1:decide (max X (-X)≥max Y (-Y))=B:=by
  rw[hB]
  unfold wayOf
  rw[←hX,←hY]
  by_cases h:max X (-X)<max Y (-Y)
  ·rw[if_pos h];simp;omega
  ·rw[if_neg h];simp;omega
 have E12:=Lib.hid (And.intro e1 e2)
 clear e1 e2 ha hb hX hY hB
 go_enter Tryz.func48,Tryz.ntmps48
 go_upto_region 1 with fail
 simp only[←hP1,←hP2]
 clear hP1 hP2
 generalize((w.alloc (.cells (ptR ax ay) 79)).alloc (.cells (ptR bx by_) 79))=W0 at*
 obtain⟨p0,p1⟩:=HB1.out.c2
 obtain⟨q0,q1⟩:=HB2.out.c2
 go_quiet (fail)
 obtain⟨e1,e2⟩:=E12.out
 simp only[e1,e2]
 clear e1 e2 E12
 go_wp2_with fail
 go_ret
 exact⟨rfl,HE0.out.drewN _⟩
@[reducible] def liC (f t X Y:Int) (ex:Bool):Array Value:= #[.int .i64 f,.int .i64 t,.int .i64 X,.int .i64 Y,.bool ex]
def rnumT (f t X Y:Int) (ex:Bool) (x y u:Int):Int:=
 if ex=true then(if x=X∧y=Y then 0 else(if t<f then f-1-u else u-f)+1)else(if t<f then f-1-u else u-f)
set_option maxRecDepth 100000 in
theorem rnum_any (f t X Y:Int) (ex:Bool) (x y u:Int) (w:World) (hf: -5000≤f∧f≤5000) (hu: -5000≤u∧u≤5000):Calls Tryz.prog 49 #[.agg (liC f t X Y ex),.int .i64 x,.int .i64 y,.int .i64 u] w fun e w'=>e=.returned (.int .i64 (rnumT f t X Y ex x y u))∧Ext w w':=by
 have HB:Hid (Blk (w.alloc (.cells (liC f t X Y ex) 123)) w.heap.size 123 (liC f t X Y ex)):=Lib.hid (Blk.new _ _ _)
 have HE:Hid (Ext w (w.alloc (.cells (liC f t X Y ex) 123))):=Lib.hid ((Ext.refl w).alloc _)
 obtain⟨r,hr⟩: ∃r,r=rnumT f t X Y ex x y u:=⟨_,rfl⟩
 rw[←hr]
 unfold rnumT at hr
 obtain⟨K,hK⟩: ∃K,K=if t<f then f-1-u else u-f:=⟨_,rfl⟩
 rw[←hK]at hr
 have hKb: -20000≤K∧K≤20000:=by rw[hK];split <;>omega
 have e1:wrap64 (u-f)=u-f:=wrap64_of (by omega) (by omega)
 have e2:wrap64 (f-1)=f-1:=wrap64_of (by omega) (by omega)
 have e3:wrap64 (f-1-u)=f-1-u:=wrap64_of (by omega) (by omega)
 have e4:wrap64 (K+1)=K+1:=wrap64_of (by omega) (by omega)
 have eK:wrap64 K=K:=wrap64_of (by omega) (by omega)
 clear hf hu hKb
 go_enter Tryz.func49,Tryz.ntmps49
 go_upto_region 1 with fail
 generalize w.alloc (.cells (liC f t X Y ex) 123)=W0 at*
 obtain⟨p0,p1,p2,p3,p4⟩:=HB.out.c5
 by_cases htf:t<f
 ·have d1:decide (t<f)=true:=by simpa using htf
  rw[if_pos htf]at hK
  have e5:f-1-u=K:=hK.symm
  clear hK htf
  go_upto_region 4 with fail
  simp only[eK]
  clear e5 eK
  cases ex
  ·rw[if_neg (by simp)]at hr
   go_wp2_with fail
   go_ret
   exact⟨by rw[hr];first|rfl|exact congrArg (fun z=>Ending.returned (.int .i64 z)) e4,HE.out⟩
  ·rw[if_pos rfl]at hr
   by_cases hx:x=X
   ·have d2:(x==X)=true:=by simpa using hx
    by_cases hy:y=Y
    ·have d3:(y==Y)=true:=by simpa using hy
     rw[if_pos ⟨hx,hy⟩]at hr
     clear hx hy
     go_wp2_with fail
     go_ret
     exact⟨by rw[hr];first|rfl|exact congrArg (fun z=>Ending.returned (.int .i64 z)) e4,HE.out⟩
    ·have d3:(y==Y)=false:=by simpa using hy
     rw[if_neg (fun h=>hy h.2)]at hr
     clear hx hy
     go_wp2_with fail
     go_ret
     exact⟨by rw[hr];first|rfl|exact congrArg (fun z=>Ending.returned (.int .i64 z)) e4,HE.out⟩
   ·have d2:(x==X)=false:=by simpa using hx
    rw[if_neg (fun h=>hx h.1)]at hr
    clear hx
    go_wp2_with fail
    go_ret
    exact⟨by rw[hr];first|rfl|exact congrArg (fun z=>Ending.returned (.int .i64 z)) e4,HE.out⟩
 ·have d1:decide (t<f)=false:=by simpa using htf
  rw[if_neg htf]at hK
  have e5:u-f=K:=hK.symm
  clear hK htf
  go_upto_region 4 with fail
  simp only[eK]
  clear e5 eK
  cases ex
  ·rw[if_neg (by simp)]at hr
   go_wp2_with fail
   go_ret
   exact⟨by rw[hr];first|rfl|exact congrArg (fun z=>Ending.returned (.int .i64 z)) e4,HE.out⟩
  ·rw[if_pos rfl]at hr
   by_cases hx:x=X
   ·have d2:(x==X)=true:=by simpa using hx
    by_cases hy:y=Y
    ·have d3:(y==Y)=true:=by simpa using hy
     rw[if_pos ⟨hx,hy⟩]at hr
     clear hx hy
     go_wp2_with fail
     go_ret
     exact⟨by rw[hr];first|rfl|exact congrArg (fun z=>Ending.returned (.int .i64 z)) e4,HE.out⟩
    ·have d3:(y==Y)=false:=by simpa using hy
     rw[if_neg (fun h=>hy h.2)]at hr
     clear hx hy
     go_wp2_with fail
     go_ret
     exact⟨by rw[hr];first|rfl|exact congrArg (fun z=>Ending.returned (.int .i64 z)) e4,HE.out⟩
   ·have d2:(x==X)=false:=by simpa using hx
    rw[if_neg (fun h=>hx h.1)]at hr
    clear hx
    go_wp2_with fail
    go_ret
    exact⟨by rw[hr];first|rfl|exact congrArg (fun z=>Ending.returned (.int .i64 z)) e4,HE.out⟩
end Go.Proofs.YtplljnfjkkloeaaGreatDoor
set_option linter.unusedVariables false
set_option linter.unusedSimpArgs false
namespace Go.Proofs.YtplljnfjkkloeaaGreatDoor
attribute [local go_sem] Go.Oper.semAt_some
open Go.RowKit
def inX (px py:Int):Int:=match dIn px py with|some p=>p.1|none=>0
def inY (px py:Int):Int:=match dIn px py with|some p=>p.2|none=>0
def inB (px py:Int):Bool:=(dIn px py).isSome
theorem dIn_rIn (px py x y:Int):dIn px py=some (x,y)↔rIn px py x y:=by
 rw[dIn_is]
 unfold rIn
 omega
theorem in_some {px py x y:Int} (h:rIn px py x y):inX px py=x∧inY px py=y∧inB px py=true:=by
 have h:=(dIn_rIn px py x y).2 h
 unfold inX inY inB
 rw[h]
 exact⟨rfl,rfl,rfl⟩
theorem in_none {px py:Int} (h: ∀x y,¬rIn px py x y):inX px py=0∧inY px py=0∧inB px py=false:=by
 have h:dIn px py=none:=by
  cases hd:dIn px py with
  |none=>rfl
  |some p=>exact absurd ((dIn_rIn px py p.1 p.2).1 hd) (h _ _)
 unfold inX inY inB
 rw[h]
 exact⟨rfl,rfl,rfl⟩
theorem rIn_near {px py x y q1 q2:Int} (h:rIn px py x y) (h1:256*q1≤px+255∧px≤256*q1+255) (h2:256*q2≤py+255∧py≤256*q2+255):(q1-2≤x∧x≤q1+2)∧(q2-2≤y∧y≤q2+2):=by
 unfold rIn at h
 omega
set_option maxRecDepth 100000 in
theorem rin_any (px py:Int) (w:World) (hp:Unit (px,py)):Calls Tryz.prog 70 #[.agg (ptR px py)] w fun e w'=>e=.returned (.tuple #[.int .i64 (inX px py),.int .i64 (inY px py),.bool (inB px py)])∧Ext w w':=by
 obtain⟨P,hP⟩: ∃P,P=w.heap.size:=⟨_,rfl⟩
 have HB:Hid (Blk (w.alloc (.cells (ptR px py) 79)) P 79 (ptR px py)):=Lib.hid (by rw[hP];exact Blk.new _ _ _)
 have HE:Hid (Ext w (w.alloc (.cells (ptR px py) 79))):=Lib.hid ((Ext.refl w).alloc _)
 obtain⟨rx,hrx⟩: ∃r,r=inX px py:=⟨_,rfl⟩
 obtain⟨ry,hry⟩: ∃r,r=inY px py:=⟨_,rfl⟩
 obtain⟨rb,hrb⟩: ∃r,r=inB px py:=⟨_,rfl⟩
 rw[←hrx,←hry,←hrb]
 obtain⟨q1,hq1⟩: ∃q,q=px.tdiv 256:=⟨_,rfl⟩
 obtain⟨q2,hq2⟩: ∃q,q=py.tdiv 256:=⟨_,rfl⟩
 have hb1:=tdiv_256 px
 have hb2:=tdiv_256 py
 rw[←hq1]at hb1
 rw[←hq2]at hb2
 unfold Unit at hp
 simp only at hp
 have HS:Hid (∀x y,rIn px py x y→rx=x∧ry=y∧rb=true):=Lib.hid (fun x y h=>by rw[hrx,hry,hrb];exact in_some h)
 have HN:Hid ((∀x y,¬rIn px py x y)→rx=0∧ry=0∧rb=false):=Lib.hid (fun h=>by rw[hrx,hry,hrb];exact in_none h)
 have HNR:Hid (∀x y,rIn px py x y→(q1-2≤x∧x≤q1+2)∧(q2-2≤y∧y≤q2+2)):=Lib.hid (fun x y h=>rIn_near h hb1 hb2)
 have hQ:(-4200≤q1∧q1≤4200)∧(-4200≤q2∧q2≤4200):=by omega
 have HIN:Hid (∀x y wz, -5000≤x∧x≤5000→ -5000≤y∧y≤5000→Calls Tryz.prog 46 #[.agg #[.int .i64 px,.int .i64 py],.int .i64 x,.int .i64 y] wz fun e w'=>e=.returned (.bool (decide (rIn px py x y)))∧Ext wz w'):=Lib.hid (fun x y wz hx hy=>inside_any px py x y wz hp hx hy)
 have e0:px.tdiv 256=q1:=hq1.symm
 have g0:py.tdiv 256=q2:=hq2.symm
 have e1:wrap64 q1=q1:=wrap64_of (by omega) (by omega)
 have e2:wrap64 (q1-2)=q1-2:=wrap64_of (by omega) (by omega)
 have e3:wrap64 (q1+2)=q1+2:=wrap64_of (by omega) (by omega)
 have g1:wrap64 q2=q2:=wrap64_of (by omega) (by omega)
 have g2:wrap64 (q2-2)=q2-2:=wrap64_of (by omega) (by omega)
 have g3:wrap64 (q2+2)=q2+2:=wrap64_of (by omega) (by omega)
 have HQ:=Lib.hid hQ
 clear hrx hry hrb hq1 hq2 hb1 hb2 hp hQ
 go_enter Tryz.func70,Tryz.ntmps70
 go_upto_region 1 with fail
 simp only[←hP]
 clear hP
 generalize w.alloc (.cells (ptR px py) 79)=W0 at*
 obtain⟨p0,p1⟩:=HB.out.c2
 go_wp2_with fail
 simp only[e1,e2]
 clear p0 p1
 go_loopw [5] (fun i wr=> ∃m:Int,i=.int .i64 m∧Hid (Ext W0 wr∧(q1-2≤m∧m≤q1+3)∧ ∀x y,rIn px py x y→m≤x)) (fun i _=>(q1+3-intOf i).toNat)
 case atStart=>exact⟨_,rfl,Lib.hid ⟨Ext.refl _,⟨by omega,by omega⟩,fun x y h=>(HNR.out x y h).1.1⟩⟩
 case round=>
  obtain⟨m,rfl,HX⟩:=hrel
  obtain⟨W1,rfl⟩: ∃W1:World,W1=wr:=⟨_,rfl⟩
  obtain⟨p0,p1⟩:=(HB.out.ext HX.out.1).c2
  have hq:=HQ.out
  have hm:=HX.out.2.1
  have f1:wrap64 (m+1)=m+1:=wrap64_of (by omega) (by omega)
  by_cases hlt:m≤q1+2
  ·have d1:decide (m≤q1+2)=true:=by simpa using hlt
   have HM:Hid (-5000≤m∧m≤5000∧q1-2≤m+1∧m+1≤q1+3):=Lib.hid (by omega)
   have HLT:=Lib.hid hlt
   clear hq hm hlt
   go_wp2_with fail
   simp only[e1,e3,g1,g2]
   clear p0 p1
   go_loopw [6] (fun i wr=> ∃k:Int,i=.int .i64 k∧Hid (Ext W1 wr∧(q2-2≤k∧k≤q2+3)∧ ∀y,rIn px py m y→k≤y)) (fun i _=>(q2+3-intOf i).toNat)
   case atStart=>exact⟨_,rfl,Lib.hid ⟨Ext.refl _,⟨by omega,by omega⟩,fun y h=>(HNR.out m y h).2.1⟩⟩
   case round=>
    obtain⟨k,rfl,HY⟩:=hrel
    obtain⟨W2,rfl⟩: ∃W2:World,W2=wr:=⟨_,rfl⟩
    have HXY:=Lib.hid (HX.out.1.trans HY.out.1)
    obtain⟨p0,p1⟩:=(HB.out.ext HXY.out).c2
    have hq:=HQ.out
    have hk:=HY.out.2.1
    have f2:wrap64 (k+1)=k+1:=wrap64_of (by omega) (by omega)
    by_cases hlt:k≤q2+2
    ·have d2:decide (k≤q2+2)=true:=by simpa using hlt
     have HK:Hid ((-5000≤k∧k≤5000)∧q2-2≤k+1∧k+1≤q2+3):=Lib.hid (by omega)
     have HCI:=Lib.hid (HIN.out m k W2 ⟨HM.out.1,HM.out.2.1⟩ HK.out.1)
     obtain⟨B,hB⟩: ∃B,B=decide (rIn px py m k):=⟨_,rfl⟩
     rw[←hB]at HCI
     have HBB:=Lib.hid hB
     have HLT2:=Lib.hid hlt
     clear hB hq hk hlt
     cases B
     ·have HNO:Hid (∀y,rIn px py m y→k+1≤y):=Lib.hid (fun y h=>by
       have h1:=HY.out.2.2 y h
       rcases Int.lt_or_eq_of_le h1 with h2|h2
       ·omega
       ·subst h2
        exact absurd h (of_decide_eq_false HBB.out.symm))
      go_wp2_with fail
      refine HCI.out.mono ?_
      rintro e w1 ⟨rfl,hE⟩
      have HE2:=Lib.hid (HY.out.1.trans hE)
      clear hE p0 p1
      go_wp2_with fail
      simp only[f2]
      go_roundw
      case rel=>first|exact⟨k+1,rfl,Lib.hid ⟨HE2.out,HK.out.2,HNO.out⟩⟩|((repeat apply Exists.intro);exact⟨⟨k+1,rfl,Lib.hid ⟨HE2.out,HK.out.2,HNO.out⟩⟩,rfl⟩)
      case measure=>have:=HLT2.out;simp[intOf];omega
     ·have HRS:=Lib.hid (HS.out m k (of_decide_eq_true HBB.out.symm))
      go_wp2_with fail
      refine HCI.out.mono ?_
      rintro e w1 ⟨rfl,hE⟩
      have HE2:=Lib.hid (HE.out.trans (HXY.out.trans hE))
      clear hE p0 p1
      go_wp2_with fail
      refine bodyPost_ret (v:=.tuple #[.int .i64 m,.int .i64 k,.bool true]) (by simp[results,Tryz.results70,go_sem]) rfl ⟨?_,HE2.out⟩
      rw[HRS.out.1,HRS.out.2.1,HRS.out.2.2]
    ·have d2:decide (k≤q2+2)=false:=by simpa using hlt
     have HNO:Hid (∀x y,rIn px py x y→m+1≤x):=Lib.hid (fun x y h=>by
      have h1:=HX.out.2.2 x y h
      rcases Int.lt_or_eq_of_le h1 with h2|h2
      ·omega
      ·subst h2
       have h3:=HY.out.2.2 y h
       have h4:=(HNR.out m y h).2.2
       omega)
     clear hq hk hlt
     go_wp2_with fail
     simp only[f1]
     go_roundw
     case rel=>first|exact⟨m+1,rfl,Lib.hid ⟨HXY.out,HM.out.2.2,HNO.out⟩⟩|((repeat apply Exists.intro);exact⟨⟨m+1,rfl,Lib.hid ⟨HXY.out,HM.out.2.2,HNO.out⟩⟩,rfl⟩)
     case measure=>have:=HLT.out;simp[intOf];omega
  ·have d1:decide (m≤q1+2)=false:=by simpa using hlt
   have HNO:=Lib.hid (HN.out (fun x y h=>by
    have h1:=HX.out.2.2 x y h
    have h2:=(HNR.out x y h).1.2
    omega))
   have HE2:=Lib.hid (HE.out.trans HX.out.1)
   clear hq hm hlt
   go_wp2_with fail
   refine bodyPost_ret (v:=.tuple #[.int .i64 0,.int .i64 0,.bool false]) (by simp[results,Tryz.results70,go_sem]) rfl ⟨?_,HE2.out⟩
   rw[HNO.out.1,HNO.out.2.1,HNO.out.2.2]
end Go.Proofs.YtplljnfjkkloeaaGreatDoor
