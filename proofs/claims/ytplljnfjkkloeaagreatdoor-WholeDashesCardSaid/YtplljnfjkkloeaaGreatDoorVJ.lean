/- Plain: the pixels of a dashed strip, line by line. By an AI agent. No condition beyond what each theorem states. -/
import Derived.Test.YtplljnfjkkloeaaGreatDoorVI
import Derived.Test.YtplljnfjkkloeaaGreatDoorYA
import Derived.Test.YtplljnfjkkloeaaGreatDoorMA
import Derived.BigQuiet
import Derived.Deep.QuietTactic
import Derived.Test.YtplljnfjkkloeaaGreatDoorJE
set_option linter.unusedVariables false
set_option linter.unusedSimpArgs false
namespace Go.Proofs.YtplljnfjkkloeaaGreatDoor
open Go.RowKit
def aheadN:List (Int×Int)→Nat
 |a::b::l=>(lpix a.1 a.2 b.1 b.2).length+aheadN (b::l)
 |_=>0
theorem aheadN_snoc (a b:Int×Int): ∀l:List (Int×Int),aheadN (l++[a,b])=aheadN (l++[a])+(lpix a.1 a.2 b.1 b.2).length
 |[]=>by simp[aheadN]
 |[c]=>by simp[aheadN]
 |c::d::l=>by
  have h:=aheadN_snoc a b (d::l)
  simp only[List.cons_append]at h ⊢
  rw[aheadN,aheadN,h]
  omega
theorem dashL_snoc (d:Da) (r:Rc) (a b:Int×Int): ∀(l:List (Int×Int)) (k:Nat),dashL d r k (l++[a,b])=dashL d r k (l++[a])++(stepL a.1 a.2 b.1 b.2 r).filter fun s=>d.lit (((k+aheadN (l++[a]):Nat):Int)+s.1)
 |[],k=>by simp[dashL,aheadN]
 |[c],k=>by simp[dashL,aheadN]
 |c::e::l,k=>by
  have h:=dashL_snoc d r a b (e::l) (k+(lpix c.1 c.2 e.1 e.2).length)
  simp only[List.cons_append]at h ⊢
  rw[dashL,dashL,h,List.append_assoc,aheadN,Nat.add_assoc]
theorem dashL_pre (d:Da) (r:Rc) (m:List (Int×Int)): ∀(l:List (Int×Int)) (k:Nat),∃post,dashL d r k (l++m)=dashL d r k l++post
 |[],k=>⟨dashL d r k m,by simp[dashL]⟩
 |[c],k=>⟨dashL d r k (c::m),by simp[dashL]⟩
 |c::e::l,k=>by
  obtain⟨post,h⟩:=dashL_pre d r m (e::l) (k+(lpix c.1 c.2 e.1 e.2).length)
  refine⟨post,?_⟩
  simp only[List.cons_append]at h ⊢
  rw[dashL,dashL,h,List.append_assoc]
theorem take_two {L:List (Int×Int)} {m:Nat} {p q:Int×Int} (hp:L[m]? =some p) (hq:L[m+1]? =some q):L.take (m+1)=L.take m++[p]∧L.take (m+1+1)=L.take m++[p,q]:=by
 obtain⟨h1,rfl⟩:=List.getElem?_eq_some_iff.1 hp
 obtain⟨h2,rfl⟩:=List.getElem?_eq_some_iff.1 hq
 refine⟨List.take_succ_eq_append_getElem h1,?_⟩
 rw[List.take_succ_eq_append_getElem h2,List.take_succ_eq_append_getElem h1,List.append_assoc]
 rfl
theorem dash_line (d:Da) (r:Rc) {L:List (Int×Int)} {m:Nat} {p q:Int×Int} (hp:L[m]? =some p) (hq:L[m+1]? =some q):
  dashL d r 0 (L.take (m+1+1))=dashL d r 0 (L.take (m+1))++((stepL p.1 p.2 q.1 q.2 r).filter fun s=>d.lit ((aheadN (L.take (m+1)):Int)+s.1))∧aheadN (L.take (m+1+1))=aheadN (L.take (m+1))+(lpix p.1 p.2 q.1 q.2).length∧ ∃post,dashL d r 0 L=dashL d r 0 (L.take (m+1+1))++post:=by
 obtain⟨h1,h2⟩:=take_two hp hq
 refine⟨?_,?_,?_⟩
 ·rw[h2,dashL_snoc,h1,Nat.zero_add]
 ·rw[h2,aheadN_snoc,h1]
 ·obtain⟨post,h⟩:=dashL_pre d r (L.drop (m+1+1)) (L.take (m+1+1)) 0
  rw[List.take_append_drop]at h
  exact⟨post,h⟩
theorem filter_take {α:Type} (P:α→Bool) {S:List α} {k:Nat} {s:α} (h:S[k]? =some s):((S.take (k+1)).filter P).length=((S.take k).filter P).length+(if P s=true then 1 else 0):=by
 obtain⟨hk,rfl⟩:=List.getElem?_eq_some_iff.1 h
 rw[List.take_succ_eq_append_getElem hk,List.filter_append,List.length_append]
 congr 1
 by_cases hp:P S[k]=true <;>simp[hp]
theorem filter_at {α:Type} (P:α→Bool) {S pre post:List α} {k:Nat} {s:α} (h:S[k]? =some s) (hp:P s=true):(pre++S.filter P++post)[pre.length+((S.take k).filter P).length]? =some s:=by
 obtain⟨hk,rfl⟩:=List.getElem?_eq_some_iff.1 h
 have e:S.filter P=(S.take k).filter P++S[k]::(S.drop (k+1)).filter P:=by
  conv=>lhs;rw[←List.take_append_drop k S]
  rw[List.filter_append,List.drop_eq_getElem_cons hk,List.filter_cons_of_pos hp]
 rw[e,List.append_assoc,List.getElem?_append_right (by omega),Nat.add_sub_cancel_left,List.append_assoc,List.getElem?_append_right (Nat.le_refl _),Nat.sub_self]
 rfl
theorem stepL_small (ax ay bx by_:Int):(stepL ax ay bx by_ r98).length≤72:=by
 rw[←outK_all]
 exact outK_len ax ay bx by_ 9 0
theorem lpix_small {a b:Int×Int} (ha:Unit a) (hb:Unit b):(lpix a.1 a.2 b.1 b.2).length≤8200:=by
 by_cases hne:a.1=b.1∧a.2=b.2
 ·unfold lpix;rw[if_pos hne];simp
 ·have h:=lpix_length hne _ rfl
  have hu:=way_unit (ax:=a.1) (ay:=a.2) (bx:=b.1) (by_:=b.2) ha hb
  have b1:=lst_in hu.1.1.1 hu.1.1.2
  have b2:=lst_in hu.2.1.1 hu.2.1.2
  split at h <;>split at h <;>omega
theorem stepL_num {a b:Int×Int} (ha:Unit a) (hb:Unit b) {s:Int×Int×Int} (h:s∈stepL a.1 a.2 b.1 b.2 r98):0≤s.1∧s.1≤8200:=by
 unfold stepL at h
 obtain⟨i,hi, -,he⟩:=(numbered_mem_iff _ _ _).1 h
 have:=lpix_small ha hb
 have:=(List.getElem?_eq_some_iff.1 hi).1
 omega
theorem aheadN_small: ∀l:List (Int×Int),(∀q∈l,Unit q)→aheadN l≤8200*l.length
 |a::b::l,h=>by
  have h1:=aheadN_small (b::l) (fun q hq=>h q (List.mem_cons_of_mem _ hq))
  have h2:=lpix_small (h a (by simp)) (h b (by simp))
  rw[aheadN]
  simp only[List.length_cons]at h1 ⊢
  omega
 |[a],_=>by simp[aheadN]
 |[],_=>by simp[aheadN]
theorem dashL_small (d:Da): ∀(l:List (Int×Int)) (k:Nat),(dashL d r98 k l).length≤72*l.length
 |a::b::l,k=>by
  have h1:=dashL_small d (b::l) (k+(lpix a.1 a.2 b.1 b.2).length)
  have h2:=stepL_small a.1 a.2 b.1 b.2
  have h3:=List.length_filter_le (fun s=>d.lit ((k:Int)+s.1)) (stepL a.1 a.2 b.1 b.2 r98)
  rw[dashL,List.length_append]
  simp only[List.length_cons]at h1 ⊢
  omega
 |[a],k=>by simp[dashL]
 |[],k=>by simp[dashL]
def cnK (d:Da) (L:List (Int×Int)) (m:Nat) (S:List (Int×Int×Int)) (t:Nat):Nat:=(dashL d r98 0 (L.take (m+1))).length+((S.take t).filter fun s=>d.lit ((aheadN (L.take (m+1)):Int)+s.1)).length
theorem cnK_all {d:Da} {L:List (Int×Int)} {m:Nat} {p q:Int×Int} (hp:L[m]? =some p) (hq:L[m+1]? =some q) (S:List (Int×Int×Int)) (hS:S=stepL p.1 p.2 q.1 q.2 r98) (hl:L.length≤8):
  cnK d L m S 0=(dashL d r98 0 (L.take (m+1))).length∧cnK d L m S S.length=(dashL d r98 0 (L.take (m+1+1))).length∧(∀t,cnK d L m S t≤1000)∧
  (∀t s,S[t]? =some s→cnK d L m S (t+1)=cnK d L m S t+(if d.lit ((aheadN (L.take (m+1)):Int)+s.1)=true then 1 else 0))∧
  (∀t s,S[t]? =some s→d.lit ((aheadN (L.take (m+1)):Int)+s.1)=true→(dashL d r98 0 L)[cnK d L m S t]? =some s):=by
 obtain⟨h1, -,post,h3⟩:=dash_line d r98 hp hq
 rw[←hS]at h1
 refine⟨by simp[cnK],?_,fun t=>?_,fun t s hs=>?_,fun t s hs hl=>?_⟩
 ·rw[h1,List.length_append]
  unfold cnK
  rw[List.take_length]
 ·have a1:=dashL_small d (L.take (m+1)) 0
  have a2:(L.take (m+1)).length≤L.length:=by rw[List.length_take];omega
  have a3:S.length≤72:=by rw[hS];exact stepL_small _ _ _ _
  have a4:=List.length_filter_le (fun s=>d.lit ((aheadN (L.take (m+1)):Int)+s.1)) (S.take t)
  have a5:(S.take t).length≤S.length:=by rw[List.length_take];omega
  unfold cnK
  omega
 ·unfold cnK
  rw[filter_take _ hs,Nat.add_assoc]
 ·rw[h3,h1]
  exact filter_at _ hs hl
end Go.Proofs.YtplljnfjkkloeaaGreatDoor
set_option linter.unusedVariables false
set_option linter.unusedSimpArgs false
namespace Go.Proofs.YtplljnfjkkloeaaGreatDoor
attribute [local go_sem] Go.Oper.semAt_some
open Go.RowKit
end Go.Proofs.YtplljnfjkkloeaaGreatDoor
set_option linter.unusedVariables false
set_option linter.unusedSimpArgs false
namespace Go.Proofs.YtplljnfjkkloeaaGreatDoor
open Go.RowKit
end Go.Proofs.YtplljnfjkkloeaaGreatDoor
set_option linter.unusedVariables false
set_option linter.unusedSimpArgs false
namespace Go.Proofs.YtplljnfjkkloeaaGreatDoor
open Go.RowKit
structure EP (W:World) (F:Nat→Value→World→Prop) (E:(Nat→Value)→World→Prop) (ks:List (Nat×Nat)) (kl:List Nat) (ic il:Nat) (st:Nat→Bool) (u:Nat→Value) (x:World):Prop where
 e:Ext W x
 val: ∀q∈ks,st q.1=true→(st ic=false∨q.1∈kl)→st il=false→F q.2 (u q.2) x
 fin:st il=true→E u x
theorem wrap_i (n:Int):IntKind.i64.wrap n=wrap64 n:=by unfold wrap64;exact IntKind.wrap_i64 n
section
variable {W x y:World} {F:Nat→Value→World→Prop} {E:(Nat→Value)→World→Prop} {ks:List (Nat×Nat)} {kl:List Nat} {ic il:Nat} {st:Nat→Bool} {u:Nat→Value}
theorem EP.begin (e:Ext W x):EP W F E ks kl ic il (fun _=>false) u x:=⟨e,fun _ _ h=>(by cases h),fun h=>(by cases h)⟩
theorem EP.step (h:EP W F E ks kl ic il st u x) (i d:Nat) (hk: ∀q∈ks,(q.2=d↔q.1=i)) (hi:ic≠i∧il≠i) (hil:st il=false) (e:Ext x y) (hF: ∀s v,F s v x→F s v y) {v:Value} (hv:F d v y):EP W F E ks kl ic il (ups st i) (upu u d v) y:=by
 obtain⟨i1,i2⟩:=hi
 refine⟨h.e.trans e,fun q hq hs hc hl=>?_,fun hs=>?_⟩
 ·by_cases hi:q.1=i
  ·have hd:=(hk q hq).2 hi
   rw[hd,upu_eq]
   exact hv
  ·rw[upu_ne (fun hd=>hi ((hk q hq).1 hd))]
   rw[ups_ne hi]at hs
   rw[ups_ne i1]at hc
   exact hF _ _ (h.val q hq hs hc hil)
 ·rw[ups_ne i2,hil]at hs
  cases hs
theorem EP.quiet (h:EP W F E ks kl ic il st u x) (i d:Nat) (hk: ∀q∈ks,(q.2=d↔q.1=i)) (hi:ic≠i∧il≠i) (hil:st il=false) {v:Value} (hv:F d v x):EP W F E ks kl ic il (ups st i) (upu u d v) x:=
 h.step i d hk hi hil (Ext.refl x) (fun _ _ h=>h) hv
theorem EP.cut (h:EP W F E ks kl ic il st u x) (d:Nat) (hk: ∀q∈ks,(q.2=d↔q.1=ic)) (hi:il≠ic) (hst:st ic=false) (hil:st il=false) (e:Ext W y) (hF: ∀q∈ks,q.1≠ic→q.1∈kl→ ∀v,F q.2 v x→F q.2 v y) {v:Value} (hv:F d v y):EP W F E ks kl ic il (ups st ic) (upu u d v) y:=by
 refine⟨e,fun q hq hs hc hl=>?_,fun hs=>?_⟩
 ·by_cases hi:q.1=ic
  ·have hd:=(hk q hq).2 hi
   rw[hd,upu_eq]
   exact hv
  ·rw[upu_ne (fun hd=>hi ((hk q hq).1 hd))]
   rw[ups_ne hi]at hs
   rw[ups_eq]at hc
   rcases hc with hc|hc
   ·cases hc
   ·exact hF q hq hi hc _ (h.val q hq hs (.inl hst) hil)
 ·rw[ups_ne hi,hil]at hs
  cases hs
theorem EP.last (e:Ext W y) (h:E u y):EP W F E ks kl ic il (ups st il) u y:=
 ⟨e,fun q hq hs hc hl=>(by rw[ups_eq]at hl;cases hl),fun _=>h⟩
end
end Go.Proofs.YtplljnfjkkloeaaGreatDoor
set_option linter.unusedVariables false
set_option linter.unusedSimpArgs false
namespace Go.Proofs.YtplljnfjkkloeaaGreatDoor
open Go.RowKit
theorem CmdO.nil {w:World} {base:Nat} {v:Value} (h:w.ownsRow base 88 2 v 0 []):CmdO w base v [] []:=⟨rfl,h,fun k q hq=>by simp at hq⟩
theorem CmdO.copy {w w':World} {b b':Nat} {v v':Value} {L:List (Int×List Int)} {Q:List Rq} (h:CmdO w b v L Q) (e:Ext w w') (own':w'.ownsRow b' 88 2 v' L.length (Q.flatMap Rq.cells)):CmdO w' b' v' L Q:=
 ⟨h.n,own',fun k q hq=>let⟨C,h1,h2,h3⟩:=h.q k q hq;⟨C,h1,h2.ext e,h3⟩⟩
def SlB (x:World) (T:TypeId) (n:Nat) (cs:Array Value) (v:Value):Prop:= ∃G,v=.slice (some ⟨G,0,none⟩) n n∧Blk x G T cs
def RcB (x:World) (op:Int) (n:Nat) (cs:Array Value) (v:Value):Prop:= ∃G,v=.agg #[.int .i64 op,.slice (some ⟨G,0,none⟩) n n]∧Blk x G 3 cs
def CmB (m:Nat) (x:World) (L:List (Int×List Int)) (v:Value):Prop:= ∃b Q,m≤b∧b≤x.heap.size∧CmdO x b v L Q
section
variable {x y:World}
theorem SlB.ext {T:TypeId} {n:Nat} {cs:Array Value} {v:Value} (e:Ext x y) (h:SlB x T n cs v):SlB y T n cs v:=let⟨G,h1,h2⟩:=h;⟨G,h1,h2.ext e⟩
theorem RcB.ext {op:Int} {n:Nat} {cs:Array Value} {v:Value} (e:Ext x y) (h:RcB x op n cs v):RcB y op n cs v:=let⟨G,h1,h2⟩:=h;⟨G,h1,h2.ext e⟩
theorem CmB.ext {m:Nat} {L:List (Int×List Int)} {v:Value} (e:Ext x y) (h:CmB m x L v):CmB m y L v:=let⟨b,Q,h1,h2,h3⟩:=h;⟨b,Q,h1,Nat.le_trans h2 e.size,h3.ext e⟩
def TwB (x:World) (c1 c2:Array Value) (n1 n2:Nat) (o1 o2:Int) (v:Value):Prop:= ∃G G1 G2,v=.slice (some ⟨G,0,none⟩) 2 2∧Blk x G 88 #[.int .i64 o1,.slice (some ⟨G1,0,none⟩) n1 n1,.int .i64 o2,.slice (some ⟨G2,0,none⟩) n2 n2]∧Blk x G1 3 c1∧Blk x G2 3 c2
theorem TwB.ext {c1 c2:Array Value} {n1 n2:Nat} {o1 o2:Int} {v:Value} (e:Ext x y) (h:TwB x c1 c2 n1 n2 o1 o2 v):TwB y c1 c2 n1 n2 o1 o2 v:=let⟨G,G1,G2,h0,h1,h2,h3⟩:=h;⟨G,G1,G2,h0,h1.ext e,h2.ext e,h3.ext e⟩
def cE (n:Nat) (d:Da) (pts:List (Int×Int)) (l:Sl):Array Value:=(sE n true d).cs (pE n true d pts) l
def z72:List Int:=List.replicate 72 16777215
def ImB (x:World) (n:Nat) (d:Da) (pts:List (Int×Int)) (l:Sl):Prop:=RdB x 3 1 l.c 72 l.cc (ivs (endC n true d pts))∧RdB x 3 1 l.z 72 l.cz (ivs z72)
theorem ImB.ext {n:Nat} {d:Da} {pts:List (Int×Int)} {l:Sl} (e:Ext x y) (h:ImB x n d pts l):ImB y n d pts l:=⟨h.1.ext e,h.2.ext e⟩
theorem ImB.keep {n:Nat} {d:Da} {pts:List (Int×Int)} {l:Sl} (h:ImB x n d pts l) (k: ∀g cs,Blk x g 3 cs→Blk y g 3 cs):ImB y n d pts l:=⟨h.1.keep k,h.2.keep k⟩
end
end Go.Proofs.YtplljnfjkkloeaaGreatDoor
set_option linter.unusedVariables false
set_option linter.unusedSimpArgs false
namespace Go.Proofs.YtplljnfjkkloeaaGreatDoor
open Go.RowKit
theorem size_rec:(Tryz.prog.info? 88).map (·.size)=some 2:=by kernel_rfl
theorem rqs_take: ∀(Q:List Rq) (k:Nat),(Q.flatMap Rq.cells).take (k*2)=(Q.take k).flatMap Rq.cells
 |[],k=>by simp
 |s::L,0=>by simp
 |s::L,k+1=>by
  rw[List.flatMap_cons,List.take_succ_cons,List.flatMap_cons,←rqs_take L k,show(k+1)*2=k*2+2 by omega]
  rfl
theorem CmdO.first {w:World} {b:Nat} {v v':Value} {L:List (Int×List Int)} {Q:List Rq} (h:CmdO w b v L Q) (m:Nat) (hm:m≤L.length) (ho:w.ownsRow b 88 2 v' m ((Q.flatMap Rq.cells).take (m*2))):CmdO w b v' (L.take m) (Q.take m):=by
 have hl:(L.take m).length=m:=by rw[List.length_take];omega
 refine⟨by rw[List.length_take,List.length_take,h.n],by rw[hl,←rqs_take];exact ho,fun k q hq=>?_⟩
 have hk:k<m:=by
  have:=(List.getElem?_eq_some_iff.1 hq).1
  rw[List.length_take]at this
  omega
 rw[List.getElem?_take_of_lt hk]at hq
 obtain⟨C,h1,h2⟩:=h.q k q hq
 exact⟨C,by rw[List.getElem?_take_of_lt hk];exact h1,h2⟩
def dHow (R P:Int):List (Int×List Int):=placesL 9 8++[(20,[1,R,P])]
def dCmds (R P:Int) (pts:List (Int×Int)):List (Int×List Int):=dHow R P++((16,[2])::pts.map vcmd)
theorem dCmds_take (R P:Int) (pts:List (Int×Int)):(dHow R P++shapeL 2 pts).take (pts.length+6)=dCmds R P pts∧(dHow R P++shapeL 2 pts).length=pts.length+7∧(dCmds R P pts).length=pts.length+6:=by
 have e:dHow R P++shapeL 2 pts=dCmds R P pts++[(18,[])]:=by unfold dCmds shapeL;rw[List.append_assoc]
 have h6:(dCmds R P pts).length=pts.length+6:=by
  unfold dCmds dHow placesL
  simp only[List.length_append,List.length_cons,List.length_nil,List.length_map]
  omega
 refine⟨?_,?_,h6⟩
 ·rw[e,List.take_append_of_le_length (by omega),List.take_of_length_le (by omega)]
 ·rw[e,List.length_append,h6];rfl
theorem dRight_20 {R P:Int} (h:0≤P∧P≤65535) (r:1≤R∧R≤256):rightT (askT 20) [1,R,P]=0:=by
 have e:askT 20=some [(0,1),(1,256),(0,65535)]:=rfl
 rw[e]
 simp[rightT,allIn,within]
 omega
def dD (R P:Int):Da:=⟨P,R,0⟩
theorem dD_ok {R P:Int} (h:0≤P∧P≤65535) (r:1≤R∧R≤256):(dD R P).Ok∧(dD R P).Low:=by
 refine⟨⟨h.1,by show P<65536;omega,r.1,r.2,Int.le_refl _,(show(0:Int)≤1099511627776 by decide)⟩,r.1,?_⟩
 show 0%(R*16)=0
 exact Int.zero_emod _
theorem dCmds_steps {R P:Int} (h:0≤P∧P≤65535) (r:1≤R∧R≤256) (pts:List (Int×Int)) (hu: ∀q∈pts,Unit q) (hl:pts.length≤256):Steps ps0 hp0 (dCmds R P pts) (sV 1 true (dD R P)) (pV pts):=
 (places_steps.append (.cons (c:=(20,[1,R,P])) (Step.dash _ _ 1 R P (dRight_20 h r) rfl) (.nil _ _))).append (begin_steps 1 true (dD R P) pts hu hl)
def dFr (R P:Int) (pts:List (Int×Int)):List Fr:=(dashL (dD R P) r98 0 pts).map fun s=>ufr s.2.1 s.2.2
theorem dFr_is {R P:Int} (h:0≤P∧P≤65535) (r:1≤R∧R≤256) (pts:List (Int×Int)):stripL 1 true r98 (dD R P) (pts.map uv)=dFr R P pts:=by
 have:=strip_dash (dD R P) r98 r98_ok (dD_ok h r).2 pts 0
 rw[show(((0:Nat):Int))=0 from rfl,Da.Low.zero (dD_ok h r).2]at this
 exact this
theorem dFr_at {R P:Int} {pts:List (Int×Int)} {t:Nat} {s:Int×Int×Int} (h:(dashL (dD R P) r98 0 pts)[t]? =some s):(dFr R P pts)[t]? =some (ufr s.2.1 s.2.2):=by
 unfold dFr
 rw[List.getElem?_map,h]
 rfl
section
variable {x y:World}
def OnB (x:World) (c:Array Value) (n:Nat) (o:Int) (v:Value):Prop:= ∃G G1,v=.slice (some ⟨G,0,none⟩) 1 1∧Blk x G 88 #[.int .i64 o,.slice (some ⟨G1,0,none⟩) n n]∧Blk x G1 3 c
theorem OnB.ext {c:Array Value} {n:Nat} {o:Int} {v:Value} (e:Ext x y) (h:OnB x c n o v):OnB y c n o v:=let⟨G,G1,h0,h1,h2⟩:=h;⟨G,G1,h0,h1.ext e,h2.ext e⟩
def FD3 (m D:Nat) (R P:Int) (s:Nat) (v:Value) (x:World):Prop:=match s with
 |38=>CmB m x (placesL 9 8) v
 |39=>v=.pointer (some ⟨D,1,none⟩)
 |40=>v=.int .i64 R
 |41=>v=.pointer (some ⟨D,0,none⟩)
 |42=>v=.int .i64 P
 |43=>SlB x 3 3 (irow [1,R,P]) v
 |44=>RcB x 20 3 (irow [1,R,P]) v
 |45=>OnB x (irow [1,R,P]) 3 20 v
 |46=>CmB m x (dHow R P) v
 |_=>True
def ED3 (m:Nat) (R P:Int) (u:Nat→Value) (x:World):Prop:=CmB m x (dHow R P) (u 5)
theorem FD3_ext {m D:Nat} {R P:Int} (e:Ext x y) (s:Nat) (v:Value) (h:FD3 m D R P s v x):FD3 m D R P s v y:=by
 unfold FD3
 split
 all_goals first|exact CmB.ext e h|exact SlB.ext e h|exact RcB.ext e h|exact OnB.ext e h|exact h|trivial
def WiB (x:World) (S:List (Int×Int×Int)) (v:Value):Prop:= ∃a c,v=.slice a S.length c∧Rd x 3 a S.length c (S.flatMap stC)
theorem WiB.ext {S:List (Int×Int×Int)} {v:Value} (e:Ext x y) (h:WiB x S v):WiB y S v:=let⟨a,c,h1,h2⟩:=h;⟨a,c,h1,h2.ext e⟩
def FD11 (lv:Value) (b off m:Nat) (p q:Int×Int) (S:List (Int×Int×Int)) (s:Nat) (v:Value) (x:World):Prop:=match s with
 |68=>v=lv
 |69=>v=.int .i64 ((m:Int)+1)
 |70=>v=.int .i64 (m:Int)
 |71=>v=.pointer (some ⟨b,off+m*2,none⟩)
 |72=>v=.agg (ptR p.1 p.2)
 |73=>v=lv
 |74=>v=.int .i64 ((m:Int)+1)
 |75=>v=.pointer (some ⟨b,off+(m+1)*2,none⟩)
 |76=>v=.agg (ptR q.1 q.2)
 |77=>v=.agg #[.int .i64 0,.int .i64 0,.int .i64 9,.int .i64 8]
 |78=>WiB x S v
 |_=>True
def ED11 (S:List (Int×Int×Int)) (u:Nat→Value) (x:World):Prop:=WiB x S (u 12)
theorem FD11_ext {lv:Value} {b off m:Nat} {p q:Int×Int} {S:List (Int×Int×Int)} (e:Ext x y) (s:Nat) (v:Value) (h:FD11 lv b off m p q S s v x):FD11 lv b off m p q S s v y:=by
 unfold FD11
 split
 all_goals first|exact WiB.ext e h|exact h|trivial
end
theorem one_cat {w w':World} {b:Nat} {v v':Value} {L:List (Int×List Int)} {Q:List Rq} (h:CmdO w b v L Q) {G1 n1:Nat} {C1:List Int} {o1:Int} (h1:Blk w G1 3 (irow C1)) (l1:C1.length=n1) (m1:n1≤4096)
  (hg:w.grownBy w' v.ownBlock)(ho:w'.ownsRow b 88 2 v' (L.length+1) (Q.flatMap Rq.cells++[.int .i64 o1,.slice (some ⟨G1,0,none⟩) n1 n1])):
  ∃Q',CmdO w' b v' (L++[(o1,C1)]) Q':=
 ⟨_,h.cat (M:=[(o1,C1)]) (R:=[⟨o1,some ⟨G1,0,none⟩,n1,n1⟩]) rfl (fun k q hq=>by
  rcases k with _|k
  ·obtain rfl:=Option.some.inj hq
   exact⟨C1,rfl,blk_rdB h1 l1 m1,m1⟩
  ·simp at hq) hg ho⟩
theorem blk_rdr {w:World} {G:Nat} {T:TypeId} {x0 x1:Value} (h:Blk w G T #[x0,x1]):Rd w 2 (some ⟨G,0,none⟩) 1 1 [x0,x1]:=
 ⟨rfl,Nat.le_refl _,by unfold maxLen;omega,fun _=>⟨G,0,rfl,h.lt,fun j hj=>by rw[Nat.zero_add,h.cell];simp⟩⟩
end Go.Proofs.YtplljnfjkkloeaaGreatDoor
