/- Plain: a line's pixels as the document numbers and sorts them. By an AI agent. No condition beyond what each theorem states. -/
import Derived.Test.YtplljnfjkkloeaaGreatDoorWF
import Derived.Test.YtplljnfjkkloeaaGreatDoorQR
import Derived.Test.YtplljnfjkkloeaaGreatDoorQP
import Derived.Test.YtplljnfjkkloeaaGreatDoorQX
set_option linter.unusedVariables false
set_option linter.unusedSimpArgs false
set_option maxHeartbeats 4000000
namespace Go.Proofs.YtplljnfjkkloeaaGreatDoor
instance decExits (ax ay bx by_ x y:Int):Decidable (rExits ax ay bx by_ x y):=by
 unfold rExits rMeets rIn rThrough
 infer_instance
section
variable {P:Int→Int→Prop} [∀x y,Decidable (P x y)]
theorem numbered_cons (p:Int×Int) (l:List (Int×Int)) (k:Nat):numbered P (p::l) k=(if P p.1 p.2 then[((k:Int),p.1,p.2)]else[])++numbered P l (k+1):=by
 have h:=numbered_append (P:=P) [p] l k
 simp only[List.singleton_append,List.length_singleton]at h
 rw[h]
 congr 1
 simp[numbered]
theorem numbered_mem_iff: ∀(l:List (Int×Int)) (k:Nat) (s:Int×Int×Int),s∈numbered P l k↔ ∃i,l[i]? =some s.2∧P s.2.1 s.2.2∧s.1=((k+i:Nat):Int)
 |[],k,s=>by simp[numbered]
 |p::l,k,s=>by
  rw[numbered_cons,List.mem_append,numbered_mem_iff l (k+1) s]
  constructor
  ·rintro(h|⟨i,h1,h2,h3⟩)
   ·split at h
    ·rename_i hp
     simp only[List.mem_singleton]at h
     subst h
     exact⟨0,rfl,hp,by simp⟩
    ·cases h
   ·exact⟨i+1,by simpa using h1,h2,by rw[h3];congr 1;omega⟩
  ·rintro⟨i,h1,h2,h3⟩
   cases i with
   |zero=>
    simp only[List.getElem?_cons_zero,Option.some.injEq]at h1
    subst h1
    left
    rw[if_pos h2]
    simp only[List.mem_singleton]
    exact Prod.ext (by simpa using h3) rfl
   |succ i=>
    right
    exact⟨i,by simpa using h1,h2,by rw[h3];congr 1;omega⟩
theorem numbered_sorted: ∀(l:List (Int×Int)) (k:Nat),(numbered P l k).Pairwise (fun a b=>a.1<b.1)
 |[],k=>by simp[numbered]
 |p::l,k=>by
  rw[numbered_cons,List.pairwise_append]
  refine⟨?_,numbered_sorted l (k+1),?_⟩
  ·split <;>simp
  ·intro a ha b hb
   obtain⟨i, -, -,h3⟩:=(numbered_mem_iff l (k+1) b).1 hb
   split at ha
   ·simp only[List.mem_singleton]at ha
    subst ha
    simp only
    omega
   ·cases ha
end
theorem sorted_unique: ∀{l m:List (Int×Int×Int)},l.Pairwise (fun a b=>a.1<b.1)→m.Pairwise (fun a b=>a.1<b.1)→(∀s,s∈l↔s∈m)→l=m
 |[],m,_,_,h=>by
  cases m with
  |nil=>rfl
  |cons t m=>exact absurd ((h t).2 (by simp)) (by simp)
 |s::l,m,hl,hm,h=>by
  cases m with
  |nil=>exact absurd ((h s).1 (by simp)) (by simp)
  |cons t m=>
   rw[List.pairwise_cons]at hl hm
   have e:s=t:=by
    have h1:=(h s).1 (by simp)
    have h2:=(h t).2 (by simp)
    rw[List.mem_cons]at h1 h2
    rcases h1 with h1|h1
    ·exact h1
    ·rcases h2 with h2|h2
     ·exact h2.symm
     ·have:=hl.1 _ h2
      have:=hm.1 _ h1
      omega
   subst e
   congr 1
   refine sorted_unique hl.2 hm.2 fun u=>?_
   constructor
   ·intro hu
    have:=(h u).1 (List.mem_cons_of_mem _ hu)
    rcases List.mem_cons.1 this with rfl|h2
    ·exact absurd (hl.1 _ hu) (by omega)
    ·exact h2
   ·intro hu
    have:=(h u).2 (List.mem_cons_of_mem _ hu)
    rcases List.mem_cons.1 this with rfl|h2
    ·exact absurd (hm.1 _ hu) (by omega)
    ·exact h2
def cutK (k:Int):List (Int×Int×Int)→Nat
 |[]=>0
 |t::l=>if t.1<k then cutK k l+1 else 0
def insK (s:Int×Int×Int) (l:List (Int×Int×Int)):List (Int×Int×Int):=l.take (cutK s.1 l)++s::l.drop (cutK s.1 l)
theorem cutK_le (k:Int): ∀l,cutK k l≤l.length
 |[]=>Nat.le_refl _
 |t::l=>by
  unfold cutK
  have:=cutK_le k l
  split <;>simp <;>omega
theorem cutK_at (k:Int): ∀(l:List (Int×Int×Int)) (i:Nat),(∀j,j<i→ ∃t,l[j]? =some t∧t.1<k)→(∀t,l[i]? =some t→ ¬t.1<k)→i≤l.length→cutK k l=i
 |[],i,_,_,hi=>by simp at hi;simp[cutK,hi]
 |t::l,0,_,h,_=>by
  have:=h t rfl
  simp[cutK,this]
 |t::l,i+1,h1,h2,hi=>by
  obtain⟨u,hu,hlt⟩:=h1 0 (by omega)
  simp only[List.getElem?_cons_zero,Option.some.injEq]at hu
  subst hu
  unfold cutK
  rw[if_pos hlt,cutK_at k l i (fun j hj=>by have:=h1 (j+1) (by omega);simpa using this) (fun u hu=>h2 u (by simpa using hu)) (by simpa using hi)]
theorem insK_mem (s:Int×Int×Int) (l:List (Int×Int×Int)) (u:Int×Int×Int):u∈insK s l↔u=s∨u∈l:=by
 unfold insK
 have h:u∈l↔u∈l.take (cutK s.1 l)∨u∈l.drop (cutK s.1 l):=by
  rw[←List.mem_append,List.take_append_drop]
 rw[List.mem_append,List.mem_cons,h]
 constructor
 ·rintro(h|h|h) <;>simp[h]
 ·rintro(h|h|h) <;>simp[h]
theorem cutK_cons (k:Int) (t:Int×Int×Int) (l:List (Int×Int×Int)):cutK k (t::l)=if t.1<k then cutK k l+1 else 0:=rfl
theorem insK_cons (s t:Int×Int×Int) (l:List (Int×Int×Int)):insK s (t::l)=if t.1<s.1 then t::insK s l else s::t::l:=by
 unfold insK
 rw[cutK_cons]
 split <;>simp
theorem insK_sorted (s:Int×Int×Int): ∀{l:List (Int×Int×Int)},l.Pairwise (fun a b=>a.1<b.1)→(∀t∈l,t.1≠s.1)→(insK s l).Pairwise (fun a b=>a.1<b.1)
 |[],_,_=>by simp[insK,cutK]
 |t::l,hl,hne=>by
  rw[insK_cons]
  rw[List.pairwise_cons]at hl
  have ht:=hne t (by simp)
  split
  ·rename_i hlt
   rw[List.pairwise_cons]
   refine⟨fun u hu=>?_,insK_sorted s hl.2 (fun u hu=>hne u (by simp[hu]))⟩
   rcases(insK_mem s l u).1 hu with rfl|hu
   ·exact hlt
   ·exact hl.1 u hu
  ·rename_i hlt
   rw[List.pairwise_cons,List.pairwise_cons]
   refine⟨fun u hu=>?_,hl⟩
   rcases List.mem_cons.1 hu with rfl|hu
   ·omega
   ·have:=hl.1 u hu
    omega
def onum (ax ay bx by_ x y:Int):Int:=
 if(wayOf ax ay bx by_).extra=true then
  (if(wayOf ax ay bx by_).pa=some (if(wayOf ax ay bx by_).turned=true then(y,x)else(x,y))then 0
   else(if lst (wayOf ax ay bx by_).bu<lst (wayOf ax ay bx by_).au then lst (wayOf ax ay bx by_).au-1-(if(wayOf ax ay bx by_).turned=true then y else x)else(if(wayOf ax ay bx by_).turned=true then y else x)-lst (wayOf ax ay bx by_).au)+1)
 else(if lst (wayOf ax ay bx by_).bu<lst (wayOf ax ay bx by_).au then lst (wayOf ax ay bx by_).au-1-(if(wayOf ax ay bx by_).turned=true then y else x)else(if(wayOf ax ay bx by_).turned=true then y else x)-lst (wayOf ax ay bx by_).au)
theorem mid_num (W:Way) (n:Nat) (hn:n<W.size):(if lst W.bu<lst W.au then lst W.au-1-W.mid n else W.mid n-lst W.au)=n:=by
 have hs:W.last-W.first=0→False:=fun h=>by unfold Way.size at hn;rw[h]at hn;simp at hn
 unfold Way.mid Way.step
 by_cases h:lst W.bu<lst W.au
 ·have e1:W.first=lst W.au-1:=by unfold Way.first;rw[if_pos h]
  have e2:W.last=lst W.bu-1:=by unfold Way.last;rw[if_pos h]
  rw[if_pos h,if_pos (by omega)]
  omega
 ·have e1:W.first=lst W.au:=by unfold Way.first;rw[if_neg h]
  have e2:W.last=lst W.bu:=by unfold Way.last;rw[if_neg h]
  rw[if_neg h,if_neg (by omega)]
  omega
theorem many_le (W:Way):W.many≤W.size:=by unfold Way.many;omega
theorem pix_num (W:Way) (i:Nat) (u v:Int) (h:W.pix[i]? =some (u,v)):
  (if W.extra=true then(if W.pa=some (u,v)then 0 else(if lst W.bu<lst W.au then lst W.au-1-u else u-lst W.au)+1)else(if lst W.bu<lst W.au then lst W.au-1-u else u-lst W.au))=(i:Int):=by
 unfold Way.pix at h
 have hl:=W.head_len
 by_cases he:W.extra=true
 ·rw[if_pos he]at hl ⊢
  obtain⟨a,b,hp,hc, -⟩:=W.extra_is.1 he
  cases i with
  |zero=>
   rw[List.getElem?_append_left (by omega)]at h
   unfold Way.head at h
   rw[if_pos he,hp]at h
   simp only[Option.toList_some,List.getElem?_cons_zero,Option.some.injEq]at h
   rw[hp,h,if_pos rfl]
   rfl
  |succ n=>
   rw[List.getElem?_append_right (by omega),hl,Nat.add_sub_cancel]at h
   unfold Way.body at h
   rw[List.getElem?_map]at h
   have hn:n<W.many:=by
    rcases Nat.lt_or_ge n W.many with h1|h1
    ·exact h1
    ·rw[List.getElem?_eq_none (by simpa using h1)]at h;cases h
   rw[List.getElem?_range hn]at h
   simp only[Option.map_some,Option.some.injEq,Prod.mk.injEq]at h
   obtain⟨rfl,rfl⟩:=h
   have hlt:n<W.size:=Nat.lt_of_lt_of_le hn (many_le W)
   rw[if_neg,mid_num W n hlt]
   ·simp
   ·intro hq
    rw[hp]at hq
    simp only[Option.some.injEq,Prod.mk.injEq]at hq
    exact hc ((W.crossed_is a).2 ⟨n,hlt,hq.1⟩)
 ·rw[if_neg he]at hl ⊢
  rw[List.getElem?_append_right (by omega),hl,Nat.sub_zero]at h
  unfold Way.body at h
  rw[List.getElem?_map]at h
  have hn:i<W.many:=by
   rcases Nat.lt_or_ge i W.many with h1|h1
   ·exact h1
   ·rw[List.getElem?_eq_none (by simpa using h1)]at h;cases h
  rw[List.getElem?_range hn]at h
  simp only[Option.map_some,Option.some.injEq,Prod.mk.injEq]at h
  obtain⟨rfl,rfl⟩:=h
  exact mid_num W i (Nat.lt_of_lt_of_le hn (many_le W))
theorem onum_is {ax ay bx by_ x y:Int} {i:Nat} (h:(lpix ax ay bx by_)[i]? =some (x,y)):onum ax ay bx by_ x y=i:=by
 unfold lpix at h
 split at h
 ·simp at h
 ·unfold onum
  generalize wayOf ax ay bx by_=W at*
  rw[List.getElem?_map]at h
  cases hp:W.pix[i]? with
  |none=>rw[hp]at h;cases h
  |some p=>
   rw[hp]at h
   simp only[Option.map_some,Option.some.injEq]at h
   obtain⟨u,v⟩:=p
   have k:=pix_num W i u v hp
   by_cases ht:W.turned=true
   ·rw[if_pos ht]at h
    simp only[Prod.mk.injEq]at h
    obtain⟨rfl,rfl⟩:=h
    simp only[if_pos ht]
    exact k
   ·rw[if_neg ht]at h
    simp only[Prod.mk.injEq]at h
    obtain⟨rfl,rfl⟩:=h
    simp only[if_neg ht]
    exact k
def pixels (x0 y0 x1 y1:Int):List (Int×Int):=(List.range (x1-x0).toNat).flatMap fun(i:Nat)=>(List.range (y1-y0).toNat).map fun(j:Nat)=>(x0+i,y0+j)
theorem pixels_mem (x0 y0 x1 y1 x y:Int):(x,y)∈pixels x0 y0 x1 y1↔(x0≤x∧x<x1∧y0≤y∧y<y1):=by
 unfold pixels
 simp only[List.mem_flatMap,List.mem_map,List.mem_range,Prod.mk.injEq]
 constructor
 ·rintro⟨i,hi,j,hj,rfl,rfl⟩;omega
 ·rintro⟨h1,h2,h3,h4⟩
  exact⟨(x-x0).toNat,by omega,(y-y0).toNat,by omega,by omega,by omega⟩
theorem pixels_nodup (x0 y0 x1 y1:Int):(pixels x0 y0 x1 y1).Nodup:=by
 unfold pixels List.Nodup
 rw[List.pairwise_flatMap]
 refine⟨fun i _=>?_,?_⟩
 ·rw[List.pairwise_map]
  refine List.nodup_range.imp fun{a b} hne he=>hne ?_
  simp only[Prod.mk.injEq]at he
  omega
 ·refine List.nodup_range.imp fun{a b} hne=>?_
  intro p hp q hq he
  simp only[List.mem_map]at hp hq
  obtain⟨j, -,rfl⟩:=hp
  obtain⟨k, -,rfl⟩:=hq
  simp only[Prod.mk.injEq]at he
  omega
def rlist (ax ay bx by_:Int):List (Int×Int)→List (Int×Int×Int)→List (Int×Int×Int)
 |[],out=>out
 |p::l,out=>rlist ax ay bx by_ l (if rExits ax ay bx by_ p.1 p.2 then insK (onum ax ay bx by_ p.1 p.2,p.1,p.2) out else out)
theorem rlist_append (ax ay bx by_:Int): ∀(l m:List (Int×Int)) (out:List (Int×Int×Int)),rlist ax ay bx by_ (l++m) out=rlist ax ay bx by_ m (rlist ax ay bx by_ l out)
 |[],m,out=>rfl
 |p::l,m,out=>rlist_append ax ay bx by_ l m _
theorem rlist_spec {ax ay bx by_:Int}: ∀(l seen:List (Int×Int)) (out:List (Int×Int×Int)),(seen++l).Nodup→out.Pairwise (fun a b=>a.1<b.1)→
  (∀s,s∈out↔s.2∈seen∧rExits ax ay bx by_ s.2.1 s.2.2∧s.1=onum ax ay bx by_ s.2.1 s.2.2)→
  (rlist ax ay bx by_ l out).Pairwise (fun a b=>a.1<b.1)∧ ∀s,s∈rlist ax ay bx by_ l out↔s.2∈seen++l∧rExits ax ay bx by_ s.2.1 s.2.2∧s.1=onum ax ay bx by_ s.2.1 s.2.2
 |[],seen,out,_,hs,hm=>by simpa[rlist]using⟨hs,fun a b c=>hm (a,b,c)⟩
 |p::l,seen,out,hn,hs,hm=>by
  obtain⟨px,py⟩:=p
  have hn':((seen++[(px,py)])++l).Nodup:=by simpa using hn
  have hp:(px,py)∉seen:=by
   intro h
   rw[List.nodup_append]at hn
   exact hn.2.2 _ h (px,py) (by simp) rfl
  have key:=rlist_spec (ax:=ax) (ay:=ay) (bx:=bx) (by_:=by_) l (seen++[(px,py)]) (if rExits ax ay bx by_ px py then insK (onum ax ay bx by_ px py,px,py) out else out) hn' ?_ ?_
  ·rw[show seen++(px,py)::l=(seen++[(px,py)])++l by simp]
   exact key
  ·split
   ·rename_i hx
    refine insK_sorted _ hs fun t ht=>?_
    intro he
    obtain⟨h1,h2,h3⟩:=(hm t).1 ht
    simp only at he
    rw[he]at h3
    obtain⟨i,hi⟩:=List.mem_iff_getElem?.1 ((lpix_mem ax ay bx by_ px py).2 hx)
    obtain⟨j,hj⟩:=List.mem_iff_getElem?.1 ((lpix_mem ax ay bx by_ t.2.1 t.2.2).2 h2)
    rw[onum_is hi,onum_is (x:=t.2.1) (y:=t.2.2) hj]at h3
    have:i=j:=by omega
    subst this
    rw[hi]at hj
    exact hp (by rw[show(px,py)=t.2 from Option.some.inj hj];exact h1)
   ·exact hs
  ·intro s
   obtain⟨k,sx,sy⟩:=s
   have hms:=hm (k,sx,sy)
   simp only at hms ⊢
   split
   ·rename_i hx
    rw[insK_mem,hms,List.mem_append,List.mem_singleton]
    constructor
    ·rintro(h|⟨h1,h2,h3⟩)
     ·simp only[Prod.mk.injEq]at h
      obtain⟨rfl,rfl,rfl⟩:=h
      exact⟨.inr rfl,hx,rfl⟩
     ·exact⟨.inl h1,h2,h3⟩
    ·rintro⟨h1|h1,h2,h3⟩
     ·exact .inr ⟨h1,h2,h3⟩
     ·simp only[Prod.mk.injEq]at h1
      obtain⟨rfl,rfl⟩:=h1
      left
      rw[h3]
   ·rename_i hx
    rw[hms,List.mem_append,List.mem_singleton]
    constructor
    ·rintro⟨h1,h2,h3⟩
     exact⟨.inl h1,h2,h3⟩
    ·rintro⟨h1|h1,h2,h3⟩
     ·exact⟨h1,h2,h3⟩
     ·simp only[Prod.mk.injEq]at h1
      obtain⟨rfl,rfl⟩:=h1
      exact absurd h2 hx
theorem rlist_is (ax ay bx by_ x0 y0 x1 y1:Int) (P:Int→Int→Prop) [∀x y,Decidable (P x y)] (hP: ∀x y,P x y↔(x0≤x∧x<x1∧y0≤y∧y<y1)):
  rlist ax ay bx by_ (pixels x0 y0 x1 y1) []=numbered P (lpix ax ay bx by_) 0:=by
 obtain⟨h1,h2⟩:=rlist_spec (ax:=ax) (ay:=ay) (bx:=bx) (by_:=by_) (pixels x0 y0 x1 y1) [] [] (by simpa using pixels_nodup x0 y0 x1 y1) (by simp) (by simp)
 refine sorted_unique h1 (numbered_sorted _ _) fun s=>?_
 obtain⟨k,x,y⟩:=s
 rw[h2,numbered_mem_iff]
 simp only[List.nil_append]
 rw[pixels_mem,←hP]
 constructor
 ·rintro⟨h3,h4,h5⟩
  obtain⟨i,hi⟩:=List.mem_iff_getElem?.1 ((lpix_mem ax ay bx by_ x y).2 h4)
  exact⟨i,hi,h3,by rw[h5,onum_is hi];congr 1;omega⟩
 ·rintro⟨i,hi,h3,h4⟩
  refine⟨h3,(lpix_mem ax ay bx by_ x y).1 (List.mem_of_getElem? hi),?_⟩
  rw[onum_is hi,h4]
  congr 1
  omega
end Go.Proofs.YtplljnfjkkloeaaGreatDoor
set_option linter.unusedVariables false
set_option linter.unusedSimpArgs false
namespace Go.Proofs.YtplljnfjkkloeaaGreatDoor
def uv (p:Int×Int):Wv:=⟨p.1,p.2,8388607,1,1,1,1⟩
def ufr (x y:Int):Fr:=⟨x,y,8388607,1,1,1,1,64⟩
theorem wfrag_uv (p q:Int×Int) (x y x' y':Int):wfrag (uv p) (uv q) x y x' y'=ufr x' y':=by
 unfold wfrag uv ufr
 simp only[lmid_same]
theorem lit_next (d:Da) (n k:Int) (he:1≤d.every):(d.next n).lit k=d.lit (n+k):=by
 unfold Da.lit Da.next
 simp only
 have h1:=Int.emod_add_mul_ediv (d.done+n) (d.every*16)
 have h2:(d.done+(n+k))/d.every=((d.done+n)%(d.every*16)+k)/d.every+16*((d.done+n)/(d.every*16)):=by
  rw[←Int.add_mul_ediv_left _ _ (show d.every≠0 by omega)]
  congr 1
  have e:d.every*(16*((d.done+n)/(d.every*16)))=d.every*16*((d.done+n)/(d.every*16)):=by grind
  rw[e]
  omega
 have h3:(d.done+(n+k))/d.every%16=((d.done+n)%(d.every*16)+k)/d.every%16:=by rw[h2];omega
 rw[h3]
theorem next_next (d:Da) (n m:Int):(d.next n).next m=d.next (n+m):=by
 unfold Da.next
 simp only
 congr 1
 rw[Int.emod_add_emod,Int.add_assoc]
def Da.Low (d:Da):Prop:=1≤d.every∧d.done%(d.every*16)=d.done
theorem Da.Low.next {d:Da} (h:d.Low) (n:Int):(d.next n).Low:=⟨h.1,by unfold Da.next;simp only;rw[Int.emod_emod]⟩
theorem Da.Low.zero {d:Da} (h:d.Low):d.next 0=d:=by
 unfold Da.next
 rw[Int.add_zero,h.2]
theorem wnext_ok {dashed:Bool} {d:Da} (h:d.Ok) (n:Nat):(wnext dashed d n).Ok:=by
 unfold wnext
 split
 ·obtain⟨b0,b1,e0,e1,d0,d1⟩:=h
  have h1:=Int.emod_nonneg (d.done+n) (show d.every*16≠0 by omega)
  have h2:=Int.emod_lt_of_pos (d.done+n) (show 0<d.every*16 by omega)
  exact⟨b0,b1,e0,e1,h1,by unfold Da.next;simp only;omega⟩
 ·exact h
section
variable {P:Int→Int→Prop} [∀x y,Decidable (P x y)]
end
theorem flatMap_same {α β:Type} {f g:α→List β}: ∀{l:List α},(∀x∈l,f x=g x)→l.flatMap f=l.flatMap g
 |[],_=>rfl
 |x::l,h=>by
  rw[List.flatMap_cons,List.flatMap_cons,h x (by simp),flatMap_same (l:=l) (fun y hy=>h y (by simp[hy]))]
def stripL (n:Nat) (dashed:Bool) (r:Rc):Da→List Wv→List Fr
 |d,a::b::l=>wlist a b n dashed d r++stripL n dashed r (wnext dashed d (wcount a b n)) (b::l)
 |_,_=>[]
theorem wlist_thin {a b:Int×Int} (dashed:Bool) (d:Da) (r:Rc) (hr:r.Ok):
  wlist (uv a) (uv b) 1 dashed d r=(stepL a.1 a.2 b.1 b.2 r).flatMap fun s=>if dashed=true∧d.lit s.1=false then[]else[ufr s.2.1 s.2.2]:=by
 obtain⟨h1,h2,h3,h4,h5,h6⟩:=hr
 have hc:coreOf (uv a) (uv b) ((1:Nat):Int)=⟨a.1,a.2,b.1,b.2,(coreOf (uv a) (uv b) ((1:Nat):Int)).flat⟩:=by
  unfold coreOf uv
  split <;>simp
 unfold wlist wsteps
 have hre:(coreOf (uv a) (uv b) ((1:Nat):Int)).reach r ((1:Nat):Int)=r:=by
  unfold Co.reach
  obtain⟨x0,y0,x1,y1⟩:=r
  simp only at*
  split
  ·congr 1;omega
  ·congr 1;omega
 rw[hre,show(coreOf (uv a) (uv b) ((1:Nat):Int)).ax=a.1 by rw[hc],show(coreOf (uv a) (uv b) ((1:Nat):Int)).ay=a.2 by rw[hc],show(coreOf (uv a) (uv b) ((1:Nat):Int)).bx=b.1 by rw[hc],show(coreOf (uv a) (uv b) ((1:Nat):Int)).by_=b.2 by rw[hc]]
 refine flatMap_same fun s hs=>?_
 have hh:=(numbered_mem hs).2.2
 unfold wstep
 split
 ·rfl
 ·simp only[List.range_one,List.flatMap_cons,List.flatMap_nil,List.append_nil]
  unfold wone
  simp only[Int.natCast_zero,Int.add_zero,wfrag_uv]
  rw[if_pos hh]
  simp
theorem wcount_thin (a b:Int×Int):wcount (uv a) (uv b) 1=(lpix a.1 a.2 b.1 b.2).length:=by
 unfold wcount
 have hc:coreOf (uv a) (uv b) ((1:Nat):Int)=⟨a.1,a.2,b.1,b.2,(coreOf (uv a) (uv b) ((1:Nat):Int)).flat⟩:=by
  unfold coreOf uv
  split <;>simp
 rw[hc]
end Go.Proofs.YtplljnfjkkloeaaGreatDoor
set_option linter.unusedVariables false
set_option linter.unusedSimpArgs false
namespace Go.Proofs.YtplljnfjkkloeaaGreatDoor
section
variable {P:Int→Int→Prop} [∀x y,Decidable (P x y)]
end
def r98:Rc:=⟨0,0,9,8⟩
theorem r98_ok:r98.Ok:=by unfold r98 Rc.Ok;decide
end Go.Proofs.YtplljnfjkkloeaaGreatDoor
set_option linter.unusedVariables false
set_option linter.unusedSimpArgs false
namespace Go.Proofs.YtplljnfjkkloeaaGreatDoor
attribute [local go_sem] Go.Oper.semAt_some
open Go.RowKit
@[go_sem] theorem and32 (x:Int):bits .and .i64 x 4294967295=x%4294967296:=and_mask 32 (by omega) x 4294967295 (by decide)
theorem andNot32 (n:Nat) (h:n<4294967296):bits .andNot .i64 (n:Int) 4294967295=0:=by
 show IntKind.i64.wrap ((BitVec.ofInt 64 (n:Int)&&& ~~~ BitVec.ofInt 64 4294967295).toNat:Int)=0
 have e:BitVec.ofInt 64 (n:Int)&&& ~~~ BitVec.ofInt 64 4294967295=0#64:=by
  apply BitVec.eq_of_getLsbD_eq
  intro i hi
  rw[BitVec.getLsbD_and,BitVec.getLsbD_not,BitVec.ofInt_natCast,show(4294967295:Int)=((4294967295:Nat):Int)from rfl,BitVec.ofInt_natCast,BitVec.getLsbD_ofNat,BitVec.getLsbD_ofNat]
  by_cases h32:i<32
  ·have:Nat.testBit 4294967295 i=true:=by
    have:=Nat.testBit_two_pow_sub_one 32 i
    simpa[h32]using this
   simp[this]
  ·have:Nat.testBit n i=false:=Nat.testBit_lt_two_pow (Nat.lt_of_lt_of_le h (by have:=Nat.pow_le_pow_right (show 0<2 by omega) (show 32≤i by omega);simpa using this))
   simp[this]
 rw[e]
 decide
theorem or0 (n:Nat) (h:n<4611686018427387904):bits .or .i64 0 (n:Int)=(n:Int):=by
 have:=or_i64_nat 0 n (by omega) h
 simpa using this
theorem pack_int (c:C4) (w:World) (h:c.Ok):Calls Tryz.prog 155 #[c.v] w fun e w'=>e=.returned (.int .i64 (pk c.a c.b c.c c.d))∧Ext w w':=by
 obtain⟨⟨a0,a1⟩,⟨b0,b1⟩,⟨c0,c1⟩,⟨d0,d1⟩⟩:=h
 obtain⟨a,ha⟩:=Int.eq_ofNat_of_zero_le a0
 obtain⟨b,hb⟩:=Int.eq_ofNat_of_zero_le b0
 obtain⟨c',hc⟩:=Int.eq_ofNat_of_zero_le c0
 obtain⟨d,hd⟩:=Int.eq_ofNat_of_zero_le d0
 unfold C4.v
 rw[ha,hb,hc,hd]
 exact pack_any a b c' d w (by omega) (by omega) (by omega) (by omega)
theorem pk_range {c:C4} (h:c.Ok):0≤pk c.a c.b c.c c.d∧pk c.a c.b c.c c.d≤4294967295:=by
 obtain⟨⟨a0,a1⟩,⟨b0,b1⟩,⟨c0,c1⟩,⟨d0,d1⟩⟩:=h
 unfold pk
 omega
def irow (C:List Int):Array Value:=(ivs C).toArray
theorem irow_get {C:List Int} {i:Nat} (h:i<C.length):(irow C)[i]? =some (.int .i64 (C.getD i 0)):=by
 unfold irow
 rw[List.getElem?_toArray]
 exact ivs_get C i h
theorem irow_set (C:List Int) (i:Nat) (x:Int):(irow C).setIfInBounds i (.int .i64 x)=irow (C.set i x):=by
 unfold irow
 rw[List.setIfInBounds_toArray]
 congr 1
 exact(List.map_set ..).symm
theorem irow_size (C:List Int):(irow C).size=C.length:=by simp[irow]
structure Op3 where
 b:Rc
 func:Int
 keep:Bool
 mix:Bool
 sf:Int
 df:Int
@[reducible] def Op3.row (o:Op3):Array Value:= #[.bool false,.int .i64 o.b.x0,.int .i64 o.b.y0,.int .i64 o.b.x1,.int .i64 o.b.y1,.bool false,.int .i64 o.func,.bool o.keep,.bool o.mix,.int .i64 o.sf,.int .i64 o.df,.bool true,.bool true,.bool true,.bool true]
@[reducible] def Op3.v (o:Op3):Value:=.agg o.row
structure Op3.Ok (o:Op3):Prop where
 f0:0≤o.func
 f1:o.func<8
 s0:0≤o.sf
 s1:o.sf<8
 d0:0≤o.df
 d1:o.df<8
set_option maxRecDepth 100000 in
theorem fright_any (o:Op3) (w:World) (h:o.Ok):Calls Tryz.prog 250 #[o.v] w fun e w'=>e=.returned (.bool true)∧Ext w w':=by
 obtain⟨f0,f1,s0,s1,d0,d1⟩:=h
 go_enter Tryz.func250,Tryz.ntmps250
 go_wp2_with fail
 go_ret
 exact⟨rfl,by(repeat(first|with_reducible(first|exact eR_ _|assumption|refine eA_ ?_ _|refine eD_ ?_|refine eN_ ?_ _|refine eL_ ?_ _)|(with_reducible refine eS_ ?_ _ ?hp;case hp=>first|(simp;done)|(simp;omega)|omega)))⟩
set_option maxRecDepth 100000 in
theorem ffits_any (f:Fr) (w:World) (h:f.Fits):Calls Tryz.prog 251 #[f.v] w fun e w'=>e=.returned (.bool true)∧Ext w w':=by
 obtain⟨⟨c00,c01⟩,⟨c10,c11⟩,⟨c20,c21⟩,⟨c30,c31⟩,⟨z0,z1⟩,⟨m0,m1⟩⟩:=h
 have i0:=fun w=>(idx_c f.c0 f.c1 f.c2 f.c3 w).1
 have i1:=fun w=>(idx_c f.c0 f.c1 f.c2 f.c3 w).2.1
 have i2:=fun w=>(idx_c f.c0 f.c1 f.c2 f.c3 w).2.2.1
 have i3:=fun w=>(idx_c f.c0 f.c1 f.c2 f.c3 w).2.2.2
 go_enter Tryz.func251,Tryz.ntmps251
 go_wp2_with fail
 refine wp_loop_rounds 5 ?_
 rw[rounds_succ]
 go_wp2_with fail
 rw[rounds_succ]
 go_wp2_with fail
 rw[rounds_succ]
 go_wp2_with fail
 rw[rounds_succ]
 go_wp2_with fail
 rw[rounds_succ]
 go_wp2_with fail
 go_ret
 exact⟨rfl,by(repeat(first|with_reducible(first|exact eR_ _|assumption|refine eA_ ?_ _|refine eD_ ?_|refine eN_ ?_ _|refine eL_ ?_ _)|(with_reducible refine eS_ ?_ _ ?hp;case hp=>first|(simp;done)|(simp;omega)|omega)))⟩
theorem at_pix {W H x y:Int} (x0:0≤x) (x1:x<W) (y0:0≤y) (y1:y<H) (w1:W≤1024) (h1:H≤1024):0≤y*W∧y*W+x<W*H∧W*H≤1048576:=by
 have e1:0≤y*W:=Int.mul_nonneg y0 (by omega)
 have e2:(y+1)*W≤H*W:=Int.mul_le_mul_of_nonneg_right (by omega) (by omega)
 have e3:W*H≤1024*1024:=Int.mul_le_mul w1 h1 (by omega) (by omega)
 rw[Int.add_mul]at e2
 rw[Int.mul_comm W H]
 rw[Int.mul_comm W H]at e3
 omega
end Go.Proofs.YtplljnfjkkloeaaGreatDoor
set_option linter.unusedVariables false
set_option linter.unusedSimpArgs false
namespace Go.Proofs.YtplljnfjkkloeaaGreatDoor
attribute [local go_sem] Go.Oper.semAt_some
open Go.RowKit
set_option maxRecDepth 100000 in
theorem get_yes (W H x y c z:Int) (X Y n:Nat) (w:World) (x0:0≤x) (x1:x<W) (y0:0≤y) (y1:y<H) (w1:W≤1024) (h1:H≤1024) (hn:W*H=n)
  (hc:w.cell? ⟨X,(y*W+x).toNat,none⟩=some (.int .i64 c))(hz:w.cell? ⟨Y,(y*W+x).toNat,none⟩=some (.int .i64 z))(c0:0≤c)(c1:c<4294967296):
  Calls Tryz.prog 254 #[.agg #[.int .i64 W,.int .i64 H,.slice (some ⟨X,0,none⟩) n n,.slice (some ⟨Y,0,none⟩) n n],.int .i64 x,.int .i64 y] w fun e w'=>
   e=.returned (.tuple #[.agg #[.int .i64 (c/16777216%256),.int .i64 (c/65536%256),.int .i64 (c/256%256),.int .i64 (c%256)],.int .i64 z,.bool true])∧Ext w w':=by
 obtain⟨p0,p1,p2⟩:=at_pix x0 x1 y0 y1 w1 h1
 have HIN:=Lib.hid (fun(w':World) hw hh=>sin_yes w.heap.size W H x y w' hw hh x0 x1 y0 y1 (by omega) (by omega))
 have HUN:=Lib.hid (fun w=>sunpack_any c w c0 c1)
 obtain⟨k,hk⟩:=Int.eq_ofNat_of_zero_le (show 0≤y*W+x by omega)
 have hk2:(y*W+x).toNat=k:=by omega
 rw[hk2]at hc hz
 have hkn:k<n:=by omega
 have hni:(n:Int)≤1048576:=by omega
 have HK:=Lib.hid hk
 have kn:(0:Int)≤k∧(k:Int)<n:=by omega
 have HC:=Lib.hid hc
 have HZ:=Lib.hid hz
 have xl:X<w.heap.size:=World.block_lt_of_cell? w _ hc
 have yl:Y<w.heap.size:=World.block_lt_of_cell? w _ hz
 have ny: ¬(Y=w.heap.size+1):=by omega
 have ny': ¬(w.heap.size+1=Y):=by omega
 clear hc hz hn
 have yw: -9223372036854775808≤y*W∧y*W≤9223372036854775807:=by omega
 have hsum:IntKind.i64.wrap (y*W+x)=k:=by rw[hk];exact IntWalk.i64_in _ (by omega)
 have hmul:IntKind.i64.wrap (y*W)=y*W:=IntWalk.i64_in _ (by omega)
 go_enter Tryz.func254,Tryz.ntmps254
 go_wp2_with fail
 refine(HIN.out _ (by simp[go_sem]) (by simp[go_sem])).mono ?_
 rintro e w1 ⟨rfl,rfl⟩
 have HM:Hid (Blk ((w.alloc (.cells #[.int .i64 W,.int .i64 H,.slice (some ⟨X,0,none⟩) n n,.slice (some ⟨Y,0,none⟩) n n] 28)).alloc (.cells #[.int .i64 0,.int .i64 0,.int .i64 0,.int .i64 0] 30)) w.heap.size 28 #[.int .i64 W,.int .i64 H,.slice (some ⟨X,0,none⟩) n n,.slice (some ⟨Y,0,none⟩) n n]):=Lib.hid (by(repeat(first|with_reducible exact Hid.out (by assumption)|(with_reducible refine Blk.new' _ _ _ ?_;(simp;done))|with_reducible(first|refine Blk.alloc ?_ _|refine Blk.drew ?_|refine Blk.drewN ?_ _|refine Blk.later ?_ _)|(with_reducible refine Blk.far ?_ ?hp _;case hp=>first|(simp;done)|(simp;omega)|omega))))
 have HR:Hid (Blk ((w.alloc (.cells #[.int .i64 W,.int .i64 H,.slice (some ⟨X,0,none⟩) n n,.slice (some ⟨Y,0,none⟩) n n] 28)).alloc (.cells #[.int .i64 0,.int .i64 0,.int .i64 0,.int .i64 0] 30)) (w.heap.size+1) 30 #[.int .i64 0,.int .i64 0,.int .i64 0,.int .i64 0]):=Lib.hid (by(repeat(first|with_reducible exact Hid.out (by assumption)|(with_reducible refine Blk.new' _ _ _ ?_;(simp;done))|with_reducible(first|refine Blk.alloc ?_ _|refine Blk.drew ?_|refine Blk.drewN ?_ _|refine Blk.later ?_ _)|(with_reducible refine Blk.far ?_ ?hp _;case hp=>first|(simp;done)|(simp;omega)|omega))))
 have HE:Hid (Ext w ((w.alloc (.cells #[.int .i64 W,.int .i64 H,.slice (some ⟨X,0,none⟩) n n,.slice (some ⟨Y,0,none⟩) n n] 28)).alloc (.cells #[.int .i64 0,.int .i64 0,.int .i64 0,.int .i64 0] 30))):=Lib.hid (by(repeat(first|with_reducible(first|exact eR_ _|assumption|refine eA_ ?_ _|refine eD_ ?_|refine eN_ ?_ _|refine eL_ ?_ _)|(with_reducible refine eS_ ?_ _ ?hp;case hp=>first|(simp;done)|(simp;omega)|omega))))
 generalize(w.alloc (.cells #[.int .i64 W,.int .i64 H,.slice (some ⟨X,0,none⟩) n n,.slice (some ⟨Y,0,none⟩) n n] 28)).alloc (.cells #[.int .i64 0,.int .i64 0,.int .i64 0,.int .i64 0] 30)=W1 at*
 have cm:=HM.out.c4
 go_upto_region 4 with fail
 have hc:=HE.out.cell_some HC.out
 have hz:=HE.out.cell_some HZ.out
 have fr:=HR.out.f4
 have cr:=HR.out.c4
 go_region_with (first|(go_at_call 282;refine(HUN.out _).mono ?_;rintro e w1 ⟨rfl,hE⟩;obtain⟨y1,rfl⟩:=Later.mk' hE;clear hE;have HY:Hid (Ext W1 y1.w):=Lib.hid (by(repeat(first|with_reducible(first|exact eR_ _|assumption|refine eA_ ?_ _|refine eD_ ?_|refine eN_ ?_ _|refine eL_ ?_ _)|(with_reducible refine eS_ ?_ _ ?hp;case hp=>first|(simp;done)|(simp;omega)|omega))));have fr2:=(HR.out.ext HY.out).f4;have cr2:=(HR.out.ext HY.out).c4;have hz2:=HY.out.cell_some hz;have cm2:=(HM.out.ext HY.out).c4;generalize y1.w=W2 at *))
 all_goals
  go_wp2_with fail
  have HS:=(HR.out.ext HY.out).s4 (.int .i64 (c/16777216%256)) (.int .i64 (c/65536%256)) (.int .i64 (c/256%256)) (.int .i64 (c%256))
  obtain⟨s0,s1,s2,s3⟩:=HS.c4
  have HE3:=HE.out.trans HY.out
  refine bodyPost_ret (v:=.tuple #[.agg #[.int .i64 (c/16777216%256),.int .i64 (c/65536%256),.int .i64 (c/256%256),.int .i64 (c%256)],.int .i64 z,.bool true]) (by simp[results,Tryz.results254,go_sem,s0,s1,s2,s3]) rfl ⟨rfl,by(repeat(first|with_reducible(first|exact eR_ _|assumption|refine eA_ ?_ _|refine eD_ ?_|refine eN_ ?_ _|refine eL_ ?_ _)|(with_reducible refine eS_ ?_ _ ?hp;case hp=>first|(simp;done)|(simp;omega)|omega)))⟩
end Go.Proofs.YtplljnfjkkloeaaGreatDoor
