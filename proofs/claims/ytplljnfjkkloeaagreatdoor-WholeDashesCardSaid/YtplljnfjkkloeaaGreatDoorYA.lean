/- Plain: lines one by one, and the pixels of a dashed strip. By an AI agent. No condition beyond what each theorem states. -/
import Derived.Test.YtplljnfjkkloeaaGreatDoorWH
import Derived.Test.YtplljnfjkkloeaaGreatDoorHL
set_option linter.unusedVariables false
set_option linter.unusedSimpArgs false
namespace Go.Proofs.YtplljnfjkkloeaaGreatDoor
def wv0:Wv:=⟨0,0,0,0,0,0,0⟩
def linesK (m n:Nat) (dashed:Bool) (d0:Da) (r:Rc) (V:List Wv):Nat→Da×List Fr
 |0=>(d0,[])
 | k+1=>(wnext dashed (if m=1 then d0 else(linesK m n dashed d0 r V k).1) (wcount (V.getD (lstep m*k) wv0) (V.getD (lstep m*k+1) wv0) n),
   (linesK m n dashed d0 r V k).2++wlist (V.getD (lstep m*k) wv0) (V.getD (lstep m*k+1) wv0) n dashed (if m=1 then d0 else(linesK m n dashed d0 r V k).1) r)
theorem lstep_two:lstep 2=1:=rfl
theorem linesK_cons (n:Nat) (dashed:Bool) (r:Rc) (a b:Wv) (V:List Wv) (d0:Da): ∀k,linesK 2 n dashed d0 r (a::b::V) (k+1)=
  ((linesK 2 n dashed (wnext dashed d0 (wcount a b n)) r (b::V) k).1,wlist a b n dashed d0 r++(linesK 2 n dashed (wnext dashed d0 (wcount a b n)) r (b::V) k).2)
 |0=>by simp[linesK,lstep_two]
 |k+1=>by
  have ih:=linesK_cons n dashed r a b V d0 k
  have e1:(a::b::V).getD (1*(k+1)) wv0=(b::V).getD (1*k) wv0:=by simp[List.getD_eq_getElem?_getD,Nat.one_mul]
  have e2:(a::b::V).getD (1*(k+1)+1) wv0=(b::V).getD (1*k+1) wv0:=by simp[List.getD_eq_getElem?_getD,Nat.one_mul]
  rw[linesK,ih]
  simp only[lstep_two,e1,e2,if_neg (show ¬((2:Nat)=1) by decide),List.append_assoc]
  rw[linesK]
  simp only[lstep_two,if_neg (show ¬((2:Nat)=1) by decide)]
theorem linesK_strip (n:Nat) (dashed:Bool) (r:Rc): ∀(V:List Wv) (d0:Da),(linesK 2 n dashed d0 r V (V.length-1)).2=stripL n dashed r d0 V
 |[],d0=>by simp[linesK,stripL]
 |[a],d0=>by simp[linesK,stripL]
 |a::b::V,d0=>by
  have ih:=linesK_strip n dashed r (b::V) (wnext dashed d0 (wcount a b n))
  simp only[List.length_cons,Nat.add_sub_cancel]at ih ⊢
  rw[linesK_cons,stripL]
  simp only
  rw[ih]
theorem wlist_len {a b:Wv} {n:Nat} {dashed:Bool} {d:Da} {r:Rc} (ha:a.Fits) (hb:b.Fits) (n0:1≤n) (n1:n≤64):(wlist a b n dashed d r).length≤192000000:=by
 have h1:=wsteps_len (r:=r) ha hb n0 n1
 have h2:(wlist a b n dashed d r).length≤(wsteps a b n r).length*n:=flatMap_len (fun s _=>wstep_len a b n dashed d r s)
 have h3:(wsteps a b n r).length*n≤3000000*64:=Nat.mul_le_mul h1 n1
 omega
theorem linesK_len (m n:Nat) (dashed:Bool) (d0:Da) (r:Rc) (V:List Wv) (n0:1≤n) (n1:n≤64): ∀k,(∀j,j<k→(V.getD (lstep m*j) wv0).Fits∧(V.getD (lstep m*j+1) wv0).Fits)→(linesK m n dashed d0 r V k).2.length≤k*192000000
 |0,_=>by simp[linesK]
 |k+1,h=>by
  have ih:=linesK_len m n dashed d0 r V n0 n1 k (fun j hj=>h j (by omega))
  obtain⟨ha,hb⟩:=h k (by omega)
  rw[linesK]
  simp only[List.length_append]
  have:=wlist_len (dashed:=dashed) (d:=if m=1 then d0 else(linesK m n dashed d0 r V k).1) (r:=r) ha hb n0 n1
  omega
theorem linesK_ok (m n:Nat) (dashed:Bool) (d0:Da) (r:Rc) (V:List Wv) (h:d0.Ok): ∀k,(linesK m n dashed d0 r V k).1.Ok
 |0=>h
 |k+1=>by
  rw[linesK]
  simp only
  refine wnext_ok ?_ _
  split
  ·exact h
  ·exact linesK_ok m n dashed d0 r V h k
theorem thin_lit (a b:Int×Int) (d:Da) (r:Rc) (hr:r.Ok):wlist (uv a) (uv b) 1 true d r=((stepL a.1 a.2 b.1 b.2 r).filter fun s=>d.lit s.1).map fun s=>ufr s.2.1 s.2.2:=by
 rw[wlist_thin true d r hr]
 induction stepL a.1 a.2 b.1 b.2 r with
 |nil=>rfl
 |cons s l ih=>
  rw[List.flatMap_cons,ih,List.filter_cons]
  cases hl:d.lit s.1 <;>simp
def dashL (d:Da) (r:Rc):Nat→List (Int×Int)→List (Int×Int×Int)
 |k,a::b::l=>((stepL a.1 a.2 b.1 b.2 r).filter fun s=>d.lit ((k:Int)+s.1))++dashL d r (k+(lpix a.1 a.2 b.1 b.2).length) (b::l)
 |_,_=>[]
theorem strip_dash (d:Da) (r:Rc) (hr:r.Ok) (he:d.Low): ∀(l:List (Int×Int)) (k:Nat),stripL 1 true r (d.next k) (l.map uv)=(dashL d r k l).map fun s=>ufr s.2.1 s.2.2
 |[],k=>by simp[stripL,dashL]
 |[a],k=>by simp[stripL,dashL]
 |a::b::l,k=>by
  have ih:=strip_dash d r hr he (b::l) (k+(lpix a.1 a.2 b.1 b.2).length)
  simp only[List.map_cons]at ih
  simp only[List.map_cons,stripL,dashL,List.map_append]
  have hw:wnext true (d.next k) (wcount (uv a) (uv b) 1)=d.next ((k+(lpix a.1 a.2 b.1 b.2).length:Nat):Int):=by
   rw[wcount_thin]
   unfold wnext
   rw[if_pos rfl,next_next]
   congr 1
  rw[hw,ih,thin_lit a b _ r hr]
  congr 2
  refine List.filter_congr fun s _=>?_
  rw[lit_next d _ _ he.1]
end Go.Proofs.YtplljnfjkkloeaaGreatDoor
