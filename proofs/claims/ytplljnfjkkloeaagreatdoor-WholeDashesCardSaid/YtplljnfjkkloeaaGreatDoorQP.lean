/- Proof text: what a wide line lists, its bounds. By an AI agent. No condition beyond what each theorem states. -/
import Derived.Test.YtplljnfjkkloeaaGreatDoorWF
import Derived.Test.YtplljnfjkkloeaaGreatDoorLI
import Derived.Test.YtplljnfjkkloeaaGreatDoorChecked
import Derived.Lib.Strings
import Derived.Handy
import Derived.Test.YtplljnfjkkloeaaGreatDoorSH
set_option linter.unusedVariables false
set_option linter.unusedSimpArgs false
set_option maxHeartbeats 2000000
namespace Go.Proofs.YtplljnfjkkloeaaGreatDoor
open Go.RowKit
section
variable {P:Int→Int→Prop} [∀x y,Decidable (P x y)]
theorem numbered_mem {l:List (Int×Int)} {k:Nat} {s:Int×Int×Int} (h:s∈numbered P l k):(k:Int)≤s.1∧s.1<k+l.length∧P s.2.1 s.2.2:=by
 unfold numbered at h
 rw[List.mem_flatMap]at h
 obtain⟨⟨p,i⟩,hp,hs⟩:=h
 have hb:=List.mem_zipIdx hp
 split at hs
 ·rename_i hP
  simp only[List.mem_singleton]at hs
  subst hs
  exact⟨by simp only;omega,by simp only;omega,hP⟩
 ·simp at hs
theorem numbered_len (l:List (Int×Int)): ∀k:Nat,(numbered P l k).length≤l.length:=by
 induction l with
 |nil=>intro k;simp[numbered]
 |cons p l ih=>
  intro k
  have e:numbered P (p::l) k=numbered P [p] k++numbered P l (k+1):=numbered_append [p] l k
  have h1:=ih (k+1)
  have h2:(numbered P [p] k).length≤1:=by
   simp only[numbered,List.zipIdx_cons,List.zipIdx_nil,List.flatMap_cons,List.flatMap_nil,List.append_nil]
   split <;>simp
  rw[e,List.length_append,List.length_cons]
  omega
end
theorem flatMap_len {α β:Type} {f:α→List β} {m:Nat}: ∀{l:List α},(∀x∈l,(f x).length≤m)→(l.flatMap f).length≤l.length*m
 |[],_=>by simp
 |x::l,h=>by
  have h1:=h x (by simp)
  have h2:=flatMap_len (l:=l) (fun y hy=>h y (by simp[hy]))
  rw[List.flatMap_cons,List.length_append,List.length_cons,Nat.add_mul,Nat.one_mul]
  omega
theorem lpix_short {ax ay bx by_:Int} (h1:Pl ax) (h2:Pl ay) (h3:Pl bx) (h4:Pl by_):(lpix ax ay bx by_).length≤3000000:=by
 rw[lpix_len]
 unfold lcount
 split
 ·omega
 ·have hi:=wayOf_in h1 h2 h3 h4
  generalize wayOf ax ay bx by_=W at*
  have k1:=hi.au
  have k2:=hi.bu
  unfold Pl at k1 k2
  have hx:(if W.extra=true then 1 else 0)≤1:=by split <;>omega
  have hs:W.size≤2999990:=by
   unfold Way.size Way.first Way.last lst
   split <;>omega
  unfold Way.count Way.many
  generalize(if W.extra=true then 1 else 0)=e at*
  split <;>omega
def wfrag (a b:Wv) (x y x' y':Int):Fr:=
 ⟨x',y',lmid a.z b.z (along a b x y).1 (along a b x y).2,lmid a.c0 b.c0 (along a b x y).1 (along a b x y).2,lmid a.c1 b.c1 (along a b x y).1 (along a b x y).2,lmid a.c2 b.c2 (along a b x y).1 (along a b x y).2,lmid a.c3 b.c3 (along a b x y).1 (along a b x y).2,64⟩
def wone (a b:Wv) (flat:Bool) (r:Rc) (x y:Int) (k:Nat):List Fr:=
 if flat=true then(if r.Has x (y+k)then[wfrag a b x y x (y+k)]else[])else(if r.Has (x+k) y then[wfrag a b x y (x+k) y]else[])
def wstep (a b:Wv) (n:Nat) (dashed:Bool) (d:Da) (r:Rc) (s:Int×Int×Int):List Fr:=
 if dashed=true∧d.lit s.1=false then[]else(List.range n).flatMap (wone a b (coreOf a b n).flat r s.2.1 s.2.2)
def wsteps (a b:Wv) (n:Nat) (r:Rc):List (Int×Int×Int):=stepL (coreOf a b n).ax (coreOf a b n).ay (coreOf a b n).bx (coreOf a b n).by_ ((coreOf a b n).reach r n)
def wlist (a b:Wv) (n:Nat) (dashed:Bool) (d:Da) (r:Rc):List Fr:=(wsteps a b n r).flatMap (wstep a b n dashed d r)
def wcount (a b:Wv) (n:Nat):Nat:=(lpix (coreOf a b n).ax (coreOf a b n).ay (coreOf a b n).bx (coreOf a b n).by_).length
theorem wone_len (a b:Wv) (flat:Bool) (r:Rc) (x y:Int) (k:Nat):(wone a b flat r x y k).length≤1:=by
 unfold wone
 split <;>split <;>simp
theorem wstep_len (a b:Wv) (n:Nat) (dashed:Bool) (d:Da) (r:Rc) (s:Int×Int×Int):(wstep a b n dashed d r s).length≤n:=by
 unfold wstep
 split
 ·simp
 ·have:=flatMap_len (l:=List.range n) (f:=wone a b (coreOf a b n).flat r s.2.1 s.2.2) (m:=1) (fun k _=>wone_len a b _ r _ _ k)
  simpa using this
theorem Co.pl {a b:Wv} {n:Int} (ha:a.Fits) (hb:b.Fits) (n0:1≤n) (n1:n≤64):Pl (coreOf a b n).ax∧Pl (coreOf a b n).ay∧Pl (coreOf a b n).bx∧Pl (coreOf a b n).by_:=by
 obtain⟨a1,a2⟩:=ha.x
 obtain⟨a3,a4⟩:=ha.y
 obtain⟨b1,b2⟩:=hb.x
 obtain⟨b3,b4⟩:=hb.y
 unfold coreOf Pl
 split <;>(simp only;omega)
theorem Co.reach_ok (c:Co) {r:Rc} {n:Int} (hr:r.Ok) (n0:1≤n) (n1:n≤64):(c.reach r n).Ok:=by
 obtain⟨h1,h2,h3,h4,h5,h6⟩:=hr
 unfold Co.reach Rc.Ok
 split <;>(simp only;omega)
theorem wsteps_mem {a b:Wv} {n:Nat} {r:Rc} (ha:a.Fits) (hb:b.Fits) (n0:1≤n) (n1:n≤64) (hr:r.Ok) {s:Int×Int×Int} (h:s∈wsteps a b n r):
  0≤s.1∧s.1<3000000∧ -4194304≤s.2.1∧s.2.1≤4194304∧ -4194304≤s.2.2∧s.2.2≤4194304:=by
 obtain⟨p1,p2,p3,p4⟩:=Co.pl (n:=n) ha hb (by omega) (by omega)
 have hl:=lpix_short p1 p2 p3 p4
 have ho:=Co.reach_ok (coreOf a b n) (n:=n) hr (by omega) (by omega)
 obtain⟨m1,m2,m3⟩:=numbered_mem h
 generalize(coreOf a b n).reach r n=q at*
 obtain⟨h1,h2,h3,h4,h5,h6⟩:=ho
 obtain⟨g1,g2,g3,g4⟩:=m3
 omega
theorem wsteps_len {a b:Wv} {n:Nat} {r:Rc} (ha:a.Fits) (hb:b.Fits) (n0:1≤n) (n1:n≤64):(wsteps a b n r).length≤3000000:=by
 obtain⟨p1,p2,p3,p4⟩:=Co.pl (n:=n) ha hb (by omega) (by omega)
 exact Nat.le_trans (numbered_len _ _) (lpix_short p1 p2 p3 p4)
theorem ownsRow_blk {w:World} {base:Nat} {e:TypeId} {size:Nat} {v:Value} {n:Nat} {xs:List Value} (h:w.ownsRow base e size v n xs):
  (v=.slice none 0 0∧n*size=0)∨ ∃g cap cur,v=.slice (some ⟨g,0,none⟩) n cap∧base≤g∧Blk w g e cur∧n≤cap∧ ∀j,j<n*size→cur[j]? =xs[j]? :=by
 obtain⟨hl,hr⟩:=h
 rcases hr with⟨rfl,rfl⟩|⟨g,cap,cur,rfl,hb,hg,hnc,hcm,hcs,ht⟩
 ·exact .inl ⟨rfl,by simp⟩
 ·refine .inr ⟨g,cap,cur,rfl,hb,hg,hnc,fun j hj=>?_⟩
  rw[←ht,List.getElem?_take,if_pos hj]
  simp
end Go.Proofs.YtplljnfjkkloeaaGreatDoor
set_option linter.unusedVariables false
set_option linter.unusedSimpArgs false
namespace Go.Proofs.YtplljnfjkkloeaaGreatDoor
open Go.RowKit
theorem bytes_eq {s t:ByteArray} (h:s.toList=t.toList):s=t:=by
 rw[Lib.toList_data,Lib.toList_data]at h
 exact ByteArray.ext (Array.ext' h)
end Go.Proofs.YtplljnfjkkloeaaGreatDoor
set_option linter.unusedVariables false
set_option linter.unusedSimpArgs false
namespace Go.Proofs.YtplljnfjkkloeaaGreatDoor
open Go.RowKit
end Go.Proofs.YtplljnfjkkloeaaGreatDoor
set_option linter.unusedVariables false
set_option linter.unusedSimpArgs false
namespace Go.Proofs.YtplljnfjkkloeaaGreatDoor
open Go.RowKit
end Go.Proofs.YtplljnfjkkloeaaGreatDoor
set_option linter.unusedVariables false
set_option linter.unusedSimpArgs false
namespace Go.Proofs.YtplljnfjkkloeaaGreatDoor
open Go.RowKit
def pk (a b c d:Int):Int:=((a*256+b)*256+c)*256+d
theorem or_i64_nat (a b:Nat) (ha:a<4611686018427387904) (hb:b<4611686018427387904):bits .or .i64 (a:Int) (b:Int)=((a|||b:Nat):Int):=by
 have hx:a|||b<2^62:=Nat.or_lt_two_pow (by omega) (by omega)
 have h1:(BitVec.ofInt 64 (a:Int)).toNat=a:=by
  rw[BitVec.ofInt_natCast,BitVec.toNat_ofNat];exact Nat.mod_eq_of_lt (by omega)
 have h2:(BitVec.ofInt 64 (b:Int)).toNat=b:=by
  rw[BitVec.ofInt_natCast,BitVec.toNat_ofNat];exact Nat.mod_eq_of_lt (by omega)
 show IntKind.i64.wrap ((BitVec.ofInt 64 (a:Int)|||BitVec.ofInt 64 (b:Int)).toNat:Int)=_
 rw[BitVec.toNat_or,h1,h2,IntKind.wrap_i64]
 omega
theorem or_add (k x b:Nat) (hb:b<2^k) (hx:2^k*x<4611686018427387904) (hk:2^k≤4611686018427387904) (A B:Int) (hA:A=((2^k*x:Nat):Int)) (hB:B=(b:Int)):bits .or .i64 A B=A+B:=by
 rw[hA,hB,or_i64_nat _ _ hx (by omega),←Nat.two_pow_add_eq_or_of_lt hb]
 omega
theorem or_pack (a b c d:Nat) (ha:a≤255) (hb:b≤255) (hc:c≤255) (hd:d≤255):
  bits .or .i64 (bits .or .i64 (bits .or .i64 ((a:Int)*16777216) ((b:Int)*65536)) ((c:Int)*256)) (d:Int)=pk a b c d:=by
 have e1:=or_add 24 a (b*65536) (by omega) (by omega) (by decide) ((a:Int)*16777216) ((b:Int)*65536) (by omega) (by omega)
 have e2:=or_add 16 (a*256+b) (c*256) (by omega) (by omega) (by decide) ((a:Int)*16777216+(b:Int)*65536) ((c:Int)*256) (by omega) (by omega)
 have e3:=or_add 8 (a*65536+b*256+c) d (by omega) (by omega) (by decide) ((a:Int)*16777216+(b:Int)*65536+(c:Int)*256) (d:Int) (by omega) rfl
 rw[e1,e2,e3]
 unfold pk
 omega
theorem pack_any (a b c d:Nat) (w:World) (ha:a≤255) (hb:b≤255) (hc:c≤255) (hd:d≤255):
  Calls Tryz.prog 155 #[.agg #[.int .i64 a,.int .i64 b,.int .i64 c,.int .i64 d]] w fun e w'=>e=.returned (.int .i64 (pk a b c d))∧Ext w w':=by
 have HP:=Lib.hid (or_pack a b c d ha hb hc hd)
 go_enter Tryz.func155,Tryz.ntmps155
 go_wp2_with fail
 go_returns
 refine⟨?_,by(repeat(first|with_reducible(first|exact eR_ _|assumption|refine eA_ ?_ _|refine eD_ ?_|refine eN_ ?_ _|refine eL_ ?_ _)|(with_reducible refine eS_ ?_ _ ?hp;case hp=>first|(simp;done)|(simp;omega)|omega)))⟩
 rw[←HP.out]
 rfl
structure Im where
 W:Int
 H:Int
 C:List Int
 Z:List Int
def ImR (w:World) (v:Value) (m:Im):Prop:=
 ∃a b c d,v=.agg #[.int .i64 m.W,.int .i64 m.H,.slice a m.C.length c,.slice b m.Z.length d]∧Rd w 1 a m.C.length c (ivs m.C)∧Rd w 1 b m.Z.length d (ivs m.Z)
theorem ImR.ext {w w':World} {v:Value} {m:Im} (h:ImR w v m) (e:Ext w w'):ImR w' v m:=by
 obtain⟨a,b,c,d,h1,h2,h3⟩:=h
 exact⟨a,b,c,d,h1,h2.ext e,h3.ext e⟩
def Im.Ok (m:Im):Prop:=1≤m.W∧m.W≤1024∧1≤m.H∧m.H≤1024∧(m.C.length:Int)=m.W*m.H∧(m.Z.length:Int)=m.W*m.H∧ ∀i,i<m.C.length→(0≤m.C.getD i 0∧m.C.getD i 0≤4294967295)∧0≤m.Z.getD i 0∧m.Z.getD i 0≤16777215
end Go.Proofs.YtplljnfjkkloeaaGreatDoor
set_option linter.unusedVariables false
set_option linter.unusedSimpArgs false
namespace Go.Proofs.YtplljnfjkkloeaaGreatDoor
open Go.RowKit
theorem Blk.set4 {w:World} {g:Nat} {t:TypeId} {x y z u:Value} (h:Blk w g t #[x,y,z,u]) (a b c d:Value):Blk ((((w.setCell ⟨g,0,none⟩ a).setCell ⟨g,1,none⟩ b).setCell ⟨g,2,none⟩ c).setCell ⟨g,3,none⟩ d) g t #[a,b,c,d]:=by
 have h4:=(((h.set_ 0 a).set_ 1 b).set_ 2 c).set_ 3 d
 simpa using h4
theorem Ext.set4 {w W:World} (h:Ext w W) {g:Nat} (hg:w.heap.size≤g) (a b c d:Value):Ext w ((((W.setCell ⟨g,0,none⟩ a).setCell ⟨g,1,none⟩ b).setCell ⟨g,2,none⟩ c).setCell ⟨g,3,none⟩ d):=
 (((h.setCell (p:=⟨g,0,none⟩) a hg).setCell (p:=⟨g,1,none⟩) b hg).setCell (p:=⟨g,2,none⟩) c hg).setCell (p:=⟨g,3,none⟩) d hg
end Go.Proofs.YtplljnfjkkloeaaGreatDoor
set_option linter.unusedVariables false
set_option linter.unusedSimpArgs false
namespace Go.Proofs.YtplljnfjkkloeaaGreatDoor
open Go.RowKit
def Im.Small (m:Im):Prop:=m.C.length≤400∧m.Z.length≤400∧m.Ok
end Go.Proofs.YtplljnfjkkloeaaGreatDoor
set_option linter.unusedVariables false
set_option linter.unusedSimpArgs false
namespace Go.Proofs.YtplljnfjkkloeaaGreatDoor
open Go.RowKit
theorem info_int:(Tryz.prog.info? 3).map (fun i=>(i.zero,i.size,i.bytes))=some (some (.int .i64 0),1,8):=by kernel_rfl
theorem make_ints (n:Nat) (hn:n≤1048576): ∃cur:Array Value,∀w:World,(Instr.makeSlice 26 (.int .i64 (n:Int)) (.int .i64 (n:Int))).run Tryz.prog w=.ok (.slice (some ⟨w.heap.size,0,none⟩) n n) (w.alloc (.cells cur 3))∧
   ∀base,base≤w.heap.size→(w.alloc (.cells cur 3)).ownsRow base 3 1 (.slice (some ⟨w.heap.size,0,none⟩) n n) n (ivs (List.replicate n 0)):=by
 have:=make_own (P:=Tryz.prog) (f:=fun x:Int=>[Value.int .i64 x]) (K:=1) (bytes:=8) (fun _=>rfl) (by omega) 0 26 3 (.int .i64 0) Tryz.underlying26 info_int rfl n (by omega) (by unfold maxLen;omega)
 rw[flat_ivs]at this
 exact this
structure Made (w wr:World) (W H:Int) (n X Y P:Nat) (C Z:List Int):Prop where
 box:Blk wr P 28 #[.int .i64 W,.int .i64 H,.slice (some ⟨X,0,none⟩) n n,.slice (some ⟨Y,0,none⟩) n n]
 c:wr.ownsRow w.heap.size 3 1 (.slice (some ⟨X,0,none⟩) n n) n (ivs C)
 z:wr.ownsRow w.heap.size 3 1 (.slice (some ⟨Y,0,none⟩) n n) n (ivs Z)
 xy:X≠Y
 px:P≠X
 py:P≠Y
 ext:Ext w wr
theorem own_apart {w w':World} {base:Nat} {e:TypeId} {size:Nat} {v:Value} {n:Nat} {xs:List Value} {g:Nat} (h:w.ownsRow base e size v n xs) (hg:w.grownBy w' (some g)) (hne:v.ownBlock≠some g):w'.ownsRow base e size v n xs:=
 h.kept hg (.inr hne)
theorem Made.putZ {w wr w':World} {W H:Int} {n X Y P:Nat} {C Z Z':List Int} (h:Made w wr W H n X Y P C Z) (hg:wr.grownBy w' (some Y)) (ho:w'.ownsRow w.heap.size 3 1 (.slice (some ⟨Y,0,none⟩) n n) n (ivs Z')):Made w w' W H n X Y P C Z':=
 ⟨h.box.grown' hg (fun e=>h.py (by injection e with e;exact e.symm)),own_apart h.c hg (fun e=>h.xy (by simpa[Value.ownBlock]using e)),ho,h.xy,h.px,h.py,h.ext.grown hg (fun k hk=>Option.some.inj hk▸(h.z.lt Y rfl).1)⟩
theorem set_rep (n j:Nat) (hj:j<n) (a b:Int):(List.replicate j a++List.replicate (n-j) b).set j a=List.replicate (j+1) a++List.replicate (n-(j+1)) b:=by
 rw[List.set_append_right _ _ (by simp),List.length_replicate,Nat.sub_self]
 rw[show n-j=n-(j+1)+1 by omega,List.replicate_succ,List.set_cons_zero,List.replicate_succ',List.append_assoc]
 rfl
theorem ivs_put {l:List Int} {j:Nat} (hj:j<l.length) (x:Int):(ivs l).take j++[Value.int .i64 x]++(ivs l).drop (j+1)=ivs (l.set j x):=by
 rw[ivs,←List.map_take,←List.map_drop]
 rw[List.set_eq_take_append_cons_drop,if_pos hj]
 simp
theorem mul_le (W H:Nat) (h2:W≤1024) (h4:H≤1024):W*H≤1048576:=by
 have:W*H≤1024*1024:=Nat.mul_le_mul h2 h4
 omega
def NewP (w:World) (W H:Nat) (e:Ending) (w':World):Prop:=
 ∃X Y:Nat,e=.returned (.tuple #[.agg #[.int .i64 W,.int .i64 H,.slice (some ⟨X,0,none⟩) (W*H) (W*H),.slice (some ⟨Y,0,none⟩) (W*H) (W*H)],.int .i64 0])∧
  w'.ownsRow w.heap.size 3 1 (.slice (some ⟨X,0,none⟩) (W*H) (W*H)) (W*H) (ivs (List.replicate (W*H) 0))∧w'.ownsRow w.heap.size 3 1 (.slice (some ⟨Y,0,none⟩) (W*H) (W*H)) (W*H) (ivs (List.replicate (W*H) 16777215))∧X≠Y∧Ext w w'
theorem row_new {cur:Array Value} {n:Nat} (M: ∀W:World,∀base,base≤W.heap.size→(W.alloc (.cells cur 3)).ownsRow base 3 1 (.slice (some ⟨W.heap.size,0,none⟩) n n) n (ivs (List.replicate n 0))) (W:World) (X base:Nat) (hX:X=W.heap.size) (hb:base≤W.heap.size):
  (W.alloc (.cells cur 3)).ownsRow base 3 1 (.slice (some ⟨X,0,none⟩) n n) n (ivs (List.replicate n 0)):=hX▸M W base hb
set_option maxRecDepth 10000 in
theorem new_yes (W H:Nat) (w:World) (h1:1≤W) (h2:W≤1024) (h3:1≤H) (h4:H≤1024):
  Calls Tryz.prog 152 #[.int .i64 W,.int .i64 H] w (NewP w W H):=by
 have hn:=mul_le W H h2 h4
 obtain⟨cur,hcur⟩:=make_ints (W*H) hn
 have m1:=fun W=>(hcur W).1
 have M1:=Lib.hid (fun W=>(hcur W).2)
 clear hcur
 have hcast:((W*H:Nat):Int)=(W:Int)*H:=by simp
 have hm1:0≤(W:Int)*H:=by omega
 have hm2:(W:Int)*H≤1048576:=by omega
 obtain⟨n,hnn⟩: ∃n,n=W*H:=⟨_,rfl⟩
 rw[←hnn]at m1 M1 hcast hn
 have HN:=Lib.hid hnn
 have hni:(n:Int)≤1048576:=by omega
 have m1': ∀w:World,(Instr.makeSlice 26 (.int .i64 ((W:Int)*H)) (.int .i64 ((W:Int)*H))).run Tryz.prog w=.ok (.slice (some ⟨w.heap.size,0,none⟩) n n) (w.alloc (.cells cur 3)):=by
  rw[←hcast];exact m1
 clear m1 hnn hcast
 have d1:decide ((W:Int)<1)=false:=by simp;omega
 have d2:decide ((W:Int)>1024)=false:=by simp;omega
 have d3:decide ((H:Int)<1)=false:=by simp;omega
 have d4:decide ((H:Int)>1024)=false:=by simp;omega
 have w1:IntKind.i64.wrap ((W:Int)*H)=(W:Int)*H:=by rw[IntKind.wrap_i64];omega
 have B0:=Lib.hid (Blk.new w 28 #[.int .i64 0,.int .i64 0,.slice none 0 0,.slice none 0 0])
 go_enter Tryz.func152,Tryz.ntmps152
 go_upto_region 3 with fail
 go_cut [6]from 23 to 33 (fun s6 wx=> ∃X Y P:Nat,s6=.pointer (some ⟨P,0,none⟩)∧Hid (w.heap.size<X∧w.heap.size<Y∧w.heap.size<P∧Made w wx W H n X Y P (List.replicate n 0) (List.replicate n 0))∧Hid (Blk wx w.heap.size 28 #[.int .i64 0,.int .i64 0,.slice none 0 0,.slice none 0 0]))
 case first=>
  go_region
  all_goals
   go_wp2_with fail
   go_meet
   first
    |refine⟨w.heap.size+1,w.heap.size+1+1,w.heap.size+1+1+1,rfl,Lib.hid ⟨by omega,by omega,by omega,⟨?_,?_,?_,by omega,by omega,by omega,by(repeat(first|with_reducible(first|exact eR_ _|assumption|refine eA_ ?_ _|refine eD_ ?_|refine eN_ ?_ _|refine eL_ ?_ _)|(with_reducible refine eS_ ?_ _ ?hp;case hp=>first|(simp;done)|(simp;omega)|omega)))⟩⟩,Lib.hid ?_⟩ <;>(repeat(first|with_reducible refine Blk.drew ?_|(with_reducible refine Blk.new' _ _ _ ?_;(simp;done))|with_reducible refine Blk.alloc ?_ _|with_reducible refine World.ownsRow.drew ?_|(refine row_new M1.out _ _ _ ?_ ?_ <;>first|(simp;done)|(simp;omega))|with_reducible refine World.ownsRow.alloc ?_ _)) <;>done
    |refine⟨w.heap.size+1,w.heap.size+1+1+1,w.heap.size+1+1,rfl,Lib.hid ⟨by omega,by omega,by omega,⟨?_,?_,?_,by omega,by omega,by omega,by(repeat(first|with_reducible(first|exact eR_ _|assumption|refine eA_ ?_ _|refine eD_ ?_|refine eN_ ?_ _|refine eL_ ?_ _)|(with_reducible refine eS_ ?_ _ ?hp;case hp=>first|(simp;done)|(simp;omega)|omega)))⟩⟩,Lib.hid ?_⟩ <;>(repeat(first|with_reducible refine Blk.drew ?_|(with_reducible refine Blk.new' _ _ _ ?_;(simp;done))|with_reducible refine Blk.alloc ?_ _|with_reducible refine World.ownsRow.drew ?_|(refine row_new M1.out _ _ _ ?_ ?_ <;>first|(simp;done)|(simp;omega))|with_reducible refine World.ownsRow.alloc ?_ _)) <;>done
    |refine⟨w.heap.size+1+1,w.heap.size+1,w.heap.size+1+1+1,rfl,Lib.hid ⟨by omega,by omega,by omega,⟨?_,?_,?_,by omega,by omega,by omega,by(repeat(first|with_reducible(first|exact eR_ _|assumption|refine eA_ ?_ _|refine eD_ ?_|refine eN_ ?_ _|refine eL_ ?_ _)|(with_reducible refine eS_ ?_ _ ?hp;case hp=>first|(simp;done)|(simp;omega)|omega)))⟩⟩,Lib.hid ?_⟩ <;>(repeat(first|with_reducible refine Blk.drew ?_|(with_reducible refine Blk.new' _ _ _ ?_;(simp;done))|with_reducible refine Blk.alloc ?_ _|with_reducible refine World.ownsRow.drew ?_|(refine row_new M1.out _ _ _ ?_ ?_ <;>first|(simp;done)|(simp;omega))|with_reducible refine World.ownsRow.alloc ?_ _)) <;>done
    |refine⟨w.heap.size+1+1,w.heap.size+1+1+1,w.heap.size+1,rfl,Lib.hid ⟨by omega,by omega,by omega,⟨?_,?_,?_,by omega,by omega,by omega,by(repeat(first|with_reducible(first|exact eR_ _|assumption|refine eA_ ?_ _|refine eD_ ?_|refine eN_ ?_ _|refine eL_ ?_ _)|(with_reducible refine eS_ ?_ _ ?hp;case hp=>first|(simp;done)|(simp;omega)|omega)))⟩⟩,Lib.hid ?_⟩ <;>(repeat(first|with_reducible refine Blk.drew ?_|(with_reducible refine Blk.new' _ _ _ ?_;(simp;done))|with_reducible refine Blk.alloc ?_ _|with_reducible refine World.ownsRow.drew ?_|(refine row_new M1.out _ _ _ ?_ ?_ <;>first|(simp;done)|(simp;omega))|with_reducible refine World.ownsRow.alloc ?_ _)) <;>done
    |refine⟨w.heap.size+1+1+1,w.heap.size+1,w.heap.size+1+1,rfl,Lib.hid ⟨by omega,by omega,by omega,⟨?_,?_,?_,by omega,by omega,by omega,by(repeat(first|with_reducible(first|exact eR_ _|assumption|refine eA_ ?_ _|refine eD_ ?_|refine eN_ ?_ _|refine eL_ ?_ _)|(with_reducible refine eS_ ?_ _ ?hp;case hp=>first|(simp;done)|(simp;omega)|omega)))⟩⟩,Lib.hid ?_⟩ <;>(repeat(first|with_reducible refine Blk.drew ?_|(with_reducible refine Blk.new' _ _ _ ?_;(simp;done))|with_reducible refine Blk.alloc ?_ _|with_reducible refine World.ownsRow.drew ?_|(refine row_new M1.out _ _ _ ?_ ?_ <;>first|(simp;done)|(simp;omega))|with_reducible refine World.ownsRow.alloc ?_ _)) <;>done
    |refine⟨w.heap.size+1+1+1,w.heap.size+1+1,w.heap.size+1,rfl,Lib.hid ⟨by omega,by omega,by omega,⟨?_,?_,?_,by omega,by omega,by omega,by(repeat(first|with_reducible(first|exact eR_ _|assumption|refine eA_ ?_ _|refine eD_ ?_|refine eN_ ?_ _|refine eL_ ?_ _)|(with_reducible refine eS_ ?_ _ ?hp;case hp=>first|(simp;done)|(simp;omega)|omega)))⟩⟩,Lib.hid ?_⟩ <;>(repeat(first|with_reducible refine Blk.drew ?_|(with_reducible refine Blk.new' _ _ _ ?_;(simp;done))|with_reducible refine Blk.alloc ?_ _|with_reducible refine World.ownsRow.drew ?_|(refine row_new M1.out _ _ _ ?_ ?_ <;>first|(simp;done)|(simp;omega))|with_reducible refine World.ownsRow.alloc ?_ _)) <;>done
 case rest=>
  obtain⟨X,Y,P,rfl,HM0,HR0⟩:=hcut
  clear m1' M1
  have h0:=HM0.out
  have hp:=Lib.hid (And.intro h0.1 (And.intro h0.2.1 h0.2.2.1))
  have HM:=Lib.hid h0.2.2.2
  clear h0 HM0
  obtain⟨W1,rfl⟩: ∃W1:World,W1=wc:=⟨_,rfl⟩
  obtain⟨-, -, -,p3⟩:=HM.out.box.four
  go_wp2_with fail
  clear p3
  go_loopw [7,37] (fun _ i wr=> ∃j:Nat,j≤n∧i=.int .i64 j∧Hid (Made w wr W H n X Y P (List.replicate n 0) (List.replicate j 16777215++List.replicate (n-j) 0))∧Hid (Blk wr w.heap.size 28 #[.int .i64 0,.int .i64 0,.slice none 0 0,.slice none 0 0])) (fun _ i _=>n-(intOf i).toNat)
  case atStart=>exact⟨0,Nat.zero_le _,rfl,Lib.hid (by have:=HM.out;simpa using this),HR0⟩
  case round=>
   clear HM HR0
   obtain⟨j,hj,rfl,HM,HR⟩:=hrel
   obtain⟨-, -, -,p3⟩:=HM.out.box.four
   by_cases hlt:j<n
   ·obtain⟨xs,hxs⟩: ∃xs:List Value,xs=ivs (List.replicate j 16777215++List.replicate (n-j) 0):=⟨_,rfl⟩
    have hz:=HM.out.z
    rw[←hxs]at hz
    have HXS:=Lib.hid hxs
    have HZ:=Lib.hid hz
    clear hxs hz
    go_wp2_with (refine wpList_store_own rfl (.tmp 43) (.const (.int .i64 16777215)) 3 rfl w.heap.size 3 1 Y n n xs j rfl (.int .i64 16777215) rfl HZ.out size_int (by simp[Value.cells];rfl) (by simp[Value.cells];omega) ?_)
    intro w2 ho2 hg2
    have ho3:w2.ownsRow w.heap.size 3 1 (.slice (some ⟨Y,0,none⟩) n n) n (ivs (List.replicate (j+1) 16777215++List.replicate (n-(j+1)) 0)):=by
     rw[←set_rep n j hlt,←ivs_put (by simp;omega),←HXS.out,List.append_assoc];exact ho2
    have HM2:=Lib.hid (HM.out.putZ hg2 ho3)
    have HR2:=Lib.hid (HR.out.grown' hg2 (fun e=>by have:=hp.out.2.1;injection e with e;omega))
    clear ho2 ho3 hg2 p3 HM HR
    go_wp2_with fail
    go_roundw
    case rel=>first|exact⟨j+1,by omega,by go_num,HM2,HR2⟩|((repeat apply Exists.intro);exact⟨⟨j+1,by omega,by go_num,HM2,HR2⟩,rfl⟩)
    case measure=>simp[intOf];omega
   ·obtain rfl:j=n:=by omega
    have HM2:Hid (Made w wr W H j X Y P (List.replicate j 0) (List.replicate j 16777215)):=Lib.hid (by have:=HM.out;simpa using this)
    clear HM
    clear p3
    obtain⟨q0,q1,q2,q3⟩:=HM2.out.box.four
    obtain⟨r0,r1,r2,r3⟩:=HR.out.four
    obtain⟨f0,f1,f2,f3⟩:=HR.out.frees4
    obtain⟨W2,rfl⟩: ∃W2:World,W2=wr:=⟨_,rfl⟩
    go_wp2_with fail
    try simp only[Exit.inBlock,Exit.then]
    obtain⟨s0,s1,s2,s3⟩:=(HR.out.set4 (.int .i64 W) (.int .i64 H) (.slice (some ⟨X,0,none⟩) j j) (.slice (some ⟨Y,0,none⟩) j j)).four
    refine bodyPost_ret (v:=.tuple #[.agg #[.int .i64 W,.int .i64 H,.slice (some ⟨X,0,none⟩) j j,.slice (some ⟨Y,0,none⟩) j j],.int .i64 0]) (by simp[results,Tryz.results152,go_sem,s0,s1,s2,s3]) rfl ?_
    have hx:((Value.slice (some ⟨X,0,none⟩) j j).ownBlock≠some w.heap.size):=fun e=>by have:=hp.out.1;simp[Value.ownBlock]at e;omega
    have hy:((Value.slice (some ⟨Y,0,none⟩) j j).ownBlock≠some w.heap.size):=fun e=>by have:=hp.out.2.1;simp[Value.ownBlock]at e;omega
    have hg:W2.grownBy ((((W2.setCell ⟨w.heap.size,0,none⟩ (.int .i64 W)).setCell ⟨w.heap.size,1,none⟩ (.int .i64 H)).setCell ⟨w.heap.size,2,none⟩ (.slice (some ⟨X,0,none⟩) j j)).setCell ⟨w.heap.size,3,none⟩ (.slice (some ⟨Y,0,none⟩) j j)) (some w.heap.size):=
     grown_trans (grown_trans (grown_trans (grown_set _ _ _ _) (grown_set _ _ _ _)) (grown_set _ _ _ _)) (grown_set _ _ _ _)
    have hc:=own_apart HM2.out.c hg hx
    have hz:=own_apart HM2.out.z hg hy
    have he:=HM2.out.ext.grown hg (fun k hk=>Option.some.inj hk▸Nat.le_refl _)
    rw[HN.out]at hc hz he ⊢
    exact⟨X,Y,rfl,hc,hz,HM2.out.xy,he⟩
end Go.Proofs.YtplljnfjkkloeaaGreatDoor
set_option linter.unusedVariables false
set_option linter.unusedSimpArgs false
namespace Go.Proofs.YtplljnfjkkloeaaGreatDoor
def fac (k si di s3:Int):Int:=if k%2=1 then 255-(if k/2=0 then 0 else if k/2=1 then si else if k/2=2 then di else s3)else(if k/2=0 then 0 else if k/2=1 then si else if k/2=2 then di else s3)
def bl1 (sf df si di s3:Int):Int:=min ((si*fac sf si di s3+di*fac df si di s3)/255) 255
def fcol (mix:Bool) (sf df:Int) (old:Int) (f:Fr):Int:=
 if mix=true then pk (bl1 sf df f.c0 (old/16777216%256) (f.c3*f.m/64)) (bl1 sf df f.c1 (old/65536%256) (f.c3*f.m/64)) (bl1 sf df f.c2 (old/256%256) (f.c3*f.m/64)) (bl1 sf df (f.c3*f.m/64) (old%256) (f.c3*f.m/64))
 else pk f.c0 f.c1 f.c2 (f.c3*f.m/64)
def fput (W:Int) (mix:Bool) (sf df:Int) (C:List Int) (f:Fr):List Int:=C.set (f.y*W+f.x).toNat (fcol mix sf df (C.getD (f.y*W+f.x).toNat 0) f)
def fall (W:Int) (mix:Bool) (sf df:Int) (C:List Int) (L:List Fr):List Int:=L.foldl (fput W mix sf df) C
theorem fput_len (W:Int) (mix:Bool) (sf df:Int) (C:List Int) (f:Fr):(fput W mix sf df C f).length=C.length:=by simp[fput]
theorem fall_len (W:Int) (mix:Bool) (sf df:Int): ∀(L:List Fr) (C:List Int),(fall W mix sf df C L).length=C.length
 |[],C=>rfl
 |f::L,C=>by
  show(fall W mix sf df (fput W mix sf df C f) L).length=C.length
  rw[fall_len W mix sf df L,fput_len]
structure Fr.Fits (f:Fr):Prop where
 c0:byte f.c0
 c1:byte f.c1
 c2:byte f.c2
 c3:byte f.c3
 z:0≤f.z∧f.z≤16777215
 m:0<f.m∧f.m≤64
end Go.Proofs.YtplljnfjkkloeaaGreatDoor
