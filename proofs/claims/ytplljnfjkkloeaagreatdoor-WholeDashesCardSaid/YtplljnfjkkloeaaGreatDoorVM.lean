/- Proof text: how a dash that comes in reads. No condition. By an AI agent. -/
import Derived.Test.YtplljnfjkkloeaaGreatDoorMO
import Derived.Test.YtplljnfjkkloeaaGreatDoorVL
set_option linter.unusedVariables false
set_option linter.unusedSimpArgs false
set_option maxRecDepth 100000
namespace Go.Proofs.YtplljnfjkkloeaaGreatDoor
open Go.ChangeShapes Go.WideShapes Go.ChangeAt Go.RowKit Go.Joins Go.Deep
theorem ls3 {α:Type} {l:List α} (h:l.length=3): ∃a b c,l=[a,b,c]:=by
 match l,h with
 |[a,b,c],_=>exact⟨a,b,c,rfl⟩
theorem cdash:Tryz.prog.cellsOf 44=3:=by kernel_rfl
theorem open_dash {H:Type} {enc:TypeId×Value→H} {held:Bool} {w:World} {base:Nat} {spare:Nat→Bool} {r:Reach} {b0:Nat} {v:Value} {d:DataW H} {p:List MemPlace} (hv:Value.okWide Tryz.prog w r b0 44 v) (h:DataW.Trod enc Tryz.prog w base spare held 44 v d p): ∃P R X:Int,v=.agg #[.int .i64 P,.int .i64 R,.int .i64 X]:=by
 obtain⟨cs,rfl,hsz⟩:=okWide_struct Tryz.underlying44 hv
 obtain⟨m,hm⟩:=h
 obtain⟨xs,m',_,_,hl,hxl,hf⟩:=DataW.trod_struct Tryz.underlying44 hm
 obtain⟨c0,c1,c2,hcs⟩:=ls3 (hl.trans cdash)
 have hcs':cs= #[c0,c1,c2]:=by
  have:cs.toList=[c0,c1,c2]:=hcs
  cases cs;simp_all
 subst hcs'
 have hx:xs.length=3:=hxl
 have f0:DataW.trod enc Tryz.prog w base spare held m' 3 (([c0,c1,c2].drop 0).take (Tryz.prog.cellsOf 3))=xs[0]? :=hf 0 _ rfl
 have f1:DataW.trod enc Tryz.prog w base spare held m' 3 (([c0,c1,c2].drop 1).take (Tryz.prog.cellsOf 3))=xs[1]? :=hf 1 _ rfl
 have f2:DataW.trod enc Tryz.prog w base spare held m' 3 (([c0,c1,c2].drop 2).take (Tryz.prog.cellsOf 3))=xs[2]? :=hf 2 _ rfl
 rw[ci1]at f0 f1 f2
 obtain⟨z0,rfl,_⟩:=int_ofk Tryz.underlying3 f0 (by simp[hx])
 obtain⟨z1,rfl,_⟩:=int_ofk Tryz.underlying3 f1 (by simp[hx])
 obtain⟨z2,rfl,_⟩:=int_ofk Tryz.underlying3 f2 (by simp[hx])
 exact⟨z0,z1,z2,rfl⟩
end Go.Proofs.YtplljnfjkkloeaaGreatDoor
