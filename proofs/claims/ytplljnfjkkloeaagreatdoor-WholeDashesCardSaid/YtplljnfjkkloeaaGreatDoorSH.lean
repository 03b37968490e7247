/- The shelf's contracts at this dump, in plain words: written by the kit's lay-plain.mjs out of what its lay-shelf.mjs wrote; what is not needed is left out. No condition beyond what each theorem states. -/
import Derived.Shelf.Small.Bits
import Derived.Shelf.Small.Wraps
import Derived.Shelf.Strconv.Atoi
import Derived.Shelf.Strconv.Itoa0
import Derived.Shelf.Strconv.Itoa1
import Derived.Shelf.LaysM
import Derived.Shelf.Strconv.Itoa2
import Derived.Shelf.Strconv.Itoa3
import Derived.Shelf.Strconv.AtoiErrFast
import Derived.Shelf.Strconv.ParseIntEmpty
import Derived.Shelf.Strconv.AtoiFail
import Derived.Shelf.Strconv.Clone
import Derived.Shelf.Strconv.SyntaxError
import Derived.Shelf.LaysC
import Derived.Shelf.Strconv.ToError
import Derived.Shelf.Strconv.AtoiErr
import Derived.Shelf.Strconv.Lower
import Derived.Shelf.Strconv.ParseUint10
import Derived.Shelf.Strconv.ParseUint10Empty
import Derived.Shelf.Strconv.ParseUint10Any
import Derived.Shelf.Strconv.ParseInt10
import Derived.Shelf.Strconv.AtoiLong
import Derived.Shelf.Strconv.AtoiInnerAll
import Derived.Shelf.Strconv.RangeError
import Derived.Shelf.Strconv.ToErrorRange
import Derived.Shelf.Strconv.AtoiAll
import Derived.Shelf.Strconv.ErrVarAll
import Derived.Shelf.Strconv.ParseUintEmpty
import Derived.Shelf.Strconv.ParseUint10b64
import Derived.Shelf.Strconv.ParseUint10b32
import Derived.Shelf.Strconv.ParseUint10b16
import Derived.Shelf.Strconv.ParseUint10b8
import Derived.Shelf.Strings.Search1
import Derived.Shelf.Strings.Search2
import Derived.Shelf.Strings.Cut
import Derived.Shelf.Strings.Shaped
import Derived.Shelf.Strings.Prefix
import Derived.Shelf.Bits.Mul64
import Derived.Test.YtplljnfjkkloeaaGreatDoorProg
import Derived.Lib.Strings
import Derived.Lib.AtoiAll
import Derived.Lib.IndexMore
import Derived.Test.YtplljnfjkkloeaaGreatDoorB
import Derived.Lib.LaidTab
import Derived.Lib.AtoiErrMem
import Derived.Lib.ItoaLen
import Derived.Test.YtplljnfjkkloeaaGreatDoorLI
import Derived.Laws.OwnMore
set_option linter.unusedVariables false
set_option linter.unusedSimpArgs false
namespace Go.Proofs.YtplljnfjkkloeaaGreatDoor
open Go.Shelf
def Tryz.lays103_ren:Go.Shelf.Ren:=⟨fun|103=>96|210=>147|206=>198|n=>n,fun|9=>9|4=>4|24=>195|3=>3|n=>n,fun|n=>n⟩
theorem Tryz.lays103:Go.Proofs.Lays.n103 Tryz.prog Tryz.lays103_ren:={
 mixed:=by kernel_rfl
 f103:=Tryz.func96.trans (congrArg some (by kernel_rfl))
 f206:=Tryz.func198.trans (congrArg some (by kernel_rfl))
 f210:=Tryz.func147.trans (congrArg some (by kernel_rfl))
 t3:=Tryz.underlying3
 a3:=Tryz.isAgg3
 z3:=Tryz.sizeOf3
 v3:=Tryz.zeroValue3
 t4:=Tryz.underlying4
 a4:=Tryz.isAgg4
 z4:=Tryz.sizeOf4
 v4:=Tryz.zeroValue4
 t9:=Tryz.underlying9
 a9:=Tryz.isAgg9
 z9:=Tryz.sizeOf9
 v9:=Tryz.zeroValue9
 t24:=Tryz.underlying195
 a24:=Tryz.isAgg195
 z24:=Tryz.sizeOf195
 v24:=Tryz.zeroValue195}
open Go.RowKit in
theorem Tryz.strings_CutPrefix (s p:ByteArray) (w:World):
  Calls Tryz.prog 96 #[.string s,.string p] w fun e w'=>e=.returned (.tuple #[.string ⟨(Lib.trimPrefix s.data.toList p.data.toList).toArray⟩,.bool (Lib.hasPrefix s.data.toList p.data.toList)])∧w'=w:=Any.strings_CutPrefix Tryz.lays103 s p w
open Go.RowKit Go.Sort Go.Lib in
def Tryz.laysC172_ren:Go.Shelf.Ren:=⟨fun|172=>98|244=>148|245=>149|247=>199|279=>200|280=>201|281=>202|282=>203|287=>244|316=>245|171=>247|205=>246|321=>273|322=>274|243=>275|246=>292|283=>303|284=>304|285=>305|286=>306|129=>301|317=>307|318=>308|319=>309|320=>310|337=>311|338=>312|n=>n,fun|9=>9|3=>3|75=>199|76=>200|4=>4|5=>5|167=>309|37=>83|0=>0|85=>310|2=>2|168=>312|53=>259|175=>365|46=>226|210=>369|127=>391|145=>394|143=>392|21=>21|171=>411|173=>413|212=>416|51=>305|20=>20|213=>417|232=>420|233=>421|80=>422|n=>n,fun|15=>4|16=>5|17=>8|18=>9|19=>10|n=>n⟩
theorem Tryz.laysC172:Go.Proofs.LaysC.n172 Tryz.prog Tryz.laysC172_ren:={
 mixed:=by kernel_rfl
 f129:=Tryz.func301.trans (congrArg some (by kernel_rfl))
 f171:=Tryz.func247.trans (congrArg some (by kernel_rfl))
 f172:=Tryz.func98.trans (congrArg some (by kernel_rfl))
 f205:=Tryz.func246.trans (congrArg some (by kernel_rfl))
 f243:=Tryz.func275.trans (congrArg some (by kernel_rfl))
 f244:=Tryz.func148.trans (congrArg some (by kernel_rfl))
 f245:=Tryz.func149.trans (congrArg some (by kernel_rfl))
 f246:=Tryz.func292.trans (congrArg some (by kernel_rfl))
 f247:=Tryz.func199.trans (congrArg some (by kernel_rfl))
 f279:=Tryz.func200.trans (congrArg some (by kernel_rfl))
 f280:=Tryz.func201.trans (congrArg some (by kernel_rfl))
 f281:=Tryz.func202.trans (congrArg some (by kernel_rfl))
 f282:=Tryz.func203.trans (congrArg some (by kernel_rfl))
 f283:=Tryz.func303.trans (congrArg some (by kernel_rfl))
 f284:=Tryz.func304.trans (congrArg some (by kernel_rfl))
 f285:=Tryz.func305.trans (congrArg some (by kernel_rfl))
 f286:=Tryz.func306.trans (congrArg some (by kernel_rfl))
 f287:=Tryz.func244.trans (congrArg some (by kernel_rfl))
 f316:=Tryz.func245.trans (congrArg some (by kernel_rfl))
 f317:=Tryz.func307.trans (congrArg some (by kernel_rfl))
 f318:=Tryz.func308.trans (congrArg some (by kernel_rfl))
 f319:=Tryz.func309.trans (congrArg some (by kernel_rfl))
 f320:=Tryz.func310.trans (congrArg some (by kernel_rfl))
 f321:=Tryz.func273.trans (congrArg some (by kernel_rfl))
 f322:=Tryz.func274.trans (congrArg some (by kernel_rfl))
 f337:=Tryz.func311.trans (congrArg some (by kernel_rfl))
 f338:=Tryz.func312.trans (congrArg some (by kernel_rfl))
 t0:=Tryz.underlying0
 a0:=Tryz.isAgg0
 z0:=Tryz.sizeOf0
 v0:=Tryz.zeroValue0
 t2:=Tryz.underlying2
 a2:=Tryz.isAgg2
 z2:=Tryz.sizeOf2
 v2:=Tryz.zeroValue2
 t3:=Tryz.underlying3
 a3:=Tryz.isAgg3
 z3:=Tryz.sizeOf3
 v3:=Tryz.zeroValue3
 t4:=Tryz.underlying4
 a4:=Tryz.isAgg4
 z4:=Tryz.sizeOf4
 v4:=Tryz.zeroValue4
 t5:=Tryz.underlying5
 a5:=Tryz.isAgg5
 z5:=Tryz.sizeOf5
 v5:=Tryz.zeroValue5
 t9:=Tryz.underlying9
 a9:=Tryz.isAgg9
 z9:=Tryz.sizeOf9
 v9:=Tryz.zeroValue9
 t20:=Tryz.underlying20
 a20:=Tryz.isAgg20
 z20:=Tryz.sizeOf20
 v20:=Tryz.zeroValue20
 t21:=Tryz.underlying21
 a21:=Tryz.isAgg21
 z21:=Tryz.sizeOf21
 v21:=Tryz.zeroValue21
 t37:=Tryz.underlying83
 a37:=Tryz.isAgg83
 z37:=Tryz.sizeOf83
 v37:=Tryz.zeroValue83
 t46:=Tryz.underlying226
 a46:=Tryz.isAgg226
 z46:=Tryz.sizeOf226
 v46:=Tryz.zeroValue226
 t51:=Tryz.underlying305
 a51:=Tryz.isAgg305
 z51:=Tryz.sizeOf305
 v51:=Tryz.zeroValue305
 t53:=Tryz.underlying259
 a53:=Tryz.isAgg259
 z53:=Tryz.sizeOf259
 v53:=Tryz.zeroValue259
 t75:=Tryz.underlying199
 a75:=Tryz.isAgg199
 z75:=Tryz.sizeOf199
 v75:=Tryz.zeroValue199
 t76:=Tryz.underlying200
 a76:=Tryz.isAgg200
 z76:=Tryz.sizeOf200
 v76:=Tryz.zeroValue200
 t85:=Tryz.underlying310
 a85:=Tryz.isAgg310
 z85:=Tryz.sizeOf310
 v85:=Tryz.zeroValue310
 t127:=Tryz.underlying391
 a127:=Tryz.isAgg391
 z127:=Tryz.sizeOf391
 v127:=Tryz.zeroValue391
 t143:=Tryz.underlying392
 a143:=Tryz.isAgg392
 z143:=Tryz.sizeOf392
 v143:=Tryz.zeroValue392
 t145:=Tryz.underlying394
 a145:=Tryz.isAgg394
 z145:=Tryz.sizeOf394
 v145:=Tryz.zeroValue394
 t167:=Tryz.underlying309
 a167:=Tryz.isAgg309
 z167:=Tryz.sizeOf309
 v167:=Tryz.zeroValue309
 t168:=Tryz.underlying312
 a168:=Tryz.isAgg312
 z168:=Tryz.sizeOf312
 v168:=Tryz.zeroValue312
 t171:=Tryz.underlying411
 a171:=Tryz.isAgg411
 z171:=Tryz.sizeOf411
 v171:=Tryz.zeroValue411
 t173:=Tryz.underlying413
 a173:=Tryz.isAgg413
 z173:=Tryz.sizeOf413
 v173:=Tryz.zeroValue413
 t175:=Tryz.underlying365
 a175:=Tryz.isAgg365
 z175:=Tryz.sizeOf365
 v175:=Tryz.zeroValue365
 t210:=Tryz.underlying369
 a210:=Tryz.isAgg369
 z210:=Tryz.sizeOf369
 v210:=Tryz.zeroValue369
 t212:=Tryz.underlying416
 a212:=Tryz.isAgg416
 z212:=Tryz.sizeOf416
 v212:=Tryz.zeroValue416
 t213:=Tryz.underlying417
 a213:=Tryz.isAgg417
 z213:=Tryz.sizeOf417
 t232:=Tryz.underlying420
 a232:=Tryz.isAgg420
 z232:=Tryz.sizeOf420
 v232:=Tryz.zeroValue420
 t233:=Tryz.underlying421
 a233:=Tryz.isAgg421
 z233:=Tryz.sizeOf421
 v233:=Tryz.zeroValue421
 g15:=by kernel_rfl
 g16:=by kernel_rfl
 g17:=by kernel_rfl
 g18:=by kernel_rfl
 g19:=by kernel_rfl
 t80:=Tryz.underlying422
 a80:=Tryz.isAgg422
 z80:=Tryz.sizeOf422
 v80:=Tryz.zeroValue422
 i0:=by kernel_rfl
 i2:=by kernel_rfl
 i3:=by kernel_rfl
 i4:=by kernel_rfl
 i5:=by kernel_rfl
 i9:=by kernel_rfl
 i20:=by kernel_rfl
 i21:=by kernel_rfl
 i37:=by kernel_rfl
 i46:=by kernel_rfl
 i51:=by kernel_rfl
 i53:=by kernel_rfl
 i75:=by kernel_rfl
 i76:=by kernel_rfl
 i80:=by kernel_rfl
 i85:=by kernel_rfl
 i127:=by kernel_rfl
 i143:=by kernel_rfl
 i145:=by kernel_rfl
 i167:=by kernel_rfl
 i168:=by kernel_rfl
 i171:=by kernel_rfl
 i173:=by kernel_rfl
 i175:=by kernel_rfl
 i210:=by kernel_rfl
 i212:=by kernel_rfl
 i232:=by kernel_rfl
 i233:=by kernel_rfl
 m15:=by kernel_rfl
 m16:=by kernel_rfl
 m17:=by kernel_rfl
 m18:=by kernel_rfl
 m19:=by kernel_rfl
 c0:=by kernel_rfl
 c2:=by kernel_rfl
 c3:=by kernel_rfl
 c4:=by kernel_rfl
 c5:=by kernel_rfl
 c9:=by kernel_rfl
 c20:=by kernel_rfl
 c21:=by kernel_rfl
 c37:=by kernel_rfl
 c46:=by kernel_rfl
 c51:=by kernel_rfl
 c53:=by kernel_rfl
 c75:=by kernel_rfl
 c76:=by kernel_rfl
 c80:=by kernel_rfl
 c85:=by kernel_rfl
 c127:=by kernel_rfl
 c143:=by kernel_rfl
 c145:=by kernel_rfl
 c167:=by kernel_rfl
 c168:=by kernel_rfl
 c171:=by kernel_rfl
 c173:=by kernel_rfl
 c175:=by kernel_rfl
 c210:=by kernel_rfl
 c212:=by kernel_rfl
 c213:=by kernel_rfl
 c232:=by kernel_rfl
 c233:=by kernel_rfl}
open Go.RowKit in
theorem Tryz.strconv_Atoi_ok (s:ByteArray) (hmax:s.size≤9223372036854775806) (v:Int) (h:Lib.atoiAll s.data.toList=.ok v) (w:World):
  Calls Tryz.prog 98 #[.string s] w fun e w'=>e=.returned (.tuple #[.int .i64 v,.nilIface])∧(w'=w∨ ∃t,w'=Lib.bytesWorld w 5 t):=Any.strconv_Atoi_ok Tryz.laysC172 s hmax v h w
open Go.RowKit in
theorem Tryz.strconv_Atoi_range (s:ByteArray) (hlim:s.size≤281474976710656) (h:Lib.atoiAll s.data.toList=.range) (ev:Value) (w:World) (hv:w.cell? ⟨5,0,none⟩=some ev) (hev:ev=.nilIface∨ ∃te pe,ev=.iface te pe):
  Calls Tryz.prog 98 #[.string s] w fun e w'=> ∃N,e=.returned (.tuple #[.int .i64 (Lib.atoiSat s.data.toList),.iface 312 (.pointer (some ⟨N,0,none⟩))])∧w.heap.size≤N∧w'.heap[N]? =some (.cells #[.string ⟨#[65,116,111,105]⟩,.string s,ev] 369 (0,0))∧Below w.heap.size w w':=Any.strconv_Atoi_range Tryz.laysC172 s hlim h ev w hv hev
def Tryz.lays145_ren:Go.Shelf.Ren:=⟨fun|145=>52|220=>72|219=>94|217=>143|225=>144|224=>145|267=>146|266=>196|314=>197|n=>n,fun|9=>9|4=>4|59=>130|3=>3|5=>5|46=>226|146=>306|51=>305|n=>n,fun|1=>0|n=>n⟩
theorem Tryz.lays145:Go.Proofs.Lays.n145 Tryz.prog Tryz.lays145_ren:={
 mixed:=by kernel_rfl
 f145:=Tryz.func52.trans (congrArg some (by kernel_rfl))
 f217:=Tryz.func143.trans (congrArg some (by kernel_rfl))
 f219:=Tryz.func94.trans (congrArg some (by kernel_rfl))
 f220:=Tryz.func72.trans (congrArg some (by kernel_rfl))
 f224:=Tryz.func145.trans (congrArg some (by kernel_rfl))
 f225:=Tryz.func144.trans (congrArg some (by kernel_rfl))
 f266:=Tryz.func196.trans (congrArg some (by kernel_rfl))
 f267:=Tryz.func146.trans (congrArg some (by kernel_rfl))
 f314:=Tryz.func197.trans (congrArg some (by kernel_rfl))
 t3:=Tryz.underlying3
 a3:=Tryz.isAgg3
 z3:=Tryz.sizeOf3
 v3:=Tryz.zeroValue3
 t4:=Tryz.underlying4
 a4:=Tryz.isAgg4
 z4:=Tryz.sizeOf4
 v4:=Tryz.zeroValue4
 t5:=Tryz.underlying5
 a5:=Tryz.isAgg5
 z5:=Tryz.sizeOf5
 v5:=Tryz.zeroValue5
 t9:=Tryz.underlying9
 a9:=Tryz.isAgg9
 z9:=Tryz.sizeOf9
 v9:=Tryz.zeroValue9
 t46:=Tryz.underlying226
 a46:=Tryz.isAgg226
 z46:=Tryz.sizeOf226
 v46:=Tryz.zeroValue226
 t51:=Tryz.underlying305
 a51:=Tryz.isAgg305
 z51:=Tryz.sizeOf305
 v51:=Tryz.zeroValue305
 t59:=Tryz.underlying130
 a59:=Tryz.isAgg130
 z59:=Tryz.sizeOf130
 v59:=Tryz.zeroValue130
 t146:=Tryz.underlying306
 a146:=Tryz.isAgg306
 z146:=Tryz.sizeOf306
 v146:=Tryz.zeroValue306
 g1:=by kernel_rfl}
open Go.RowKit Go.Lib in
theorem Tryz.strings_Cut (s sep:ByteArray) (m:Int) (w:World) (hs:s.size<4294967281) (hm:w.cell? ⟨0,0,none⟩=some (.int .i64 m)):
  Calls Tryz.prog 52 #[.string s,.string sep] w fun e w'=>e=.returned (.tuple #[.string ⟨(Lib.cut s.data.toList sep.data.toList).1.toArray⟩,.string ⟨(Lib.cut s.data.toList sep.data.toList).2.1.toArray⟩,.bool (Lib.cut s.data.toList sep.data.toList).2.2])∧ ∃n,w'=w.drewN n:=Any.strings_Cut Tryz.lays145 s sep m w hs hm
end Go.Proofs.YtplljnfjkkloeaaGreatDoor
set_option linter.unusedVariables false
set_option linter.unusedSimpArgs false
namespace Go.Proofs.YtplljnfjkkloeaaGreatDoor
def isD (b:UInt8):Bool:=decide (48≤b.toNat)&&decide (b.toNat≤57)
def valD (l:List UInt8):Nat:=l.foldl (fun n b=>n*10+(b.toNat-48)) 0
end Go.Proofs.YtplljnfjkkloeaaGreatDoor
set_option linter.unusedVariables false
set_option linter.unusedSimpArgs false
namespace Go.Proofs.YtplljnfjkkloeaaGreatDoor
def cut1 (c:UInt8):List UInt8→List UInt8×List UInt8×Bool
 |[]=>([],[],false)
 |b::l=>if b=c then([],l,true)else(b::(cut1 c l).1,(cut1 c l).2.1,(cut1 c l).2.2)
theorem index_cons (b c:UInt8) (l:List UInt8):Lib.index (b::l) [c]=if b=c then 0 else if Lib.index l [c]== -1 then -1 else Lib.index l [c]+1:=by
 show(if[c].isPrefixOf (b::l)then(0:Int)else _)=_
 have:[c].isPrefixOf (b::l)=(c==b):=by simp[List.isPrefixOf]
 rw[this]
 by_cases h:b=c
 ·subst h;simp
 ·rw[if_neg h,if_neg (by simp;exact fun e=>h e.symm)]
theorem cut_is (c:UInt8) (l:List UInt8):Lib.cut l [c]=cut1 c l:=by
 induction l with
 |nil=>rfl
 |cons b l ih=>
  unfold Lib.cut at ih ⊢
  rw[index_cons]
  unfold cut1
  by_cases h:b=c
  ·rw[if_pos h,if_pos h];rfl
  ·rw[if_neg h,if_neg h,←ih]
   have hg:=Lib.index_ge l [c]
   by_cases h1:Lib.index l [c]= -1
   ·rw[h1];rfl
   ·have h2: ¬((Lib.index l [c]== -1)=true):=by simpa using h1
    rw[if_neg h2,if_pos (by omega),if_pos (by omega)]
    obtain⟨n,hn⟩: ∃n:Nat,Lib.index l [c]=n:=⟨(Lib.index l [c]).toNat,by omega⟩
    rw[hn]
    have e1:((n:Int)+1).toNat=n+1:=by omega
    rw[e1,Int.toNat_natCast]
    simp[Nat.add_right_comm]
theorem cut1_no (c:UInt8) (l:List UInt8):(cut1 c l).2.2=false→(cut1 c l).1=l∧(cut1 c l).2.1=[]∧c∉l:=by
 induction l with
 |nil=>intro _;exact⟨rfl,rfl,by simp⟩
 |cons b l ih=>
  unfold cut1
  by_cases h:b=c
  ·rw[if_pos h];intro h;cases h
  ·rw[if_neg h]
   intro h2
   obtain⟨a,b',c'⟩:=ih h2
   exact⟨by simp[a],b',by simp;exact⟨fun e=>h e.symm,c'⟩⟩
theorem cut1_yes (c:UInt8) (l:List UInt8):(cut1 c l).2.2=true→l=(cut1 c l).1++c::(cut1 c l).2.1∧c∉(cut1 c l).1:=by
 induction l with
 |nil=>intro h;cases h
 |cons b l ih=>
  unfold cut1
  by_cases h:b=c
  ·rw[if_pos h];intro _;subst h;exact⟨rfl,by simp⟩
  ·rw[if_neg h]
   intro h2
   obtain⟨a,b'⟩:=ih h2
   refine⟨?_,by simp;exact⟨fun e=>h e.symm,b'⟩⟩
   simp only[List.cons_append]
   rw[←a]
def splitW:List UInt8→List (List UInt8)
 |[]=>[[]]
 |b::l=>if b=32 then[]::splitW l else match splitW l with|[]=>[[b]]|x::r=>(b::x)::r
theorem splitW_cut (l:List UInt8):splitW l=(cut1 32 l).1::(if(cut1 32 l).2.2 then splitW (cut1 32 l).2.1 else[]):=by
 induction l with
 |nil=>rfl
 |cons b l ih=>
  by_cases h:b=32
  ·subst h
   have e:cut1 32 (32::l)=([],l,true):=by simp[cut1]
   rw[e]
   simp[splitW]
  ·have e:cut1 32 (b::l)=(b::(cut1 32 l).1,(cut1 32 l).2.1,(cut1 32 l).2.2):=by rw[cut1,if_neg h]
   have e2:splitW (b::l)=match splitW l with|[]=>[[b]]|x::r=>(b::x)::r:=by rw[splitW,if_neg h]
   rw[e,e2,ih]
def okD (d:List UInt8):Bool:=!(decide (d=[]))&&d.all isD&&!(decide (d.head? =some 48)&&!(decide (d=[48])))
def strip (l:List UInt8):Bool×List UInt8:=if l.head? =some 45 then(true,l.drop 1)else(false,l)
def numT (l:List UInt8):Int×Int:=
 if okD (strip l).2=false∨((strip l).1=true∧(strip l).2=[48])then(0,11)
 else if(strip l).1 then(if valD (strip l).2≤9223372036854775808 then(-(valD (strip l).2:Int),0)else(0,4))
 else(if valD (strip l).2≤9223372036854775807 then((valD (strip l).2:Int),0)else(0,4))
theorem valF_ge (l:List UInt8): ∀n:Nat,n≤l.foldl (fun n b=>n*10+(b.toNat-48)) n:=by
 induction l with
 |nil=>intro n;exact Nat.le_refl _
 |cons b l ih=>intro n;rw[List.foldl_cons];exact Nat.le_trans (by omega) (ih _)
theorem parse_val (l:List UInt8) (hd:l.all isD=true): ∀acc,acc<18446744073709551616→Lib.parseUint10 acc l=if l.foldl (fun n b=>n*10+(b.toNat-48)) acc<18446744073709551616 then .ok (l.foldl (fun n b=>n*10+(b.toNat-48)) acc)else .range:=by
 induction l with
 |nil=>intro acc h;simp[Lib.parseUint10,h]
 |cons b l ih=>
  intro acc h
  simp only[List.all_cons,Bool.and_eq_true]at hd
  have hb:=hd.1
  unfold isD at hb
  simp only[Bool.and_eq_true,decide_eq_true_eq]at hb
  unfold Lib.parseUint10
  rw[if_pos hb,List.foldl_cons]
  have hge:=valF_ge l (acc*10+(b.toNat-48))
  by_cases h1:1844674407370955162≤acc
  ·rw[if_pos h1,if_neg (by omega)]
  ·rw[if_neg h1]
   by_cases h2:18446744073709551616≤acc*10+(b.toNat-48)
   ·rw[if_pos h2,if_neg (by omega)]
   ·rw[if_neg h2]
    exact ih hd.2 _ (by omega)
theorem okD_parts {d:List UInt8} (h:okD d=true):d≠[]∧d.all isD=true∧ ∀b r,d=b::r→isD b=true:=by
 unfold okD at h
 simp only[Bool.and_eq_true,Bool.not_eq_true',decide_eq_false_iff_not]at h
 refine⟨h.1.1,h.1.2,fun b r e=>?_⟩
 have:=h.1.2
 rw[e,List.all_cons,Bool.and_eq_true]at this
 exact this.1
theorem mag_val {d:List UInt8} (h:okD d=true):Lib.parseMag d=if valD d<18446744073709551616 then .ok (valD d)else .range:=by
 unfold Lib.parseMag
 rw[if_neg (okD_parts h).1,parse_val d (okD_parts h).2.1 0 (by decide)]
 rfl
theorem atoi_is {l:List UInt8} (h:okD (strip l).2=true):Lib.atoiAll l=if(strip l).1 then(if valD (strip l).2≤9223372036854775808 then .ok (-(valD (strip l).2:Int))else .range)else(if valD (strip l).2≤9223372036854775807 then .ok (valD (strip l).2:Int)else .range):=by
 unfold strip at h ⊢
 cases l with
 |nil=>exact absurd h (by decide)
 |cons c r=>
  by_cases hc:c=45
  ·subst hc
   simp only[List.head?_cons,if_true,List.drop_succ_cons,List.drop_zero]at h ⊢
   unfold Lib.atoiAll
   have e:(45:UInt8).toNat=45:=rfl
   simp only[e]
   rw[if_pos (by simp),mag_val h]
   by_cases h1:valD r<18446744073709551616
   ·rw[if_pos h1]
    simp only[not_true_eq_false,false_and,if_false,true_and]
    by_cases h2:valD r≤9223372036854775808
    ·rw[if_neg (by omega),if_pos h2];rfl
    ·rw[if_pos (by omega),if_neg h2]
   ·rw[if_neg h1,if_neg (by omega)]
  ·have h45: ¬(c::r).head? =some 45:=by simpa using hc
   rw[if_neg h45]at h
   rw[if_neg h45]
   have hcd:=(okD_parts h).2.2 c r rfl
   unfold isD at hcd
   simp only[Bool.and_eq_true,decide_eq_true_eq]at hcd
   unfold Lib.atoiAll
   simp only
   have n1: ¬(c.toNat=43∨c.toNat=45):=by omega
   rw[if_neg n1,mag_val h]
   by_cases h1:valD (c::r)<18446744073709551616
   ·rw[if_pos h1]
    simp only
    have n2: ¬c.toNat=45:=by omega
    by_cases h2:valD (c::r)≤9223372036854775807
    ·rw[if_neg (by omega),if_neg (by omega),if_neg n2]
     simp[h2]
    ·rw[if_pos ⟨n2,by omega⟩]
     simp[h2]
   ·rw[if_neg h1]
    simp only
    have h2: ¬valD (c::r)≤9223372036854775807:=by omega
    simp[h2]
end Go.Proofs.YtplljnfjkkloeaaGreatDoor
set_option linter.unusedVariables false
set_option linter.unusedSimpArgs false
namespace Go.Proofs.YtplljnfjkkloeaaGreatDoor
open Go.RowKit
def Tb (w:World):Prop:=Lib.TabIs Tryz.prog w "internal/strconv.uint64pow10" .u64 Lib.pow10Tab
theorem Tb.ext {w w':World} (h:Tb w) (e:Ext w w'):Tb w':=by
 unfold Tb Lib.TabIs World.var? at h ⊢
 cases hg:Tryz.prog.globalNamed "internal/strconv.uint64pow10" with
 |none=>rw[hg]at h;cases h
 |some g=>
  rw[hg]at h
  simp only[Option.bind_some]at h ⊢
  by_cases hlt:g<w.heap.size
  ·rw[e.block hlt];exact h
  ·rw[Array.getElem?_eq_none (by omega)]at h;cases h
structure Wd (w:World):Prop where
 glob:Glob w
 tab:Tb w
 err: ∃te pe,w.cell? ⟨5,0,none⟩=some (.iface te pe)
 len: ∃m,w.cell? ⟨0,0,none⟩=some (.int .i64 m)
theorem Wd.ext {w w':World} (h:Wd w) (e:Ext w w'):Wd w':=by
 obtain⟨a,b,⟨te,pe,c⟩,⟨m,d⟩⟩:=h
 exact⟨a.ext e,b.ext e,⟨te,pe,e.cell_some c⟩,⟨m,e.cell_some d⟩⟩
theorem cut_any (s sep:ByteArray) (c:UInt8) (w:World) (hs:s.size≤1000000) (hc:sep.data.toList=[c]) (hW:Wd w):
  Calls Tryz.prog 52 #[.string s,.string sep] w fun e w'=>e=.returned (.tuple #[.string ⟨(cut1 c s.data.toList).1.toArray⟩,.string ⟨(cut1 c s.data.toList).2.1.toArray⟩,.bool (cut1 c s.data.toList).2.2])∧Ext w w':=by
 obtain⟨m,hm⟩:=hW.len
 refine(Tryz.strings_Cut s sep m w (by omega) hm).mono ?_
 rintro e w' ⟨rfl,n,rfl⟩
 rw[hc,cut_is]
 exact⟨rfl,Ext.drewN (Ext.refl w) n⟩
theorem strip_is (l:List UInt8):Lib.hasPrefix l [45]=(strip l).1∧Lib.trimPrefix l [45]=(strip l).2:=by
 have e:Lib.hasPrefix l [45]=(strip l).1:=by
  unfold Lib.hasPrefix strip
  cases l with
  |nil=>rfl
  |cons b l=>
   by_cases h:b=45
   ·subst h;simp[List.isPrefixOf]
   ·have h2: ¬(45:UInt8)=b:=fun e=>h e.symm
    simp[List.isPrefixOf,h,h2]
 refine⟨e,?_⟩
 unfold Lib.trimPrefix
 rw[e]
 unfold strip
 split <;>rfl
theorem prefix_any (s p:ByteArray) (w:World) (hp:p.data.toList=[45]):
  Calls Tryz.prog 96 #[.string s,.string p] w fun e w'=>e=.returned (.tuple #[.string ⟨(strip s.data.toList).2.toArray⟩,.bool (strip s.data.toList).1])∧Ext w w':=by
 refine(Tryz.strings_CutPrefix s p w).mono ?_
 rintro e w' ⟨rfl,rfl⟩
 rw[hp,(strip_is _).1,(strip_is _).2]
 exact⟨rfl,Ext.refl _⟩
theorem atoi_ok (s:ByteArray) (hs:s.size≤1000000) (v:Int) (h:Lib.atoiAll s.data.toList=.ok v) (w:World):
  Calls Tryz.prog 98 #[.string s] w fun e w'=>e=.returned (.tuple #[.int .i64 v,.nilIface])∧Ext w w':=by
 refine(Tryz.strconv_Atoi_ok s (by omega) v h w).mono ?_
 rintro e w' ⟨rfl,h⟩
 refine⟨rfl,?_⟩
 rcases h with rfl|⟨t,rfl⟩
 ·exact Ext.refl _
 ·exact Lib.bytesWorld_below _ _ _
theorem atoi_range (s:ByteArray) (hs:s.size≤1000000) (h:Lib.atoiAll s.data.toList=.range) (w:World) (hW:Wd w):
  Calls Tryz.prog 98 #[.string s] w fun e w'=> ∃v N,e=.returned (.tuple #[.int .i64 v,.iface 312 (.pointer (some ⟨N,0,none⟩))])∧Ext w w':=by
 obtain⟨te,pe,he⟩:=hW.err
 refine(Tryz.strconv_Atoi_range s (by omega) h _ w he (.inr ⟨te,pe,rfl⟩)).mono ?_
 rintro e w' ⟨N,rfl, -, -,hb⟩
 exact⟨_,N,rfl,hb⟩
end Go.Proofs.YtplljnfjkkloeaaGreatDoor
set_option linter.unusedVariables false
set_option linter.unusedSimpArgs false
namespace Go.Proofs.YtplljnfjkkloeaaGreatDoor
open Go.RowKit
theorem grown_set (w:World) (b i:Nat) (v:Value):w.grownBy (w.setCell ⟨b,i,none⟩ v) (some b):=
 ⟨rfl,rfl,rfl,by simp,fun k hk hne=>Below.heap_setCell w ⟨b,i,none⟩ v k (fun e=>hne (by rw[e]))⟩
theorem grown_trans {a b c:World} {r:Option Nat} (h:a.grownBy b r) (k:b.grownBy c r):a.grownBy c r:=
 ⟨k.os.trans h.os,k.tape.trans h.tape,k.output.trans h.output,Nat.le_trans h.size k.size,fun j hj hne=>(k.block j (Nat.lt_of_lt_of_le hj h.size) hne).trans (h.block j hj hne)⟩
theorem own_keep2 {w w':World} {base:Nat} {e:TypeId} {size:Nat} {v:Value} {n:Nat} {xs:List Value} {row:Option Nat} (h:w.ownsRow base e size v n xs) (hg:w.grownBy w' row) (hne: ∀g,v.ownBlock=some g→row≠some g):w'.ownsRow base e size v n xs:=
 h.kept (row:=row) hg (by
  cases hv:v.ownBlock with
  |none=>exact .inl rfl
  |some g=>exact .inr fun h=>hne g hv h.symm)
theorem own_grown {w w':World} {base:Nat} {e:TypeId} {size:Nat} {v:Value} {n:Nat} {xs:List Value} {b:Nat} (h:w.ownsRow base e size v n xs) (hg:w.grownBy w' (some b)) (hb:b<base):w'.ownsRow base e size v n xs:=
 own_keep2 h hg (fun g h1 h2=>by have:=(h.lt g h1).1;injection h2 with h2;omega)
structure LnI (w wr:World) (P:Nat) (op:Int) (v:Value) (acc:List Int):Prop where
 res:Blk wr w.heap.size 88 #[.int .i64 0,.slice none 0 0]
 box:Blk wr P 88 #[.int .i64 op,v]
 own:wr.ownsRow (P+1) 3 1 v acc.length (ivs acc)
 pb:w.heap.size<P
 ext:Ext w wr
section
variable {w wr w':World} {P:Nat} {op n:Int} {v v':Value} {acc:List Int}
theorem LnI.ext' (h:LnI w wr P op v acc) (e:Ext wr w'):LnI w w' P op v acc:=⟨h.res.ext e,h.box.ext e,ownsRow_ext h.own e,h.pb,h.ext.trans e⟩
theorem LnI.grow (h:LnI w wr P op v acc) (o:Obj) (ho:w'.ownsRow (P+1) 3 1 v' (acc.length+1) (ivs acc++[.int .i64 n])) (hg:(wr.alloc o).grownBy w' v.ownBlock):
  Blk w' P 88 #[.int .i64 op,v]∧LnI w (w'.setCell ⟨P,1,none⟩ v') P op v' (acc++[n]):=by
 have hb:=(h.box.alloc o).grown' hg (fun e=>by have:=(h.own.lt _ e).1;omega)
 have hr:=(h.res.alloc o).grown' hg (fun e=>by have:=(h.own.lt _ e).1;have:=h.pb;omega)
 have he:Ext w w':=(h.ext.alloc o).grown hg (fun k hk=>by have:=(h.own.lt _ hk).1;have:=h.pb;omega)
 have hs:=grown_set w' P 1 v'
 refine⟨hb,⟨hr.grown' hs (fun e=>by injection e with e;have:=h.pb;omega),?_,?_,h.pb,he.setCell v' (Nat.le_of_lt h.pb)⟩⟩
 ·have:=hb.set_ 1 v'
  simpa using this
 ·have e1:(acc++[n]).length=acc.length+1:=by simp
  have e2:ivs (acc++[n])=ivs acc++[.int .i64 n]:=by simp[ivs]
  rw[e1,e2]
  exact own_grown ho hs (by omega)
theorem LnI.done (h:LnI w wr P op v acc) {W':World} (hg:wr.grownBy W' (some w.heap.size)):W'.ownsRow w.heap.size 3 1 v acc.length (ivs acc)∧Ext w W':=
 ⟨ownsRow_base (own_grown h.own hg (by have:=h.pb;omega)) (by have:=h.pb;omega),h.ext.grown hg (fun k hk=>Option.some.inj hk▸(Nat.le_refl _))⟩
end
def LineP (w:World) (g:Except Int R) (e:Ending) (w':World):Prop:=
 match g with
 |.ok (op,A)=> ∃v,e=.returned (.tuple #[.agg #[.int .i64 op,v],.int .i64 0])∧w'.ownsRow w.heap.size 3 1 v A.length (ivs A)∧Ext w w'
 |.error c=>e=.returned (.tuple #[.agg #[.int .i64 0,.slice none 0 0],.int .i64 c])∧Ext w w'
end Go.Proofs.YtplljnfjkkloeaaGreatDoor
set_option linter.unusedVariables false
set_option linter.unusedSimpArgs false
namespace Go.Proofs.YtplljnfjkkloeaaGreatDoor
open Go.RowKit
theorem frow_len {α:Type} {f:α→List Value} {K:Nat} (hK: ∀s,(f s).length=K) (l:List α):(l.flatMap f).length=l.length*K:=by
 induction l with
 |nil=>simp
 |cons s l ih=>rw[List.flatMap_cons,List.length_append,ih,hK,List.length_cons,Nat.succ_mul,Nat.add_comm]
theorem frow_get {α:Type} {f:α→List Value} {K:Nat} (hK: ∀s,(f s).length=K) {l:List α} {j:Nat} {s:α} (h:l[j]? =some s) (i:Nat) (hi:i<K):(l.flatMap f)[j*K+i]? =(f s)[i]? :=by
 induction l generalizing j with
 |nil=>simp at h
 |cons t l ih=>
  rw[List.flatMap_cons]
  cases j with
  |zero=>
   obtain rfl:t=s:=by simpa using h
   rw[Nat.zero_mul,Nat.zero_add,List.getElem?_append_left (by rw[hK];exact hi)]
  |succ j=>
   rw[List.getElem?_append_right (by rw[hK,Nat.succ_mul];omega),show(j+1)*K+i-(f t).length=j*K+i by rw[hK,Nat.succ_mul];omega]
   exact ih (by simpa using h)
theorem made_rows {α:Type} {f:α→List Value} {K:Nat} (hK: ∀s,(f s).length=K) (h0:0<K) (s:α) (z:Array Value) (hz:z.toList=f s) (n:Nat):(madeCells z (n*K)).toList=(List.replicate n s).flatMap f:=by
 have hzs:z.size=K:=by rw[←Array.length_toList,hz,hK]
 apply List.ext_getElem?
 intro i
 by_cases hi:i<n*K
 ·have h1:(List.replicate n s)[i/K]? =some s:=by
   rw[List.getElem?_replicate,if_pos (Nat.div_lt_of_lt_mul (by rw[Nat.mul_comm];exact hi))]
  have h2:=frow_get hK h1 (i%K) (Nat.mod_lt _ h0)
  rw[Nat.div_add_mod' i K]at h2
  have h3:i%K<z.size:=by rw[hzs];exact Nat.mod_lt _ h0
  rw[h2,←hz]
  simp only[madeCells,hzs,Array.getElem?_toList,Array.getElem?_map,Array.getElem?_range,hi,if_true,Option.map_some]
  rw[Array.getElem?_eq_getElem h3,getElem!_pos z (i%K) h3]
 ·rw[List.getElem?_eq_none (by rw[Array.length_toList,size_madeCells];omega),List.getElem?_eq_none (by rw[frow_len hK];simpa using hi)]
theorem make_own {P:Program} {α:Type} {f:α→List Value} {K bytes:Nat} (hK: ∀s,(f s).length=K) (h0:0<K) (s:α) (t e:TypeId) (z:Value) (ht:P.underlying t=some (.slice e)) (hinfo:(P.info? e).map (fun i=>(i.zero,i.size,i.bytes))=some (some z,K,bytes))
  (hz:z.cells.toList=f s)(n:Nat)(hb:(bytes:Int)*n≤281474976710656)(hm:n≤maxLen):
  ∃cur:Array Value,∀w:World,(Instr.makeSlice t (.int .i64 (n:Int)) (.int .i64 (n:Int))).run P w=.ok (.slice (some ⟨w.heap.size,0,none⟩) n n) (w.alloc (.cells cur e))∧
   ∀base,base≤w.heap.size→(w.alloc (.cells cur e)).ownsRow base e K (.slice (some ⟨w.heap.size,0,none⟩) n n) n ((List.replicate n s).flatMap f):=by
 obtain⟨i0,hi,hz0,hz1,hz2⟩:=info_parts hinfo
 refine⟨madeCells z.cells (n*K),fun w=>⟨?_,fun base hbase=>?_⟩⟩
 ·have h:=run_make (P:=P) w t e i0 _ ht hi hz0 .i64 .i64 (n:Int) (n:Int) (by omega) (Int.le_refl _) (by rw[hz2];exact hb) (by unfold maxLen at hm;omega)
  rw[hz1,show((n:Int)).toNat=n by omega]at h
  exact h
 ·rw[←made_rows hK h0 s z.cells hz n]
  exact World.ownsRow_lit w _ n hbase hm (size_madeCells _ _)
theorem flat_ivs (l:List Int):(l.flatMap fun x=>[Value.int .i64 x])=ivs l:=by
 induction l with
 |nil=>rfl
 |cons x l ih=>rw[List.flatMap_cons,ih];rfl
end Go.Proofs.YtplljnfjkkloeaaGreatDoor
