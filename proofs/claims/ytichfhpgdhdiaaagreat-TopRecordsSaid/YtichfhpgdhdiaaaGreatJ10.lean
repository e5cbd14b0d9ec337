/- The library's contracts by the kit's shelf, laid over this program (printed by wip/gen/genlays2.py) -/
import Derived.Shelf.Strings.BuilderK
import Derived.Shelf.Strings.OnBuilder
import Derived.Shelf.Strings.Repeat
import Derived.Shelf.Slices.Clone
import Derived.Test.YtichfhpgdhdiaaaGreatProg
import Derived.Test.YtichfhpgdhdiaaaGreatJ1
set_option maxRecDepth 100000
set_option maxHeartbeats 8000000
set_option linter.unusedVariables false
set_option linter.unusedSimpArgs false
open Go.Proofs.Tryz
namespace Go.Proofs.YtichfhpgdhdiaaaGreat
open Go.RowKit Go.Shelf
def MN:Go.Shelf.Ren:=⟨fun|99=>130|105=>87|156=>93|165=>131|166=>57|167=>142|169=>60|170=>132|206=>155|212=>129|240=>104|241=>156|263=>153|264=>154|276=>143|277=>168|n=>n,fun|0=>0|3=>3|4=>4|5=>5|9=>9|20=>20|31=>53|37=>120|46=>217|51=>244|53=>37|70=>119|72=>122|75=>125|76=>126|80=>133|109=>222|127=>186|146=>245|148=>247|164=>235|n=>n,fun|n=>n⟩
theorem VT:Go.Proofs.Lays.n166 prog MN:={
 mixed:=by kernel_rfl
 f166:=func57.trans (congrArg some gB )
 f240:=func104.trans (congrArg some gB )
 f276:=func143.trans (congrArg some gB )
 t0:=underlying0
 a0:=isAgg0
 z0:=sizeOf0
 v0:=zeroValue0
 t3:=underlying3
 a3:=isAgg3
 z3:=sizeOf3
 v3:=zeroValue3
 t4:=underlying4
 a4:=isAgg4
 z4:=sizeOf4
 v4:=zeroValue4
 t9:=underlying9
 a9:=isAgg9
 z9:=sizeOf9
 v9:=zeroValue9
 t20:=underlying20
 a20:=isAgg20
 z20:=sizeOf20
 v20:=zeroValue20
 t37:=underlying120
 a37:=isAgg120
 z37:=sizeOf120
 v37:=zeroValue120
 t70:=underlying119
 a70:=isAgg119
 z70:=sizeOf119
 v70:=zeroValue119
 t72:=underlying122
 a72:=isAgg122
 z72:=sizeOf122
 v72:=zeroValue122
 t75:=underlying125
 a75:=isAgg125
 z75:=sizeOf125
 v75:=zeroValue125
 t164:=underlying235
 a164:=isAgg235
 z164:=sizeOf235
 v164:=zeroValue235 }
theorem VU:Go.Proofs.Lays.n167 prog MN:={
 mixed:=by kernel_rfl
 f167:=func142.trans (congrArg some gB )
 f240:=func104.trans (congrArg some gB )
 f276:=func143.trans (congrArg some gB )
 t0:=underlying0
 a0:=isAgg0
 z0:=sizeOf0
 v0:=zeroValue0
 t4:=underlying4
 a4:=isAgg4
 z4:=sizeOf4
 v4:=zeroValue4
 t5:=underlying5
 a5:=isAgg5
 z5:=sizeOf5
 v5:=zeroValue5
 t9:=underlying9
 a9:=isAgg9
 z9:=sizeOf9
 v9:=zeroValue9
 t20:=underlying20
 a20:=isAgg20
 z20:=sizeOf20
 v20:=zeroValue20
 t37:=underlying120
 a37:=isAgg120
 z37:=sizeOf120
 v37:=zeroValue120
 t70:=underlying119
 a70:=isAgg119
 z70:=sizeOf119
 v70:=zeroValue119
 t72:=underlying122
 a72:=isAgg122
 z72:=sizeOf122
 v72:=zeroValue122
 t75:=underlying125
 a75:=isAgg125
 z75:=sizeOf125
 v75:=zeroValue125
 t164:=underlying235
 a164:=isAgg235
 z164:=sizeOf235
 v164:=zeroValue235 }
theorem VW:Go.Proofs.Lays.n169 prog MN:={
 mixed:=by kernel_rfl
 f169:=func60.trans (congrArg some gB )
 t0:=underlying0
 a0:=isAgg0
 z0:=sizeOf0
 v0:=zeroValue0
 t3:=underlying3
 a3:=isAgg3
 z3:=sizeOf3
 v3:=zeroValue3
 t9:=underlying9
 a9:=isAgg9
 z9:=sizeOf9
 v9:=zeroValue9
 t37:=underlying120
 a37:=isAgg120
 z37:=sizeOf120
 v37:=zeroValue120
 t70:=underlying119
 a70:=isAgg119
 z70:=sizeOf119
 v70:=zeroValue119
 t72:=underlying122
 a72:=isAgg122
 z72:=sizeOf122
 v72:=zeroValue122
 t127:=underlying186
 a127:=isAgg186
 z127:=sizeOf186
 v127:=zeroValue186 }
theorem VY:Go.Proofs.Lays.n105 prog MN:={
 mixed:=by kernel_rfl
 f99:=func130.trans (congrArg some gB )
 f105:=func87.trans (congrArg some gB )
 f165:=func131.trans (congrArg some gB )
 f166:=func57.trans (congrArg some gB )
 f169:=func60.trans (congrArg some gB )
 f170:=func132.trans (congrArg some gB )
 f206:=func155.trans (congrArg some gB )
 f212:=func129.trans (congrArg some gB )
 f240:=func104.trans (congrArg some gB )
 f241:=func156.trans (congrArg some gB )
 f263:=func153.trans (congrArg some gB )
 f264:=func154.trans (congrArg some gB )
 f276:=func143.trans (congrArg some gB )
 f277:=func168.trans (congrArg some gB )
 t0:=underlying0
 a0:=isAgg0
 z0:=sizeOf0
 v0:=zeroValue0
 t3:=underlying3
 a3:=isAgg3
 z3:=sizeOf3
 v3:=zeroValue3
 t4:=underlying4
 a4:=isAgg4
 z4:=sizeOf4
 v4:=zeroValue4
 t5:=underlying5
 a5:=isAgg5
 z5:=sizeOf5
 v5:=zeroValue5
 t9:=underlying9
 a9:=isAgg9
 z9:=sizeOf9
 v9:=zeroValue9
 t20:=underlying20
 a20:=isAgg20
 z20:=sizeOf20
 v20:=zeroValue20
 t37:=underlying120
 a37:=isAgg120
 z37:=sizeOf120
 v37:=zeroValue120
 t46:=underlying217
 a46:=isAgg217
 z46:=sizeOf217
 v46:=zeroValue217
 t51:=underlying244
 a51:=isAgg244
 z51:=sizeOf244
 v51:=zeroValue244
 t53:=underlying37
 a53:=isAgg37
 z53:=sizeOf37
 v53:=zeroValue37
 t70:=underlying119
 a70:=isAgg119
 z70:=sizeOf119
 v70:=zeroValue119
 t72:=underlying122
 a72:=isAgg122
 z72:=sizeOf122
 v72:=zeroValue122
 t75:=underlying125
 a75:=isAgg125
 z75:=sizeOf125
 v75:=zeroValue125
 t76:=underlying126
 a76:=isAgg126
 z76:=sizeOf126
 v76:=zeroValue126
 t109:=underlying222
 a109:=isAgg222
 z109:=sizeOf222
 v109:=zeroValue222
 t127:=underlying186
 a127:=isAgg186
 z127:=sizeOf186
 v127:=zeroValue186
 t146:=underlying245
 a146:=isAgg245
 z146:=sizeOf245
 v146:=zeroValue245
 t148:=underlying247
 a148:=isAgg247
 z148:=sizeOf247
 v148:=zeroValue247
 t164:=underlying235
 a164:=isAgg235
 z164:=sizeOf235
 v164:=zeroValue235 }
theorem Hr:Go.Proofs.Lays.n156 prog MN:={
 mixed:=by kernel_rfl
 f156:=func93.trans (congrArg some gB )
 f165:=func131.trans (congrArg some gB )
 f166:=func57.trans (congrArg some gB )
 f169:=func60.trans (congrArg some gB )
 f240:=func104.trans (congrArg some gB )
 f241:=func156.trans (congrArg some gB )
 f276:=func143.trans (congrArg some gB )
 f277:=func168.trans (congrArg some gB )
 t0:=underlying0
 a0:=isAgg0
 z0:=sizeOf0
 v0:=zeroValue0
 t3:=underlying3
 a3:=isAgg3
 z3:=sizeOf3
 v3:=zeroValue3
 t4:=underlying4
 a4:=isAgg4
 z4:=sizeOf4
 v4:=zeroValue4
 t9:=underlying9
 a9:=isAgg9
 z9:=sizeOf9
 v9:=zeroValue9
 t20:=underlying20
 a20:=isAgg20
 z20:=sizeOf20
 v20:=zeroValue20
 t31:=underlying53
 a31:=isAgg53
 z31:=sizeOf53
 v31:=zeroValue53
 t37:=underlying120
 a37:=isAgg120
 z37:=sizeOf120
 v37:=zeroValue120
 t70:=underlying119
 a70:=isAgg119
 z70:=sizeOf119
 v70:=zeroValue119
 t72:=underlying122
 a72:=isAgg122
 z72:=sizeOf122
 v72:=zeroValue122
 t75:=underlying125
 a75:=isAgg125
 z75:=sizeOf125
 v75:=zeroValue125
 t76:=underlying126
 a76:=isAgg126
 z76:=sizeOf126
 v76:=zeroValue126
 t127:=underlying186
 a127:=isAgg186
 z127:=sizeOf186
 v127:=zeroValue186
 t164:=underlying235
 a164:=isAgg235
 z164:=sizeOf235
 v164:=zeroValue235 }
theorem xS:Builder.Extra prog MN:={
 sizeBuilder:=by kernel_rfl
 liesBuilder:=by kernel_rfl
 t5:=underlying5
 a5:=isAgg5
 z5:=sizeOf5
 v5:=zeroValue5
 infoByte:=by kernel_rfl
 cellsByte:=by kernel_rfl
 sizeByte:=by kernel_rfl
 neB5:=by decide }
abbrev sH(B b:Nat)(l:List UInt8)(w:World):Prop:=Lib.IsBuilderF 122 5 B b (Lib.byteCells l) w
theorem qV(B b:Nat)(l:List UInt8)(s:ByteArray)(w:World)(h:sH B b l w)(hlen:l.length+s.size≤140737488355328)(hBw:B≤w.heap.size):
  Calls prog 57 #[.pointer (some ⟨b,0,none⟩),.string s] w fun e w'=>e=.returned (.tuple #[.int .i64 s.size,.nilIface])∧sH B b (l++s.data.toList) w'∧Below B w w'∧Lib.OthersKept 5 (some b) w w' :=
 (Any.Builder_WriteString_k VT xS B b _ s w h (by rw[Lib.byteCells_length];exact hlen) hBw).mono fun e w' ⟨h1,h2,h3,h4⟩=>⟨h1,by
  have e1:Lib.byteCells (l++s.data.toList)=Lib.byteCells l++Lib.strCells s:=by simp[Lib.byteCells,Lib.strCells]
  show Lib.IsBuilderF _ _ _ _ _ _;rw[e1];exact .inr h2,h3,h4⟩
theorem YT(B b:Nat)(l:List UInt8)(c:UInt8)(w:World)(h:sH B b l w)(hlen:l.length+1≤140737488355328)(hBw:B≤w.heap.size):
  Calls prog 142 #[.pointer (some ⟨b,0,none⟩),.int .u8 c.toNat] w fun e w'=>e=.returned .nilIface∧sH B b (l++[c]) w'∧Below B w w'∧Lib.OthersKept 5 (some b) w w' :=
 (Any.Builder_WriteByte_k VU xS B b _ c.toNat w h (by rw[Lib.byteCells_length];exact hlen) hBw).mono fun e w' ⟨h1,h2,h3,h4⟩=>⟨h1,by
  have e1:Lib.byteCells (l++[c])=Lib.byteCells l++[.int .u8 c.toNat]:=by simp[Lib.byteCells]
  show Lib.IsBuilderF _ _ _ _ _ _;rw[e1];exact .inr h2,h3,h4⟩
theorem tQ(B b:Nat)(l:List UInt8)(w:World)(h:sH B b l w)(hBw:B≤w.heap.size):
  Calls prog 60 #[.pointer (some ⟨b,0,none⟩)] w fun e w'=>e=.returned (.string ⟨l.toArray⟩)∧sH B b l w'∧Below B w w'∧Lib.OthersKept 5 (some b) w w' :=
 Any.Builder_String_any_k VW xS B b l w h hBw
theorem strings_Repeat(s:ByteArray)(c:Nat)(w:World)(hc:c≤9223372036854775807)(hlen:s.size*c≤140737488355328):
  Calls prog 87 #[.string s,.int .i64 c] w fun e w'=>e=.returned (.string ⟨(Lib.repeatL s.data.toList c).toArray⟩)∧Below w.heap.size w w':=Any.strings_Repeat VY xS s c w hc hlen
theorem strings_Join_none(a:Option Addr)(c:Nat)(sep:ByteArray)(w:World):
  Calls prog 93 #[.slice a 0 c,.string sep] w fun e w'=>e=.returned (.string ⟨#[]⟩)∧w'=w:=Any.strings_Join_none Hr xS a c sep w
theorem strings_Join_one(bk o c:Nat)(x sep:ByteArray)(w:World)(hc:w.cell? ⟨bk,o,none⟩=some (.string x)):
  Calls prog 93 #[.slice (some ⟨bk,o,none⟩) 1 c,.string sep] w fun e w'=>e=.returned (.string x)∧w'=w:=Any.strings_Join_one Hr xS bk o c x sep w hc
theorem strings_Join_many(bk o c:Nat)(xs:List ByteArray)(sep:ByteArray)(w:World)(hcells:∀(j:Nat) x,xs[j]?=some x→w.cell? ⟨bk,o+j,none⟩=some (.string x))(hbk:bk<w.heap.size)(h2:2≤xs.length)(hN:xs.length≤140737488355328)(hcap:xs.length≤c)(hlen:(Lib.join (xs.map (·.data.toList)) sep.data.toList).length≤140737488355328):
  Calls prog 93 #[.slice (some ⟨bk,o,none⟩) xs.length c,.string sep] w fun e w'=>e=.returned (.string ⟨(Lib.join (xs.map (·.data.toList)) sep.data.toList).toArray⟩)∧Below w.heap.size w w':=Any.strings_Join_many Hr xS bk o c xs sep w hcells hbk h2 hN hcap hlen
def aeO:Go.Shelf.Ren:=⟨fun|16=>92|n=>n,fun|24=>53|9=>9|4=>4|n=>n,fun|n=>n⟩
theorem PS:Go.Proofs.Lays2.n16 prog aeO:={
 mixed:=by kernel_rfl
 f16:=func92.trans (congrArg some gB )
 t4:=underlying4
 a4:=isAgg4
 z4:=sizeOf4
 v4:=zeroValue4
 t9:=underlying9
 a9:=isAgg9
 z9:=sizeOf9
 v9:=zeroValue9
 t24:=underlying53
 a24:=isAgg53
 z24:=sizeOf53
 v24:=zeroValue53
 i9:=by kernel_rfl }
theorem slices_Clone_string(b off n c:Nat)(zs:List ByteArray)(w:World)(hz:n≤zs.length)(hbig:n*16≤140737488355328)(hc:∀j,j<zs.length→w.cell? ⟨b,off+j,none⟩=some (.string (zs.getD j ByteArray.empty))):
  Calls prog 92 #[.slice (some ⟨b,off,none⟩) n c] w fun e w'=>∃v',e=.returned v'∧w'.ownsRow w.heap.size 9 1 v' n ((zs.take n).map (Value.string))∧v'≠.slice none 0 0∧Below w.heap.size w w':=Any.slices_Clone_string PS b off n c zs w hz hbig hc
end Go.Proofs.YtichfhpgdhdiaaaGreat
namespace Go.Proofs.YtichfhpgdhdiaaaGreat
open Go.RowKit Go.Shelf
theorem V7:Go.Proofs.Lays.n170 prog MN:={
 mixed:=by kernel_rfl
 f170:=func132.trans (congrArg some gB )
 t0:=underlying0
 a0:=isAgg0
 z0:=sizeOf0
 v0:=zeroValue0
 t3:=underlying3
 a3:=isAgg3
 z3:=sizeOf3
 v3:=zeroValue3
 t37:=underlying120
 a37:=isAgg120
 z37:=sizeOf120
 v37:=zeroValue120
 t70:=underlying119
 a70:=isAgg119
 z70:=sizeOf119
 v70:=zeroValue119
 t72:=underlying122
 a72:=isAgg122
 z72:=sizeOf122
 v72:=zeroValue122 }
theorem RH(B b:Nat)(l:List UInt8)(w:World)(h:sH B b l w):
  Calls prog 132 #[.pointer (some ⟨b,0,none⟩)] w fun e w'=>e=.returned (.int .i64 l.length)∧w'=w :=
 (Any.Builder_Len_f V7 B b _ w h).mono fun e w' ⟨h1,h2⟩=>⟨by rw[h1,Lib.byteCells_length],h2⟩
end Go.Proofs.YtichfhpgdhdiaaaGreat
namespace Go.Proofs.YtichfhpgdhdiaaaGreat
end Go.Proofs.YtichfhpgdhdiaaaGreat
