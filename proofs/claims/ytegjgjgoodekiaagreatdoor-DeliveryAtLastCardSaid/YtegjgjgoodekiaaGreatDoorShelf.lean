/- DERIVED: THE SHELF's CONTRACTS AT THIS DUMP, IN PLAIN WORDS (tools/lay-plain.mjs out of 'the shelf command.lean', which tools/lay-shelf.mjs wrote): THE SAME DECLARATIONS UNDER THE SAME NAMES: 'import', 'namespace', 'open', 'def', 'theorem' AND NOTHING ELSE: no command of the shelf's: FOR A HAND-IN. Each laying: the table of numbers ('.._ren') and one theorem, a field a fact of the dump's own or the kernel's comparison; each contract: ONE APPLICATION. -/
import Derived.Shelf.Strings.Builder1
import Derived.Shelf.Strings.Builder2
import Derived.Shelf.Strings.OnBuilder
import Derived.Shelf.Small.Utf8
import Derived.Shelf.Small.Strs
import Derived.Shelf.Small.Wraps
import Derived.Shelf.Strings.BuilderF
import Derived.Shelf.Strings.BuilderK
import Derived.Shelf.Strconv.Atoi
import Derived.Shelf.Strconv.Itoa0
import Derived.Shelf.Strconv.Itoa1
import Derived.Shelf.LaysM
import Derived.Shelf.Strconv.Itoa2
import Derived.Shelf.Strconv.Itoa3
import Derived.Shelf.Strings.Search1
import Derived.Shelf.Strings.Search2
import Derived.Shelf.Strings.Search3
import Derived.Shelf.Strings.Cut
import Derived.Shelf.Strings.Count
import Derived.Shelf.Strings.Shaped
import Derived.Shelf.Strings.Prefix
import Derived.Shelf.Strings.Split
import Derived.Shelf.Strings.SplitShaped
import Derived.Shelf.Strings.Runes
import Derived.Shelf.Strings.IndexAny
import Derived.Shelf.Strings.AsciiSet
import Derived.Shelf.Strings.IndexAnyAll
import Derived.Shelf.Bits.Mul64
import Derived.Shelf.Strings.Repeat
import Derived.Shelf.Unicode.DecodeSlow
import Derived.Shelf.Slices.Turned
import Derived.Shelf.Slices.Equal
import Derived.Ground.Names2Prog
import Derived.Shelf.Slices.Clone
import Derived.Test.YtegjgjgoodekiaaGreatDoorProg
namespace Go.Proofs
open Go.Shelf
def Tryz.lays170_ren:Go.Shelf.Ren:=⟨fun | 170=>79 | n=>n,fun | 70=>145 | 3=>3 | 0=>0 | 72=>147 | 37=>88 | 5=>5 | n=>n,fun | n=>n⟩
theorem Tryz.lays170:Go.Proofs.Lays.n170 Tryz.prog Tryz.lays170_ren:={
 mixed:=by kernel_rfl
 f170:=Tryz.func79.trans (congrArg some (by kernel_rfl))
 t0:=Tryz.underlying0
 a0:=Tryz.isAgg0
 z0:=Tryz.sizeOf0
 v0:=Tryz.zeroValue0
 t3:=Tryz.underlying3
 a3:=Tryz.isAgg3
 z3:=Tryz.sizeOf3
 v3:=Tryz.zeroValue3
 t37:=Tryz.underlying88
 a37:=Tryz.isAgg88
 z37:=Tryz.sizeOf88
 v37:=Tryz.zeroValue88
 t70:=Tryz.underlying145
 a70:=Tryz.isAgg145
 z70:=Tryz.sizeOf145
 v70:=Tryz.zeroValue145
 t72:=Tryz.underlying147
 a72:=Tryz.isAgg147
 z72:=Tryz.sizeOf147
 v72:=Tryz.zeroValue147 }
open Go.RowKit in
theorem Tryz.Builder_Len(B b:Nat)(A:List Value)(w:World)(h:Lib.IsBuilder 147 5 B b A w):
  Calls Tryz.prog 79 #[.pointer (some ⟨b,0,none⟩)] w fun e w'=>e=.returned (.int .i64 A.length)/\w'=w:=Any.Builder_Len Tryz.lays170 B b A w h
def Tryz.lays169_ren:Go.Shelf.Ren:=⟨fun | 169=>80 | n=>n,fun | 70=>145 | 9=>9 | 0=>0 | 72=>147 | 37=>88 | 127=>180 | 3=>3 | 5=>5 | n=>n,fun | n=>n⟩
theorem Tryz.lays169:Go.Proofs.Lays.n169 Tryz.prog Tryz.lays169_ren:={
 mixed:=by kernel_rfl
 f169:=Tryz.func80.trans (congrArg some (by kernel_rfl))
 t0:=Tryz.underlying0
 a0:=Tryz.isAgg0
 z0:=Tryz.sizeOf0
 v0:=Tryz.zeroValue0
 t3:=Tryz.underlying3
 a3:=Tryz.isAgg3
 z3:=Tryz.sizeOf3
 v3:=Tryz.zeroValue3
 t9:=Tryz.underlying9
 a9:=Tryz.isAgg9
 z9:=Tryz.sizeOf9
 v9:=Tryz.zeroValue9
 t37:=Tryz.underlying88
 a37:=Tryz.isAgg88
 z37:=Tryz.sizeOf88
 v37:=Tryz.zeroValue88
 t70:=Tryz.underlying145
 a70:=Tryz.isAgg145
 z70:=Tryz.sizeOf145
 v70:=Tryz.zeroValue145
 t72:=Tryz.underlying147
 a72:=Tryz.isAgg147
 z72:=Tryz.sizeOf147
 v72:=Tryz.zeroValue147
 t127:=Tryz.underlying180
 a127:=Tryz.isAgg180
 z127:=Tryz.sizeOf180
 v127:=Tryz.zeroValue180 }
theorem Tryz.Builder_Extra_169:Builder.Extra Tryz.prog Tryz.lays169_ren:={
 sizeBuilder:=by kernel_rfl
 liesBuilder:=by kernel_rfl
 t5:=Tryz.underlying5
 a5:=Tryz.isAgg5
 z5:=Tryz.sizeOf5
 v5:=Tryz.zeroValue5
 infoByte:=by kernel_rfl
 cellsByte:=by kernel_rfl
 sizeByte:=by kernel_rfl
 neB5:=by decide }
open Go.RowKit in
open Go.RowKit in
open Go.RowKit in
theorem Tryz.Builder_String_any(B b:Nat)(l:List UInt8)(w:World)(h:Lib.IsBuilder 147 5 B b (Lib.byteCells l) w)(A:B<=w.heap.size):
  Calls Tryz.prog 80 #[.pointer (some ⟨b,0,none⟩)] w fun e w'=>e=.returned (.string ⟨l.toArray⟩)/\Below B w w':=Any.Builder_String_any Tryz.lays169 Tryz.Builder_Extra_169 B b l w h A
open Go.RowKit in
open Go.RowKit in
def Tryz.lays156_ren:Go.Shelf.Ren:=⟨fun | 156=>138 | 165=>168 | 166=>77 | 169=>80 | 240=>111 | 241=>193 | 276=>143 | 277=>216 | n=>n,fun | 31=>98 | 9=>9 | 3=>3 | 4=>4 | 0=>0 | 20=>20 | 72=>147 | 76=>150 | 70=>145 | 37=>88 | 75=>149 | 127=>180 | 164=>205 | 5=>5 | 80=>152 | n=>n,fun | n=>n⟩
theorem Tryz.lays156:Go.Proofs.Lays.n156 Tryz.prog Tryz.lays156_ren:={
 mixed:=by kernel_rfl
 f156:=Tryz.func138.trans (congrArg some (by kernel_rfl))
 f165:=Tryz.func168.trans (congrArg some (by kernel_rfl))
 f166:=Tryz.func77.trans (congrArg some (by kernel_rfl))
 f169:=Tryz.func80.trans (congrArg some (by kernel_rfl))
 f240:=Tryz.func111.trans (congrArg some (by kernel_rfl))
 f241:=Tryz.func193.trans (congrArg some (by kernel_rfl))
 f276:=Tryz.func143.trans (congrArg some (by kernel_rfl))
 f277:=Tryz.func216.trans (congrArg some (by kernel_rfl))
 t0:=Tryz.underlying0
 a0:=Tryz.isAgg0
 z0:=Tryz.sizeOf0
 v0:=Tryz.zeroValue0
 t3:=Tryz.underlying3
 a3:=Tryz.isAgg3
 z3:=Tryz.sizeOf3
 v3:=Tryz.zeroValue3
 t4:=Tryz.underlying4
 a4:=Tryz.isAgg4
 z4:=Tryz.sizeOf4
 v4:=Tryz.zeroValue4
 t9:=Tryz.underlying9
 a9:=Tryz.isAgg9
 z9:=Tryz.sizeOf9
 v9:=Tryz.zeroValue9
 t20:=Tryz.underlying20
 a20:=Tryz.isAgg20
 z20:=Tryz.sizeOf20
 v20:=Tryz.zeroValue20
 t31:=Tryz.underlying98
 a31:=Tryz.isAgg98
 z31:=Tryz.sizeOf98
 v31:=Tryz.zeroValue98
 t37:=Tryz.underlying88
 a37:=Tryz.isAgg88
 z37:=Tryz.sizeOf88
 v37:=Tryz.zeroValue88
 t70:=Tryz.underlying145
 a70:=Tryz.isAgg145
 z70:=Tryz.sizeOf145
 v70:=Tryz.zeroValue145
 t72:=Tryz.underlying147
 a72:=Tryz.isAgg147
 z72:=Tryz.sizeOf147
 v72:=Tryz.zeroValue147
 t75:=Tryz.underlying149
 a75:=Tryz.isAgg149
 z75:=Tryz.sizeOf149
 v75:=Tryz.zeroValue149
 t76:=Tryz.underlying150
 a76:=Tryz.isAgg150
 z76:=Tryz.sizeOf150
 v76:=Tryz.zeroValue150
 t127:=Tryz.underlying180
 a127:=Tryz.isAgg180
 z127:=Tryz.sizeOf180
 v127:=Tryz.zeroValue180
 t164:=Tryz.underlying205
 a164:=Tryz.isAgg205
 z164:=Tryz.sizeOf205
 v164:=Tryz.zeroValue205 }
theorem Tryz.Builder_Extra_156:Builder.Extra Tryz.prog Tryz.lays156_ren:={
 sizeBuilder:=by kernel_rfl
 liesBuilder:=by kernel_rfl
 t5:=Tryz.underlying5
 a5:=Tryz.isAgg5
 z5:=Tryz.sizeOf5
 v5:=Tryz.zeroValue5
 infoByte:=by kernel_rfl
 cellsByte:=by kernel_rfl
 sizeByte:=by kernel_rfl
 neB5:=by decide }
open Go.RowKit in
theorem Tryz.strings_Join_none(a:Option Addr)(c:Nat)(A:ByteArray)(w:World):
  Calls Tryz.prog 138 #[.slice a 0 c,.string A] w fun e w'=>e=.returned (.string ⟨#[]⟩)/\w'=w:=Any.strings_Join_none Tryz.lays156 Tryz.Builder_Extra_156 a c A w
open Go.RowKit in
theorem Tryz.strings_Join(G o c:Nat)(xs:List ByteArray)(A:ByteArray)(w:World)(D: ∀(j:Nat) x,xs[j]?=some x->w.cell? ⟨G,o+j,none⟩=some (.string x))(H:G<w.heap.size)(J:xs.length<=140737488355328)(E:xs.length<=c)(F:(Lib.join (xs.map (·.data.toList)) A.data.toList).length<=140737488355328):
  Calls Tryz.prog 138 #[.slice (some ⟨G,o,none⟩) xs.length c,.string A] w fun e w'=>e=.returned (.string ⟨(Lib.join (xs.map (·.data.toList)) A.data.toList).toArray⟩)/\Below w.heap.size w w':=Any.strings_Join Tryz.lays156 Tryz.Builder_Extra_156 G o c xs A w D H J E F
def Tryz.lays119_ren:Go.Shelf.Ren:=⟨fun | 119=>180 | n=>n,fun | 21=>21 | 4=>4 | n=>n,fun | n=>n⟩
theorem Tryz.lays119:Go.Proofs.Lays.n119 Tryz.prog Tryz.lays119_ren:={
 mixed:=by kernel_rfl
 f119:=Tryz.func180.trans (congrArg some (by kernel_rfl))
 t4:=Tryz.underlying4
 a4:=Tryz.isAgg4
 z4:=Tryz.sizeOf4
 v4:=Tryz.zeroValue4
 t21:=Tryz.underlying21
 a21:=Tryz.isAgg21
 z21:=Tryz.sizeOf21
 v21:=Tryz.zeroValue21 }
theorem Tryz.utf8_ValidRune(r:Int)(w:World):
  Calls Tryz.prog 180 #[.int .i32 r] w fun e w'=>e=.returned (.bool (Lib.validRune r))/\w'=w:=Any.utf8_ValidRune Tryz.lays119 r w
open Go.RowKit in
def Tryz.lays106_ren:Go.Shelf.Ren:=⟨fun | 106=>115 | 213=>144 | 265=>173 | n=>n,fun | 9=>9 | 3=>3 | n=>n,fun | n=>n⟩
theorem Tryz.lays106:Go.Proofs.Lays.n106 Tryz.prog Tryz.lays106_ren:={
 mixed:=by kernel_rfl
 f106:=Tryz.func115.trans (congrArg some (by kernel_rfl))
 f213:=Tryz.func144.trans (congrArg some (by kernel_rfl))
 f265:=Tryz.func173.trans (congrArg some (by kernel_rfl))
 t3:=Tryz.underlying3
 a3:=Tryz.isAgg3
 z3:=Tryz.sizeOf3
 v3:=Tryz.zeroValue3
 t9:=Tryz.underlying9
 a9:=Tryz.isAgg9
 z9:=Tryz.sizeOf9
 v9:=Tryz.zeroValue9 }
open Go.RowKit in
theorem Tryz.strings_Compare(a b:ByteArray)(w:World):
  Calls Tryz.prog 115 #[.string a,.string b] w fun e w'=>e=.returned (.int .i64 (Lib.compareBytes a.data.toList b.data.toList))/\w'=w:=Any.strings_Compare Tryz.lays106 a b w
def Tryz.lays137_ren:Go.Shelf.Ren:=⟨fun | 137=>179 | 217=>201 | 266=>222 | n=>n,fun | 9=>9 | 5=>5 | 3=>3 | n=>n,fun | n=>n⟩
theorem Tryz.lays137:Go.Proofs.Lays.n137 Tryz.prog Tryz.lays137_ren:={
 mixed:=by kernel_rfl
 f137:=Tryz.func179.trans (congrArg some (by kernel_rfl))
 f217:=Tryz.func201.trans (congrArg some (by kernel_rfl))
 f266:=Tryz.func222.trans (congrArg some (by kernel_rfl))
 t3:=Tryz.underlying3
 a3:=Tryz.isAgg3
 z3:=Tryz.sizeOf3
 v3:=Tryz.zeroValue3
 t5:=Tryz.underlying5
 a5:=Tryz.isAgg5
 z5:=Tryz.sizeOf5
 v5:=Tryz.zeroValue5
 t9:=Tryz.underlying9
 a9:=Tryz.isAgg9
 z9:=Tryz.sizeOf9
 v9:=Tryz.zeroValue9 }
open Go.RowKit in
theorem Tryz.strings_IndexByte(s:ByteArray)(c:Int)(w:World):
  Calls Tryz.prog 179 #[.string s,.int .u8 c] w fun e w'=>e=.returned (.int .i64 (Lib.indexByte s.data.toList c.toNat.toUInt8))/\w'=w:=Any.strings_IndexByte Tryz.lays137 s c w
open Go.RowKit in
def Tryz.lays103_ren:Go.Shelf.Ren:=⟨fun | 103=>101 | 210=>127 | 206=>99 | n=>n,fun | 9=>9 | 4=>4 | 24=>139 | 3=>3 | n=>n,fun | n=>n⟩
theorem Tryz.lays103:Go.Proofs.Lays.n103 Tryz.prog Tryz.lays103_ren:={
 mixed:=by kernel_rfl
 f103:=Tryz.func101.trans (congrArg some (by kernel_rfl))
 f206:=Tryz.func99.trans (congrArg some (by kernel_rfl))
 f210:=Tryz.func127.trans (congrArg some (by kernel_rfl))
 t3:=Tryz.underlying3
 a3:=Tryz.isAgg3
 z3:=Tryz.sizeOf3
 v3:=Tryz.zeroValue3
 t4:=Tryz.underlying4
 a4:=Tryz.isAgg4
 z4:=Tryz.sizeOf4
 v4:=Tryz.zeroValue4
 t9:=Tryz.underlying9
 a9:=Tryz.isAgg9
 z9:=Tryz.sizeOf9
 v9:=Tryz.zeroValue9
 t24:=Tryz.underlying139
 a24:=Tryz.isAgg139
 z24:=Tryz.sizeOf139
 v24:=Tryz.zeroValue139 }
open Go.RowKit in
theorem Tryz.strings_CutPrefix(s p:ByteArray)(w:World):
  Calls Tryz.prog 101 #[.string s,.string p] w fun e w'=>e=.returned (.tuple #[.string ⟨(Lib.trimPrefix s.data.toList p.data.toList).toArray⟩,.bool (Lib.hasPrefix s.data.toList p.data.toList)])/\w'=w:=Any.strings_CutPrefix Tryz.lays103 s p w
open Go.RowKit in
def Tryz.lays104_ren:Go.Shelf.Ren:=⟨fun | 104=>95 | 211=>122 | 207=>147 | n=>n,fun | 9=>9 | 4=>4 | 24=>139 | 3=>3 | n=>n,fun | n=>n⟩
theorem Tryz.lays104:Go.Proofs.Lays.n104 Tryz.prog Tryz.lays104_ren:={
 mixed:=by kernel_rfl
 f104:=Tryz.func95.trans (congrArg some (by kernel_rfl))
 f207:=Tryz.func147.trans (congrArg some (by kernel_rfl))
 f211:=Tryz.func122.trans (congrArg some (by kernel_rfl))
 t3:=Tryz.underlying3
 a3:=Tryz.isAgg3
 z3:=Tryz.sizeOf3
 v3:=Tryz.zeroValue3
 t4:=Tryz.underlying4
 a4:=Tryz.isAgg4
 z4:=Tryz.sizeOf4
 v4:=Tryz.zeroValue4
 t9:=Tryz.underlying9
 a9:=Tryz.isAgg9
 z9:=Tryz.sizeOf9
 v9:=Tryz.zeroValue9
 t24:=Tryz.underlying139
 a24:=Tryz.isAgg139
 z24:=Tryz.sizeOf139
 v24:=Tryz.zeroValue139 }
open Go.RowKit in
theorem Tryz.strings_CutSuffix(s p:ByteArray)(w:World)(hs:s.size<=9223372036854775807):
  Calls Tryz.prog 95 #[.string s,.string p] w fun e w'=>e=.returned (.tuple #[.string ⟨(Lib.trimSuffix s.data.toList p.data.toList).toArray⟩,.bool (Lib.hasSuffix s.data.toList p.data.toList)])/\w'=w:=Any.strings_CutSuffix Tryz.lays104 s p w hs
open Go.RowKit in
open Go.RowKit in
open Go.RowKit in
open Go.RowKit in
open Go.RowKit in
open Go.RowKit in
open Go.RowKit in
open Go.RowKit in
open Go.RowKit in
open Go.RowKit in
def Tryz.lays172_ren:Go.Shelf.Ren:=⟨fun | 172=>100 | 244=>125 | 245=>126 | 247=>155 | 279=>156 | 280=>157 | 281=>158 | 282=>159 | 287=>183 | 316=>184 | 171=>109 | 205=>185 | 321=>203 | 322=>204 | 243=>139 | 246=>169 | 283=>194 | 284=>195 | 285=>196 | 286=>197 | 129=>215 | 317=>217 | 318=>218 | 319=>219 | 320=>220 | 337=>230 | 338=>231 | n=>n,fun | 9=>9 | 3=>3 | 75=>149 | 76=>150 | 4=>4 | 5=>5 | 167=>213 | 37=>88 | 0=>0 | 85=>214 | 2=>2 | 168=>216 | 53=>234 | 175=>235 | 46=>127 | 210=>238 | 127=>180 | 145=>252 | 143=>250 | 21=>21 | 171=>243 | 173=>246 | 212=>263 | 51=>181 | 20=>20 | 213=>264 | 232=>285 | 233=>286 | 80=>152 | n=>n,fun | 15=>1 | 16=>2 | 17=>4 | 18=>7 | 19=>8 | n=>n⟩
theorem Tryz.lays172:Go.Proofs.Lays.n172 Tryz.prog Tryz.lays172_ren:={
 mixed:=by kernel_rfl
 f129:=Tryz.func215.trans (congrArg some (by kernel_rfl))
 f171:=Tryz.func109.trans (congrArg some (by kernel_rfl))
 f172:=Tryz.func100.trans (congrArg some (by kernel_rfl))
 f205:=Tryz.func185.trans (congrArg some (by kernel_rfl))
 f243:=Tryz.func139.trans (congrArg some (by kernel_rfl))
 f244:=Tryz.func125.trans (congrArg some (by kernel_rfl))
 f245:=Tryz.func126.trans (congrArg some (by kernel_rfl))
 f246:=Tryz.func169.trans (congrArg some (by kernel_rfl))
 f247:=Tryz.func155.trans (congrArg some (by kernel_rfl))
 f279:=Tryz.func156.trans (congrArg some (by kernel_rfl))
 f280:=Tryz.func157.trans (congrArg some (by kernel_rfl))
 f281:=Tryz.func158.trans (congrArg some (by kernel_rfl))
 f282:=Tryz.func159.trans (congrArg some (by kernel_rfl))
 f283:=Tryz.func194.trans (congrArg some (by kernel_rfl))
 f284:=Tryz.func195.trans (congrArg some (by kernel_rfl))
 f285:=Tryz.func196.trans (congrArg some (by kernel_rfl))
 f286:=Tryz.func197.trans (congrArg some (by kernel_rfl))
 f287:=Tryz.func183.trans (congrArg some (by kernel_rfl))
 f316:=Tryz.func184.trans (congrArg some (by kernel_rfl))
 f317:=Tryz.func217.trans (congrArg some (by kernel_rfl))
 f318:=Tryz.func218.trans (congrArg some (by kernel_rfl))
 f319:=Tryz.func219.trans (congrArg some (by kernel_rfl))
 f320:=Tryz.func220.trans (congrArg some (by kernel_rfl))
 f321:=Tryz.func203.trans (congrArg some (by kernel_rfl))
 f322:=Tryz.func204.trans (congrArg some (by kernel_rfl))
 f337:=Tryz.func230.trans (congrArg some (by kernel_rfl))
 f338:=Tryz.func231.trans (congrArg some (by kernel_rfl))
 t0:=Tryz.underlying0
 a0:=Tryz.isAgg0
 z0:=Tryz.sizeOf0
 v0:=Tryz.zeroValue0
 t2:=Tryz.underlying2
 a2:=Tryz.isAgg2
 z2:=Tryz.sizeOf2
 v2:=Tryz.zeroValue2
 t3:=Tryz.underlying3
 a3:=Tryz.isAgg3
 z3:=Tryz.sizeOf3
 v3:=Tryz.zeroValue3
 t4:=Tryz.underlying4
 a4:=Tryz.isAgg4
 z4:=Tryz.sizeOf4
 v4:=Tryz.zeroValue4
 t5:=Tryz.underlying5
 a5:=Tryz.isAgg5
 z5:=Tryz.sizeOf5
 v5:=Tryz.zeroValue5
 t9:=Tryz.underlying9
 a9:=Tryz.isAgg9
 z9:=Tryz.sizeOf9
 v9:=Tryz.zeroValue9
 t20:=Tryz.underlying20
 a20:=Tryz.isAgg20
 z20:=Tryz.sizeOf20
 v20:=Tryz.zeroValue20
 t21:=Tryz.underlying21
 a21:=Tryz.isAgg21
 z21:=Tryz.sizeOf21
 v21:=Tryz.zeroValue21
 t37:=Tryz.underlying88
 a37:=Tryz.isAgg88
 z37:=Tryz.sizeOf88
 v37:=Tryz.zeroValue88
 t46:=Tryz.underlying127
 a46:=Tryz.isAgg127
 z46:=Tryz.sizeOf127
 v46:=Tryz.zeroValue127
 t51:=Tryz.underlying181
 a51:=Tryz.isAgg181
 z51:=Tryz.sizeOf181
 v51:=Tryz.zeroValue181
 t53:=Tryz.underlying234
 a53:=Tryz.isAgg234
 z53:=Tryz.sizeOf234
 v53:=Tryz.zeroValue234
 t75:=Tryz.underlying149
 a75:=Tryz.isAgg149
 z75:=Tryz.sizeOf149
 v75:=Tryz.zeroValue149
 t76:=Tryz.underlying150
 a76:=Tryz.isAgg150
 z76:=Tryz.sizeOf150
 v76:=Tryz.zeroValue150
 t85:=Tryz.underlying214
 a85:=Tryz.isAgg214
 z85:=Tryz.sizeOf214
 v85:=Tryz.zeroValue214
 t127:=Tryz.underlying180
 a127:=Tryz.isAgg180
 z127:=Tryz.sizeOf180
 v127:=Tryz.zeroValue180
 t143:=Tryz.underlying250
 a143:=Tryz.isAgg250
 z143:=Tryz.sizeOf250
 v143:=Tryz.zeroValue250
 t145:=Tryz.underlying252
 a145:=Tryz.isAgg252
 z145:=Tryz.sizeOf252
 v145:=Tryz.zeroValue252
 t167:=Tryz.underlying213
 a167:=Tryz.isAgg213
 z167:=Tryz.sizeOf213
 v167:=Tryz.zeroValue213
 t168:=Tryz.underlying216
 a168:=Tryz.isAgg216
 z168:=Tryz.sizeOf216
 v168:=Tryz.zeroValue216
 t171:=Tryz.underlying243
 a171:=Tryz.isAgg243
 z171:=Tryz.sizeOf243
 v171:=Tryz.zeroValue243
 t173:=Tryz.underlying246
 a173:=Tryz.isAgg246
 z173:=Tryz.sizeOf246
 v173:=Tryz.zeroValue246
 t175:=Tryz.underlying235
 a175:=Tryz.isAgg235
 z175:=Tryz.sizeOf235
 v175:=Tryz.zeroValue235
 t210:=Tryz.underlying238
 a210:=Tryz.isAgg238
 z210:=Tryz.sizeOf238
 v210:=Tryz.zeroValue238
 t212:=Tryz.underlying263
 a212:=Tryz.isAgg263
 z212:=Tryz.sizeOf263
 v212:=Tryz.zeroValue263
 t213:=Tryz.underlying264
 a213:=Tryz.isAgg264
 z213:=Tryz.sizeOf264
 t232:=Tryz.underlying285
 a232:=Tryz.isAgg285
 z232:=Tryz.sizeOf285
 v232:=Tryz.zeroValue285
 t233:=Tryz.underlying286
 a233:=Tryz.isAgg286
 z233:=Tryz.sizeOf286
 v233:=Tryz.zeroValue286
 g15:=by kernel_rfl
 g16:=by kernel_rfl
 g17:=by kernel_rfl
 g18:=by kernel_rfl
 g19:=by kernel_rfl }
open Go.RowKit in
theorem Tryz.strconv_Atoi(s:ByteArray)(n:Int)(hl:s.size<=18)(h:Lib.atoi s.data.toList=some n)(w:World):
  Calls Tryz.prog 100 #[.string s] w fun e w'=>e=.returned (.tuple #[.int .i64 n,.nilIface])/\ ∃t,w'=Lib.bytesWorld w 5 t:=Any.strconv_Atoi Tryz.lays172 s n hl h w
open Go.Lib in
open Go.Lib in
open Go.Lib in
open Go.RowKit Go.Sort Go.Lib in
open Go.RowKit Go.Sort Go.Lib in
open Go.RowKit Go.Sort Go.Lib in
def Tryz.laysM171_ren:Go.Shelf.Ren:=⟨fun | 171=>109 | 243=>139 | 246=>169 | 283=>194 | 284=>195 | 285=>196 | 286=>197 | 129=>215 | 317=>217 | 318=>218 | 319=>219 | 320=>220 | 337=>230 | 338=>231 | n=>n,fun | 3=>3 | 9=>9 | 2=>2 | 4=>4 | 171=>243 | 0=>0 | 53=>234 | 37=>88 | 5=>5 | 173=>246 | 212=>263 | 51=>181 | 20=>20 | 213=>264 | 46=>127 | 232=>285 | 233=>286 | n=>n,fun | 17=>4 | 18=>7 | 19=>8 | n=>n⟩
theorem Tryz.laysM171:Go.Proofs.LaysM.n171 Tryz.prog Tryz.laysM171_ren:={
 mixed:=by kernel_rfl
 f129:=Tryz.func215.trans (congrArg some (by kernel_rfl))
 f171:=Tryz.func109.trans (congrArg some (by kernel_rfl))
 f243:=Tryz.func139.trans (congrArg some (by kernel_rfl))
 f246:=Tryz.func169.trans (congrArg some (by kernel_rfl))
 f283:=Tryz.func194.trans (congrArg some (by kernel_rfl))
 f284:=Tryz.func195.trans (congrArg some (by kernel_rfl))
 f285:=Tryz.func196.trans (congrArg some (by kernel_rfl))
 f286:=Tryz.func197.trans (congrArg some (by kernel_rfl))
 f317:=Tryz.func217.trans (congrArg some (by kernel_rfl))
 f318:=Tryz.func218.trans (congrArg some (by kernel_rfl))
 f319:=Tryz.func219.trans (congrArg some (by kernel_rfl))
 f320:=Tryz.func220.trans (congrArg some (by kernel_rfl))
 f337:=Tryz.func230.trans (congrArg some (by kernel_rfl))
 f338:=Tryz.func231.trans (congrArg some (by kernel_rfl))
 t0:=Tryz.underlying0
 a0:=Tryz.isAgg0
 z0:=Tryz.sizeOf0
 v0:=Tryz.zeroValue0
 t2:=Tryz.underlying2
 a2:=Tryz.isAgg2
 z2:=Tryz.sizeOf2
 v2:=Tryz.zeroValue2
 t3:=Tryz.underlying3
 a3:=Tryz.isAgg3
 z3:=Tryz.sizeOf3
 v3:=Tryz.zeroValue3
 t4:=Tryz.underlying4
 a4:=Tryz.isAgg4
 z4:=Tryz.sizeOf4
 v4:=Tryz.zeroValue4
 t5:=Tryz.underlying5
 a5:=Tryz.isAgg5
 z5:=Tryz.sizeOf5
 v5:=Tryz.zeroValue5
 t9:=Tryz.underlying9
 a9:=Tryz.isAgg9
 z9:=Tryz.sizeOf9
 v9:=Tryz.zeroValue9
 t20:=Tryz.underlying20
 a20:=Tryz.isAgg20
 z20:=Tryz.sizeOf20
 v20:=Tryz.zeroValue20
 t37:=Tryz.underlying88
 a37:=Tryz.isAgg88
 z37:=Tryz.sizeOf88
 v37:=Tryz.zeroValue88
 t46:=Tryz.underlying127
 a46:=Tryz.isAgg127
 z46:=Tryz.sizeOf127
 v46:=Tryz.zeroValue127
 t51:=Tryz.underlying181
 a51:=Tryz.isAgg181
 z51:=Tryz.sizeOf181
 v51:=Tryz.zeroValue181
 t53:=Tryz.underlying234
 a53:=Tryz.isAgg234
 z53:=Tryz.sizeOf234
 v53:=Tryz.zeroValue234
 t171:=Tryz.underlying243
 a171:=Tryz.isAgg243
 z171:=Tryz.sizeOf243
 v171:=Tryz.zeroValue243
 t173:=Tryz.underlying246
 a173:=Tryz.isAgg246
 z173:=Tryz.sizeOf246
 v173:=Tryz.zeroValue246
 t212:=Tryz.underlying263
 a212:=Tryz.isAgg263
 z212:=Tryz.sizeOf263
 v212:=Tryz.zeroValue263
 t213:=Tryz.underlying264
 a213:=Tryz.isAgg264
 z213:=Tryz.sizeOf264
 t232:=Tryz.underlying285
 a232:=Tryz.isAgg285
 z232:=Tryz.sizeOf285
 v232:=Tryz.zeroValue285
 t233:=Tryz.underlying286
 a233:=Tryz.isAgg286
 z233:=Tryz.sizeOf286
 v233:=Tryz.zeroValue286
 g17:=by kernel_rfl
 g18:=by kernel_rfl
 g19:=by kernel_rfl
 i0:=by kernel_rfl
 i2:=by kernel_rfl
 i3:=by kernel_rfl
 i4:=by kernel_rfl
 i5:=by kernel_rfl
 i9:=by kernel_rfl
 i20:=by kernel_rfl
 i37:=by kernel_rfl
 i46:=by kernel_rfl
 i51:=by kernel_rfl
 i53:=by kernel_rfl
 i171:=by kernel_rfl
 i173:=by kernel_rfl
 i212:=by kernel_rfl
 i232:=by kernel_rfl
 i233:=by kernel_rfl
 m17:=by kernel_rfl
 m18:=by kernel_rfl
 m19:=by kernel_rfl }
def Tryz.lays171_ren:Go.Shelf.Ren:=⟨fun | 171=>109 | 243=>139 | 246=>169 | 283=>194 | 284=>195 | 285=>196 | 286=>197 | 129=>215 | 317=>217 | 318=>218 | 319=>219 | 320=>220 | 337=>230 | 338=>231 | n=>n,fun | 3=>3 | 9=>9 | 2=>2 | 4=>4 | 171=>243 | 0=>0 | 53=>234 | 37=>88 | 5=>5 | 173=>246 | 212=>263 | 51=>181 | 20=>20 | 213=>264 | 46=>127 | 232=>285 | 233=>286 | n=>n,fun | 17=>4 | 18=>7 | 19=>8 | n=>n⟩
theorem Tryz.lays171:Go.Proofs.Lays.n171 Tryz.prog Tryz.lays171_ren:={
 mixed:=by kernel_rfl
 f129:=Tryz.func215.trans (congrArg some (by kernel_rfl))
 f171:=Tryz.func109.trans (congrArg some (by kernel_rfl))
 f243:=Tryz.func139.trans (congrArg some (by kernel_rfl))
 f246:=Tryz.func169.trans (congrArg some (by kernel_rfl))
 f283:=Tryz.func194.trans (congrArg some (by kernel_rfl))
 f284:=Tryz.func195.trans (congrArg some (by kernel_rfl))
 f285:=Tryz.func196.trans (congrArg some (by kernel_rfl))
 f286:=Tryz.func197.trans (congrArg some (by kernel_rfl))
 f317:=Tryz.func217.trans (congrArg some (by kernel_rfl))
 f318:=Tryz.func218.trans (congrArg some (by kernel_rfl))
 f319:=Tryz.func219.trans (congrArg some (by kernel_rfl))
 f320:=Tryz.func220.trans (congrArg some (by kernel_rfl))
 f337:=Tryz.func230.trans (congrArg some (by kernel_rfl))
 f338:=Tryz.func231.trans (congrArg some (by kernel_rfl))
 t0:=Tryz.underlying0
 a0:=Tryz.isAgg0
 z0:=Tryz.sizeOf0
 v0:=Tryz.zeroValue0
 t2:=Tryz.underlying2
 a2:=Tryz.isAgg2
 z2:=Tryz.sizeOf2
 v2:=Tryz.zeroValue2
 t3:=Tryz.underlying3
 a3:=Tryz.isAgg3
 z3:=Tryz.sizeOf3
 v3:=Tryz.zeroValue3
 t4:=Tryz.underlying4
 a4:=Tryz.isAgg4
 z4:=Tryz.sizeOf4
 v4:=Tryz.zeroValue4
 t5:=Tryz.underlying5
 a5:=Tryz.isAgg5
 z5:=Tryz.sizeOf5
 v5:=Tryz.zeroValue5
 t9:=Tryz.underlying9
 a9:=Tryz.isAgg9
 z9:=Tryz.sizeOf9
 v9:=Tryz.zeroValue9
 t20:=Tryz.underlying20
 a20:=Tryz.isAgg20
 z20:=Tryz.sizeOf20
 v20:=Tryz.zeroValue20
 t37:=Tryz.underlying88
 a37:=Tryz.isAgg88
 z37:=Tryz.sizeOf88
 v37:=Tryz.zeroValue88
 t46:=Tryz.underlying127
 a46:=Tryz.isAgg127
 z46:=Tryz.sizeOf127
 v46:=Tryz.zeroValue127
 t51:=Tryz.underlying181
 a51:=Tryz.isAgg181
 z51:=Tryz.sizeOf181
 v51:=Tryz.zeroValue181
 t53:=Tryz.underlying234
 a53:=Tryz.isAgg234
 z53:=Tryz.sizeOf234
 v53:=Tryz.zeroValue234
 t171:=Tryz.underlying243
 a171:=Tryz.isAgg243
 z171:=Tryz.sizeOf243
 v171:=Tryz.zeroValue243
 t173:=Tryz.underlying246
 a173:=Tryz.isAgg246
 z173:=Tryz.sizeOf246
 v173:=Tryz.zeroValue246
 t212:=Tryz.underlying263
 a212:=Tryz.isAgg263
 z212:=Tryz.sizeOf263
 v212:=Tryz.zeroValue263
 t213:=Tryz.underlying264
 a213:=Tryz.isAgg264
 z213:=Tryz.sizeOf264
 t232:=Tryz.underlying285
 a232:=Tryz.isAgg285
 z232:=Tryz.sizeOf285
 v232:=Tryz.zeroValue285
 t233:=Tryz.underlying286
 a233:=Tryz.isAgg286
 z233:=Tryz.sizeOf286
 v233:=Tryz.zeroValue286
 g17:=by kernel_rfl
 g18:=by kernel_rfl
 g19:=by kernel_rfl }
open Go.RowKit Go.Sort Go.Lib in
theorem Tryz.strconv_Itoa_small(i:Nat)(hi:i<100)(w:World):
  Calls Tryz.prog 109 #[.int .i64 i] w fun e w'=>e=.returned (.string ⟨(Lib.decDigits i).toArray⟩)/\w'=w:=Any.strconv_Itoa_small Tryz.lays171 i hi w
open Go.RowKit Go.Lib in
open Go.RowKit Go.Lib in
open Go.RowKit Go.Lib in
open Go.RowKit Go.Lib in
def Tryz.lays219_ren:Go.Shelf.Ren:=⟨fun | 219=>178 | 217=>201 | 225=>182 | 224=>181 | 267=>202 | 266=>222 | 314=>223 | n=>n,fun | 9=>9 | 3=>3 | 4=>4 | 5=>5 | 46=>127 | 146=>271 | 51=>181 | n=>n,fun | 1=>0 | n=>n⟩
theorem Tryz.lays219:Go.Proofs.Lays.n219 Tryz.prog Tryz.lays219_ren:={
 mixed:=by kernel_rfl
 f217:=Tryz.func201.trans (congrArg some (by kernel_rfl))
 f219:=Tryz.func178.trans (congrArg some (by kernel_rfl))
 f224:=Tryz.func181.trans (congrArg some (by kernel_rfl))
 f225:=Tryz.func182.trans (congrArg some (by kernel_rfl))
 f266:=Tryz.func222.trans (congrArg some (by kernel_rfl))
 f267:=Tryz.func202.trans (congrArg some (by kernel_rfl))
 f314:=Tryz.func223.trans (congrArg some (by kernel_rfl))
 t3:=Tryz.underlying3
 a3:=Tryz.isAgg3
 z3:=Tryz.sizeOf3
 v3:=Tryz.zeroValue3
 t4:=Tryz.underlying4
 a4:=Tryz.isAgg4
 z4:=Tryz.sizeOf4
 v4:=Tryz.zeroValue4
 t5:=Tryz.underlying5
 a5:=Tryz.isAgg5
 z5:=Tryz.sizeOf5
 v5:=Tryz.zeroValue5
 t9:=Tryz.underlying9
 a9:=Tryz.isAgg9
 z9:=Tryz.sizeOf9
 v9:=Tryz.zeroValue9
 t46:=Tryz.underlying127
 a46:=Tryz.isAgg127
 z46:=Tryz.sizeOf127
 v46:=Tryz.zeroValue127
 t51:=Tryz.underlying181
 a51:=Tryz.isAgg181
 z51:=Tryz.sizeOf181
 v51:=Tryz.zeroValue181
 t146:=Tryz.underlying271
 a146:=Tryz.isAgg271
 z146:=Tryz.sizeOf271
 v146:=Tryz.zeroValue271
 g1:=by kernel_rfl }
open Go.RowKit Go.Lib in
theorem Tryz.stringslite_Index_one(s:ByteArray)(c:UInt8)(w:World):
  Calls Tryz.prog 178 #[.string s,.string ⟨#[c]⟩] w fun e w'=>e=.returned (.int .i64 (Lib.indexByte s.data.toList c))/\w'=w:=Any.stringslite_Index_one Tryz.lays219 s c w
open Go.RowKit Go.Lib in
open Go.RowKit Go.Lib in
open Go.RowKit Go.Lib in
open Go.RowKit Go.Lib in
open Go.RowKit Go.Lib in
open Go.RowKit Go.Lib in
open Go.RowKit Go.Lib in
open Go.RowKit Go.Lib in
open Go.RowKit Go.Lib in
open Go.RowKit Go.Lib in
open Go.RowKit Go.Lib in
open Go.RowKit Go.Lib in
open Go.RowKit Go.Lib in
def Tryz.lays99_ren:Go.Shelf.Ren:=⟨fun | 99=>69 | 206=>99 | n=>n,fun | 9=>9 | 4=>4 | 3=>3 | n=>n,fun | n=>n⟩
theorem Tryz.lays99:Go.Proofs.Lays.n99 Tryz.prog Tryz.lays99_ren:={
 mixed:=by kernel_rfl
 f99:=Tryz.func69.trans (congrArg some (by kernel_rfl))
 f206:=Tryz.func99.trans (congrArg some (by kernel_rfl))
 t3:=Tryz.underlying3
 a3:=Tryz.isAgg3
 z3:=Tryz.sizeOf3
 v3:=Tryz.zeroValue3
 t4:=Tryz.underlying4
 a4:=Tryz.isAgg4
 z4:=Tryz.sizeOf4
 v4:=Tryz.zeroValue4
 t9:=Tryz.underlying9
 a9:=Tryz.isAgg9
 z9:=Tryz.sizeOf9
 v9:=Tryz.zeroValue9 }
open Go.RowKit Go.Lib in
theorem Tryz.strings_HasPrefix(s p:ByteArray)(w:World):
  Calls Tryz.prog 69 #[.string s,.string p] w fun e w'=>e=.returned (.bool (Lib.hasPrefix s.data.toList p.data.toList))/\w'=w:=Any.strings_HasPrefix Tryz.lays99 s p w
open Go.RowKit Go.Lib in
open Go.RowKit Go.Lib in
def Tryz.lays102_ren:Go.Shelf.Ren:=⟨fun | 102=>103 | 209=>129 | 207=>147 | n=>n,fun | 9=>9 | 4=>4 | 3=>3 | n=>n,fun | n=>n⟩
theorem Tryz.lays102:Go.Proofs.Lays.n102 Tryz.prog Tryz.lays102_ren:={
 mixed:=by kernel_rfl
 f102:=Tryz.func103.trans (congrArg some (by kernel_rfl))
 f207:=Tryz.func147.trans (congrArg some (by kernel_rfl))
 f209:=Tryz.func129.trans (congrArg some (by kernel_rfl))
 t3:=Tryz.underlying3
 a3:=Tryz.isAgg3
 z3:=Tryz.sizeOf3
 v3:=Tryz.zeroValue3
 t4:=Tryz.underlying4
 a4:=Tryz.isAgg4
 z4:=Tryz.sizeOf4
 v4:=Tryz.zeroValue4
 t9:=Tryz.underlying9
 a9:=Tryz.isAgg9
 z9:=Tryz.sizeOf9
 v9:=Tryz.zeroValue9 }
open Go.RowKit Go.Lib in
theorem Tryz.strings_TrimSuffix(s p:ByteArray)(w:World)(hs:s.size<=9223372036854775807):
  Calls Tryz.prog 103 #[.string s,.string p] w fun e w'=>e=.returned (.string ⟨(Lib.trimSuffix s.data.toList p.data.toList).toArray⟩)/\w'=w:=Any.strings_TrimSuffix Tryz.lays102 s p w hs
open Go.RowKit Go.Lib in
open Go.RowKit Go.Lib in
def Tryz.lays146_ren:Go.Shelf.Ren:=⟨fun | 146=>96 | 221=>123 | 268=>148 | 138=>149 | 143=>150 | 195=>175 | 197=>176 | 218=>177 | 219=>178 | 260=>200 | 217=>201 | 225=>182 | 224=>181 | 267=>202 | 266=>222 | 314=>223 | n=>n,fun | 9=>9 | 31=>98 | 3=>3 | 4=>4 | 0=>0 | 105=>229 | 21=>21 | 5=>5 | 46=>127 | 119=>267 | 139=>270 | 138=>269 | 146=>271 | 51=>181 | n=>n,fun | 1=>0 | 3=>5 | 4=>6 | n=>n⟩
theorem Tryz.lays146:Go.Proofs.Lays.n146 Tryz.prog Tryz.lays146_ren:={
 mixed:=by kernel_rfl
 f138:=Tryz.func149.trans (congrArg some (by kernel_rfl))
 f143:=Tryz.func150.trans (congrArg some (by kernel_rfl))
 f146:=Tryz.func96.trans (congrArg some (by kernel_rfl))
 f195:=Tryz.func175.trans (congrArg some (by kernel_rfl))
 f197:=Tryz.func176.trans (congrArg some (by kernel_rfl))
 f217:=Tryz.func201.trans (congrArg some (by kernel_rfl))
 f218:=Tryz.func177.trans (congrArg some (by kernel_rfl))
 f219:=Tryz.func178.trans (congrArg some (by kernel_rfl))
 f221:=Tryz.func123.trans (congrArg some (by kernel_rfl))
 f224:=Tryz.func181.trans (congrArg some (by kernel_rfl))
 f225:=Tryz.func182.trans (congrArg some (by kernel_rfl))
 f260:=Tryz.func200.trans (congrArg some (by kernel_rfl))
 f266:=Tryz.func222.trans (congrArg some (by kernel_rfl))
 f267:=Tryz.func202.trans (congrArg some (by kernel_rfl))
 f268:=Tryz.func148.trans (congrArg some (by kernel_rfl))
 f314:=Tryz.func223.trans (congrArg some (by kernel_rfl))
 t0:=Tryz.underlying0
 a0:=Tryz.isAgg0
 z0:=Tryz.sizeOf0
 v0:=Tryz.zeroValue0
 t3:=Tryz.underlying3
 a3:=Tryz.isAgg3
 z3:=Tryz.sizeOf3
 v3:=Tryz.zeroValue3
 t4:=Tryz.underlying4
 a4:=Tryz.isAgg4
 z4:=Tryz.sizeOf4
 v4:=Tryz.zeroValue4
 t5:=Tryz.underlying5
 a5:=Tryz.isAgg5
 z5:=Tryz.sizeOf5
 v5:=Tryz.zeroValue5
 t9:=Tryz.underlying9
 a9:=Tryz.isAgg9
 z9:=Tryz.sizeOf9
 v9:=Tryz.zeroValue9
 t21:=Tryz.underlying21
 a21:=Tryz.isAgg21
 z21:=Tryz.sizeOf21
 v21:=Tryz.zeroValue21
 t31:=Tryz.underlying98
 a31:=Tryz.isAgg98
 z31:=Tryz.sizeOf98
 v31:=Tryz.zeroValue98
 t46:=Tryz.underlying127
 a46:=Tryz.isAgg127
 z46:=Tryz.sizeOf127
 v46:=Tryz.zeroValue127
 t51:=Tryz.underlying181
 a51:=Tryz.isAgg181
 z51:=Tryz.sizeOf181
 v51:=Tryz.zeroValue181
 t105:=Tryz.underlying229
 a105:=Tryz.isAgg229
 z105:=Tryz.sizeOf229
 v105:=Tryz.zeroValue229
 t119:=Tryz.underlying267
 a119:=Tryz.isAgg267
 z119:=Tryz.sizeOf267
 t138:=Tryz.underlying269
 a138:=Tryz.isAgg269
 z138:=Tryz.sizeOf269
 v138:=Tryz.zeroValue269
 t139:=Tryz.underlying270
 a139:=Tryz.isAgg270
 z139:=Tryz.sizeOf270
 v139:=Tryz.zeroValue270
 t146:=Tryz.underlying271
 a146:=Tryz.isAgg271
 z146:=Tryz.sizeOf271
 v146:=Tryz.zeroValue271
 g1:=by kernel_rfl
 g3:=by kernel_rfl
 g4:=by kernel_rfl }
open Go.RowKit Go.Lib in
theorem Tryz.strings_Split(s A:ByteArray)(m:Int)(w:World)(hs:s.size<4294967281)(hm:w.cell? ⟨0,0,none⟩=some (.int .i64 m))(D:1<=A.size):
  Calls Tryz.prog 96 #[.string s,.string A] w fun e w'=>
   e=.returned (.slice (some ⟨w.heap.size,0,none⟩) (Lib.countB s A+1) (Lib.countB s A+1))/\w'=w.alloc (.cells ((Lib.splitB A 0 (Lib.countB s A) s).map Value.string).toArray 9):=Any.strings_Split Tryz.lays146 (by kernel_rfl) s A m w hs hm D
open Go.RowKit Go.Lib in
def Tryz.lays152_ren:Go.Shelf.Ren:=⟨fun | 152=>151 | 137=>179 | 119=>180 | 224=>181 | 225=>182 | 217=>201 | 266=>222 | n=>n,fun | 9=>9 | 21=>21 | 3=>3 | 4=>4 | 5=>5 | 0=>0 | 46=>127 | n=>n,fun | n=>n⟩
theorem Tryz.lays152:Go.Proofs.Lays.n152 Tryz.prog Tryz.lays152_ren:={
 mixed:=by kernel_rfl
 f119:=Tryz.func180.trans (congrArg some (by kernel_rfl))
 f137:=Tryz.func179.trans (congrArg some (by kernel_rfl))
 f152:=Tryz.func151.trans (congrArg some (by kernel_rfl))
 f217:=Tryz.func201.trans (congrArg some (by kernel_rfl))
 f224:=Tryz.func181.trans (congrArg some (by kernel_rfl))
 f225:=Tryz.func182.trans (congrArg some (by kernel_rfl))
 f266:=Tryz.func222.trans (congrArg some (by kernel_rfl))
 t0:=Tryz.underlying0
 a0:=Tryz.isAgg0
 z0:=Tryz.sizeOf0
 v0:=Tryz.zeroValue0
 t3:=Tryz.underlying3
 a3:=Tryz.isAgg3
 z3:=Tryz.sizeOf3
 v3:=Tryz.zeroValue3
 t4:=Tryz.underlying4
 a4:=Tryz.isAgg4
 z4:=Tryz.sizeOf4
 v4:=Tryz.zeroValue4
 t5:=Tryz.underlying5
 a5:=Tryz.isAgg5
 z5:=Tryz.sizeOf5
 v5:=Tryz.zeroValue5
 t9:=Tryz.underlying9
 a9:=Tryz.isAgg9
 z9:=Tryz.sizeOf9
 v9:=Tryz.zeroValue9
 t21:=Tryz.underlying21
 a21:=Tryz.isAgg21
 z21:=Tryz.sizeOf21
 v21:=Tryz.zeroValue21
 t46:=Tryz.underlying127
 a46:=Tryz.isAgg127
 z46:=Tryz.sizeOf127
 v46:=Tryz.zeroValue127 }
open Go.RowKit Go.Lib in
theorem Tryz.strings_IndexRune_ascii(s:ByteArray)(r:Int)(w:World)(D:0<=r)(A:r<128):
  Calls Tryz.prog 151 #[.string s,.int .i32 r] w fun e w'=>e=.returned (.int .i64 (Lib.indexByte s.data.toList r.toNat.toUInt8))/\w'=w:=Any.strings_IndexRune_ascii Tryz.lays152 s r w D A
def Tryz.lays226_ren:Go.Shelf.Ren:=⟨fun | 226=>152 | n=>n,fun | 3=>3 | 4=>4 | n=>n,fun | n=>n⟩
theorem Tryz.lays226:Go.Proofs.Lays.n226 Tryz.prog Tryz.lays226_ren:={
 mixed:=by kernel_rfl
 f226:=Tryz.func152.trans (congrArg some (by kernel_rfl))
 t3:=Tryz.underlying3
 a3:=Tryz.isAgg3
 z3:=Tryz.sizeOf3
 v3:=Tryz.zeroValue3
 t4:=Tryz.underlying4
 a4:=Tryz.isAgg4
 z4:=Tryz.sizeOf4
 v4:=Tryz.zeroValue4 }
open Go.RowKit Go.Lib in
theorem Tryz.strings_shouldUseASCIISet(n:Int)(w:World):
  Calls Tryz.prog 152 #[.int .i64 n] w fun e w'=>e=.returned (.bool (decide (8<n)))/\w'=w:=Any.strings_shouldUseASCIISet Tryz.lays226 n w
def Tryz.lays153_ren:Go.Shelf.Ren:=⟨fun | 153=>124 | 152=>151 | 226=>152 | 227=>153 | 228=>154 | 137=>179 | 119=>180 | 224=>181 | 225=>182 | 217=>201 | 266=>222 | n=>n,fun | 9=>9 | 3=>3 | 4=>4 | 5=>5 | 21=>21 | 117=>211 | 116=>210 | 0=>0 | 46=>127 | 124=>233 | n=>n,fun | n=>n⟩
theorem Tryz.lays153:Go.Proofs.Lays.n153 Tryz.prog Tryz.lays153_ren:={
 mixed:=by kernel_rfl
 f119:=Tryz.func180.trans (congrArg some (by kernel_rfl))
 f137:=Tryz.func179.trans (congrArg some (by kernel_rfl))
 f152:=Tryz.func151.trans (congrArg some (by kernel_rfl))
 f153:=Tryz.func124.trans (congrArg some (by kernel_rfl))
 f217:=Tryz.func201.trans (congrArg some (by kernel_rfl))
 f224:=Tryz.func181.trans (congrArg some (by kernel_rfl))
 f225:=Tryz.func182.trans (congrArg some (by kernel_rfl))
 f226:=Tryz.func152.trans (congrArg some (by kernel_rfl))
 f227:=Tryz.func153.trans (congrArg some (by kernel_rfl))
 f228:=Tryz.func154.trans (congrArg some (by kernel_rfl))
 f266:=Tryz.func222.trans (congrArg some (by kernel_rfl))
 t0:=Tryz.underlying0
 a0:=Tryz.isAgg0
 z0:=Tryz.sizeOf0
 v0:=Tryz.zeroValue0
 t3:=Tryz.underlying3
 a3:=Tryz.isAgg3
 z3:=Tryz.sizeOf3
 v3:=Tryz.zeroValue3
 t4:=Tryz.underlying4
 a4:=Tryz.isAgg4
 z4:=Tryz.sizeOf4
 v4:=Tryz.zeroValue4
 t5:=Tryz.underlying5
 a5:=Tryz.isAgg5
 z5:=Tryz.sizeOf5
 v5:=Tryz.zeroValue5
 t9:=Tryz.underlying9
 a9:=Tryz.isAgg9
 z9:=Tryz.sizeOf9
 v9:=Tryz.zeroValue9
 t21:=Tryz.underlying21
 a21:=Tryz.isAgg21
 z21:=Tryz.sizeOf21
 v21:=Tryz.zeroValue21
 t46:=Tryz.underlying127
 a46:=Tryz.isAgg127
 z46:=Tryz.sizeOf127
 v46:=Tryz.zeroValue127
 t116:=Tryz.underlying210
 a116:=Tryz.isAgg210
 z116:=Tryz.sizeOf210
 t117:=Tryz.underlying211
 a117:=Tryz.isAgg211
 z117:=Tryz.sizeOf211
 v117:=Tryz.zeroValue211
 t124:=Tryz.underlying233
 a124:=Tryz.isAgg233
 z124:=Tryz.sizeOf233
 v124:=Tryz.zeroValue233 }
open Go.RowKit Go.Lib in
open Go.RowKit Go.Lib in
open Go.RowKit Go.Lib in
open Go.RowKit Go.Lib in
open Go.RowKit Go.Lib in
open Go.RowKit Go.Lib in
theorem Tryz.strings_IndexAny_long(E: ∀w,(zeroValue 210).run Tryz.prog w=.ok (.agg (Array.replicate 256 (.bool false))) w)(s A:ByteArray)(w:World)(G:2<=A.size)(F:8<s.size)(hs:s.size<4294967281)(hcs:A.size<4294967281)(D: ∀(j:Nat) b,A.data.toList[j]?=some b->b.toNat<128):
  Calls Tryz.prog 124 #[.string s,.string A] w fun e w'=>e=.returned (.int .i64 (Lib.indexAny s.data.toList A.data.toList))/\w'=((w.alloc (.cells (Lib.setCells A.data.toList) 210)).alloc (.cells (Lib.setCells A.data.toList) 210)):=Any.strings_IndexAny_long Tryz.lays153 E (by kernel_rfl) s A w G F hs hcs D
open Go.RowKit Go.Lib in
open Go.RowKit Go.Lib in
open Go.RowKit Go.Lib in
open Go.RowKit Go.Lib in
open Go.RowKit Go.Lib in
open Go.RowKit Go.Lib in
def Tryz.lays105_ren:Go.Shelf.Ren:=⟨fun | 105=>199 | 212=>221 | 99=>69 | 165=>168 | 166=>77 | 170=>79 | 169=>80 | 263=>232 | 264=>233 | 206=>99 | 240=>111 | 241=>193 | 276=>143 | 277=>216 | n=>n,fun | 9=>9 | 3=>3 | 4=>4 | 20=>20 | 0=>0 | 46=>127 | 109=>265 | 5=>5 | 72=>147 | 76=>150 | 51=>181 | 146=>271 | 53=>234 | 148=>280 | 70=>145 | 37=>88 | 75=>149 | 127=>180 | 164=>205 | 80=>152 | n=>n,fun | n=>n⟩
theorem Tryz.lays105:Go.Proofs.Lays.n105 Tryz.prog Tryz.lays105_ren:={
 mixed:=by kernel_rfl
 f99:=Tryz.func69.trans (congrArg some (by kernel_rfl))
 f105:=Tryz.func199.trans (congrArg some (by kernel_rfl))
 f165:=Tryz.func168.trans (congrArg some (by kernel_rfl))
 f166:=Tryz.func77.trans (congrArg some (by kernel_rfl))
 f169:=Tryz.func80.trans (congrArg some (by kernel_rfl))
 f170:=Tryz.func79.trans (congrArg some (by kernel_rfl))
 f206:=Tryz.func99.trans (congrArg some (by kernel_rfl))
 f212:=Tryz.func221.trans (congrArg some (by kernel_rfl))
 f240:=Tryz.func111.trans (congrArg some (by kernel_rfl))
 f241:=Tryz.func193.trans (congrArg some (by kernel_rfl))
 f263:=Tryz.func232.trans (congrArg some (by kernel_rfl))
 f264:=Tryz.func233.trans (congrArg some (by kernel_rfl))
 f276:=Tryz.func143.trans (congrArg some (by kernel_rfl))
 f277:=Tryz.func216.trans (congrArg some (by kernel_rfl))
 t0:=Tryz.underlying0
 a0:=Tryz.isAgg0
 z0:=Tryz.sizeOf0
 v0:=Tryz.zeroValue0
 t3:=Tryz.underlying3
 a3:=Tryz.isAgg3
 z3:=Tryz.sizeOf3
 v3:=Tryz.zeroValue3
 t4:=Tryz.underlying4
 a4:=Tryz.isAgg4
 z4:=Tryz.sizeOf4
 v4:=Tryz.zeroValue4
 t5:=Tryz.underlying5
 a5:=Tryz.isAgg5
 z5:=Tryz.sizeOf5
 v5:=Tryz.zeroValue5
 t9:=Tryz.underlying9
 a9:=Tryz.isAgg9
 z9:=Tryz.sizeOf9
 v9:=Tryz.zeroValue9
 t20:=Tryz.underlying20
 a20:=Tryz.isAgg20
 z20:=Tryz.sizeOf20
 v20:=Tryz.zeroValue20
 t37:=Tryz.underlying88
 a37:=Tryz.isAgg88
 z37:=Tryz.sizeOf88
 v37:=Tryz.zeroValue88
 t46:=Tryz.underlying127
 a46:=Tryz.isAgg127
 z46:=Tryz.sizeOf127
 v46:=Tryz.zeroValue127
 t51:=Tryz.underlying181
 a51:=Tryz.isAgg181
 z51:=Tryz.sizeOf181
 v51:=Tryz.zeroValue181
 t53:=Tryz.underlying234
 a53:=Tryz.isAgg234
 z53:=Tryz.sizeOf234
 v53:=Tryz.zeroValue234
 t70:=Tryz.underlying145
 a70:=Tryz.isAgg145
 z70:=Tryz.sizeOf145
 v70:=Tryz.zeroValue145
 t72:=Tryz.underlying147
 a72:=Tryz.isAgg147
 z72:=Tryz.sizeOf147
 v72:=Tryz.zeroValue147
 t75:=Tryz.underlying149
 a75:=Tryz.isAgg149
 z75:=Tryz.sizeOf149
 v75:=Tryz.zeroValue149
 t76:=Tryz.underlying150
 a76:=Tryz.isAgg150
 z76:=Tryz.sizeOf150
 v76:=Tryz.zeroValue150
 t109:=Tryz.underlying265
 a109:=Tryz.isAgg265
 z109:=Tryz.sizeOf265
 v109:=Tryz.zeroValue265
 t127:=Tryz.underlying180
 a127:=Tryz.isAgg180
 z127:=Tryz.sizeOf180
 v127:=Tryz.zeroValue180
 t146:=Tryz.underlying271
 a146:=Tryz.isAgg271
 z146:=Tryz.sizeOf271
 v146:=Tryz.zeroValue271
 t148:=Tryz.underlying280
 a148:=Tryz.isAgg280
 z148:=Tryz.sizeOf280
 v148:=Tryz.zeroValue280
 t164:=Tryz.underlying205
 a164:=Tryz.isAgg205
 z164:=Tryz.sizeOf205
 v164:=Tryz.zeroValue205 }
theorem Tryz.Builder_Extra_105:Builder.Extra Tryz.prog Tryz.lays105_ren:={
 sizeBuilder:=by kernel_rfl
 liesBuilder:=by kernel_rfl
 t5:=Tryz.underlying5
 a5:=Tryz.isAgg5
 z5:=Tryz.sizeOf5
 v5:=Tryz.zeroValue5
 infoByte:=by kernel_rfl
 cellsByte:=by kernel_rfl
 sizeByte:=by kernel_rfl
 neB5:=by decide }
open Go.RowKit Go.Lib in
open Go.RowKit Go.Lib in
open Go.RowKit Go.Lib in
open Go.RowKit Go.Lib in
open Go.RowKit Go.Lib in
theorem Tryz.strings_Repeat(s:ByteArray)(c:Nat)(w:World)(hc:c<=9223372036854775807)(A:s.size*c<=140737488355328):
  Calls Tryz.prog 199 #[.string s,.int .i64 c] w fun e w'=>e=.returned (.string ⟨(Lib.repeatL s.data.toList c).toArray⟩)/\Below w.heap.size w w':=Any.strings_Repeat Tryz.lays105 Tryz.Builder_Extra_105 s c w hc A
open Go.RowKit Go.Lib in
open Go.Lib in
open Go.Lib in
def Tryz.lays107_ren:Go.Shelf.Ren:=⟨fun | 107=>166 | 108=>190 | n=>n,fun | 28=>22 | 3=>3 | 4=>4 | 0=>0 | n=>n,fun | n=>n⟩
theorem Tryz.lays107:Go.Proofs.Lays.n107 Tryz.prog Tryz.lays107_ren:={
 mixed:=by kernel_rfl
 f107:=Tryz.func166.trans (congrArg some (by kernel_rfl))
 f108:=Tryz.func190.trans (congrArg some (by kernel_rfl))
 t0:=Tryz.underlying0
 a0:=Tryz.isAgg0
 z0:=Tryz.sizeOf0
 v0:=Tryz.zeroValue0
 t3:=Tryz.underlying3
 a3:=Tryz.isAgg3
 z3:=Tryz.sizeOf3
 v3:=Tryz.zeroValue3
 t4:=Tryz.underlying4
 a4:=Tryz.isAgg4
 z4:=Tryz.sizeOf4
 v4:=Tryz.zeroValue4
 t28:=Tryz.underlying22
 a28:=Tryz.isAgg22
 z28:=Tryz.sizeOf22
 v28:=Tryz.zeroValue22 }
open Go.Lib in
theorem Tryz.slices_Contains_int(b A n c:Nat)(zs:List Int)(x:Int)(w:World)(hz:n<=zs.length)(D:n<=9223372036854775807)(hc: ∀j,j<zs.length->w.cell? ⟨b,A+j,none⟩=some (.int .i64 (zs.getD j 0))):
  Calls Tryz.prog 166 #[.slice (some ⟨b,A,none⟩) n c,.int .i64 x] w fun e w'=>e=.returned (.bool ((zs.take n).contains x))/\w'=w:=Any.slices_Contains_int Tryz.lays107 b A n c zs x w hz D hc
open Go.Lib in
theorem Tryz.slices_Contains_int_empty(a:Option Addr)(c:Nat)(x:Int)(w:World):
  Calls Tryz.prog 166 #[.slice a 0 c,.int .i64 x] w fun e w'=>e=.returned (.bool false)/\w'=w:=Any.slices_Contains_int_empty Tryz.lays107 a c x w
open Go.RowKit Go.Lib in
open Go.RowKit Go.Lib in
def Tryz.laysNm215_ren:Go.Shelf.Ren:=⟨fun | 15=>112 | n=>n,fun | 22=>22 | 3=>3 | 4=>4 | n=>n,fun | n=>n⟩
theorem Tryz.laysNm215:Go.Proofs.Lays2.n15 Tryz.prog Tryz.laysNm215_ren:={
 mixed:=by kernel_rfl
 f15:=Tryz.func112.trans (congrArg some (by kernel_rfl))
 t3:=Tryz.underlying3
 a3:=Tryz.isAgg3
 z3:=Tryz.sizeOf3
 v3:=Tryz.zeroValue3
 t4:=Tryz.underlying4
 a4:=Tryz.isAgg4
 z4:=Tryz.sizeOf4
 v4:=Tryz.zeroValue4
 t22:=Tryz.underlying22
 a22:=Tryz.isAgg22
 z22:=Tryz.sizeOf22
 v22:=Tryz.zeroValue22
 i3:=by kernel_rfl }
open Go.RowKit Go.Lib in
theorem Tryz.slices_Clone_int(b A n c:Nat)(zs:List Int)(w:World)(hz:n<=zs.length)(D:n*8<=140737488355328)(hc: ∀j,j<zs.length->w.cell? ⟨b,A+j,none⟩=some (.int .i64 (zs.getD j 0))):
  Calls Tryz.prog 112 #[.slice (some ⟨b,A,none⟩) n c] w fun e w'=> ∃v',e=.returned v'/\w'.ownsRow w.heap.size 3 1 v' n ((zs.take n).map (Value.int .i64))/\v'≠ .slice none 0 0/\Below w.heap.size w w':=Any.slices_Clone_int Tryz.laysNm215 b A n c zs w hz D hc
open Go.RowKit Go.Lib in
theorem Tryz.slices_Clone_int_nil(n c:Nat)(w:World):
  Calls Tryz.prog 112 #[.slice none n c] w fun e w'=>e=.returned (.slice none 0 0)/\w'=w:=Any.slices_Clone_int_nil Tryz.laysNm215 n c w
open Go.RowKit Go.Lib in
theorem Tryz.slices_Clone_int_zero(a:Addr)(c:Nat)(w:World):
  Calls Tryz.prog 112 #[.slice (some a) 0 c] w fun e w'=> ∃v',e=.returned v'/\w'.ownsRow w.heap.size 3 1 v' 0 []/\v'≠ .slice none 0 0/\Below w.heap.size w w':=Any.slices_Clone_int_zero Tryz.laysNm215 a c w
end Go.Proofs
