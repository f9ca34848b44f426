/- DERIVED: THE SHELF's CONTRACTS AT THIS DUMP, IN PLAIN WORDS (tools/lay-plain.mjs out of 'the shelf command.lean', which tools/lay-shelf.mjs wrote): THE SAME DECLARATIONS UNDER THE SAME NAMES: 'import', 'namespace', 'open', 'def', 'theorem' AND NOTHING ELSE: no command of the shelf's: FOR A HAND-IN. Each laying: the table of numbers ('.._ren') and one theorem, a field a fact of the dump's own or the kernel's comparison; each contract: ONE APPLICATION. -/
import Derived.Shelf.Strings.Builder1
import Derived.Shelf.Strings.Builder2
import Derived.Shelf.Strings.OnBuilder
import Derived.Shelf.Small.Utf8
import Derived.Shelf.Small.Strs
import Derived.Shelf.Small.Wraps
import Derived.Shelf.Strings.BuilderF
import Derived.Shelf.Strings.BuilderK
import Derived.Shelf.Strconv.Atoi
import Derived.Shelf.Strconv.Itoa0
import Derived.Shelf.Strconv.Itoa1
import Derived.Shelf.LaysM
import Derived.Shelf.Strconv.Itoa2
import Derived.Shelf.Strconv.Itoa3
import Derived.Shelf.Strings.Search1
import Derived.Shelf.Strings.Search2
import Derived.Shelf.Strings.Search3
import Derived.Shelf.Strings.Cut
import Derived.Shelf.Strings.Count
import Derived.Shelf.Strings.Shaped
import Derived.Shelf.Strings.Prefix
import Derived.Shelf.Strings.Split
import Derived.Shelf.Strings.SplitShaped
import Derived.Shelf.Strings.Runes
import Derived.Shelf.Strings.IndexAny
import Derived.Shelf.Strings.AsciiSet
import Derived.Shelf.Strings.IndexAnyAll
import Derived.Shelf.Bits.Mul64
import Derived.Shelf.Strings.Repeat
import Derived.Shelf.Unicode.DecodeSlow
import Derived.Shelf.Slices.Turned
import Derived.Shelf.Slices.Equal
import Derived.Ground.Names2Prog
import Derived.Shelf.Slices.Clone
import Derived.Test.YtcomifbfldoeiaaGreatDoorProg
namespace Go.Proofs
open Go.Shelf
def Tryz.lays170_ren : Go.Shelf.Ren:=⟨fun | 170 => 73 | n => n,fun | 70 => 147 | 3 => 3 | 0 => 0 | 72 => 149 | 37 => 145 | 5 => 5 | n => n,fun | n => n⟩
theorem Tryz.lays170 : Go.Proofs.Lays.n170 Tryz.prog Tryz.lays170_ren:={
 mixed:=by kernel_rfl
 f170:=Tryz.func73.trans (congrArg some (by kernel_rfl))
 t0:=Tryz.underlying0
 a0:=Tryz.isAgg0
 z0:=Tryz.sizeOf0
 v0:=Tryz.zeroValue0
 t3:=Tryz.underlying3
 a3:=Tryz.isAgg3
 z3:=Tryz.sizeOf3
 v3:=Tryz.zeroValue3
 t37:=Tryz.underlying145
 a37:=Tryz.isAgg145
 z37:=Tryz.sizeOf145
 v37:=Tryz.zeroValue145
 t70:=Tryz.underlying147
 a70:=Tryz.isAgg147
 z70:=Tryz.sizeOf147
 v70:=Tryz.zeroValue147
 t72:=Tryz.underlying149
 a72:=Tryz.isAgg149
 z72:=Tryz.sizeOf149
 v72:=Tryz.zeroValue149 }
open Go.RowKit in
theorem Tryz.Builder_Len (B b : Nat) (bs : List Value) (w : World) (h : Lib.IsBuilder 149 5 B b bs w) :
  Calls Tryz.prog 73 #[.pointer (some ⟨b,0,none⟩)] w fun e w' => e = .returned (.int .i64 bs.length) /\ w' = w:=Any.Builder_Len Tryz.lays170 B b bs w h
def Tryz.lays169_ren : Go.Shelf.Ren:=⟨fun | 169 => 74 | n => n,fun | 70 => 147 | 9 => 9 | 0 => 0 | 72 => 149 | 37 => 145 | 127 => 212 | 3 => 3 | 5 => 5 | n => n,fun | n => n⟩
theorem Tryz.lays169 : Go.Proofs.Lays.n169 Tryz.prog Tryz.lays169_ren:={
 mixed:=by kernel_rfl
 f169:=Tryz.func74.trans (congrArg some (by kernel_rfl))
 t0:=Tryz.underlying0
 a0:=Tryz.isAgg0
 z0:=Tryz.sizeOf0
 v0:=Tryz.zeroValue0
 t3:=Tryz.underlying3
 a3:=Tryz.isAgg3
 z3:=Tryz.sizeOf3
 v3:=Tryz.zeroValue3
 t9:=Tryz.underlying9
 a9:=Tryz.isAgg9
 z9:=Tryz.sizeOf9
 v9:=Tryz.zeroValue9
 t37:=Tryz.underlying145
 a37:=Tryz.isAgg145
 z37:=Tryz.sizeOf145
 v37:=Tryz.zeroValue145
 t70:=Tryz.underlying147
 a70:=Tryz.isAgg147
 z70:=Tryz.sizeOf147
 v70:=Tryz.zeroValue147
 t72:=Tryz.underlying149
 a72:=Tryz.isAgg149
 z72:=Tryz.sizeOf149
 v72:=Tryz.zeroValue149
 t127:=Tryz.underlying212
 a127:=Tryz.isAgg212
 z127:=Tryz.sizeOf212
 v127:=Tryz.zeroValue212 }
theorem Tryz.Builder_Extra_169 : Builder.Extra Tryz.prog Tryz.lays169_ren:={
 sizeBuilder:=by kernel_rfl
 liesBuilder:=by kernel_rfl
 t5:=Tryz.underlying5
 a5:=Tryz.isAgg5
 z5:=Tryz.sizeOf5
 v5:=Tryz.zeroValue5
 infoByte:=by kernel_rfl
 cellsByte:=by kernel_rfl
 sizeByte:=by kernel_rfl
 neB5:=by decide }
open Go.RowKit in
open Go.RowKit in
open Go.RowKit in
theorem Tryz.Builder_String_any (B b : Nat) (l : List UInt8) (w : World) (h : Lib.IsBuilder 149 5 B b (Lib.byteCells l) w) (hBw : B <= w.heap.size) :
  Calls Tryz.prog 74 #[.pointer (some ⟨b,0,none⟩)] w fun e w' => e = .returned (.string ⟨l.toArray⟩) /\ Below B w w':=Any.Builder_String_any Tryz.lays169 Tryz.Builder_Extra_169 B b l w h hBw
open Go.RowKit in
open Go.RowKit in
def Tryz.lays156_ren : Go.Shelf.Ren:=⟨fun | 156 => 194 | 165 => 253 | 166 => 71 | 169 => 74 | 240 => 134 | 241 => 304 | 276 => 197 | 277 => 331 | n => n,fun | 31 => 143 | 9 => 9 | 3 => 3 | 4 => 4 | 0 => 0 | 20 => 20 | 72 => 149 | 76 => 154 | 70 => 147 | 37 => 145 | 75 => 153 | 127 => 212 | 164 => 253 | 5 => 5 | 80 => 158 | n => n,fun | n => n⟩
theorem Tryz.lays156 : Go.Proofs.Lays.n156 Tryz.prog Tryz.lays156_ren:={
 mixed:=by kernel_rfl
 f156:=Tryz.func194.trans (congrArg some (by kernel_rfl))
 f165:=Tryz.func253.trans (congrArg some (by kernel_rfl))
 f166:=Tryz.func71.trans (congrArg some (by kernel_rfl))
 f169:=Tryz.func74.trans (congrArg some (by kernel_rfl))
 f240:=Tryz.func134.trans (congrArg some (by kernel_rfl))
 f241:=Tryz.func304.trans (congrArg some (by kernel_rfl))
 f276:=Tryz.func197.trans (congrArg some (by kernel_rfl))
 f277:=Tryz.func331.trans (congrArg some (by kernel_rfl))
 t0:=Tryz.underlying0
 a0:=Tryz.isAgg0
 z0:=Tryz.sizeOf0
 v0:=Tryz.zeroValue0
 t3:=Tryz.underlying3
 a3:=Tryz.isAgg3
 z3:=Tryz.sizeOf3
 v3:=Tryz.zeroValue3
 t4:=Tryz.underlying4
 a4:=Tryz.isAgg4
 z4:=Tryz.sizeOf4
 v4:=Tryz.zeroValue4
 t9:=Tryz.underlying9
 a9:=Tryz.isAgg9
 z9:=Tryz.sizeOf9
 v9:=Tryz.zeroValue9
 t20:=Tryz.underlying20
 a20:=Tryz.isAgg20
 z20:=Tryz.sizeOf20
 v20:=Tryz.zeroValue20
 t31:=Tryz.underlying143
 a31:=Tryz.isAgg143
 z31:=Tryz.sizeOf143
 v31:=Tryz.zeroValue143
 t37:=Tryz.underlying145
 a37:=Tryz.isAgg145
 z37:=Tryz.sizeOf145
 v37:=Tryz.zeroValue145
 t70:=Tryz.underlying147
 a70:=Tryz.isAgg147
 z70:=Tryz.sizeOf147
 v70:=Tryz.zeroValue147
 t72:=Tryz.underlying149
 a72:=Tryz.isAgg149
 z72:=Tryz.sizeOf149
 v72:=Tryz.zeroValue149
 t75:=Tryz.underlying153
 a75:=Tryz.isAgg153
 z75:=Tryz.sizeOf153
 v75:=Tryz.zeroValue153
 t76:=Tryz.underlying154
 a76:=Tryz.isAgg154
 z76:=Tryz.sizeOf154
 v76:=Tryz.zeroValue154
 t127:=Tryz.underlying212
 a127:=Tryz.isAgg212
 z127:=Tryz.sizeOf212
 v127:=Tryz.zeroValue212
 t164:=Tryz.underlying253
 a164:=Tryz.isAgg253
 z164:=Tryz.sizeOf253
 v164:=Tryz.zeroValue253 }
theorem Tryz.Builder_Extra_156 : Builder.Extra Tryz.prog Tryz.lays156_ren:={
 sizeBuilder:=by kernel_rfl
 liesBuilder:=by kernel_rfl
 t5:=Tryz.underlying5
 a5:=Tryz.isAgg5
 z5:=Tryz.sizeOf5
 v5:=Tryz.zeroValue5
 infoByte:=by kernel_rfl
 cellsByte:=by kernel_rfl
 sizeByte:=by kernel_rfl
 neB5:=by decide }
open Go.RowKit in
theorem Tryz.strings_Join_none (a : Option Addr) (c : Nat) (sep : ByteArray) (w : World) :
  Calls Tryz.prog 194 #[.slice a 0 c,.string sep] w fun e w' => e = .returned (.string ⟨#[]⟩) /\ w' = w:=Any.strings_Join_none Tryz.lays156 Tryz.Builder_Extra_156 a c sep w
open Go.RowKit in
theorem Tryz.strings_Join (bk o c : Nat) (xs : List ByteArray) (sep : ByteArray) (w : World) (hcells : ∀ (j : Nat) x,xs[j]? = some x -> w.cell? ⟨bk,o + j,none⟩ = some (.string x)) (hbk : bk < w.heap.size) (hN : xs.length <= 140737488355328) (hcap : xs.length <= c) (hlen : (Lib.join (xs.map (·.data.toList)) sep.data.toList).length <= 140737488355328) :
  Calls Tryz.prog 194 #[.slice (some ⟨bk,o,none⟩) xs.length c,.string sep] w fun e w' => e = .returned (.string ⟨(Lib.join (xs.map (·.data.toList)) sep.data.toList).toArray⟩) /\ Below w.heap.size w w':=Any.strings_Join Tryz.lays156 Tryz.Builder_Extra_156 bk o c xs sep w hcells hbk hN hcap hlen
def Tryz.lays119_ren : Go.Shelf.Ren:=⟨fun | 119 => 319 | n => n,fun | 21 => 21 | 4 => 4 | n => n,fun | n => n⟩
theorem Tryz.lays119 : Go.Proofs.Lays.n119 Tryz.prog Tryz.lays119_ren:={
 mixed:=by kernel_rfl
 f119:=Tryz.func319.trans (congrArg some (by kernel_rfl))
 t4:=Tryz.underlying4
 a4:=Tryz.isAgg4
 z4:=Tryz.sizeOf4
 v4:=Tryz.zeroValue4
 t21:=Tryz.underlying21
 a21:=Tryz.isAgg21
 z21:=Tryz.sizeOf21
 v21:=Tryz.zeroValue21 }
theorem Tryz.utf8_ValidRune (r : Int) (w : World) :
  Calls Tryz.prog 319 #[.int .i32 r] w fun e w' => e = .returned (.bool (Lib.validRune r)) /\ w' = w:=Any.utf8_ValidRune Tryz.lays119 r w
open Go.RowKit in
def Tryz.lays106_ren : Go.Shelf.Ren:=⟨fun | 106 => 84 | 213 => 146 | 265 => 213 | n => n,fun | 9 => 9 | 3 => 3 | n => n,fun | n => n⟩
theorem Tryz.lays106 : Go.Proofs.Lays.n106 Tryz.prog Tryz.lays106_ren:={
 mixed:=by kernel_rfl
 f106:=Tryz.func84.trans (congrArg some (by kernel_rfl))
 f213:=Tryz.func146.trans (congrArg some (by kernel_rfl))
 f265:=Tryz.func213.trans (congrArg some (by kernel_rfl))
 t3:=Tryz.underlying3
 a3:=Tryz.isAgg3
 z3:=Tryz.sizeOf3
 v3:=Tryz.zeroValue3
 t9:=Tryz.underlying9
 a9:=Tryz.isAgg9
 z9:=Tryz.sizeOf9
 v9:=Tryz.zeroValue9 }
open Go.RowKit in
theorem Tryz.strings_Compare (a b : ByteArray) (w : World) :
  Calls Tryz.prog 84 #[.string a,.string b] w fun e w' => e = .returned (.int .i64 (Lib.compareBytes a.data.toList b.data.toList)) /\ w' = w:=Any.strings_Compare Tryz.lays106 a b w
def Tryz.lays137_ren : Go.Shelf.Ren:=⟨fun | 137 => 318 | 217 => 329 | 266 => 337 | n => n,fun | 9 => 9 | 5 => 5 | 3 => 3 | n => n,fun | n => n⟩
theorem Tryz.lays137 : Go.Proofs.Lays.n137 Tryz.prog Tryz.lays137_ren:={
 mixed:=by kernel_rfl
 f137:=Tryz.func318.trans (congrArg some (by kernel_rfl))
 f217:=Tryz.func329.trans (congrArg some (by kernel_rfl))
 f266:=Tryz.func337.trans (congrArg some (by kernel_rfl))
 t3:=Tryz.underlying3
 a3:=Tryz.isAgg3
 z3:=Tryz.sizeOf3
 v3:=Tryz.zeroValue3
 t5:=Tryz.underlying5
 a5:=Tryz.isAgg5
 z5:=Tryz.sizeOf5
 v5:=Tryz.zeroValue5
 t9:=Tryz.underlying9
 a9:=Tryz.isAgg9
 z9:=Tryz.sizeOf9
 v9:=Tryz.zeroValue9 }
open Go.RowKit in
theorem Tryz.strings_IndexByte (s : ByteArray) (c : Int) (w : World) :
  Calls Tryz.prog 318 #[.string s,.int .u8 c] w fun e w' => e = .returned (.int .i64 (Lib.indexByte s.data.toList c.toNat.toUInt8)) /\ w' = w:=Any.strings_IndexByte Tryz.lays137 s c w
open Go.RowKit in
def Tryz.lays103_ren : Go.Shelf.Ren:=⟨fun | 103 => 177 | 210 => 235 | 206 => 175 | n => n,fun | 9 => 9 | 4 => 4 | 24 => 193 | 3 => 3 | n => n,fun | n => n⟩
theorem Tryz.lays103 : Go.Proofs.Lays.n103 Tryz.prog Tryz.lays103_ren:={
 mixed:=by kernel_rfl
 f103:=Tryz.func177.trans (congrArg some (by kernel_rfl))
 f206:=Tryz.func175.trans (congrArg some (by kernel_rfl))
 f210:=Tryz.func235.trans (congrArg some (by kernel_rfl))
 t3:=Tryz.underlying3
 a3:=Tryz.isAgg3
 z3:=Tryz.sizeOf3
 v3:=Tryz.zeroValue3
 t4:=Tryz.underlying4
 a4:=Tryz.isAgg4
 z4:=Tryz.sizeOf4
 v4:=Tryz.zeroValue4
 t9:=Tryz.underlying9
 a9:=Tryz.isAgg9
 z9:=Tryz.sizeOf9
 v9:=Tryz.zeroValue9
 t24:=Tryz.underlying193
 a24:=Tryz.isAgg193
 z24:=Tryz.sizeOf193
 v24:=Tryz.zeroValue193 }
open Go.RowKit in
theorem Tryz.strings_CutPrefix (s p : ByteArray) (w : World) :
  Calls Tryz.prog 177 #[.string s,.string p] w fun e w' => e = .returned (.tuple #[.string ⟨(Lib.trimPrefix s.data.toList p.data.toList).toArray⟩,.bool (Lib.hasPrefix s.data.toList p.data.toList)]) /\ w' = w:=Any.strings_CutPrefix Tryz.lays103 s p w
open Go.RowKit in
def Tryz.lays104_ren : Go.Shelf.Ren:=⟨fun | 104 => 171 | 211 => 230 | 207 => 283 | n => n,fun | 9 => 9 | 4 => 4 | 24 => 193 | 3 => 3 | n => n,fun | n => n⟩
theorem Tryz.lays104 : Go.Proofs.Lays.n104 Tryz.prog Tryz.lays104_ren:={
 mixed:=by kernel_rfl
 f104:=Tryz.func171.trans (congrArg some (by kernel_rfl))
 f207:=Tryz.func283.trans (congrArg some (by kernel_rfl))
 f211:=Tryz.func230.trans (congrArg some (by kernel_rfl))
 t3:=Tryz.underlying3
 a3:=Tryz.isAgg3
 z3:=Tryz.sizeOf3
 v3:=Tryz.zeroValue3
 t4:=Tryz.underlying4
 a4:=Tryz.isAgg4
 z4:=Tryz.sizeOf4
 v4:=Tryz.zeroValue4
 t9:=Tryz.underlying9
 a9:=Tryz.isAgg9
 z9:=Tryz.sizeOf9
 v9:=Tryz.zeroValue9
 t24:=Tryz.underlying193
 a24:=Tryz.isAgg193
 z24:=Tryz.sizeOf193
 v24:=Tryz.zeroValue193 }
open Go.RowKit in
theorem Tryz.strings_CutSuffix (s p : ByteArray) (w : World) (hs : s.size <= 9223372036854775807) :
  Calls Tryz.prog 171 #[.string s,.string p] w fun e w' => e = .returned (.tuple #[.string ⟨(Lib.trimSuffix s.data.toList p.data.toList).toArray⟩,.bool (Lib.hasSuffix s.data.toList p.data.toList)]) /\ w' = w:=Any.strings_CutSuffix Tryz.lays104 s p w hs
open Go.RowKit in
open Go.RowKit in
open Go.RowKit in
open Go.RowKit in
open Go.RowKit in
open Go.RowKit in
open Go.RowKit in
open Go.RowKit in
open Go.RowKit in
open Go.RowKit in
def Tryz.lays172_ren : Go.Shelf.Ren:=⟨fun | 172 => 176 | 244 => 233 | 245 => 234 | 247 => 291 | 279 => 292 | 280 => 293 | 281 => 294 | 282 => 295 | 287 => 322 | 316 => 323 | 171 => 89 | 205 => 324 | 321 => 335 | 322 => 336 | 243 => 152 | 246 => 216 | 283 => 266 | 284 => 267 | 285 => 268 | 286 => 269 | 129 => 212 | 317 => 307 | 318 => 308 | 319 => 309 | 320 => 201 | 337 => 259 | 338 => 260 | n => n,fun | 9 => 9 | 3 => 3 | 75 => 153 | 76 => 154 | 4 => 4 | 5 => 5 | 167 => 309 | 37 => 145 | 0 => 0 | 85 => 310 | 2 => 2 | 168 => 312 | 53 => 266 | 175 => 333 | 46 => 197 | 210 => 336 | 127 => 212 | 145 => 346 | 143 => 344 | 21 => 21 | 171 => 294 | 173 => 296 | 212 => 323 | 51 => 246 | 20 => 20 | 213 => 324 | 232 => 317 | 233 => 318 | 80 => 158 | n => n,fun | 15 => 4 | 16 => 5 | 17 => 3 | 18 => 1 | 19 => 2 | n => n⟩
theorem Tryz.lays172 : Go.Proofs.Lays.n172 Tryz.prog Tryz.lays172_ren:={
 mixed:=by kernel_rfl
 f129:=Tryz.func212.trans (congrArg some (by kernel_rfl))
 f171:=Tryz.func89.trans (congrArg some (by kernel_rfl))
 f172:=Tryz.func176.trans (congrArg some (by kernel_rfl))
 f205:=Tryz.func324.trans (congrArg some (by kernel_rfl))
 f243:=Tryz.func152.trans (congrArg some (by kernel_rfl))
 f244:=Tryz.func233.trans (congrArg some (by kernel_rfl))
 f245:=Tryz.func234.trans (congrArg some (by kernel_rfl))
 f246:=Tryz.func216.trans (congrArg some (by kernel_rfl))
 f247:=Tryz.func291.trans (congrArg some (by kernel_rfl))
 f279:=Tryz.func292.trans (congrArg some (by kernel_rfl))
 f280:=Tryz.func293.trans (congrArg some (by kernel_rfl))
 f281:=Tryz.func294.trans (congrArg some (by kernel_rfl))
 f282:=Tryz.func295.trans (congrArg some (by kernel_rfl))
 f283:=Tryz.func266.trans (congrArg some (by kernel_rfl))
 f284:=Tryz.func267.trans (congrArg some (by kernel_rfl))
 f285:=Tryz.func268.trans (congrArg some (by kernel_rfl))
 f286:=Tryz.func269.trans (congrArg some (by kernel_rfl))
 f287:=Tryz.func322.trans (congrArg some (by kernel_rfl))
 f316:=Tryz.func323.trans (congrArg some (by kernel_rfl))
 f317:=Tryz.func307.trans (congrArg some (by kernel_rfl))
 f318:=Tryz.func308.trans (congrArg some (by kernel_rfl))
 f319:=Tryz.func309.trans (congrArg some (by kernel_rfl))
 f320:=Tryz.func201.trans (congrArg some (by kernel_rfl))
 f321:=Tryz.func335.trans (congrArg some (by kernel_rfl))
 f322:=Tryz.func336.trans (congrArg some (by kernel_rfl))
 f337:=Tryz.func259.trans (congrArg some (by kernel_rfl))
 f338:=Tryz.func260.trans (congrArg some (by kernel_rfl))
 t0:=Tryz.underlying0
 a0:=Tryz.isAgg0
 z0:=Tryz.sizeOf0
 v0:=Tryz.zeroValue0
 t2:=Tryz.underlying2
 a2:=Tryz.isAgg2
 z2:=Tryz.sizeOf2
 v2:=Tryz.zeroValue2
 t3:=Tryz.underlying3
 a3:=Tryz.isAgg3
 z3:=Tryz.sizeOf3
 v3:=Tryz.zeroValue3
 t4:=Tryz.underlying4
 a4:=Tryz.isAgg4
 z4:=Tryz.sizeOf4
 v4:=Tryz.zeroValue4
 t5:=Tryz.underlying5
 a5:=Tryz.isAgg5
 z5:=Tryz.sizeOf5
 v5:=Tryz.zeroValue5
 t9:=Tryz.underlying9
 a9:=Tryz.isAgg9
 z9:=Tryz.sizeOf9
 v9:=Tryz.zeroValue9
 t20:=Tryz.underlying20
 a20:=Tryz.isAgg20
 z20:=Tryz.sizeOf20
 v20:=Tryz.zeroValue20
 t21:=Tryz.underlying21
 a21:=Tryz.isAgg21
 z21:=Tryz.sizeOf21
 v21:=Tryz.zeroValue21
 t37:=Tryz.underlying145
 a37:=Tryz.isAgg145
 z37:=Tryz.sizeOf145
 v37:=Tryz.zeroValue145
 t46:=Tryz.underlying197
 a46:=Tryz.isAgg197
 z46:=Tryz.sizeOf197
 v46:=Tryz.zeroValue197
 t51:=Tryz.underlying246
 a51:=Tryz.isAgg246
 z51:=Tryz.sizeOf246
 v51:=Tryz.zeroValue246
 t53:=Tryz.underlying266
 a53:=Tryz.isAgg266
 z53:=Tryz.sizeOf266
 v53:=Tryz.zeroValue266
 t75:=Tryz.underlying153
 a75:=Tryz.isAgg153
 z75:=Tryz.sizeOf153
 v75:=Tryz.zeroValue153
 t76:=Tryz.underlying154
 a76:=Tryz.isAgg154
 z76:=Tryz.sizeOf154
 v76:=Tryz.zeroValue154
 t85:=Tryz.underlying310
 a85:=Tryz.isAgg310
 z85:=Tryz.sizeOf310
 v85:=Tryz.zeroValue310
 t127:=Tryz.underlying212
 a127:=Tryz.isAgg212
 z127:=Tryz.sizeOf212
 v127:=Tryz.zeroValue212
 t143:=Tryz.underlying344
 a143:=Tryz.isAgg344
 z143:=Tryz.sizeOf344
 v143:=Tryz.zeroValue344
 t145:=Tryz.underlying346
 a145:=Tryz.isAgg346
 z145:=Tryz.sizeOf346
 v145:=Tryz.zeroValue346
 t167:=Tryz.underlying309
 a167:=Tryz.isAgg309
 z167:=Tryz.sizeOf309
 v167:=Tryz.zeroValue309
 t168:=Tryz.underlying312
 a168:=Tryz.isAgg312
 z168:=Tryz.sizeOf312
 v168:=Tryz.zeroValue312
 t171:=Tryz.underlying294
 a171:=Tryz.isAgg294
 z171:=Tryz.sizeOf294
 v171:=Tryz.zeroValue294
 t173:=Tryz.underlying296
 a173:=Tryz.isAgg296
 z173:=Tryz.sizeOf296
 v173:=Tryz.zeroValue296
 t175:=Tryz.underlying333
 a175:=Tryz.isAgg333
 z175:=Tryz.sizeOf333
 v175:=Tryz.zeroValue333
 t210:=Tryz.underlying336
 a210:=Tryz.isAgg336
 z210:=Tryz.sizeOf336
 v210:=Tryz.zeroValue336
 t212:=Tryz.underlying323
 a212:=Tryz.isAgg323
 z212:=Tryz.sizeOf323
 v212:=Tryz.zeroValue323
 t213:=Tryz.underlying324
 a213:=Tryz.isAgg324
 z213:=Tryz.sizeOf324
 t232:=Tryz.underlying317
 a232:=Tryz.isAgg317
 z232:=Tryz.sizeOf317
 v232:=Tryz.zeroValue317
 t233:=Tryz.underlying318
 a233:=Tryz.isAgg318
 z233:=Tryz.sizeOf318
 v233:=Tryz.zeroValue318
 g15:=by kernel_rfl
 g16:=by kernel_rfl
 g17:=by kernel_rfl
 g18:=by kernel_rfl
 g19:=by kernel_rfl }
open Go.RowKit in
theorem Tryz.strconv_Atoi (s : ByteArray) (n : Int) (hl : s.size <= 18) (h : Lib.atoi s.data.toList = some n) (w : World) :
  Calls Tryz.prog 176 #[.string s] w fun e w' => e = .returned (.tuple #[.int .i64 n,.nilIface]) /\ ∃ t,w' = Lib.bytesWorld w 5 t:=Any.strconv_Atoi Tryz.lays172 s n hl h w
open Go.Lib in
open Go.Lib in
open Go.Lib in
open Go.RowKit Go.Sort Go.Lib in
open Go.RowKit Go.Sort Go.Lib in
open Go.RowKit Go.Sort Go.Lib in
def Tryz.laysM171_ren : Go.Shelf.Ren:=⟨fun | 171 => 89 | 243 => 152 | 246 => 216 | 283 => 266 | 284 => 267 | 285 => 268 | 286 => 269 | 129 => 212 | 317 => 307 | 318 => 308 | 319 => 309 | 320 => 201 | 337 => 259 | 338 => 260 | n => n,fun | 3 => 3 | 9 => 9 | 2 => 2 | 4 => 4 | 171 => 294 | 0 => 0 | 53 => 266 | 37 => 145 | 5 => 5 | 173 => 296 | 212 => 323 | 51 => 246 | 20 => 20 | 213 => 324 | 46 => 197 | 232 => 317 | 233 => 318 | n => n,fun | 17 => 3 | 18 => 1 | 19 => 2 | n => n⟩
theorem Tryz.laysM171 : Go.Proofs.LaysM.n171 Tryz.prog Tryz.laysM171_ren:={
 mixed:=by kernel_rfl
 f129:=Tryz.func212.trans (congrArg some (by kernel_rfl))
 f171:=Tryz.func89.trans (congrArg some (by kernel_rfl))
 f243:=Tryz.func152.trans (congrArg some (by kernel_rfl))
 f246:=Tryz.func216.trans (congrArg some (by kernel_rfl))
 f283:=Tryz.func266.trans (congrArg some (by kernel_rfl))
 f284:=Tryz.func267.trans (congrArg some (by kernel_rfl))
 f285:=Tryz.func268.trans (congrArg some (by kernel_rfl))
 f286:=Tryz.func269.trans (congrArg some (by kernel_rfl))
 f317:=Tryz.func307.trans (congrArg some (by kernel_rfl))
 f318:=Tryz.func308.trans (congrArg some (by kernel_rfl))
 f319:=Tryz.func309.trans (congrArg some (by kernel_rfl))
 f320:=Tryz.func201.trans (congrArg some (by kernel_rfl))
 f337:=Tryz.func259.trans (congrArg some (by kernel_rfl))
 f338:=Tryz.func260.trans (congrArg some (by kernel_rfl))
 t0:=Tryz.underlying0
 a0:=Tryz.isAgg0
 z0:=Tryz.sizeOf0
 v0:=Tryz.zeroValue0
 t2:=Tryz.underlying2
 a2:=Tryz.isAgg2
 z2:=Tryz.sizeOf2
 v2:=Tryz.zeroValue2
 t3:=Tryz.underlying3
 a3:=Tryz.isAgg3
 z3:=Tryz.sizeOf3
 v3:=Tryz.zeroValue3
 t4:=Tryz.underlying4
 a4:=Tryz.isAgg4
 z4:=Tryz.sizeOf4
 v4:=Tryz.zeroValue4
 t5:=Tryz.underlying5
 a5:=Tryz.isAgg5
 z5:=Tryz.sizeOf5
 v5:=Tryz.zeroValue5
 t9:=Tryz.underlying9
 a9:=Tryz.isAgg9
 z9:=Tryz.sizeOf9
 v9:=Tryz.zeroValue9
 t20:=Tryz.underlying20
 a20:=Tryz.isAgg20
 z20:=Tryz.sizeOf20
 v20:=Tryz.zeroValue20
 t37:=Tryz.underlying145
 a37:=Tryz.isAgg145
 z37:=Tryz.sizeOf145
 v37:=Tryz.zeroValue145
 t46:=Tryz.underlying197
 a46:=Tryz.isAgg197
 z46:=Tryz.sizeOf197
 v46:=Tryz.zeroValue197
 t51:=Tryz.underlying246
 a51:=Tryz.isAgg246
 z51:=Tryz.sizeOf246
 v51:=Tryz.zeroValue246
 t53:=Tryz.underlying266
 a53:=Tryz.isAgg266
 z53:=Tryz.sizeOf266
 v53:=Tryz.zeroValue266
 t171:=Tryz.underlying294
 a171:=Tryz.isAgg294
 z171:=Tryz.sizeOf294
 v171:=Tryz.zeroValue294
 t173:=Tryz.underlying296
 a173:=Tryz.isAgg296
 z173:=Tryz.sizeOf296
 v173:=Tryz.zeroValue296
 t212:=Tryz.underlying323
 a212:=Tryz.isAgg323
 z212:=Tryz.sizeOf323
 v212:=Tryz.zeroValue323
 t213:=Tryz.underlying324
 a213:=Tryz.isAgg324
 z213:=Tryz.sizeOf324
 t232:=Tryz.underlying317
 a232:=Tryz.isAgg317
 z232:=Tryz.sizeOf317
 v232:=Tryz.zeroValue317
 t233:=Tryz.underlying318
 a233:=Tryz.isAgg318
 z233:=Tryz.sizeOf318
 v233:=Tryz.zeroValue318
 g17:=by kernel_rfl
 g18:=by kernel_rfl
 g19:=by kernel_rfl
 i0:=by kernel_rfl
 i2:=by kernel_rfl
 i3:=by kernel_rfl
 i4:=by kernel_rfl
 i5:=by kernel_rfl
 i9:=by kernel_rfl
 i20:=by kernel_rfl
 i37:=by kernel_rfl
 i46:=by kernel_rfl
 i51:=by kernel_rfl
 i53:=by kernel_rfl
 i171:=by kernel_rfl
 i173:=by kernel_rfl
 i212:=by kernel_rfl
 i232:=by kernel_rfl
 i233:=by kernel_rfl
 m17:=by kernel_rfl
 m18:=by kernel_rfl
 m19:=by kernel_rfl }
def Tryz.lays171_ren : Go.Shelf.Ren:=⟨fun | 171 => 89 | 243 => 152 | 246 => 216 | 283 => 266 | 284 => 267 | 285 => 268 | 286 => 269 | 129 => 212 | 317 => 307 | 318 => 308 | 319 => 309 | 320 => 201 | 337 => 259 | 338 => 260 | n => n,fun | 3 => 3 | 9 => 9 | 2 => 2 | 4 => 4 | 171 => 294 | 0 => 0 | 53 => 266 | 37 => 145 | 5 => 5 | 173 => 296 | 212 => 323 | 51 => 246 | 20 => 20 | 213 => 324 | 46 => 197 | 232 => 317 | 233 => 318 | n => n,fun | 17 => 3 | 18 => 1 | 19 => 2 | n => n⟩
theorem Tryz.lays171 : Go.Proofs.Lays.n171 Tryz.prog Tryz.lays171_ren:={
 mixed:=by kernel_rfl
 f129:=Tryz.func212.trans (congrArg some (by kernel_rfl))
 f171:=Tryz.func89.trans (congrArg some (by kernel_rfl))
 f243:=Tryz.func152.trans (congrArg some (by kernel_rfl))
 f246:=Tryz.func216.trans (congrArg some (by kernel_rfl))
 f283:=Tryz.func266.trans (congrArg some (by kernel_rfl))
 f284:=Tryz.func267.trans (congrArg some (by kernel_rfl))
 f285:=Tryz.func268.trans (congrArg some (by kernel_rfl))
 f286:=Tryz.func269.trans (congrArg some (by kernel_rfl))
 f317:=Tryz.func307.trans (congrArg some (by kernel_rfl))
 f318:=Tryz.func308.trans (congrArg some (by kernel_rfl))
 f319:=Tryz.func309.trans (congrArg some (by kernel_rfl))
 f320:=Tryz.func201.trans (congrArg some (by kernel_rfl))
 f337:=Tryz.func259.trans (congrArg some (by kernel_rfl))
 f338:=Tryz.func260.trans (congrArg some (by kernel_rfl))
 t0:=Tryz.underlying0
 a0:=Tryz.isAgg0
 z0:=Tryz.sizeOf0
 v0:=Tryz.zeroValue0
 t2:=Tryz.underlying2
 a2:=Tryz.isAgg2
 z2:=Tryz.sizeOf2
 v2:=Tryz.zeroValue2
 t3:=Tryz.underlying3
 a3:=Tryz.isAgg3
 z3:=Tryz.sizeOf3
 v3:=Tryz.zeroValue3
 t4:=Tryz.underlying4
 a4:=Tryz.isAgg4
 z4:=Tryz.sizeOf4
 v4:=Tryz.zeroValue4
 t5:=Tryz.underlying5
 a5:=Tryz.isAgg5
 z5:=Tryz.sizeOf5
 v5:=Tryz.zeroValue5
 t9:=Tryz.underlying9
 a9:=Tryz.isAgg9
 z9:=Tryz.sizeOf9
 v9:=Tryz.zeroValue9
 t20:=Tryz.underlying20
 a20:=Tryz.isAgg20
 z20:=Tryz.sizeOf20
 v20:=Tryz.zeroValue20
 t37:=Tryz.underlying145
 a37:=Tryz.isAgg145
 z37:=Tryz.sizeOf145
 v37:=Tryz.zeroValue145
 t46:=Tryz.underlying197
 a46:=Tryz.isAgg197
 z46:=Tryz.sizeOf197
 v46:=Tryz.zeroValue197
 t51:=Tryz.underlying246
 a51:=Tryz.isAgg246
 z51:=Tryz.sizeOf246
 v51:=Tryz.zeroValue246
 t53:=Tryz.underlying266
 a53:=Tryz.isAgg266
 z53:=Tryz.sizeOf266
 v53:=Tryz.zeroValue266
 t171:=Tryz.underlying294
 a171:=Tryz.isAgg294
 z171:=Tryz.sizeOf294
 v171:=Tryz.zeroValue294
 t173:=Tryz.underlying296
 a173:=Tryz.isAgg296
 z173:=Tryz.sizeOf296
 v173:=Tryz.zeroValue296
 t212:=Tryz.underlying323
 a212:=Tryz.isAgg323
 z212:=Tryz.sizeOf323
 v212:=Tryz.zeroValue323
 t213:=Tryz.underlying324
 a213:=Tryz.isAgg324
 z213:=Tryz.sizeOf324
 t232:=Tryz.underlying317
 a232:=Tryz.isAgg317
 z232:=Tryz.sizeOf317
 v232:=Tryz.zeroValue317
 t233:=Tryz.underlying318
 a233:=Tryz.isAgg318
 z233:=Tryz.sizeOf318
 v233:=Tryz.zeroValue318
 g17:=by kernel_rfl
 g18:=by kernel_rfl
 g19:=by kernel_rfl }
open Go.RowKit Go.Sort Go.Lib in
theorem Tryz.strconv_Itoa_small (i : Nat) (hi : i < 100) (w : World) :
  Calls Tryz.prog 89 #[.int .i64 i] w fun e w' => e = .returned (.string ⟨(Lib.decDigits i).toArray⟩) /\ w' = w:=Any.strconv_Itoa_small Tryz.lays171 i hi w
open Go.RowKit Go.Lib in
open Go.RowKit Go.Lib in
open Go.RowKit Go.Lib in
open Go.RowKit Go.Lib in
def Tryz.lays219_ren : Go.Shelf.Ren:=⟨fun | 219 => 303 | 217 => 329 | 225 => 321 | 224 => 320 | 267 => 330 | 266 => 337 | 314 => 338 | n => n,fun | 9 => 9 | 3 => 3 | 4 => 4 | 5 => 5 | 46 => 197 | 146 => 347 | 51 => 246 | n => n,fun | 1 => 0 | n => n⟩
theorem Tryz.lays219 : Go.Proofs.Lays.n219 Tryz.prog Tryz.lays219_ren:={
 mixed:=by kernel_rfl
 f217:=Tryz.func329.trans (congrArg some (by kernel_rfl))
 f219:=Tryz.func303.trans (congrArg some (by kernel_rfl))
 f224:=Tryz.func320.trans (congrArg some (by kernel_rfl))
 f225:=Tryz.func321.trans (congrArg some (by kernel_rfl))
 f266:=Tryz.func337.trans (congrArg some (by kernel_rfl))
 f267:=Tryz.func330.trans (congrArg some (by kernel_rfl))
 f314:=Tryz.func338.trans (congrArg some (by kernel_rfl))
 t3:=Tryz.underlying3
 a3:=Tryz.isAgg3
 z3:=Tryz.sizeOf3
 v3:=Tryz.zeroValue3
 t4:=Tryz.underlying4
 a4:=Tryz.isAgg4
 z4:=Tryz.sizeOf4
 v4:=Tryz.zeroValue4
 t5:=Tryz.underlying5
 a5:=Tryz.isAgg5
 z5:=Tryz.sizeOf5
 v5:=Tryz.zeroValue5
 t9:=Tryz.underlying9
 a9:=Tryz.isAgg9
 z9:=Tryz.sizeOf9
 v9:=Tryz.zeroValue9
 t46:=Tryz.underlying197
 a46:=Tryz.isAgg197
 z46:=Tryz.sizeOf197
 v46:=Tryz.zeroValue197
 t51:=Tryz.underlying246
 a51:=Tryz.isAgg246
 z51:=Tryz.sizeOf246
 v51:=Tryz.zeroValue246
 t146:=Tryz.underlying347
 a146:=Tryz.isAgg347
 z146:=Tryz.sizeOf347
 v146:=Tryz.zeroValue347
 g1:=by kernel_rfl }
open Go.RowKit Go.Lib in
theorem Tryz.stringslite_Index_one (s : ByteArray) (c : UInt8) (w : World) :
  Calls Tryz.prog 303 #[.string s,.string ⟨#[c]⟩] w fun e w' => e = .returned (.int .i64 (Lib.indexByte s.data.toList c)) /\ w' = w:=Any.stringslite_Index_one Tryz.lays219 s c w
open Go.RowKit Go.Lib in
open Go.RowKit Go.Lib in
open Go.RowKit Go.Lib in
open Go.RowKit Go.Lib in
open Go.RowKit Go.Lib in
open Go.RowKit Go.Lib in
open Go.RowKit Go.Lib in
open Go.RowKit Go.Lib in
open Go.RowKit Go.Lib in
open Go.RowKit Go.Lib in
open Go.RowKit Go.Lib in
open Go.RowKit Go.Lib in
open Go.RowKit Go.Lib in
def Tryz.lays99_ren : Go.Shelf.Ren:=⟨fun | 99 => 111 | 206 => 175 | n => n,fun | 9 => 9 | 4 => 4 | 3 => 3 | n => n,fun | n => n⟩
theorem Tryz.lays99 : Go.Proofs.Lays.n99 Tryz.prog Tryz.lays99_ren:={
 mixed:=by kernel_rfl
 f99:=Tryz.func111.trans (congrArg some (by kernel_rfl))
 f206:=Tryz.func175.trans (congrArg some (by kernel_rfl))
 t3:=Tryz.underlying3
 a3:=Tryz.isAgg3
 z3:=Tryz.sizeOf3
 v3:=Tryz.zeroValue3
 t4:=Tryz.underlying4
 a4:=Tryz.isAgg4
 z4:=Tryz.sizeOf4
 v4:=Tryz.zeroValue4
 t9:=Tryz.underlying9
 a9:=Tryz.isAgg9
 z9:=Tryz.sizeOf9
 v9:=Tryz.zeroValue9 }
open Go.RowKit Go.Lib in
theorem Tryz.strings_HasPrefix (s p : ByteArray) (w : World) :
  Calls Tryz.prog 111 #[.string s,.string p] w fun e w' => e = .returned (.bool (Lib.hasPrefix s.data.toList p.data.toList)) /\ w' = w:=Any.strings_HasPrefix Tryz.lays99 s p w
open Go.RowKit Go.Lib in
open Go.RowKit Go.Lib in
def Tryz.lays102_ren : Go.Shelf.Ren:=⟨fun | 102 => 179 | 209 => 237 | 207 => 283 | n => n,fun | 9 => 9 | 4 => 4 | 3 => 3 | n => n,fun | n => n⟩
theorem Tryz.lays102 : Go.Proofs.Lays.n102 Tryz.prog Tryz.lays102_ren:={
 mixed:=by kernel_rfl
 f102:=Tryz.func179.trans (congrArg some (by kernel_rfl))
 f207:=Tryz.func283.trans (congrArg some (by kernel_rfl))
 f209:=Tryz.func237.trans (congrArg some (by kernel_rfl))
 t3:=Tryz.underlying3
 a3:=Tryz.isAgg3
 z3:=Tryz.sizeOf3
 v3:=Tryz.zeroValue3
 t4:=Tryz.underlying4
 a4:=Tryz.isAgg4
 z4:=Tryz.sizeOf4
 v4:=Tryz.zeroValue4
 t9:=Tryz.underlying9
 a9:=Tryz.isAgg9
 z9:=Tryz.sizeOf9
 v9:=Tryz.zeroValue9 }
open Go.RowKit Go.Lib in
theorem Tryz.strings_TrimSuffix (s p : ByteArray) (w : World) (hs : s.size <= 9223372036854775807) :
  Calls Tryz.prog 179 #[.string s,.string p] w fun e w' => e = .returned (.string ⟨(Lib.trimSuffix s.data.toList p.data.toList).toArray⟩) /\ w' = w:=Any.strings_TrimSuffix Tryz.lays102 s p w hs
open Go.RowKit Go.Lib in
open Go.RowKit Go.Lib in
def Tryz.lays146_ren : Go.Shelf.Ren:=⟨fun | 146 => 172 | 221 => 231 | 268 => 284 | 138 => 285 | 143 => 286 | 195 => 315 | 197 => 316 | 218 => 317 | 219 => 303 | 260 => 334 | 217 => 329 | 225 => 321 | 224 => 320 | 267 => 330 | 266 => 337 | 314 => 338 | n => n,fun | 9 => 9 | 31 => 143 | 3 => 3 | 4 => 4 | 0 => 0 | 105 => 328 | 21 => 21 | 5 => 5 | 46 => 197 | 119 => 352 | 139 => 355 | 138 => 354 | 146 => 347 | 51 => 246 | n => n,fun | 1 => 0 | 3 => 7 | 4 => 8 | n => n⟩
theorem Tryz.lays146 : Go.Proofs.Lays.n146 Tryz.prog Tryz.lays146_ren:={
 mixed:=by kernel_rfl
 f138:=Tryz.func285.trans (congrArg some (by kernel_rfl))
 f143:=Tryz.func286.trans (congrArg some (by kernel_rfl))
 f146:=Tryz.func172.trans (congrArg some (by kernel_rfl))
 f195:=Tryz.func315.trans (congrArg some (by kernel_rfl))
 f197:=Tryz.func316.trans (congrArg some (by kernel_rfl))
 f217:=Tryz.func329.trans (congrArg some (by kernel_rfl))
 f218:=Tryz.func317.trans (congrArg some (by kernel_rfl))
 f219:=Tryz.func303.trans (congrArg some (by kernel_rfl))
 f221:=Tryz.func231.trans (congrArg some (by kernel_rfl))
 f224:=Tryz.func320.trans (congrArg some (by kernel_rfl))
 f225:=Tryz.func321.trans (congrArg some (by kernel_rfl))
 f260:=Tryz.func334.trans (congrArg some (by kernel_rfl))
 f266:=Tryz.func337.trans (congrArg some (by kernel_rfl))
 f267:=Tryz.func330.trans (congrArg some (by kernel_rfl))
 f268:=Tryz.func284.trans (congrArg some (by kernel_rfl))
 f314:=Tryz.func338.trans (congrArg some (by kernel_rfl))
 t0:=Tryz.underlying0
 a0:=Tryz.isAgg0
 z0:=Tryz.sizeOf0
 v0:=Tryz.zeroValue0
 t3:=Tryz.underlying3
 a3:=Tryz.isAgg3
 z3:=Tryz.sizeOf3
 v3:=Tryz.zeroValue3
 t4:=Tryz.underlying4
 a4:=Tryz.isAgg4
 z4:=Tryz.sizeOf4
 v4:=Tryz.zeroValue4
 t5:=Tryz.underlying5
 a5:=Tryz.isAgg5
 z5:=Tryz.sizeOf5
 v5:=Tryz.zeroValue5
 t9:=Tryz.underlying9
 a9:=Tryz.isAgg9
 z9:=Tryz.sizeOf9
 v9:=Tryz.zeroValue9
 t21:=Tryz.underlying21
 a21:=Tryz.isAgg21
 z21:=Tryz.sizeOf21
 v21:=Tryz.zeroValue21
 t31:=Tryz.underlying143
 a31:=Tryz.isAgg143
 z31:=Tryz.sizeOf143
 v31:=Tryz.zeroValue143
 t46:=Tryz.underlying197
 a46:=Tryz.isAgg197
 z46:=Tryz.sizeOf197
 v46:=Tryz.zeroValue197
 t51:=Tryz.underlying246
 a51:=Tryz.isAgg246
 z51:=Tryz.sizeOf246
 v51:=Tryz.zeroValue246
 t105:=Tryz.underlying328
 a105:=Tryz.isAgg328
 z105:=Tryz.sizeOf328
 v105:=Tryz.zeroValue328
 t119:=Tryz.underlying352
 a119:=Tryz.isAgg352
 z119:=Tryz.sizeOf352
 t138:=Tryz.underlying354
 a138:=Tryz.isAgg354
 z138:=Tryz.sizeOf354
 v138:=Tryz.zeroValue354
 t139:=Tryz.underlying355
 a139:=Tryz.isAgg355
 z139:=Tryz.sizeOf355
 v139:=Tryz.zeroValue355
 t146:=Tryz.underlying347
 a146:=Tryz.isAgg347
 z146:=Tryz.sizeOf347
 v146:=Tryz.zeroValue347
 g1:=by kernel_rfl
 g3:=by kernel_rfl
 g4:=by kernel_rfl }
open Go.RowKit Go.Lib in
theorem Tryz.strings_Split (s sep : ByteArray) (m : Int) (w : World) (hs : s.size < 4294967281) (hm : w.cell? ⟨0,0,none⟩ = some (.int .i64 m)) (h1 : 1 <= sep.size) :
  Calls Tryz.prog 172 #[.string s,.string sep] w fun e w' =>
   e = .returned (.slice (some ⟨w.heap.size,0,none⟩) (Lib.countB s sep + 1) (Lib.countB s sep + 1)) /\ w' = w.alloc (.cells ((Lib.splitB sep 0 (Lib.countB s sep) s).map Value.string).toArray 9):=Any.strings_Split Tryz.lays146 (by kernel_rfl) s sep m w hs hm h1
open Go.RowKit Go.Lib in
def Tryz.lays152_ren : Go.Shelf.Ren:=⟨fun | 152 => 287 | 137 => 318 | 119 => 319 | 224 => 320 | 225 => 321 | 217 => 329 | 266 => 337 | n => n,fun | 9 => 9 | 21 => 21 | 3 => 3 | 4 => 4 | 5 => 5 | 0 => 0 | 46 => 197 | n => n,fun | n => n⟩
theorem Tryz.lays152 : Go.Proofs.Lays.n152 Tryz.prog Tryz.lays152_ren:={
 mixed:=by kernel_rfl
 f119:=Tryz.func319.trans (congrArg some (by kernel_rfl))
 f137:=Tryz.func318.trans (congrArg some (by kernel_rfl))
 f152:=Tryz.func287.trans (congrArg some (by kernel_rfl))
 f217:=Tryz.func329.trans (congrArg some (by kernel_rfl))
 f224:=Tryz.func320.trans (congrArg some (by kernel_rfl))
 f225:=Tryz.func321.trans (congrArg some (by kernel_rfl))
 f266:=Tryz.func337.trans (congrArg some (by kernel_rfl))
 t0:=Tryz.underlying0
 a0:=Tryz.isAgg0
 z0:=Tryz.sizeOf0
 v0:=Tryz.zeroValue0
 t3:=Tryz.underlying3
 a3:=Tryz.isAgg3
 z3:=Tryz.sizeOf3
 v3:=Tryz.zeroValue3
 t4:=Tryz.underlying4
 a4:=Tryz.isAgg4
 z4:=Tryz.sizeOf4
 v4:=Tryz.zeroValue4
 t5:=Tryz.underlying5
 a5:=Tryz.isAgg5
 z5:=Tryz.sizeOf5
 v5:=Tryz.zeroValue5
 t9:=Tryz.underlying9
 a9:=Tryz.isAgg9
 z9:=Tryz.sizeOf9
 v9:=Tryz.zeroValue9
 t21:=Tryz.underlying21
 a21:=Tryz.isAgg21
 z21:=Tryz.sizeOf21
 v21:=Tryz.zeroValue21
 t46:=Tryz.underlying197
 a46:=Tryz.isAgg197
 z46:=Tryz.sizeOf197
 v46:=Tryz.zeroValue197 }
open Go.RowKit Go.Lib in
theorem Tryz.strings_IndexRune_ascii (s : ByteArray) (r : Int) (w : World) (h0 : 0 <= r) (h1 : r < 128) :
  Calls Tryz.prog 287 #[.string s,.int .i32 r] w fun e w' => e = .returned (.int .i64 (Lib.indexByte s.data.toList r.toNat.toUInt8)) /\ w' = w:=Any.strings_IndexRune_ascii Tryz.lays152 s r w h0 h1
def Tryz.lays226_ren : Go.Shelf.Ren:=⟨fun | 226 => 288 | n => n,fun | 3 => 3 | 4 => 4 | n => n,fun | n => n⟩
theorem Tryz.lays226 : Go.Proofs.Lays.n226 Tryz.prog Tryz.lays226_ren:={
 mixed:=by kernel_rfl
 f226:=Tryz.func288.trans (congrArg some (by kernel_rfl))
 t3:=Tryz.underlying3
 a3:=Tryz.isAgg3
 z3:=Tryz.sizeOf3
 v3:=Tryz.zeroValue3
 t4:=Tryz.underlying4
 a4:=Tryz.isAgg4
 z4:=Tryz.sizeOf4
 v4:=Tryz.zeroValue4 }
open Go.RowKit Go.Lib in
theorem Tryz.strings_shouldUseASCIISet (n : Int) (w : World) :
  Calls Tryz.prog 288 #[.int .i64 n] w fun e w' => e = .returned (.bool (decide (8 < n))) /\ w' = w:=Any.strings_shouldUseASCIISet Tryz.lays226 n w
def Tryz.lays153_ren : Go.Shelf.Ren:=⟨fun | 153 => 232 | 152 => 287 | 226 => 288 | 227 => 289 | 228 => 290 | 137 => 318 | 119 => 319 | 224 => 320 | 225 => 321 | 217 => 329 | 266 => 337 | n => n,fun | 9 => 9 | 3 => 3 | 4 => 4 | 5 => 5 | 21 => 21 | 117 => 307 | 116 => 306 | 0 => 0 | 46 => 197 | 124 => 332 | n => n,fun | n => n⟩
theorem Tryz.lays153 : Go.Proofs.Lays.n153 Tryz.prog Tryz.lays153_ren:={
 mixed:=by kernel_rfl
 f119:=Tryz.func319.trans (congrArg some (by kernel_rfl))
 f137:=Tryz.func318.trans (congrArg some (by kernel_rfl))
 f152:=Tryz.func287.trans (congrArg some (by kernel_rfl))
 f153:=Tryz.func232.trans (congrArg some (by kernel_rfl))
 f217:=Tryz.func329.trans (congrArg some (by kernel_rfl))
 f224:=Tryz.func320.trans (congrArg some (by kernel_rfl))
 f225:=Tryz.func321.trans (congrArg some (by kernel_rfl))
 f226:=Tryz.func288.trans (congrArg some (by kernel_rfl))
 f227:=Tryz.func289.trans (congrArg some (by kernel_rfl))
 f228:=Tryz.func290.trans (congrArg some (by kernel_rfl))
 f266:=Tryz.func337.trans (congrArg some (by kernel_rfl))
 t0:=Tryz.underlying0
 a0:=Tryz.isAgg0
 z0:=Tryz.sizeOf0
 v0:=Tryz.zeroValue0
 t3:=Tryz.underlying3
 a3:=Tryz.isAgg3
 z3:=Tryz.sizeOf3
 v3:=Tryz.zeroValue3
 t4:=Tryz.underlying4
 a4:=Tryz.isAgg4
 z4:=Tryz.sizeOf4
 v4:=Tryz.zeroValue4
 t5:=Tryz.underlying5
 a5:=Tryz.isAgg5
 z5:=Tryz.sizeOf5
 v5:=Tryz.zeroValue5
 t9:=Tryz.underlying9
 a9:=Tryz.isAgg9
 z9:=Tryz.sizeOf9
 v9:=Tryz.zeroValue9
 t21:=Tryz.underlying21
 a21:=Tryz.isAgg21
 z21:=Tryz.sizeOf21
 v21:=Tryz.zeroValue21
 t46:=Tryz.underlying197
 a46:=Tryz.isAgg197
 z46:=Tryz.sizeOf197
 v46:=Tryz.zeroValue197
 t116:=Tryz.underlying306
 a116:=Tryz.isAgg306
 z116:=Tryz.sizeOf306
 t117:=Tryz.underlying307
 a117:=Tryz.isAgg307
 z117:=Tryz.sizeOf307
 v117:=Tryz.zeroValue307
 t124:=Tryz.underlying332
 a124:=Tryz.isAgg332
 z124:=Tryz.sizeOf332
 v124:=Tryz.zeroValue332 }
open Go.RowKit Go.Lib in
open Go.RowKit Go.Lib in
open Go.RowKit Go.Lib in
open Go.RowKit Go.Lib in
open Go.RowKit Go.Lib in
open Go.RowKit Go.Lib in
theorem Tryz.strings_IndexAny_long (hv116 : ∀ w,(zeroValue 306).run Tryz.prog w = .ok (.agg (Array.replicate 256 (.bool false))) w) (s chars : ByteArray) (w : World) (h2 : 2 <= chars.size) (h8 : 8 < s.size) (hs : s.size < 4294967281) (hcs : chars.size < 4294967281) (hascii : ∀ (j : Nat) b,chars.data.toList[j]? = some b -> b.toNat < 128) :
  Calls Tryz.prog 232 #[.string s,.string chars] w fun e w' => e = .returned (.int .i64 (Lib.indexAny s.data.toList chars.data.toList)) /\ w' = ((w.alloc (.cells (Lib.setCells chars.data.toList) 306)).alloc (.cells (Lib.setCells chars.data.toList) 306)):=Any.strings_IndexAny_long Tryz.lays153 hv116 (by kernel_rfl) s chars w h2 h8 hs hcs hascii
open Go.RowKit Go.Lib in
open Go.RowKit Go.Lib in
open Go.RowKit Go.Lib in
open Go.RowKit Go.Lib in
open Go.RowKit Go.Lib in
open Go.RowKit Go.Lib in
def Tryz.lays105_ren : Go.Shelf.Ren:=⟨fun | 105 => 305 | 212 => 332 | 99 => 111 | 165 => 253 | 166 => 71 | 170 => 73 | 169 => 74 | 263 => 339 | 264 => 340 | 206 => 175 | 240 => 134 | 241 => 304 | 276 => 197 | 277 => 331 | n => n,fun | 9 => 9 | 3 => 3 | 4 => 4 | 20 => 20 | 0 => 0 | 46 => 197 | 109 => 340 | 5 => 5 | 72 => 149 | 76 => 154 | 51 => 246 | 146 => 347 | 53 => 266 | 148 => 350 | 70 => 147 | 37 => 145 | 75 => 153 | 127 => 212 | 164 => 253 | 80 => 158 | n => n,fun | n => n⟩
theorem Tryz.lays105 : Go.Proofs.Lays.n105 Tryz.prog Tryz.lays105_ren:={
 mixed:=by kernel_rfl
 f99:=Tryz.func111.trans (congrArg some (by kernel_rfl))
 f105:=Tryz.func305.trans (congrArg some (by kernel_rfl))
 f165:=Tryz.func253.trans (congrArg some (by kernel_rfl))
 f166:=Tryz.func71.trans (congrArg some (by kernel_rfl))
 f169:=Tryz.func74.trans (congrArg some (by kernel_rfl))
 f170:=Tryz.func73.trans (congrArg some (by kernel_rfl))
 f206:=Tryz.func175.trans (congrArg some (by kernel_rfl))
 f212:=Tryz.func332.trans (congrArg some (by kernel_rfl))
 f240:=Tryz.func134.trans (congrArg some (by kernel_rfl))
 f241:=Tryz.func304.trans (congrArg some (by kernel_rfl))
 f263:=Tryz.func339.trans (congrArg some (by kernel_rfl))
 f264:=Tryz.func340.trans (congrArg some (by kernel_rfl))
 f276:=Tryz.func197.trans (congrArg some (by kernel_rfl))
 f277:=Tryz.func331.trans (congrArg some (by kernel_rfl))
 t0:=Tryz.underlying0
 a0:=Tryz.isAgg0
 z0:=Tryz.sizeOf0
 v0:=Tryz.zeroValue0
 t3:=Tryz.underlying3
 a3:=Tryz.isAgg3
 z3:=Tryz.sizeOf3
 v3:=Tryz.zeroValue3
 t4:=Tryz.underlying4
 a4:=Tryz.isAgg4
 z4:=Tryz.sizeOf4
 v4:=Tryz.zeroValue4
 t5:=Tryz.underlying5
 a5:=Tryz.isAgg5
 z5:=Tryz.sizeOf5
 v5:=Tryz.zeroValue5
 t9:=Tryz.underlying9
 a9:=Tryz.isAgg9
 z9:=Tryz.sizeOf9
 v9:=Tryz.zeroValue9
 t20:=Tryz.underlying20
 a20:=Tryz.isAgg20
 z20:=Tryz.sizeOf20
 v20:=Tryz.zeroValue20
 t37:=Tryz.underlying145
 a37:=Tryz.isAgg145
 z37:=Tryz.sizeOf145
 v37:=Tryz.zeroValue145
 t46:=Tryz.underlying197
 a46:=Tryz.isAgg197
 z46:=Tryz.sizeOf197
 v46:=Tryz.zeroValue197
 t51:=Tryz.underlying246
 a51:=Tryz.isAgg246
 z51:=Tryz.sizeOf246
 v51:=Tryz.zeroValue246
 t53:=Tryz.underlying266
 a53:=Tryz.isAgg266
 z53:=Tryz.sizeOf266
 v53:=Tryz.zeroValue266
 t70:=Tryz.underlying147
 a70:=Tryz.isAgg147
 z70:=Tryz.sizeOf147
 v70:=Tryz.zeroValue147
 t72:=Tryz.underlying149
 a72:=Tryz.isAgg149
 z72:=Tryz.sizeOf149
 v72:=Tryz.zeroValue149
 t75:=Tryz.underlying153
 a75:=Tryz.isAgg153
 z75:=Tryz.sizeOf153
 v75:=Tryz.zeroValue153
 t76:=Tryz.underlying154
 a76:=Tryz.isAgg154
 z76:=Tryz.sizeOf154
 v76:=Tryz.zeroValue154
 t109:=Tryz.underlying340
 a109:=Tryz.isAgg340
 z109:=Tryz.sizeOf340
 v109:=Tryz.zeroValue340
 t127:=Tryz.underlying212
 a127:=Tryz.isAgg212
 z127:=Tryz.sizeOf212
 v127:=Tryz.zeroValue212
 t146:=Tryz.underlying347
 a146:=Tryz.isAgg347
 z146:=Tryz.sizeOf347
 v146:=Tryz.zeroValue347
 t148:=Tryz.underlying350
 a148:=Tryz.isAgg350
 z148:=Tryz.sizeOf350
 v148:=Tryz.zeroValue350
 t164:=Tryz.underlying253
 a164:=Tryz.isAgg253
 z164:=Tryz.sizeOf253
 v164:=Tryz.zeroValue253 }
theorem Tryz.Builder_Extra_105 : Builder.Extra Tryz.prog Tryz.lays105_ren:={
 sizeBuilder:=by kernel_rfl
 liesBuilder:=by kernel_rfl
 t5:=Tryz.underlying5
 a5:=Tryz.isAgg5
 z5:=Tryz.sizeOf5
 v5:=Tryz.zeroValue5
 infoByte:=by kernel_rfl
 cellsByte:=by kernel_rfl
 sizeByte:=by kernel_rfl
 neB5:=by decide }
open Go.RowKit Go.Lib in
open Go.RowKit Go.Lib in
open Go.RowKit Go.Lib in
open Go.RowKit Go.Lib in
open Go.RowKit Go.Lib in
theorem Tryz.strings_Repeat (s : ByteArray) (c : Nat) (w : World) (hc : c <= 9223372036854775807) (hlen : s.size * c <= 140737488355328) :
  Calls Tryz.prog 305 #[.string s,.int .i64 c] w fun e w' => e = .returned (.string ⟨(Lib.repeatL s.data.toList c).toArray⟩) /\ Below w.heap.size w w':=Any.strings_Repeat Tryz.lays105 Tryz.Builder_Extra_105 s c w hc hlen
open Go.RowKit Go.Lib in
open Go.Lib in
open Go.Lib in
def Tryz.lays107_ren : Go.Shelf.Ren:=⟨fun | 107 => 96 | 108 => 156 | n => n,fun | 28 => 22 | 3 => 3 | 4 => 4 | 0 => 0 | n => n,fun | n => n⟩
theorem Tryz.lays107 : Go.Proofs.Lays.n107 Tryz.prog Tryz.lays107_ren:={
 mixed:=by kernel_rfl
 f107:=Tryz.func96.trans (congrArg some (by kernel_rfl))
 f108:=Tryz.func156.trans (congrArg some (by kernel_rfl))
 t0:=Tryz.underlying0
 a0:=Tryz.isAgg0
 z0:=Tryz.sizeOf0
 v0:=Tryz.zeroValue0
 t3:=Tryz.underlying3
 a3:=Tryz.isAgg3
 z3:=Tryz.sizeOf3
 v3:=Tryz.zeroValue3
 t4:=Tryz.underlying4
 a4:=Tryz.isAgg4
 z4:=Tryz.sizeOf4
 v4:=Tryz.zeroValue4
 t28:=Tryz.underlying22
 a28:=Tryz.isAgg22
 z28:=Tryz.sizeOf22
 v28:=Tryz.zeroValue22 }
open Go.Lib in
theorem Tryz.slices_Contains_int (b off n c : Nat) (zs : List Int) (x : Int) (w : World) (hz : n <= zs.length) (hbig : n <= 9223372036854775807) (hc : ∀ j,j < zs.length -> w.cell? ⟨b,off + j,none⟩ = some (.int .i64 (zs.getD j 0))) :
  Calls Tryz.prog 96 #[.slice (some ⟨b,off,none⟩) n c,.int .i64 x] w fun e w' => e = .returned (.bool ((zs.take n).contains x)) /\ w' = w:=Any.slices_Contains_int Tryz.lays107 b off n c zs x w hz hbig hc
open Go.Lib in
theorem Tryz.slices_Contains_int_empty (a : Option Addr) (c : Nat) (x : Int) (w : World) :
  Calls Tryz.prog 96 #[.slice a 0 c,.int .i64 x] w fun e w' => e = .returned (.bool false) /\ w' = w:=Any.slices_Contains_int_empty Tryz.lays107 a c x w
open Go.RowKit Go.Lib in
open Go.RowKit Go.Lib in
def Tryz.laysNm215_ren : Go.Shelf.Ren:=⟨fun | 15 => 158 | n => n,fun | 22 => 22 | 3 => 3 | 4 => 4 | n => n,fun | n => n⟩
theorem Tryz.laysNm215 : Go.Proofs.Lays2.n15 Tryz.prog Tryz.laysNm215_ren:={
 mixed:=by kernel_rfl
 f15:=Tryz.func158.trans (congrArg some (by kernel_rfl))
 t3:=Tryz.underlying3
 a3:=Tryz.isAgg3
 z3:=Tryz.sizeOf3
 v3:=Tryz.zeroValue3
 t4:=Tryz.underlying4
 a4:=Tryz.isAgg4
 z4:=Tryz.sizeOf4
 v4:=Tryz.zeroValue4
 t22:=Tryz.underlying22
 a22:=Tryz.isAgg22
 z22:=Tryz.sizeOf22
 v22:=Tryz.zeroValue22
 i3:=by kernel_rfl }
open Go.RowKit Go.Lib in
theorem Tryz.slices_Clone_int (b off n c : Nat) (zs : List Int) (w : World) (hz : n <= zs.length) (hbig : n * 8 <= 140737488355328) (hc : ∀ j,j < zs.length -> w.cell? ⟨b,off + j,none⟩ = some (.int .i64 (zs.getD j 0))) :
  Calls Tryz.prog 158 #[.slice (some ⟨b,off,none⟩) n c] w fun e w' => ∃ v',e = .returned v' /\ w'.ownsRow w.heap.size 3 1 v' n ((zs.take n).map (Value.int .i64)) /\ v' ≠ .slice none 0 0 /\ Below w.heap.size w w':=Any.slices_Clone_int Tryz.laysNm215 b off n c zs w hz hbig hc
open Go.RowKit Go.Lib in
theorem Tryz.slices_Clone_int_nil (n c : Nat) (w : World) :
  Calls Tryz.prog 158 #[.slice none n c] w fun e w' => e = .returned (.slice none 0 0) /\ w' = w:=Any.slices_Clone_int_nil Tryz.laysNm215 n c w
open Go.RowKit Go.Lib in
theorem Tryz.slices_Clone_int_zero (a : Addr) (c : Nat) (w : World) :
  Calls Tryz.prog 158 #[.slice (some a) 0 c] w fun e w' => ∃ v',e = .returned v' /\ w'.ownsRow w.heap.size 3 1 v' 0 [] /\ v' ≠ .slice none 0 0 /\ Below w.heap.size w w':=Any.slices_Clone_int_zero Tryz.laysNm215 a c w
end Go.Proofs
