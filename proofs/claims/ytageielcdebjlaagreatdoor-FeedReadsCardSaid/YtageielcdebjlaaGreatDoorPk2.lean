/- DERIVED: THE SHELF's CONTRACTS AT THIS DUMP, IN PLAIN WORDS (tools/lay-plain.mjs out of 'the shelf command.lean', which tools/lay-shelf.mjs wrote): THE SAME DECLARATIONS UNDER THE SAME NAMES: 'import', 'namespace', 'open', 'def', 'theorem' AND NOTHING ELSE: no command of the shelf's: FOR A HAND-IN. Each laying: the table of numbers ('.._ren') and one theorem, a field a fact of the dump's own or the kernel's comparison; each contract: ONE APPLICATION. strings.Builder over this program: contracts of copyCheck, WriteByte, WriteString, String, Len with a frame that keeps all blocks below a bound but the builder's own. -/
import Derived.Shelf.Strings.Builder1
import Derived.Shelf.Strings.Builder2
import Derived.Shelf.Strings.OnBuilder
import Derived.Shelf.Small.Utf8
import Derived.Shelf.Small.Strs
import Derived.Shelf.Small.Wraps
import Derived.Shelf.Strings.BuilderF
import Derived.Shelf.Strings.BuilderK
import Derived.Shelf.Strconv.Atoi
import Derived.Shelf.Strconv.Itoa0
import Derived.Shelf.Strconv.Itoa1
import Derived.Shelf.LaysM
import Derived.Shelf.Strconv.Itoa2
import Derived.Shelf.Strconv.Itoa3
import Derived.Shelf.Strings.Search1
import Derived.Shelf.Strings.Search2
import Derived.Shelf.Strings.Search3
import Derived.Shelf.Strings.Cut
import Derived.Shelf.Strings.Count
import Derived.Shelf.Strings.Shaped
import Derived.Shelf.Strings.Prefix
import Derived.Shelf.Strings.Split
import Derived.Shelf.Strings.SplitShaped
import Derived.Shelf.Strings.Runes
import Derived.Shelf.Strings.IndexAny
import Derived.Shelf.Strings.AsciiSet
import Derived.Shelf.Strings.IndexAnyAll
import Derived.Shelf.Bits.Mul64
import Derived.Shelf.Strings.Repeat
import Derived.Shelf.Unicode.DecodeSlow
import Derived.Shelf.Slices.Turned
import Derived.Shelf.Slices.Equal
import Derived.Ground.Names2Prog
import Derived.Shelf.Slices.Clone
import Derived.Test.YtageielcdebjlaaGreatDoorProg
import Derived.Test.YtageielcdebjlaaGreatDoorPk1
import Derived.Lib.Builder
import Derived.Lib.AppendStr
import Derived.Lib.Walk
import Derived.Laws.Externs
set_option maxRecDepth 100000
set_option maxHeartbeats 40000000
namespace Go.Proofs
open Go.Shelf
def Tryz.lays170_ren : Go.Shelf.Ren := ⟨fun | 170 => 101 | n => n, fun | 70 => 140 | 3 => 3 | 0 => 0 | 72 => 142 | 37 => 76 | 5 => 5 | n => n, fun | n => n⟩
theorem Tryz.lays170 : Go.Proofs.Lays.n170 Tryz.prog Tryz.lays170_ren := {
 mixed := by kernel_rfl
 f170 := Tryz.func101.trans (congrArg some (by kernel_rfl))
 t0 := Tryz.underlying0
 a0 := Tryz.isAgg0
 z0 := Tryz.sizeOf0
 v0 := Tryz.zeroValue0
 t3 := Tryz.underlying3
 a3 := Tryz.isAgg3
 z3 := Tryz.sizeOf3
 v3 := Tryz.zeroValue3
 t37 := Tryz.underlying76
 a37 := Tryz.isAgg76
 z37 := Tryz.sizeOf76
 v37 := Tryz.zeroValue76
 t70 := Tryz.underlying140
 a70 := Tryz.isAgg140
 z70 := Tryz.sizeOf140
 v70 := Tryz.zeroValue140
 t72 := Tryz.underlying142
 a72 := Tryz.isAgg142
 z72 := Tryz.sizeOf142
 v72 := Tryz.zeroValue142 }
open Go.RowKit in
theorem Tryz.Builder_Len (B b : Nat) (bs : List Value) (w : World) (h : Lib.IsBuilder 142 5 B b bs w) :
  Calls Tryz.prog 101 #[.pointer (some ⟨b, 0, none⟩)] w fun e w' => e = .returned (.int .i64 bs.length) /\ w' = w := Any.Builder_Len Tryz.lays170 B b bs w h
def Tryz.lays169_ren : Go.Shelf.Ren := ⟨fun | 169 => 89 | n => n, fun | 70 => 140 | 9 => 9 | 0 => 0 | 72 => 142 | 37 => 76 | 127 => 203 | 3 => 3 | 5 => 5 | n => n, fun | n => n⟩
theorem Tryz.lays169 : Go.Proofs.Lays.n169 Tryz.prog Tryz.lays169_ren := {
 mixed := by kernel_rfl
 f169 := Tryz.func89.trans (congrArg some (by kernel_rfl))
 t0 := Tryz.underlying0
 a0 := Tryz.isAgg0
 z0 := Tryz.sizeOf0
 v0 := Tryz.zeroValue0
 t3 := Tryz.underlying3
 a3 := Tryz.isAgg3
 z3 := Tryz.sizeOf3
 v3 := Tryz.zeroValue3
 t9 := Tryz.underlying9
 a9 := Tryz.isAgg9
 z9 := Tryz.sizeOf9
 v9 := Tryz.zeroValue9
 t37 := Tryz.underlying76
 a37 := Tryz.isAgg76
 z37 := Tryz.sizeOf76
 v37 := Tryz.zeroValue76
 t70 := Tryz.underlying140
 a70 := Tryz.isAgg140
 z70 := Tryz.sizeOf140
 v70 := Tryz.zeroValue140
 t72 := Tryz.underlying142
 a72 := Tryz.isAgg142
 z72 := Tryz.sizeOf142
 v72 := Tryz.zeroValue142
 t127 := Tryz.underlying203
 a127 := Tryz.isAgg203
 z127 := Tryz.sizeOf203
 v127 := Tryz.zeroValue203 }
theorem Tryz.Builder_Extra_169 : Builder.Extra Tryz.prog Tryz.lays169_ren := {
 sizeBuilder := by kernel_rfl
 liesBuilder := by kernel_rfl
 t5 := Tryz.underlying5
 a5 := Tryz.isAgg5
 z5 := Tryz.sizeOf5
 v5 := Tryz.zeroValue5
 infoByte := by kernel_rfl
 cellsByte := by kernel_rfl
 sizeByte := by kernel_rfl
 neB5 := by decide }
open Go.RowKit in
open Go.RowKit in
open Go.RowKit in
theorem Tryz.Builder_String_any (B b : Nat) (l : List UInt8) (w : World) (h : Lib.IsBuilder 142 5 B b (Lib.byteCells l) w) (hBw : B <= w.heap.size) :
  Calls Tryz.prog 89 #[.pointer (some ⟨b, 0, none⟩)] w fun e w' => e = .returned (.string ⟨l.toArray⟩) /\ Below B w w' := Any.Builder_String_any Tryz.lays169 Tryz.Builder_Extra_169 B b l w h hBw
open Go.RowKit in
open Go.RowKit in
def Tryz.lays156_ren : Go.Shelf.Ren := ⟨fun | 156 => 249 | 165 => 307 | 166 => 93 | 169 => 89 | 240 => 160 | 241 => 340 | 276 => 239 | 277 => 353 | n => n, fun | 31 => 60 | 9 => 9 | 3 => 3 | 4 => 4 | 0 => 0 | 20 => 20 | 72 => 142 | 76 => 150 | 70 => 140 | 37 => 76 | 75 => 144 | 127 => 203 | 164 => 253 | 5 => 5 | 80 => 146 | n => n, fun | n => n⟩
theorem Tryz.lays156 : Go.Proofs.Lays.n156 Tryz.prog Tryz.lays156_ren := {
 mixed := by kernel_rfl
 f156 := Tryz.func249.trans (congrArg some (by kernel_rfl))
 f165 := Tryz.func307.trans (congrArg some (by kernel_rfl))
 f166 := Tryz.func93.trans (congrArg some (by kernel_rfl))
 f169 := Tryz.func89.trans (congrArg some (by kernel_rfl))
 f240 := Tryz.func160.trans (congrArg some (by kernel_rfl))
 f241 := Tryz.func340.trans (congrArg some (by kernel_rfl))
 f276 := Tryz.func239.trans (congrArg some (by kernel_rfl))
 f277 := Tryz.func353.trans (congrArg some (by kernel_rfl))
 t0 := Tryz.underlying0
 a0 := Tryz.isAgg0
 z0 := Tryz.sizeOf0
 v0 := Tryz.zeroValue0
 t3 := Tryz.underlying3
 a3 := Tryz.isAgg3
 z3 := Tryz.sizeOf3
 v3 := Tryz.zeroValue3
 t4 := Tryz.underlying4
 a4 := Tryz.isAgg4
 z4 := Tryz.sizeOf4
 v4 := Tryz.zeroValue4
 t9 := Tryz.underlying9
 a9 := Tryz.isAgg9
 z9 := Tryz.sizeOf9
 v9 := Tryz.zeroValue9
 t20 := Tryz.underlying20
 a20 := Tryz.isAgg20
 z20 := Tryz.sizeOf20
 v20 := Tryz.zeroValue20
 t31 := Tryz.underlying60
 a31 := Tryz.isAgg60
 z31 := Tryz.sizeOf60
 v31 := Tryz.zeroValue60
 t37 := Tryz.underlying76
 a37 := Tryz.isAgg76
 z37 := Tryz.sizeOf76
 v37 := Tryz.zeroValue76
 t70 := Tryz.underlying140
 a70 := Tryz.isAgg140
 z70 := Tryz.sizeOf140
 v70 := Tryz.zeroValue140
 t72 := Tryz.underlying142
 a72 := Tryz.isAgg142
 z72 := Tryz.sizeOf142
 v72 := Tryz.zeroValue142
 t75 := Tryz.underlying144
 a75 := Tryz.isAgg144
 z75 := Tryz.sizeOf144
 v75 := Tryz.zeroValue144
 t76 := Tryz.underlying150
 a76 := Tryz.isAgg150
 z76 := Tryz.sizeOf150
 v76 := Tryz.zeroValue150
 t127 := Tryz.underlying203
 a127 := Tryz.isAgg203
 z127 := Tryz.sizeOf203
 v127 := Tryz.zeroValue203
 t164 := Tryz.underlying253
 a164 := Tryz.isAgg253
 z164 := Tryz.sizeOf253
 v164 := Tryz.zeroValue253 }
theorem Tryz.Builder_Extra_156 : Builder.Extra Tryz.prog Tryz.lays156_ren := {
 sizeBuilder := by kernel_rfl
 liesBuilder := by kernel_rfl
 t5 := Tryz.underlying5
 a5 := Tryz.isAgg5
 z5 := Tryz.sizeOf5
 v5 := Tryz.zeroValue5
 infoByte := by kernel_rfl
 cellsByte := by kernel_rfl
 sizeByte := by kernel_rfl
 neB5 := by decide }
open Go.RowKit in
theorem Tryz.strings_Join_none (a : Option Addr) (c : Nat) (sep : ByteArray) (w : World) :
  Calls Tryz.prog 249 #[.slice a 0 c, .string sep] w fun e w' => e = .returned (.string ⟨#[]⟩) /\ w' = w := Any.strings_Join_none Tryz.lays156 Tryz.Builder_Extra_156 a c sep w
open Go.RowKit in
theorem Tryz.strings_Join (bk o c : Nat) (xs : List ByteArray) (sep : ByteArray) (w : World) (hcells : ∀ (j : Nat) x, xs[j]? = some x -> w.cell? ⟨bk, o + j, none⟩ = some (.string x)) (hbk : bk < w.heap.size) (hN : xs.length <= 140737488355328) (hcap : xs.length <= c) (hlen : (Lib.join (xs.map (·.data.toList)) sep.data.toList).length <= 140737488355328) :
  Calls Tryz.prog 249 #[.slice (some ⟨bk, o, none⟩) xs.length c, .string sep] w fun e w' => e = .returned (.string ⟨(Lib.join (xs.map (·.data.toList)) sep.data.toList).toArray⟩) /\ Below w.heap.size w w' := Any.strings_Join Tryz.lays156 Tryz.Builder_Extra_156 bk o c xs sep w hcells hbk hN hcap hlen
def Tryz.lays119_ren : Go.Shelf.Ren := ⟨fun | 119 => 304 | n => n, fun | 21 => 21 | 4 => 4 | n => n, fun | n => n⟩
theorem Tryz.lays119 : Go.Proofs.Lays.n119 Tryz.prog Tryz.lays119_ren := {
 mixed := by kernel_rfl
 f119 := Tryz.func304.trans (congrArg some (by kernel_rfl))
 t4 := Tryz.underlying4
 a4 := Tryz.isAgg4
 z4 := Tryz.sizeOf4
 v4 := Tryz.zeroValue4
 t21 := Tryz.underlying21
 a21 := Tryz.isAgg21
 z21 := Tryz.sizeOf21
 v21 := Tryz.zeroValue21 }
theorem Tryz.utf8_ValidRune (r : Int) (w : World) :
  Calls Tryz.prog 304 #[.int .i32 r] w fun e w' => e = .returned (.bool (Lib.validRune r)) /\ w' = w := Any.utf8_ValidRune Tryz.lays119 r w
open Go.RowKit in
open Go.RowKit in
def Tryz.lays137_ren : Go.Shelf.Ren := ⟨fun | 137 => 303 | 217 => 338 | 266 => 351 | n => n, fun | 9 => 9 | 5 => 5 | 3 => 3 | n => n, fun | n => n⟩
theorem Tryz.lays137 : Go.Proofs.Lays.n137 Tryz.prog Tryz.lays137_ren := {
 mixed := by kernel_rfl
 f137 := Tryz.func303.trans (congrArg some (by kernel_rfl))
 f217 := Tryz.func338.trans (congrArg some (by kernel_rfl))
 f266 := Tryz.func351.trans (congrArg some (by kernel_rfl))
 t3 := Tryz.underlying3
 a3 := Tryz.isAgg3
 z3 := Tryz.sizeOf3
 v3 := Tryz.zeroValue3
 t5 := Tryz.underlying5
 a5 := Tryz.isAgg5
 z5 := Tryz.sizeOf5
 v5 := Tryz.zeroValue5
 t9 := Tryz.underlying9
 a9 := Tryz.isAgg9
 z9 := Tryz.sizeOf9
 v9 := Tryz.zeroValue9 }
open Go.RowKit in
theorem Tryz.strings_IndexByte (s : ByteArray) (c : Int) (w : World) :
  Calls Tryz.prog 303 #[.string s, .int .u8 c] w fun e w' => e = .returned (.int .i64 (Lib.indexByte s.data.toList c.toNat.toUInt8)) /\ w' = w := Any.strings_IndexByte Tryz.lays137 s c w
open Go.RowKit in
def Tryz.lays103_ren : Go.Shelf.Ren := ⟨fun | 103 => 177 | 210 => 254 | 206 => 175 | n => n, fun | 9 => 9 | 4 => 4 | 24 => 61 | 3 => 3 | n => n, fun | n => n⟩
theorem Tryz.lays103 : Go.Proofs.Lays.n103 Tryz.prog Tryz.lays103_ren := {
 mixed := by kernel_rfl
 f103 := Tryz.func177.trans (congrArg some (by kernel_rfl))
 f206 := Tryz.func175.trans (congrArg some (by kernel_rfl))
 f210 := Tryz.func254.trans (congrArg some (by kernel_rfl))
 t3 := Tryz.underlying3
 a3 := Tryz.isAgg3
 z3 := Tryz.sizeOf3
 v3 := Tryz.zeroValue3
 t4 := Tryz.underlying4
 a4 := Tryz.isAgg4
 z4 := Tryz.sizeOf4
 v4 := Tryz.zeroValue4
 t9 := Tryz.underlying9
 a9 := Tryz.isAgg9
 z9 := Tryz.sizeOf9
 v9 := Tryz.zeroValue9
 t24 := Tryz.underlying61
 a24 := Tryz.isAgg61
 z24 := Tryz.sizeOf61
 v24 := Tryz.zeroValue61 }
open Go.RowKit in
theorem Tryz.strings_CutPrefix (s p : ByteArray) (w : World) :
  Calls Tryz.prog 177 #[.string s, .string p] w fun e w' => e = .returned (.tuple #[.string ⟨(Lib.trimPrefix s.data.toList p.data.toList).toArray⟩, .bool (Lib.hasPrefix s.data.toList p.data.toList)]) /\ w' = w := Any.strings_CutPrefix Tryz.lays103 s p w
open Go.RowKit in
def Tryz.lays104_ren : Go.Shelf.Ren := ⟨fun | 104 => 90 | 211 => 161 | 207 => 240 | n => n, fun | 9 => 9 | 4 => 4 | 24 => 61 | 3 => 3 | n => n, fun | n => n⟩
theorem Tryz.lays104 : Go.Proofs.Lays.n104 Tryz.prog Tryz.lays104_ren := {
 mixed := by kernel_rfl
 f104 := Tryz.func90.trans (congrArg some (by kernel_rfl))
 f207 := Tryz.func240.trans (congrArg some (by kernel_rfl))
 f211 := Tryz.func161.trans (congrArg some (by kernel_rfl))
 t3 := Tryz.underlying3
 a3 := Tryz.isAgg3
 z3 := Tryz.sizeOf3
 v3 := Tryz.zeroValue3
 t4 := Tryz.underlying4
 a4 := Tryz.isAgg4
 z4 := Tryz.sizeOf4
 v4 := Tryz.zeroValue4
 t9 := Tryz.underlying9
 a9 := Tryz.isAgg9
 z9 := Tryz.sizeOf9
 v9 := Tryz.zeroValue9
 t24 := Tryz.underlying61
 a24 := Tryz.isAgg61
 z24 := Tryz.sizeOf61
 v24 := Tryz.zeroValue61 }
open Go.RowKit in
theorem Tryz.strings_CutSuffix (s p : ByteArray) (w : World) (hs : s.size <= 9223372036854775807) :
  Calls Tryz.prog 90 #[.string s, .string p] w fun e w' => e = .returned (.tuple #[.string ⟨(Lib.trimSuffix s.data.toList p.data.toList).toArray⟩, .bool (Lib.hasSuffix s.data.toList p.data.toList)]) /\ w' = w := Any.strings_CutSuffix Tryz.lays104 s p w hs
open Go.RowKit in
open Go.RowKit in
open Go.RowKit in
open Go.RowKit in
open Go.RowKit in
open Go.RowKit in
open Go.RowKit in
open Go.RowKit in
open Go.RowKit in
open Go.RowKit in
def Tryz.lays172_ren : Go.Shelf.Ren := ⟨fun | 172 => 176 | 244 => 252 | 245 => 253 | 247 => 311 | 279 => 312 | 280 => 313 | 281 => 314 | 282 => 315 | 287 => 342 | 316 => 343 | 171 => 136 | 205 => 344 | 321 => 355 | 322 => 356 | 243 => 208 | 246 => 281 | 283 => 328 | 284 => 329 | 285 => 330 | 286 => 331 | 129 => 230 | 317 => 347 | 318 => 348 | 319 => 349 | 320 => 269 | 337 => 321 | 338 => 322 | n => n, fun | 9 => 9 | 3 => 3 | 75 => 144 | 76 => 150 | 4 => 4 | 5 => 5 | 167 => 300 | 37 => 76 | 0 => 0 | 85 => 301 | 2 => 2 | 168 => 303 | 53 => 245 | 175 => 319 | 46 => 185 | 210 => 322 | 127 => 203 | 145 => 345 | 143 => 343 | 21 => 21 | 171 => 309 | 173 => 311 | 212 => 330 | 51 => 243 | 20 => 20 | 213 => 331 | 232 => 325 | 233 => 326 | 80 => 146 | n => n, fun | 15 => 1 | 16 => 2 | 17 => 6 | 18 => 4 | 19 => 5 | n => n⟩
theorem Tryz.lays172 : Go.Proofs.Lays.n172 Tryz.prog Tryz.lays172_ren := {
 mixed := by kernel_rfl
 f129 := Tryz.func230.trans (congrArg some (by kernel_rfl))
 f171 := Tryz.func136.trans (congrArg some (by kernel_rfl))
 f172 := Tryz.func176.trans (congrArg some (by kernel_rfl))
 f205 := Tryz.func344.trans (congrArg some (by kernel_rfl))
 f243 := Tryz.func208.trans (congrArg some (by kernel_rfl))
 f244 := Tryz.func252.trans (congrArg some (by kernel_rfl))
 f245 := Tryz.func253.trans (congrArg some (by kernel_rfl))
 f246 := Tryz.func281.trans (congrArg some (by kernel_rfl))
 f247 := Tryz.func311.trans (congrArg some (by kernel_rfl))
 f279 := Tryz.func312.trans (congrArg some (by kernel_rfl))
 f280 := Tryz.func313.trans (congrArg some (by kernel_rfl))
 f281 := Tryz.func314.trans (congrArg some (by kernel_rfl))
 f282 := Tryz.func315.trans (congrArg some (by kernel_rfl))
 f283 := Tryz.func328.trans (congrArg some (by kernel_rfl))
 f284 := Tryz.func329.trans (congrArg some (by kernel_rfl))
 f285 := Tryz.func330.trans (congrArg some (by kernel_rfl))
 f286 := Tryz.func331.trans (congrArg some (by kernel_rfl))
 f287 := Tryz.func342.trans (congrArg some (by kernel_rfl))
 f316 := Tryz.func343.trans (congrArg some (by kernel_rfl))
 f317 := Tryz.func347.trans (congrArg some (by kernel_rfl))
 f318 := Tryz.func348.trans (congrArg some (by kernel_rfl))
 f319 := Tryz.func349.trans (congrArg some (by kernel_rfl))
 f320 := Tryz.func269.trans (congrArg some (by kernel_rfl))
 f321 := Tryz.func355.trans (congrArg some (by kernel_rfl))
 f322 := Tryz.func356.trans (congrArg some (by kernel_rfl))
 f337 := Tryz.func321.trans (congrArg some (by kernel_rfl))
 f338 := Tryz.func322.trans (congrArg some (by kernel_rfl))
 t0 := Tryz.underlying0
 a0 := Tryz.isAgg0
 z0 := Tryz.sizeOf0
 v0 := Tryz.zeroValue0
 t2 := Tryz.underlying2
 a2 := Tryz.isAgg2
 z2 := Tryz.sizeOf2
 v2 := Tryz.zeroValue2
 t3 := Tryz.underlying3
 a3 := Tryz.isAgg3
 z3 := Tryz.sizeOf3
 v3 := Tryz.zeroValue3
 t4 := Tryz.underlying4
 a4 := Tryz.isAgg4
 z4 := Tryz.sizeOf4
 v4 := Tryz.zeroValue4
 t5 := Tryz.underlying5
 a5 := Tryz.isAgg5
 z5 := Tryz.sizeOf5
 v5 := Tryz.zeroValue5
 t9 := Tryz.underlying9
 a9 := Tryz.isAgg9
 z9 := Tryz.sizeOf9
 v9 := Tryz.zeroValue9
 t20 := Tryz.underlying20
 a20 := Tryz.isAgg20
 z20 := Tryz.sizeOf20
 v20 := Tryz.zeroValue20
 t21 := Tryz.underlying21
 a21 := Tryz.isAgg21
 z21 := Tryz.sizeOf21
 v21 := Tryz.zeroValue21
 t37 := Tryz.underlying76
 a37 := Tryz.isAgg76
 z37 := Tryz.sizeOf76
 v37 := Tryz.zeroValue76
 t46 := Tryz.underlying185
 a46 := Tryz.isAgg185
 z46 := Tryz.sizeOf185
 v46 := Tryz.zeroValue185
 t51 := Tryz.underlying243
 a51 := Tryz.isAgg243
 z51 := Tryz.sizeOf243
 v51 := Tryz.zeroValue243
 t53 := Tryz.underlying245
 a53 := Tryz.isAgg245
 z53 := Tryz.sizeOf245
 v53 := Tryz.zeroValue245
 t75 := Tryz.underlying144
 a75 := Tryz.isAgg144
 z75 := Tryz.sizeOf144
 v75 := Tryz.zeroValue144
 t76 := Tryz.underlying150
 a76 := Tryz.isAgg150
 z76 := Tryz.sizeOf150
 v76 := Tryz.zeroValue150
 t85 := Tryz.underlying301
 a85 := Tryz.isAgg301
 z85 := Tryz.sizeOf301
 v85 := Tryz.zeroValue301
 t127 := Tryz.underlying203
 a127 := Tryz.isAgg203
 z127 := Tryz.sizeOf203
 v127 := Tryz.zeroValue203
 t143 := Tryz.underlying343
 a143 := Tryz.isAgg343
 z143 := Tryz.sizeOf343
 v143 := Tryz.zeroValue343
 t145 := Tryz.underlying345
 a145 := Tryz.isAgg345
 z145 := Tryz.sizeOf345
 v145 := Tryz.zeroValue345
 t167 := Tryz.underlying300
 a167 := Tryz.isAgg300
 z167 := Tryz.sizeOf300
 v167 := Tryz.zeroValue300
 t168 := Tryz.underlying303
 a168 := Tryz.isAgg303
 z168 := Tryz.sizeOf303
 v168 := Tryz.zeroValue303
 t171 := Tryz.underlying309
 a171 := Tryz.isAgg309
 z171 := Tryz.sizeOf309
 v171 := Tryz.zeroValue309
 t173 := Tryz.underlying311
 a173 := Tryz.isAgg311
 z173 := Tryz.sizeOf311
 v173 := Tryz.zeroValue311
 t175 := Tryz.underlying319
 a175 := Tryz.isAgg319
 z175 := Tryz.sizeOf319
 v175 := Tryz.zeroValue319
 t210 := Tryz.underlying322
 a210 := Tryz.isAgg322
 z210 := Tryz.sizeOf322
 v210 := Tryz.zeroValue322
 t212 := Tryz.underlying330
 a212 := Tryz.isAgg330
 z212 := Tryz.sizeOf330
 v212 := Tryz.zeroValue330
 t213 := Tryz.underlying331
 a213 := Tryz.isAgg331
 z213 := Tryz.sizeOf331
 t232 := Tryz.underlying325
 a232 := Tryz.isAgg325
 z232 := Tryz.sizeOf325
 v232 := Tryz.zeroValue325
 t233 := Tryz.underlying326
 a233 := Tryz.isAgg326
 z233 := Tryz.sizeOf326
 v233 := Tryz.zeroValue326
 g15 := by kernel_rfl
 g16 := by kernel_rfl
 g17 := by kernel_rfl
 g18 := by kernel_rfl
 g19 := by kernel_rfl }
open Go.RowKit in
theorem Tryz.strconv_Atoi (s : ByteArray) (n : Int) (hl : s.size <= 18) (h : Lib.atoi s.data.toList = some n) (w : World) :
  Calls Tryz.prog 176 #[.string s] w fun e w' => e = .returned (.tuple #[.int .i64 n, .nilIface]) /\ ∃ t, w' = Lib.bytesWorld w 5 t := Any.strconv_Atoi Tryz.lays172 s n hl h w
open Go.Lib in
open Go.Lib in
open Go.Lib in
open Go.RowKit Go.Sort Go.Lib in
open Go.RowKit Go.Sort Go.Lib in
open Go.RowKit Go.Sort Go.Lib in
def Tryz.laysM171_ren : Go.Shelf.Ren := ⟨fun | 171 => 136 | 243 => 208 | 246 => 281 | 283 => 328 | 284 => 329 | 285 => 330 | 286 => 331 | 129 => 230 | 317 => 347 | 318 => 348 | 319 => 349 | 320 => 269 | 337 => 321 | 338 => 322 | n => n, fun | 3 => 3 | 9 => 9 | 2 => 2 | 4 => 4 | 171 => 309 | 0 => 0 | 53 => 245 | 37 => 76 | 5 => 5 | 173 => 311 | 212 => 330 | 51 => 243 | 20 => 20 | 213 => 331 | 46 => 185 | 232 => 325 | 233 => 326 | n => n, fun | 17 => 6 | 18 => 4 | 19 => 5 | n => n⟩
theorem Tryz.laysM171 : Go.Proofs.LaysM.n171 Tryz.prog Tryz.laysM171_ren := {
 mixed := by kernel_rfl
 f129 := Tryz.func230.trans (congrArg some (by kernel_rfl))
 f171 := Tryz.func136.trans (congrArg some (by kernel_rfl))
 f243 := Tryz.func208.trans (congrArg some (by kernel_rfl))
 f246 := Tryz.func281.trans (congrArg some (by kernel_rfl))
 f283 := Tryz.func328.trans (congrArg some (by kernel_rfl))
 f284 := Tryz.func329.trans (congrArg some (by kernel_rfl))
 f285 := Tryz.func330.trans (congrArg some (by kernel_rfl))
 f286 := Tryz.func331.trans (congrArg some (by kernel_rfl))
 f317 := Tryz.func347.trans (congrArg some (by kernel_rfl))
 f318 := Tryz.func348.trans (congrArg some (by kernel_rfl))
 f319 := Tryz.func349.trans (congrArg some (by kernel_rfl))
 f320 := Tryz.func269.trans (congrArg some (by kernel_rfl))
 f337 := Tryz.func321.trans (congrArg some (by kernel_rfl))
 f338 := Tryz.func322.trans (congrArg some (by kernel_rfl))
 t0 := Tryz.underlying0
 a0 := Tryz.isAgg0
 z0 := Tryz.sizeOf0
 v0 := Tryz.zeroValue0
 t2 := Tryz.underlying2
 a2 := Tryz.isAgg2
 z2 := Tryz.sizeOf2
 v2 := Tryz.zeroValue2
 t3 := Tryz.underlying3
 a3 := Tryz.isAgg3
 z3 := Tryz.sizeOf3
 v3 := Tryz.zeroValue3
 t4 := Tryz.underlying4
 a4 := Tryz.isAgg4
 z4 := Tryz.sizeOf4
 v4 := Tryz.zeroValue4
 t5 := Tryz.underlying5
 a5 := Tryz.isAgg5
 z5 := Tryz.sizeOf5
 v5 := Tryz.zeroValue5
 t9 := Tryz.underlying9
 a9 := Tryz.isAgg9
 z9 := Tryz.sizeOf9
 v9 := Tryz.zeroValue9
 t20 := Tryz.underlying20
 a20 := Tryz.isAgg20
 z20 := Tryz.sizeOf20
 v20 := Tryz.zeroValue20
 t37 := Tryz.underlying76
 a37 := Tryz.isAgg76
 z37 := Tryz.sizeOf76
 v37 := Tryz.zeroValue76
 t46 := Tryz.underlying185
 a46 := Tryz.isAgg185
 z46 := Tryz.sizeOf185
 v46 := Tryz.zeroValue185
 t51 := Tryz.underlying243
 a51 := Tryz.isAgg243
 z51 := Tryz.sizeOf243
 v51 := Tryz.zeroValue243
 t53 := Tryz.underlying245
 a53 := Tryz.isAgg245
 z53 := Tryz.sizeOf245
 v53 := Tryz.zeroValue245
 t171 := Tryz.underlying309
 a171 := Tryz.isAgg309
 z171 := Tryz.sizeOf309
 v171 := Tryz.zeroValue309
 t173 := Tryz.underlying311
 a173 := Tryz.isAgg311
 z173 := Tryz.sizeOf311
 v173 := Tryz.zeroValue311
 t212 := Tryz.underlying330
 a212 := Tryz.isAgg330
 z212 := Tryz.sizeOf330
 v212 := Tryz.zeroValue330
 t213 := Tryz.underlying331
 a213 := Tryz.isAgg331
 z213 := Tryz.sizeOf331
 t232 := Tryz.underlying325
 a232 := Tryz.isAgg325
 z232 := Tryz.sizeOf325
 v232 := Tryz.zeroValue325
 t233 := Tryz.underlying326
 a233 := Tryz.isAgg326
 z233 := Tryz.sizeOf326
 v233 := Tryz.zeroValue326
 g17 := by kernel_rfl
 g18 := by kernel_rfl
 g19 := by kernel_rfl
 i0 := by kernel_rfl
 i2 := by kernel_rfl
 i3 := by kernel_rfl
 i4 := by kernel_rfl
 i5 := by kernel_rfl
 i9 := by kernel_rfl
 i20 := by kernel_rfl
 i37 := by kernel_rfl
 i46 := by kernel_rfl
 i51 := by kernel_rfl
 i53 := by kernel_rfl
 i171 := by kernel_rfl
 i173 := by kernel_rfl
 i212 := by kernel_rfl
 i232 := by kernel_rfl
 i233 := by kernel_rfl
 m17 := by kernel_rfl
 m18 := by kernel_rfl
 m19 := by kernel_rfl }
def Tryz.lays171_ren : Go.Shelf.Ren := ⟨fun | 171 => 136 | 243 => 208 | 246 => 281 | 283 => 328 | 284 => 329 | 285 => 330 | 286 => 331 | 129 => 230 | 317 => 347 | 318 => 348 | 319 => 349 | 320 => 269 | 337 => 321 | 338 => 322 | n => n, fun | 3 => 3 | 9 => 9 | 2 => 2 | 4 => 4 | 171 => 309 | 0 => 0 | 53 => 245 | 37 => 76 | 5 => 5 | 173 => 311 | 212 => 330 | 51 => 243 | 20 => 20 | 213 => 331 | 46 => 185 | 232 => 325 | 233 => 326 | n => n, fun | 17 => 6 | 18 => 4 | 19 => 5 | n => n⟩
theorem Tryz.lays171 : Go.Proofs.Lays.n171 Tryz.prog Tryz.lays171_ren := {
 mixed := by kernel_rfl
 f129 := Tryz.func230.trans (congrArg some (by kernel_rfl))
 f171 := Tryz.func136.trans (congrArg some (by kernel_rfl))
 f243 := Tryz.func208.trans (congrArg some (by kernel_rfl))
 f246 := Tryz.func281.trans (congrArg some (by kernel_rfl))
 f283 := Tryz.func328.trans (congrArg some (by kernel_rfl))
 f284 := Tryz.func329.trans (congrArg some (by kernel_rfl))
 f285 := Tryz.func330.trans (congrArg some (by kernel_rfl))
 f286 := Tryz.func331.trans (congrArg some (by kernel_rfl))
 f317 := Tryz.func347.trans (congrArg some (by kernel_rfl))
 f318 := Tryz.func348.trans (congrArg some (by kernel_rfl))
 f319 := Tryz.func349.trans (congrArg some (by kernel_rfl))
 f320 := Tryz.func269.trans (congrArg some (by kernel_rfl))
 f337 := Tryz.func321.trans (congrArg some (by kernel_rfl))
 f338 := Tryz.func322.trans (congrArg some (by kernel_rfl))
 t0 := Tryz.underlying0
 a0 := Tryz.isAgg0
 z0 := Tryz.sizeOf0
 v0 := Tryz.zeroValue0
 t2 := Tryz.underlying2
 a2 := Tryz.isAgg2
 z2 := Tryz.sizeOf2
 v2 := Tryz.zeroValue2
 t3 := Tryz.underlying3
 a3 := Tryz.isAgg3
 z3 := Tryz.sizeOf3
 v3 := Tryz.zeroValue3
 t4 := Tryz.underlying4
 a4 := Tryz.isAgg4
 z4 := Tryz.sizeOf4
 v4 := Tryz.zeroValue4
 t5 := Tryz.underlying5
 a5 := Tryz.isAgg5
 z5 := Tryz.sizeOf5
 v5 := Tryz.zeroValue5
 t9 := Tryz.underlying9
 a9 := Tryz.isAgg9
 z9 := Tryz.sizeOf9
 v9 := Tryz.zeroValue9
 t20 := Tryz.underlying20
 a20 := Tryz.isAgg20
 z20 := Tryz.sizeOf20
 v20 := Tryz.zeroValue20
 t37 := Tryz.underlying76
 a37 := Tryz.isAgg76
 z37 := Tryz.sizeOf76
 v37 := Tryz.zeroValue76
 t46 := Tryz.underlying185
 a46 := Tryz.isAgg185
 z46 := Tryz.sizeOf185
 v46 := Tryz.zeroValue185
 t51 := Tryz.underlying243
 a51 := Tryz.isAgg243
 z51 := Tryz.sizeOf243
 v51 := Tryz.zeroValue243
 t53 := Tryz.underlying245
 a53 := Tryz.isAgg245
 z53 := Tryz.sizeOf245
 v53 := Tryz.zeroValue245
 t171 := Tryz.underlying309
 a171 := Tryz.isAgg309
 z171 := Tryz.sizeOf309
 v171 := Tryz.zeroValue309
 t173 := Tryz.underlying311
 a173 := Tryz.isAgg311
 z173 := Tryz.sizeOf311
 v173 := Tryz.zeroValue311
 t212 := Tryz.underlying330
 a212 := Tryz.isAgg330
 z212 := Tryz.sizeOf330
 v212 := Tryz.zeroValue330
 t213 := Tryz.underlying331
 a213 := Tryz.isAgg331
 z213 := Tryz.sizeOf331
 t232 := Tryz.underlying325
 a232 := Tryz.isAgg325
 z232 := Tryz.sizeOf325
 v232 := Tryz.zeroValue325
 t233 := Tryz.underlying326
 a233 := Tryz.isAgg326
 z233 := Tryz.sizeOf326
 v233 := Tryz.zeroValue326
 g17 := by kernel_rfl
 g18 := by kernel_rfl
 g19 := by kernel_rfl }
open Go.RowKit Go.Sort Go.Lib in
theorem Tryz.strconv_Itoa_small (i : Nat) (hi : i < 100) (w : World) :
  Calls Tryz.prog 136 #[.int .i64 i] w fun e w' => e = .returned (.string ⟨(Lib.decDigits i).toArray⟩) /\ w' = w := Any.strconv_Itoa_small Tryz.lays171 i hi w
open Go.RowKit Go.Lib in
open Go.RowKit Go.Lib in
open Go.RowKit Go.Lib in
open Go.RowKit Go.Lib in
def Tryz.lays219_ren : Go.Shelf.Ren := ⟨fun | 219 => 302 | 217 => 338 | 225 => 306 | 224 => 305 | 267 => 339 | 266 => 351 | 314 => 352 | n => n, fun | 9 => 9 | 3 => 3 | 4 => 4 | 5 => 5 | 46 => 185 | 146 => 337 | 51 => 243 | n => n, fun | 1 => 0 | n => n⟩
theorem Tryz.lays219 : Go.Proofs.Lays.n219 Tryz.prog Tryz.lays219_ren := {
 mixed := by kernel_rfl
 f217 := Tryz.func338.trans (congrArg some (by kernel_rfl))
 f219 := Tryz.func302.trans (congrArg some (by kernel_rfl))
 f224 := Tryz.func305.trans (congrArg some (by kernel_rfl))
 f225 := Tryz.func306.trans (congrArg some (by kernel_rfl))
 f266 := Tryz.func351.trans (congrArg some (by kernel_rfl))
 f267 := Tryz.func339.trans (congrArg some (by kernel_rfl))
 f314 := Tryz.func352.trans (congrArg some (by kernel_rfl))
 t3 := Tryz.underlying3
 a3 := Tryz.isAgg3
 z3 := Tryz.sizeOf3
 v3 := Tryz.zeroValue3
 t4 := Tryz.underlying4
 a4 := Tryz.isAgg4
 z4 := Tryz.sizeOf4
 v4 := Tryz.zeroValue4
 t5 := Tryz.underlying5
 a5 := Tryz.isAgg5
 z5 := Tryz.sizeOf5
 v5 := Tryz.zeroValue5
 t9 := Tryz.underlying9
 a9 := Tryz.isAgg9
 z9 := Tryz.sizeOf9
 v9 := Tryz.zeroValue9
 t46 := Tryz.underlying185
 a46 := Tryz.isAgg185
 z46 := Tryz.sizeOf185
 v46 := Tryz.zeroValue185
 t51 := Tryz.underlying243
 a51 := Tryz.isAgg243
 z51 := Tryz.sizeOf243
 v51 := Tryz.zeroValue243
 t146 := Tryz.underlying337
 a146 := Tryz.isAgg337
 z146 := Tryz.sizeOf337
 v146 := Tryz.zeroValue337
 g1 := by kernel_rfl }
open Go.RowKit Go.Lib in
theorem Tryz.stringslite_Index_one (s : ByteArray) (c : UInt8) (w : World) :
  Calls Tryz.prog 302 #[.string s, .string ⟨#[c]⟩] w fun e w' => e = .returned (.int .i64 (Lib.indexByte s.data.toList c)) /\ w' = w := Any.stringslite_Index_one Tryz.lays219 s c w
open Go.RowKit Go.Lib in
open Go.RowKit Go.Lib in
open Go.RowKit Go.Lib in
open Go.RowKit Go.Lib in
open Go.RowKit Go.Lib in
open Go.RowKit Go.Lib in
open Go.RowKit Go.Lib in
open Go.RowKit Go.Lib in
open Go.RowKit Go.Lib in
open Go.RowKit Go.Lib in
open Go.RowKit Go.Lib in
open Go.RowKit Go.Lib in
open Go.RowKit Go.Lib in
def Tryz.lays99_ren : Go.Shelf.Ren := ⟨fun | 99 => 104 | 206 => 175 | n => n, fun | 9 => 9 | 4 => 4 | 3 => 3 | n => n, fun | n => n⟩
theorem Tryz.lays99 : Go.Proofs.Lays.n99 Tryz.prog Tryz.lays99_ren := {
 mixed := by kernel_rfl
 f99 := Tryz.func104.trans (congrArg some (by kernel_rfl))
 f206 := Tryz.func175.trans (congrArg some (by kernel_rfl))
 t3 := Tryz.underlying3
 a3 := Tryz.isAgg3
 z3 := Tryz.sizeOf3
 v3 := Tryz.zeroValue3
 t4 := Tryz.underlying4
 a4 := Tryz.isAgg4
 z4 := Tryz.sizeOf4
 v4 := Tryz.zeroValue4
 t9 := Tryz.underlying9
 a9 := Tryz.isAgg9
 z9 := Tryz.sizeOf9
 v9 := Tryz.zeroValue9 }
open Go.RowKit Go.Lib in
theorem Tryz.strings_HasPrefix (s p : ByteArray) (w : World) :
  Calls Tryz.prog 104 #[.string s, .string p] w fun e w' => e = .returned (.bool (Lib.hasPrefix s.data.toList p.data.toList)) /\ w' = w := Any.strings_HasPrefix Tryz.lays99 s p w
open Go.RowKit Go.Lib in
open Go.RowKit Go.Lib in
def Tryz.lays102_ren : Go.Shelf.Ren := ⟨fun | 102 => 179 | 209 => 256 | 207 => 240 | n => n, fun | 9 => 9 | 4 => 4 | 3 => 3 | n => n, fun | n => n⟩
theorem Tryz.lays102 : Go.Proofs.Lays.n102 Tryz.prog Tryz.lays102_ren := {
 mixed := by kernel_rfl
 f102 := Tryz.func179.trans (congrArg some (by kernel_rfl))
 f207 := Tryz.func240.trans (congrArg some (by kernel_rfl))
 f209 := Tryz.func256.trans (congrArg some (by kernel_rfl))
 t3 := Tryz.underlying3
 a3 := Tryz.isAgg3
 z3 := Tryz.sizeOf3
 v3 := Tryz.zeroValue3
 t4 := Tryz.underlying4
 a4 := Tryz.isAgg4
 z4 := Tryz.sizeOf4
 v4 := Tryz.zeroValue4
 t9 := Tryz.underlying9
 a9 := Tryz.isAgg9
 z9 := Tryz.sizeOf9
 v9 := Tryz.zeroValue9 }
open Go.RowKit Go.Lib in
theorem Tryz.strings_TrimSuffix (s p : ByteArray) (w : World) (hs : s.size <= 9223372036854775807) :
  Calls Tryz.prog 179 #[.string s, .string p] w fun e w' => e = .returned (.string ⟨(Lib.trimSuffix s.data.toList p.data.toList).toArray⟩) /\ w' = w := Any.strings_TrimSuffix Tryz.lays102 s p w hs
open Go.RowKit Go.Lib in
open Go.RowKit Go.Lib in
def Tryz.lays146_ren : Go.Shelf.Ren := ⟨fun | 146 => 91 | 221 => 162 | 268 => 241 | 138 => 242 | 143 => 243 | 195 => 299 | 197 => 300 | 218 => 301 | 219 => 302 | 260 => 337 | 217 => 338 | 225 => 306 | 224 => 305 | 267 => 339 | 266 => 351 | 314 => 352 | n => n, fun | 9 => 9 | 31 => 60 | 3 => 3 | 4 => 4 | 0 => 0 | 105 => 294 | 21 => 21 | 5 => 5 | 46 => 185 | 119 => 333 | 139 => 336 | 138 => 335 | 146 => 337 | 51 => 243 | n => n, fun | 1 => 0 | 3 => 7 | 4 => 8 | n => n⟩
theorem Tryz.lays146 : Go.Proofs.Lays.n146 Tryz.prog Tryz.lays146_ren := {
 mixed := by kernel_rfl
 f138 := Tryz.func242.trans (congrArg some (by kernel_rfl))
 f143 := Tryz.func243.trans (congrArg some (by kernel_rfl))
 f146 := Tryz.func91.trans (congrArg some (by kernel_rfl))
 f195 := Tryz.func299.trans (congrArg some (by kernel_rfl))
 f197 := Tryz.func300.trans (congrArg some (by kernel_rfl))
 f217 := Tryz.func338.trans (congrArg some (by kernel_rfl))
 f218 := Tryz.func301.trans (congrArg some (by kernel_rfl))
 f219 := Tryz.func302.trans (congrArg some (by kernel_rfl))
 f221 := Tryz.func162.trans (congrArg some (by kernel_rfl))
 f224 := Tryz.func305.trans (congrArg some (by kernel_rfl))
 f225 := Tryz.func306.trans (congrArg some (by kernel_rfl))
 f260 := Tryz.func337.trans (congrArg some (by kernel_rfl))
 f266 := Tryz.func351.trans (congrArg some (by kernel_rfl))
 f267 := Tryz.func339.trans (congrArg some (by kernel_rfl))
 f268 := Tryz.func241.trans (congrArg some (by kernel_rfl))
 f314 := Tryz.func352.trans (congrArg some (by kernel_rfl))
 t0 := Tryz.underlying0
 a0 := Tryz.isAgg0
 z0 := Tryz.sizeOf0
 v0 := Tryz.zeroValue0
 t3 := Tryz.underlying3
 a3 := Tryz.isAgg3
 z3 := Tryz.sizeOf3
 v3 := Tryz.zeroValue3
 t4 := Tryz.underlying4
 a4 := Tryz.isAgg4
 z4 := Tryz.sizeOf4
 v4 := Tryz.zeroValue4
 t5 := Tryz.underlying5
 a5 := Tryz.isAgg5
 z5 := Tryz.sizeOf5
 v5 := Tryz.zeroValue5
 t9 := Tryz.underlying9
 a9 := Tryz.isAgg9
 z9 := Tryz.sizeOf9
 v9 := Tryz.zeroValue9
 t21 := Tryz.underlying21
 a21 := Tryz.isAgg21
 z21 := Tryz.sizeOf21
 v21 := Tryz.zeroValue21
 t31 := Tryz.underlying60
 a31 := Tryz.isAgg60
 z31 := Tryz.sizeOf60
 v31 := Tryz.zeroValue60
 t46 := Tryz.underlying185
 a46 := Tryz.isAgg185
 z46 := Tryz.sizeOf185
 v46 := Tryz.zeroValue185
 t51 := Tryz.underlying243
 a51 := Tryz.isAgg243
 z51 := Tryz.sizeOf243
 v51 := Tryz.zeroValue243
 t105 := Tryz.underlying294
 a105 := Tryz.isAgg294
 z105 := Tryz.sizeOf294
 v105 := Tryz.zeroValue294
 t119 := Tryz.underlying333
 a119 := Tryz.isAgg333
 z119 := Tryz.sizeOf333
 t138 := Tryz.underlying335
 a138 := Tryz.isAgg335
 z138 := Tryz.sizeOf335
 v138 := Tryz.zeroValue335
 t139 := Tryz.underlying336
 a139 := Tryz.isAgg336
 z139 := Tryz.sizeOf336
 v139 := Tryz.zeroValue336
 t146 := Tryz.underlying337
 a146 := Tryz.isAgg337
 z146 := Tryz.sizeOf337
 v146 := Tryz.zeroValue337
 g1 := by kernel_rfl
 g3 := by kernel_rfl
 g4 := by kernel_rfl }
open Go.RowKit Go.Lib in
theorem Tryz.strings_Split (s sep : ByteArray) (m : Int) (w : World) (hs : s.size < 4294967281) (hm : w.cell? ⟨0, 0, none⟩ = some (.int .i64 m)) (h1 : 1 <= sep.size) :
  Calls Tryz.prog 91 #[.string s, .string sep] w fun e w' =>
   e = .returned (.slice (some ⟨w.heap.size, 0, none⟩) (Lib.countB s sep + 1) (Lib.countB s sep + 1)) /\ w' = w.alloc (.cells ((Lib.splitB sep 0 (Lib.countB s sep) s).map Value.string).toArray 9) := Any.strings_Split Tryz.lays146 (by kernel_rfl) s sep m w hs hm h1
open Go.RowKit Go.Lib in
def Tryz.lays152_ren : Go.Shelf.Ren := ⟨fun | 152 => 244 | 137 => 303 | 119 => 304 | 224 => 305 | 225 => 306 | 217 => 338 | 266 => 351 | n => n, fun | 9 => 9 | 21 => 21 | 3 => 3 | 4 => 4 | 5 => 5 | 0 => 0 | 46 => 185 | n => n, fun | n => n⟩
theorem Tryz.lays152 : Go.Proofs.Lays.n152 Tryz.prog Tryz.lays152_ren := {
 mixed := by kernel_rfl
 f119 := Tryz.func304.trans (congrArg some (by kernel_rfl))
 f137 := Tryz.func303.trans (congrArg some (by kernel_rfl))
 f152 := Tryz.func244.trans (congrArg some (by kernel_rfl))
 f217 := Tryz.func338.trans (congrArg some (by kernel_rfl))
 f224 := Tryz.func305.trans (congrArg some (by kernel_rfl))
 f225 := Tryz.func306.trans (congrArg some (by kernel_rfl))
 f266 := Tryz.func351.trans (congrArg some (by kernel_rfl))
 t0 := Tryz.underlying0
 a0 := Tryz.isAgg0
 z0 := Tryz.sizeOf0
 v0 := Tryz.zeroValue0
 t3 := Tryz.underlying3
 a3 := Tryz.isAgg3
 z3 := Tryz.sizeOf3
 v3 := Tryz.zeroValue3
 t4 := Tryz.underlying4
 a4 := Tryz.isAgg4
 z4 := Tryz.sizeOf4
 v4 := Tryz.zeroValue4
 t5 := Tryz.underlying5
 a5 := Tryz.isAgg5
 z5 := Tryz.sizeOf5
 v5 := Tryz.zeroValue5
 t9 := Tryz.underlying9
 a9 := Tryz.isAgg9
 z9 := Tryz.sizeOf9
 v9 := Tryz.zeroValue9
 t21 := Tryz.underlying21
 a21 := Tryz.isAgg21
 z21 := Tryz.sizeOf21
 v21 := Tryz.zeroValue21
 t46 := Tryz.underlying185
 a46 := Tryz.isAgg185
 z46 := Tryz.sizeOf185
 v46 := Tryz.zeroValue185 }
open Go.RowKit Go.Lib in
theorem Tryz.strings_IndexRune_ascii (s : ByteArray) (r : Int) (w : World) (h0 : 0 <= r) (h1 : r < 128) :
  Calls Tryz.prog 244 #[.string s, .int .i32 r] w fun e w' => e = .returned (.int .i64 (Lib.indexByte s.data.toList r.toNat.toUInt8)) /\ w' = w := Any.strings_IndexRune_ascii Tryz.lays152 s r w h0 h1
def Tryz.lays226_ren : Go.Shelf.Ren := ⟨fun | 226 => 245 | n => n, fun | 3 => 3 | 4 => 4 | n => n, fun | n => n⟩
theorem Tryz.lays226 : Go.Proofs.Lays.n226 Tryz.prog Tryz.lays226_ren := {
 mixed := by kernel_rfl
 f226 := Tryz.func245.trans (congrArg some (by kernel_rfl))
 t3 := Tryz.underlying3
 a3 := Tryz.isAgg3
 z3 := Tryz.sizeOf3
 v3 := Tryz.zeroValue3
 t4 := Tryz.underlying4
 a4 := Tryz.isAgg4
 z4 := Tryz.sizeOf4
 v4 := Tryz.zeroValue4 }
open Go.RowKit Go.Lib in
theorem Tryz.strings_shouldUseASCIISet (n : Int) (w : World) :
  Calls Tryz.prog 245 #[.int .i64 n] w fun e w' => e = .returned (.bool (decide (8 < n))) /\ w' = w := Any.strings_shouldUseASCIISet Tryz.lays226 n w
def Tryz.lays153_ren : Go.Shelf.Ren := ⟨fun | 153 => 163 | 152 => 244 | 226 => 245 | 227 => 246 | 228 => 247 | 137 => 303 | 119 => 304 | 224 => 305 | 225 => 306 | 217 => 338 | 266 => 351 | n => n, fun | 9 => 9 | 3 => 3 | 4 => 4 | 5 => 5 | 21 => 21 | 117 => 259 | 116 => 258 | 0 => 0 | 46 => 185 | 124 => 298 | n => n, fun | n => n⟩
theorem Tryz.lays153 : Go.Proofs.Lays.n153 Tryz.prog Tryz.lays153_ren := {
 mixed := by kernel_rfl
 f119 := Tryz.func304.trans (congrArg some (by kernel_rfl))
 f137 := Tryz.func303.trans (congrArg some (by kernel_rfl))
 f152 := Tryz.func244.trans (congrArg some (by kernel_rfl))
 f153 := Tryz.func163.trans (congrArg some (by kernel_rfl))
 f217 := Tryz.func338.trans (congrArg some (by kernel_rfl))
 f224 := Tryz.func305.trans (congrArg some (by kernel_rfl))
 f225 := Tryz.func306.trans (congrArg some (by kernel_rfl))
 f226 := Tryz.func245.trans (congrArg some (by kernel_rfl))
 f227 := Tryz.func246.trans (congrArg some (by kernel_rfl))
 f228 := Tryz.func247.trans (congrArg some (by kernel_rfl))
 f266 := Tryz.func351.trans (congrArg some (by kernel_rfl))
 t0 := Tryz.underlying0
 a0 := Tryz.isAgg0
 z0 := Tryz.sizeOf0
 v0 := Tryz.zeroValue0
 t3 := Tryz.underlying3
 a3 := Tryz.isAgg3
 z3 := Tryz.sizeOf3
 v3 := Tryz.zeroValue3
 t4 := Tryz.underlying4
 a4 := Tryz.isAgg4
 z4 := Tryz.sizeOf4
 v4 := Tryz.zeroValue4
 t5 := Tryz.underlying5
 a5 := Tryz.isAgg5
 z5 := Tryz.sizeOf5
 v5 := Tryz.zeroValue5
 t9 := Tryz.underlying9
 a9 := Tryz.isAgg9
 z9 := Tryz.sizeOf9
 v9 := Tryz.zeroValue9
 t21 := Tryz.underlying21
 a21 := Tryz.isAgg21
 z21 := Tryz.sizeOf21
 v21 := Tryz.zeroValue21
 t46 := Tryz.underlying185
 a46 := Tryz.isAgg185
 z46 := Tryz.sizeOf185
 v46 := Tryz.zeroValue185
 t116 := Tryz.underlying258
 a116 := Tryz.isAgg258
 z116 := Tryz.sizeOf258
 t117 := Tryz.underlying259
 a117 := Tryz.isAgg259
 z117 := Tryz.sizeOf259
 v117 := Tryz.zeroValue259
 t124 := Tryz.underlying298
 a124 := Tryz.isAgg298
 z124 := Tryz.sizeOf298
 v124 := Tryz.zeroValue298 }
open Go.RowKit Go.Lib in
open Go.RowKit Go.Lib in
open Go.RowKit Go.Lib in
open Go.RowKit Go.Lib in
open Go.RowKit Go.Lib in
open Go.RowKit Go.Lib in
theorem Tryz.strings_IndexAny_long (hv116 : ∀ w, (zeroValue 258).run Tryz.prog w = .ok (.agg (Array.replicate 256 (.bool false))) w) (s chars : ByteArray) (w : World) (h2 : 2 <= chars.size) (h8 : 8 < s.size) (hs : s.size < 4294967281) (hcs : chars.size < 4294967281) (hascii : ∀ (j : Nat) b, chars.data.toList[j]? = some b -> b.toNat < 128) :
  Calls Tryz.prog 163 #[.string s, .string chars] w fun e w' => e = .returned (.int .i64 (Lib.indexAny s.data.toList chars.data.toList)) /\ w' = ((w.alloc (.cells (Lib.setCells chars.data.toList) 258)).alloc (.cells (Lib.setCells chars.data.toList) 258)) := Any.strings_IndexAny_long Tryz.lays153 hv116 (by kernel_rfl) s chars w h2 h8 hs hcs hascii
open Go.RowKit Go.Lib in
open Go.RowKit Go.Lib in
open Go.RowKit Go.Lib in
open Go.RowKit Go.Lib in
open Go.RowKit Go.Lib in
open Go.RowKit Go.Lib in
def Tryz.lays105_ren : Go.Shelf.Ren := ⟨fun | 105 => 341 | 212 => 354 | 99 => 104 | 165 => 307 | 166 => 93 | 170 => 101 | 169 => 89 | 263 => 357 | 264 => 358 | 206 => 175 | 240 => 160 | 241 => 340 | 276 => 239 | 277 => 353 | n => n, fun | 9 => 9 | 3 => 3 | 4 => 4 | 20 => 20 | 0 => 0 | 46 => 185 | 109 => 340 | 5 => 5 | 72 => 142 | 76 => 150 | 51 => 243 | 146 => 337 | 53 => 245 | 148 => 347 | 70 => 140 | 37 => 76 | 75 => 144 | 127 => 203 | 164 => 253 | 80 => 146 | n => n, fun | n => n⟩
theorem Tryz.lays105 : Go.Proofs.Lays.n105 Tryz.prog Tryz.lays105_ren := {
 mixed := by kernel_rfl
 f99 := Tryz.func104.trans (congrArg some (by kernel_rfl))
 f105 := Tryz.func341.trans (congrArg some (by kernel_rfl))
 f165 := Tryz.func307.trans (congrArg some (by kernel_rfl))
 f166 := Tryz.func93.trans (congrArg some (by kernel_rfl))
 f169 := Tryz.func89.trans (congrArg some (by kernel_rfl))
 f170 := Tryz.func101.trans (congrArg some (by kernel_rfl))
 f206 := Tryz.func175.trans (congrArg some (by kernel_rfl))
 f212 := Tryz.func354.trans (congrArg some (by kernel_rfl))
 f240 := Tryz.func160.trans (congrArg some (by kernel_rfl))
 f241 := Tryz.func340.trans (congrArg some (by kernel_rfl))
 f263 := Tryz.func357.trans (congrArg some (by kernel_rfl))
 f264 := Tryz.func358.trans (congrArg some (by kernel_rfl))
 f276 := Tryz.func239.trans (congrArg some (by kernel_rfl))
 f277 := Tryz.func353.trans (congrArg some (by kernel_rfl))
 t0 := Tryz.underlying0
 a0 := Tryz.isAgg0
 z0 := Tryz.sizeOf0
 v0 := Tryz.zeroValue0
 t3 := Tryz.underlying3
 a3 := Tryz.isAgg3
 z3 := Tryz.sizeOf3
 v3 := Tryz.zeroValue3
 t4 := Tryz.underlying4
 a4 := Tryz.isAgg4
 z4 := Tryz.sizeOf4
 v4 := Tryz.zeroValue4
 t5 := Tryz.underlying5
 a5 := Tryz.isAgg5
 z5 := Tryz.sizeOf5
 v5 := Tryz.zeroValue5
 t9 := Tryz.underlying9
 a9 := Tryz.isAgg9
 z9 := Tryz.sizeOf9
 v9 := Tryz.zeroValue9
 t20 := Tryz.underlying20
 a20 := Tryz.isAgg20
 z20 := Tryz.sizeOf20
 v20 := Tryz.zeroValue20
 t37 := Tryz.underlying76
 a37 := Tryz.isAgg76
 z37 := Tryz.sizeOf76
 v37 := Tryz.zeroValue76
 t46 := Tryz.underlying185
 a46 := Tryz.isAgg185
 z46 := Tryz.sizeOf185
 v46 := Tryz.zeroValue185
 t51 := Tryz.underlying243
 a51 := Tryz.isAgg243
 z51 := Tryz.sizeOf243
 v51 := Tryz.zeroValue243
 t53 := Tryz.underlying245
 a53 := Tryz.isAgg245
 z53 := Tryz.sizeOf245
 v53 := Tryz.zeroValue245
 t70 := Tryz.underlying140
 a70 := Tryz.isAgg140
 z70 := Tryz.sizeOf140
 v70 := Tryz.zeroValue140
 t72 := Tryz.underlying142
 a72 := Tryz.isAgg142
 z72 := Tryz.sizeOf142
 v72 := Tryz.zeroValue142
 t75 := Tryz.underlying144
 a75 := Tryz.isAgg144
 z75 := Tryz.sizeOf144
 v75 := Tryz.zeroValue144
 t76 := Tryz.underlying150
 a76 := Tryz.isAgg150
 z76 := Tryz.sizeOf150
 v76 := Tryz.zeroValue150
 t109 := Tryz.underlying340
 a109 := Tryz.isAgg340
 z109 := Tryz.sizeOf340
 v109 := Tryz.zeroValue340
 t127 := Tryz.underlying203
 a127 := Tryz.isAgg203
 z127 := Tryz.sizeOf203
 v127 := Tryz.zeroValue203
 t146 := Tryz.underlying337
 a146 := Tryz.isAgg337
 z146 := Tryz.sizeOf337
 v146 := Tryz.zeroValue337
 t148 := Tryz.underlying347
 a148 := Tryz.isAgg347
 z148 := Tryz.sizeOf347
 v148 := Tryz.zeroValue347
 t164 := Tryz.underlying253
 a164 := Tryz.isAgg253
 z164 := Tryz.sizeOf253
 v164 := Tryz.zeroValue253 }
theorem Tryz.Builder_Extra_105 : Builder.Extra Tryz.prog Tryz.lays105_ren := {
 sizeBuilder := by kernel_rfl
 liesBuilder := by kernel_rfl
 t5 := Tryz.underlying5
 a5 := Tryz.isAgg5
 z5 := Tryz.sizeOf5
 v5 := Tryz.zeroValue5
 infoByte := by kernel_rfl
 cellsByte := by kernel_rfl
 sizeByte := by kernel_rfl
 neB5 := by decide }
open Go.RowKit Go.Lib in
open Go.RowKit Go.Lib in
open Go.RowKit Go.Lib in
open Go.RowKit Go.Lib in
open Go.RowKit Go.Lib in
theorem Tryz.strings_Repeat (s : ByteArray) (c : Nat) (w : World) (hc : c <= 9223372036854775807) (hlen : s.size * c <= 140737488355328) :
  Calls Tryz.prog 341 #[.string s, .int .i64 c] w fun e w' => e = .returned (.string ⟨(Lib.repeatL s.data.toList c).toArray⟩) /\ Below w.heap.size w w' := Any.strings_Repeat Tryz.lays105 Tryz.Builder_Extra_105 s c w hc hlen
open Go.RowKit Go.Lib in
open Go.Lib in
open Go.Lib in
def Tryz.lays107_ren : Go.Shelf.Ren := ⟨fun | 107 => 148 | 108 => 222 | n => n, fun | 28 => 27 | 3 => 3 | 4 => 4 | 0 => 0 | n => n, fun | n => n⟩
theorem Tryz.lays107 : Go.Proofs.Lays.n107 Tryz.prog Tryz.lays107_ren := {
 mixed := by kernel_rfl
 f107 := Tryz.func148.trans (congrArg some (by kernel_rfl))
 f108 := Tryz.func222.trans (congrArg some (by kernel_rfl))
 t0 := Tryz.underlying0
 a0 := Tryz.isAgg0
 z0 := Tryz.sizeOf0
 v0 := Tryz.zeroValue0
 t3 := Tryz.underlying3
 a3 := Tryz.isAgg3
 z3 := Tryz.sizeOf3
 v3 := Tryz.zeroValue3
 t4 := Tryz.underlying4
 a4 := Tryz.isAgg4
 z4 := Tryz.sizeOf4
 v4 := Tryz.zeroValue4
 t28 := Tryz.underlying27
 a28 := Tryz.isAgg27
 z28 := Tryz.sizeOf27
 v28 := Tryz.zeroValue27 }
open Go.Lib in
theorem Tryz.slices_Contains_int (b off n c : Nat) (zs : List Int) (x : Int) (w : World) (hz : n <= zs.length) (hbig : n <= 9223372036854775807) (hc : ∀ j, j < zs.length -> w.cell? ⟨b, off + j, none⟩ = some (.int .i64 (zs.getD j 0))) :
  Calls Tryz.prog 148 #[.slice (some ⟨b, off, none⟩) n c, .int .i64 x] w fun e w' => e = .returned (.bool ((zs.take n).contains x)) /\ w' = w := Any.slices_Contains_int Tryz.lays107 b off n c zs x w hz hbig hc
open Go.Lib in
theorem Tryz.slices_Contains_int_empty (a : Option Addr) (c : Nat) (x : Int) (w : World) :
  Calls Tryz.prog 148 #[.slice a 0 c, .int .i64 x] w fun e w' => e = .returned (.bool false) /\ w' = w := Any.slices_Contains_int_empty Tryz.lays107 a c x w
open Go.RowKit Go.Lib in
open Go.RowKit Go.Lib in
def Tryz.laysNm215_ren : Go.Shelf.Ren := ⟨fun | 15 => 146 | n => n, fun | 22 => 27 | 3 => 3 | 4 => 4 | n => n, fun | n => n⟩
theorem Tryz.laysNm215 : Go.Proofs.Lays2.n15 Tryz.prog Tryz.laysNm215_ren := {
 mixed := by kernel_rfl
 f15 := Tryz.func146.trans (congrArg some (by kernel_rfl))
 t3 := Tryz.underlying3
 a3 := Tryz.isAgg3
 z3 := Tryz.sizeOf3
 v3 := Tryz.zeroValue3
 t4 := Tryz.underlying4
 a4 := Tryz.isAgg4
 z4 := Tryz.sizeOf4
 v4 := Tryz.zeroValue4
 t22 := Tryz.underlying27
 a22 := Tryz.isAgg27
 z22 := Tryz.sizeOf27
 v22 := Tryz.zeroValue27
 i3 := by kernel_rfl }
open Go.RowKit Go.Lib in
theorem Tryz.slices_Clone_int (b off n c : Nat) (zs : List Int) (w : World) (hz : n <= zs.length) (hbig : n * 8 <= 140737488355328) (hc : ∀ j, j < zs.length -> w.cell? ⟨b, off + j, none⟩ = some (.int .i64 (zs.getD j 0))) :
  Calls Tryz.prog 146 #[.slice (some ⟨b, off, none⟩) n c] w fun e w' => ∃ v', e = .returned v' /\ w'.ownsRow w.heap.size 3 1 v' n ((zs.take n).map (Value.int .i64)) /\ v' ≠ .slice none 0 0 /\ Below w.heap.size w w' := Any.slices_Clone_int Tryz.laysNm215 b off n c zs w hz hbig hc
open Go.RowKit Go.Lib in
theorem Tryz.slices_Clone_int_nil (n c : Nat) (w : World) :
  Calls Tryz.prog 146 #[.slice none n c] w fun e w' => e = .returned (.slice none 0 0) /\ w' = w := Any.slices_Clone_int_nil Tryz.laysNm215 n c w
open Go.RowKit Go.Lib in
theorem Tryz.slices_Clone_int_zero (a : Addr) (c : Nat) (w : World) :
  Calls Tryz.prog 146 #[.slice (some a) 0 c] w fun e w' => ∃ v', e = .returned v' /\ w'.ownsRow w.heap.size 3 1 v' 0 [] /\ v' ≠ .slice none 0 0 /\ Below w.heap.size w w' := Any.slices_Clone_int_zero Tryz.laysNm215 a c w
end Go.Proofs
namespace Go.Proofs.YtageielcdebjlaaGreatDoor
open Go.RowKit
structure Bld (b B : Nat) (l : List UInt8) (w : World) : Prop where
 lt : b < B
 ex : ∃ p v, (p = .pointer none ∨ p = .pointer (some ⟨b, 0, none⟩)) /\ w.heap[b]? = some (.cells #[p, v] 142 (0, 0)) /\ w.ownsRow B 5 1 v l.length (Lib.byteCells l)
structure But (b B : Nat) (w w' : World) : Prop where
 os : w'.os = w.os
 tape : w'.tape = w.tape
 output : w'.output = w.output
 size : w.heap.size <= w'.heap.size
 block : ∀ k, k < B -> k ≠ b -> w'.heap[k]? = w.heap[k]?
theorem But.refl (b B : Nat) (w : World) : But b B w w := ⟨rfl, rfl, rfl, Nat.le_refl _, fun _ _ _ => rfl⟩
theorem But.trans {b B : Nat} {w1 w2 w3 : World} (h : But b B w1 w2) (k : But b B w2 w3) : But b B w1 w3 :=
 ⟨k.os.trans h.os, k.tape.trans h.tape, k.output.trans h.output, Nat.le_trans h.size k.size, fun i hi hb => (k.block i hi hb).trans (h.block i hi hb)⟩
theorem But.below {b B B' : Nat} {w w' : World} (h : But b B w w') (h1 : B' <= b) (h2 : B' <= B) : Below B' w w' :=
 ⟨h.os, h.tape, h.output, h.size, fun k hk => h.block k (by omega) (by omega)⟩
theorem But.of_below {b B : Nat} {w w' : World} (h : Below B w w') : But b B w w' := ⟨h.os, h.tape, h.output, h.size, fun k hk _ => h.block k hk⟩
theorem But.cell {b B : Nat} {w w' : World} (h : But b B w w') {p : Addr} (h1 : p.block < B) (h2 : p.block ≠ b) : w'.cell? p = w.cell? p := World.cell?_of_block (w := w) (h.block p.block h1 h2)
theorem Bld.fresh (w : World) (B : Nat) (h1 : w.heap.size < B) : Bld w.heap.size B [] (w.alloc (.cells #[.pointer none, .slice none 0 0] 142)) :=
 ⟨h1, _, _, .inl rfl, heap_alloc_new w _, World.ownsRow_nil _ _ _ _⟩
theorem Bld.kept {b B : Nat} {l : List UInt8} {w w' : World} (h : Bld b B l w) (hw : Below w.heap.size w w') : Bld b B l w' := by
 obtain ⟨p, v, hp, hb, hown⟩ := h.ex; refine ⟨h.lt, p, v, hp, (hw.block b (Array.getElem?_eq_some_iff.1 hb).1).trans hb, hown.1, ?_⟩; rcases hown.2 with h1 | ⟨g, cap, cur, r1, r2, r3, r4⟩
 ·exact .inl h1
 ·exact .inr ⟨g, cap, cur, r1, r2, (hw.block g (Array.getElem?_eq_some_iff.1 r3).1).trans r3, r4⟩
theorem Bld.blt {b B : Nat} {l : List UInt8} {w : World} (h : Bld b B l w) : b < w.heap.size := by
 obtain ⟨p, v, hp, hb, hown⟩ := h.ex; exact (Array.getElem?_eq_some_iff.1 hb).1
theorem sizeBuilder : (Tryz.prog.info? 142).map (·.size) = some 2 := by kernel_rfl
theorem liesBuilder : liesAt Tryz.prog Tryz.prog.depth 142 (2 / Tryz.prog.cellsOf 142) 0 142 1 = true := by kernel_rfl
theorem infoByte : (Tryz.prog.info? 5).map (fun i => (i.zero, i.size, i.bytes)) = some (some (.int .u8 0), 1, 1) := by kernel_rfl
theorem copyCheck_used (b : Nat) (w : World) (h0 : w.cell? ⟨b, 0, none⟩ = some (.pointer (some ⟨b, 0, none⟩))) :
  Calls Tryz.prog 160 #[.pointer (some ⟨b, 0, none⟩)] w fun e w' => e = .returned (.tuple #[]) /\ w' = w := by
 obtain ⟨j, hj, _⟩ := Option.map_eq_some_iff.1 sizeBuilder; go_enter Tryz.func160, Tryz.ntmps160; go_wp2
 rw [Lib.run_neq_ptr_same w _ Tryz.underlying140 hj]; go_wp2
 go_end0
 exact ⟨rfl, rfl⟩
theorem copyCheck_fresh (b : Nat) (w : World) (h0 : w.cell? ⟨b, 0, none⟩ = some (.pointer none)) (hsh : w.shape? b = some (142, 2)) (hfz : w.frozen? ⟨b, 0, none⟩ = false) :
  Calls Tryz.prog 160 #[.pointer (some ⟨b, 0, none⟩)] w fun e w' => e = .returned (.tuple #[]) /\ w' = w.setCell ⟨b, 0, none⟩ (.pointer (some ⟨b, 0, none⟩)) := by
 obtain ⟨j, hj, hjs⟩ := Option.map_eq_some_iff.1 sizeBuilder; go_enter Tryz.func160, Tryz.ntmps160; go_wp2
 rw [Lib.run_to_unsafe w ⟨b, 0, none⟩ Tryz.underlying140 Tryz.underlying253 hj (by rw [hjs]; decide) hsh (Nat.zero_lt_succ 1)]; simp only [Result.andThen]; rw [Oper.upon_value]; go_wp2
 rw [run_callFunc_extern Tryz.func239 (by kernel_rfl) (by kernel_rfl) (by kernel_rfl) (e := Extern.AbiNoEscape.same) (by kernel_rfl)]; rw [Lib.run_noEscape]; simp only [Result.andThen]; rw [Oper.upon_value]; go_wp2
 rw [Lib.run_from_unsafe w ⟨b, 0, none⟩ Tryz.underlying253 Tryz.underlying140 hj hsh liesBuilder]; simp only [Result.andThen]; rw [Oper.upon_value]; go_wp2
 go_end0
 exact ⟨rfl, rfl⟩
theorem ownsRow_setCell_out {w : World} {B : Nat} {v : Value} {n : Nat} {xs : List Value} {b j : Nat} (h : w.ownsRow B 5 1 v n xs) (hb : b < B) (u : Value) : (w.setCell ⟨b, j, none⟩ u).ownsRow B 5 1 v n xs :=
 ownsRow_setCell_below h (a := ⟨b, j, none⟩) hb u
theorem copyCheck_any (b B : Nat) (l : List UInt8) (w : World) (h : Bld b B l w) :
  Calls Tryz.prog 160 #[.pointer (some ⟨b, 0, none⟩)] w fun e w' => e = .returned (.tuple #[]) /\ (∃ v, w'.heap[b]? = some (.cells #[.pointer (some ⟨b, 0, none⟩), v] 142 (0, 0)) /\ w'.ownsRow B 5 1 v l.length (Lib.byteCells l)) /\ But b B w w' := by
 obtain ⟨p, v, hp, hb, hown⟩ := h.ex; rcases hp with rfl | rfl
 ·refine (copyCheck_fresh b w (by simp [World.cell?, hb]) (by simp [World.shape?, hb]) (by simp [World.frozen?, hb])).mono ?_; rintro e w' ⟨rfl, rfl⟩; refine ⟨rfl, ⟨v, by simp [World.setCell, Array.getElem?_modify, hb], ownsRow_setCell_out hown h.lt _⟩, ⟨rfl, rfl, rfl, by simp [World.setCell], fun k _ hk => Below.heap_setCell _ _ _ _ hk⟩⟩
 ·refine (copyCheck_used b w (by simp [World.cell?, hb])).mono ?_; rintro e w' ⟨rfl, rfl⟩; exact ⟨rfl, ⟨v, hb, hown⟩, But.refl _ _ _⟩
theorem Bld.put {b B : Nat} {l : List UInt8} {w : World} {v v' : Value} (h1 : b < B) (hb : w.heap[b]? = some (.cells #[.pointer (some ⟨b, 0, none⟩), v] 142 (0, 0))) (hown : w.ownsRow B 5 1 v' l.length (Lib.byteCells l)) :
  Bld b B l (w.setCell ⟨b, 1, none⟩ v') :=
 ⟨h1, _, v', .inr rfl, by simp [World.setCell, Array.getElem?_modify, hb], ownsRow_setCell_out hown h1 _⟩
theorem writeByte_any (b B : Nat) (l : List UInt8) (n : Int) (c : UInt8) (hn : n = c.toNat) (w : World) (h : Bld b B l w) (hlen : l.length + 1 <= 140737488355328) (hB : B <= w.heap.size) :
  Calls Tryz.prog 88 #[.pointer (some ⟨b, 0, none⟩), .int .u8 n] w fun e w' => e = .returned .nilIface /\ Bld b B (l ++ [c]) w' /\ But b B w w' := by
 subst hn; obtain ⟨i0, hi, hz0, hz1, hz2⟩ := info_parts infoByte; have hbB := h.lt; go_enter Tryz.func88, Tryz.ntmps88; go_wp2_with fail; refine (copyCheck_any b B l _ h).mono ?_; rintro e w1 ⟨rfl, ⟨v, hbk, hown⟩, hb1⟩; have hs1 := hb1.size; have c0 : w1.cell? ⟨b, 0, none⟩ = some (.pointer (some ⟨b, 0, none⟩)) := by rw [Lib.cell_of_heap hbk]; rfl
 have c1 : w1.cell? ⟨b, 1, none⟩ = some v := by rw [Lib.cell_of_heap hbk]; rfl
 go_wp2_with (at_builtin; refine wpList_append_own _ rfl _ _ 76 rfl B 5 i0 (.int .u8 0) 1 1 Tryz.underlying76 hi hz0 hz1 hz2 rfl (by decide) _ _ _ rfl (hown.alloc _) ⟨w1.heap.size, 0, none⟩ 1 1 [.int .u8 c.toNat] rfl rfl ?c1 ?c2 ?c3 ?c4 ?c5 ?_)
 case c1 =>
  intro j u hj; match j, hj with
  | 0, hj => simp at hj; subst hj; simp [Addr.add]
 case c2 => intro u hu; simp at hu; subst hu; rfl
 case c3 => unfold maxLen; omega
 case c4 => omega
 case c5 => simp; omega
 intro v' w2 hown' hgrow _; have hlt : b < w1.heap.size := (Array.getElem?_eq_some_iff.1 hbk).1; have hne : some b ≠ v.ownBlock := by
  intro e; have := (hown.lt b e.symm).1; omega
 have hb2 : w2.heap[b]? = some (.cells #[.pointer (some ⟨b, 0, none⟩), v] 142 (0, 0)) := by
  rw [hgrow.block b (by simp; omega) hne, Lib.alloc_old w1 _ b hlt]; exact hbk
 have d1 : w2.cell? ⟨b, 1, none⟩ = some v := by rw [Lib.cell_of_heap hb2]; rfl
 have f1 : w2.frozen? ⟨b, 1, none⟩ = false := Lib.frozen_of_heap hb2 1; obtain ⟨g, cap, rfl⟩ : ∃ g cap, v' = .slice (some ⟨g, 0, none⟩) (l.length + 1) cap := by
  rcases hown'.2 with ⟨_, h0⟩ | ⟨g, cap, cur, hv, _⟩
  ·omega
  ·exact ⟨g, cap, hv⟩
 go_wp2
 go_ret; refine ⟨rfl, Bld.put hbB hb2 (by simpa [Lib.byteCells] using hown'), ?_⟩; refine hb1.trans ⟨hgrow.os, hgrow.tape, hgrow.output, by have := hgrow.size; simp [World.setCell] at this ⊢; omega, fun k hk hkb => ?_⟩; rw [Below.heap_setCell _ _ _ _ hkb, hgrow.block k (by simp; omega) (by intro e; have := (hown.lt k e.symm).1; omega), Lib.alloc_old w1 _ k (by omega)]
theorem writeString_any (b B : Nat) (l : List UInt8) (s : ByteArray) (w : World) (h : Bld b B l w) (hlen : l.length + s.size <= 140737488355328) (hB : B <= w.heap.size) :
  Calls Tryz.prog 93 #[.pointer (some ⟨b, 0, none⟩), .string s] w fun e w' => e = .returned (.tuple #[.int .i64 s.size, .nilIface]) /\ Bld b B (l ++ s.data.toList) w' /\ But b B w w' := by
 obtain ⟨i0, hi, hz0, hz1, hz2⟩ := info_parts infoByte; have hbB := h.lt; go_enter Tryz.func93, Tryz.ntmps93; go_wp2_with fail; refine (copyCheck_any b B l _ h).mono ?_; rintro e w1 ⟨rfl, ⟨v, hbk, hown⟩, hb1⟩; have hs1 := hb1.size; have c0 : w1.cell? ⟨b, 0, none⟩ = some (.pointer (some ⟨b, 0, none⟩)) := by rw [Lib.cell_of_heap hbk]; rfl
 have c1 : w1.cell? ⟨b, 1, none⟩ = some v := by rw [Lib.cell_of_heap hbk]; rfl
 go_wp2_with (at_builtin; refine Lib.wpList_append_own_string _ rfl _ _ 76 9 rfl B 5 i0 Tryz.underlying76 Tryz.underlying9 hi hz0 hz1 hz2 _ _ _ rfl hown s rfl ?c3 ?c4 ?c5 ?_)
 case c3 => unfold maxLen; omega
 case c4 => omega
 case c5 => omega
 intro v' w2 hown' hgrow _; have hlt : b < w1.heap.size := (Array.getElem?_eq_some_iff.1 hbk).1; have hne : some b ≠ v.ownBlock := by
  intro e; have := (hown.lt b e.symm).1; omega
 have hb2 : w2.heap[b]? = some (.cells #[.pointer (some ⟨b, 0, none⟩), v] 142 (0, 0)) := by
  rw [hgrow.block b hlt hne]; exact hbk
 have d1 : w2.cell? ⟨b, 1, none⟩ = some v := by rw [Lib.cell_of_heap hb2]; rfl
 have f1 : w2.frozen? ⟨b, 1, none⟩ = false := Lib.frozen_of_heap hb2 1; obtain ⟨ao, n', cap, rfl⟩ : ∃ ao n' cap, v' = .slice ao n' cap := by
  rcases hown'.2 with ⟨hv, h0⟩ | ⟨g, cap, cur, hv, _⟩
  ·exact ⟨_, _, _, hv⟩
  ·exact ⟨_, _, _, hv⟩
 go_wp2
 go_ret2; refine ⟨rfl, Bld.put hbB hb2 ?_, ?_⟩
 ·have e : s.size = s.data.toList.length := Lib.size_eq s; have := hown'; rw [e] at this; simpa [Lib.byteCells, Lib.strCells] using this
 refine hb1.trans ⟨hgrow.os, hgrow.tape, hgrow.output, by have := hgrow.size; simp [World.setCell] at this ⊢; omega, fun k hk hkb => ?_⟩; rw [Below.heap_setCell _ _ _ _ hkb, hgrow.block k (by omega) (by intro e; have := (hown.lt k e.symm).1; omega)]
theorem Bld.is {b B : Nat} {l : List UInt8} {w : World} (h : Bld b B l w) : Lib.IsBuilder 142 5 b b (Lib.byteCells l) w := by
 obtain ⟨p, v, hp, hb, hown⟩ := h.ex; have hlt := h.lt; have hown' : w.ownsRow b 5 1 v l.length (Lib.byteCells l) := by
  refine ⟨hown.1, ?_⟩; rcases hown.2 with h1 | ⟨g, cap, cur, r1, r2, r3⟩
  ·exact .inl h1
  ·exact .inr ⟨g, cap, cur, r1, by omega, r3⟩
 have hne : v.ownBlock ≠ some b := fun e => by have := (hown.lt b e).1; omega
 rcases hp with rfl | rfl
 ·exact .inl ⟨Nat.le_refl _, v, hb, by rw [Lib.byteCells_length]; exact hown', hne⟩
 ·exact .inr ⟨Nat.le_refl _, v, hb, by rw [Lib.byteCells_length]; exact hown', hne⟩
theorem string_any (b B : Nat) (l : List UInt8) (w : World) (h : Bld b B l w) :
  Calls Tryz.prog 89 #[.pointer (some ⟨b, 0, none⟩)] w fun e w' => e = .returned (.string ⟨l.toArray⟩) /\ Below b w w' :=
 Tryz.Builder_String_any b b l w h.is (Nat.le_of_lt h.blt)
theorem len_any (b B : Nat) (l : List UInt8) (w : World) (h : Bld b B l w) :
  Calls Tryz.prog 101 #[.pointer (some ⟨b, 0, none⟩)] w fun e w' => e = .returned (.int .i64 l.length) /\ w' = w := by
 have := Tryz.Builder_Len b b (Lib.byteCells l) w h.is; rw [Lib.byteCells_length] at this; exact this
end Go.Proofs.YtageielcdebjlaaGreatDoor
