/-
  DERIVED: THE SHELF's CONTRACTS AT THIS DUMP, IN PLAIN WORDS (tools/lay-plain.mjs out of 'the shelf command.lean', which tools/lay-shelf.mjs wrote): THE SAME DECLARATIONS UNDER THE SAME NAMES: 'import', 'namespace', 'open', 'def', 'theorem' AND NOTHING ELSE: no command of the shelf's: FOR A HAND-IN. Each laying: the table of numbers ('.._ren') and one theorem, a field a fact of the dump's own or the kernel's comparison; each contract: ONE APPLICATION.
-/
import Derived.Shelf.Strings.Builder1
import Derived.Shelf.Strings.Builder2
import Derived.Shelf.Strings.OnBuilder
import Derived.Shelf.Small.Utf8
import Derived.Shelf.Small.Strs
import Derived.Shelf.Small.Wraps
import Derived.Shelf.Strings.BuilderF
import Derived.Shelf.Strings.BuilderK
import Derived.Shelf.Strconv.Atoi
import Derived.Shelf.Strconv.Itoa0
import Derived.Shelf.Strconv.Itoa1
import Derived.Shelf.LaysM
import Derived.Shelf.Strconv.Itoa2
import Derived.Shelf.Strconv.Itoa3
import Derived.Shelf.Strings.Search1
import Derived.Shelf.Strings.Search2
import Derived.Shelf.Strings.Search3
import Derived.Shelf.Strings.Cut
import Derived.Shelf.Strings.Count
import Derived.Shelf.Strings.Shaped
import Derived.Shelf.Strings.Prefix
import Derived.Shelf.Strings.Split
import Derived.Shelf.Strings.SplitShaped
import Derived.Shelf.Strings.Runes
import Derived.Shelf.Strings.IndexAny
import Derived.Shelf.Strings.AsciiSet
import Derived.Shelf.Strings.IndexAnyAll
import Derived.Shelf.Bits.Mul64
import Derived.Shelf.Strings.Repeat
import Derived.Shelf.Unicode.DecodeSlow
import Derived.Shelf.Slices.Turned
import Derived.Shelf.Slices.Equal
import Derived.Ground.Names2Prog
import Derived.Shelf.Slices.Clone
import Derived.Test.YtageielcdebjlaaGreatDoorProg
namespace Go.Proofs
open Go.Shelf
def Tryz.lays170_ren : Go.Shelf.Ren := ⟨fun | 170 => 101 | n => n, fun | 70 => 140 | 3 => 3 | 0 => 0 | 72 => 142 | 37 => 76 | 5 => 5 | n => n, fun | n => n⟩
theorem Tryz.lays170 : Go.Proofs.Lays.n170 Tryz.prog Tryz.lays170_ren := {
  mixed := by kernel_rfl
  f170 := Tryz.func101.trans (congrArg some (by kernel_rfl))
  t0 := Tryz.underlying0
  a0 := Tryz.isAgg0
  z0 := Tryz.sizeOf0
  v0 := Tryz.zeroValue0
  t3 := Tryz.underlying3
  a3 := Tryz.isAgg3
  z3 := Tryz.sizeOf3
  v3 := Tryz.zeroValue3
  t37 := Tryz.underlying76
  a37 := Tryz.isAgg76
  z37 := Tryz.sizeOf76
  v37 := Tryz.zeroValue76
  t70 := Tryz.underlying140
  a70 := Tryz.isAgg140
  z70 := Tryz.sizeOf140
  v70 := Tryz.zeroValue140
  t72 := Tryz.underlying142
  a72 := Tryz.isAgg142
  z72 := Tryz.sizeOf142
  v72 := Tryz.zeroValue142 }
open Go.RowKit in
/-- (*strings.Builder).Len: "Len returns the number of accumulated bytes; b.Len() == len(b.String()).": the world is as it was. (LAID: no walk: one application.) -/
theorem Tryz.Builder_Len (B b : Nat) (bs : List Value) (w : World) (h : Lib.IsBuilder 142 5 B b bs w) :
    Calls Tryz.prog 101 #[.pointer (some ⟨b, 0, none⟩)] w fun e w' => e = .returned (.int .i64 bs.length) ∧ w' = w := Any.Builder_Len Tryz.lays170 B b bs w h
def Tryz.lays169_ren : Go.Shelf.Ren := ⟨fun | 169 => 89 | n => n, fun | 70 => 140 | 9 => 9 | 0 => 0 | 72 => 142 | 37 => 76 | 127 => 203 | 3 => 3 | 5 => 5 | n => n, fun | n => n⟩
theorem Tryz.lays169 : Go.Proofs.Lays.n169 Tryz.prog Tryz.lays169_ren := {
  mixed := by kernel_rfl
  f169 := Tryz.func89.trans (congrArg some (by kernel_rfl))
  t0 := Tryz.underlying0
  a0 := Tryz.isAgg0
  z0 := Tryz.sizeOf0
  v0 := Tryz.zeroValue0
  t3 := Tryz.underlying3
  a3 := Tryz.isAgg3
  z3 := Tryz.sizeOf3
  v3 := Tryz.zeroValue3
  t9 := Tryz.underlying9
  a9 := Tryz.isAgg9
  z9 := Tryz.sizeOf9
  v9 := Tryz.zeroValue9
  t37 := Tryz.underlying76
  a37 := Tryz.isAgg76
  z37 := Tryz.sizeOf76
  v37 := Tryz.zeroValue76
  t70 := Tryz.underlying140
  a70 := Tryz.isAgg140
  z70 := Tryz.sizeOf140
  v70 := Tryz.zeroValue140
  t72 := Tryz.underlying142
  a72 := Tryz.isAgg142
  z72 := Tryz.sizeOf142
  v72 := Tryz.zeroValue142
  t127 := Tryz.underlying203
  a127 := Tryz.isAgg203
  z127 := Tryz.sizeOf203
  v127 := Tryz.zeroValue203 }
theorem Tryz.Builder_Extra_169 : Builder.Extra Tryz.prog Tryz.lays169_ren := {
  sizeBuilder := by kernel_rfl
  liesBuilder := by kernel_rfl
  t5 := Tryz.underlying5
  a5 := Tryz.isAgg5
  z5 := Tryz.sizeOf5
  v5 := Tryz.zeroValue5
  infoByte := by kernel_rfl
  cellsByte := by kernel_rfl
  sizeByte := by kernel_rfl
  neB5 := by decide }
open Go.RowKit in
/-- (*strings.Builder).String: "String returns the accumulated string.": OF A BUILDER THAT HOLDS AT LEAST ONE BYTE. ✋ THE MODEL FREEZES THOSE BYTES IN THE BUFFER (unsafe.String): a later write INTO them ends the model's run without an answer; a later append BEHIND them goes on. The statement's order of evaluation is drawn: one draw. (LAID: no walk: one application.) -/
theorem Tryz.Builder_String (B b : Nat) (l : List UInt8) (w : World) (h : Lib.IsBuilder 142 5 B b (Lib.byteCells l) w) (h0 : l ≠ []) :
    Calls Tryz.prog 89 #[.pointer (some ⟨b, 0, none⟩)] w fun e w' => e = .returned (.string ⟨l.toArray⟩) ∧ Below B w w' := Any.Builder_String Tryz.lays169 Tryz.Builder_Extra_169 B b l w h h0
open Go.RowKit in
/-- (*strings.Builder).String OF A BUILDER THAT HOLDS NO BYTE: the empty string. (Its buffer is nil, or a row of which it has taken nothing yet; where that row has NO capacity the model lays one new block for unsafe.SliceData's 'some address'.) One draw. (LAID: no walk: one application.) -/
theorem Tryz.Builder_String_empty (B b : Nat) (w : World) (h : Lib.IsBuilder 142 5 B b [] w) (hBw : B ≤ w.heap.size) :
    Calls Tryz.prog 89 #[.pointer (some ⟨b, 0, none⟩)] w fun e w' => e = .returned (.string ⟨#[]⟩) ∧ Below B w w' := Any.Builder_String_empty Tryz.lays169 Tryz.Builder_Extra_169 B b w h hBw
open Go.RowKit in
/-- (*strings.Builder).String: "String returns the accumulated string.": WHATEVER THE BUILDER HOLDS. (LAID: no walk: one application.) -/
theorem Tryz.Builder_String_any (B b : Nat) (l : List UInt8) (w : World) (h : Lib.IsBuilder 142 5 B b (Lib.byteCells l) w) (hBw : B ≤ w.heap.size) :
    Calls Tryz.prog 89 #[.pointer (some ⟨b, 0, none⟩)] w fun e w' => e = .returned (.string ⟨l.toArray⟩) ∧ Below B w w' := Any.Builder_String_any Tryz.lays169 Tryz.Builder_Extra_169 B b l w h hBw
def Tryz.lays241_ren : Go.Shelf.Ren := ⟨fun | 241 => 340 | 277 => 353 | n => n, fun | 70 => 140 | 3 => 3 | 0 => 0 | 72 => 142 | 37 => 76 | 5 => 5 | n => n, fun | n => n⟩
theorem Tryz.lays241 : Go.Proofs.Lays.n241 Tryz.prog Tryz.lays241_ren := {
  mixed := by kernel_rfl
  f241 := Tryz.func340.trans (congrArg some (by kernel_rfl))
  f277 := Tryz.func353.trans (congrArg some (by kernel_rfl))
  t0 := Tryz.underlying0
  a0 := Tryz.isAgg0
  z0 := Tryz.sizeOf0
  v0 := Tryz.zeroValue0
  t3 := Tryz.underlying3
  a3 := Tryz.isAgg3
  z3 := Tryz.sizeOf3
  v3 := Tryz.zeroValue3
  t37 := Tryz.underlying76
  a37 := Tryz.isAgg76
  z37 := Tryz.sizeOf76
  v37 := Tryz.zeroValue76
  t70 := Tryz.underlying140
  a70 := Tryz.isAgg140
  z70 := Tryz.sizeOf140
  v70 := Tryz.zeroValue140
  t72 := Tryz.underlying142
  a72 := Tryz.isAgg142
  z72 := Tryz.sizeOf142
  v72 := Tryz.zeroValue142 }
theorem Tryz.Builder_Extra_241 : Builder.Extra Tryz.prog Tryz.lays241_ren := {
  sizeBuilder := by kernel_rfl
  liesBuilder := by kernel_rfl
  t5 := Tryz.underlying5
  a5 := Tryz.isAgg5
  z5 := Tryz.sizeOf5
  v5 := Tryz.zeroValue5
  infoByte := by kernel_rfl
  cellsByte := by kernel_rfl
  sizeByte := by kernel_rfl
  neB5 := by decide }
open Go.RowKit in
/-- (*strings.Builder).grow (no doc but "grow copies the buffer to a new, larger buffer so that there are at least n bytes of capacity beyond len(b.buf)."): AT A BUILDER WITHOUT A BUFFER: a new row of whatever bytes for its buffer, none of them its own yet. Three draws. (LAID: no walk: one application.) -/
theorem Tryz.Builder_grow_fresh (B b n : Nat) (w : World) (hB : B ≤ b) (hbk : w.heap[b]? = some (.cells #[.pointer (some ⟨b, 0, none⟩), .slice none 0 0] 142 (0, 0))) (hBw : B ≤ w.heap.size) (hn : n ≤ 281474976710656) :
    Calls Tryz.prog 340 #[.pointer (some ⟨b, 0, none⟩), .int .i64 n] w fun e w' => e = .returned (.tuple #[]) ∧ (Lib.BuilderAt 142 5 B b (.pointer (some ⟨b, 0, none⟩)) [] w' ∧ Below B w w') := Any.Builder_grow_fresh Tryz.lays241 Tryz.Builder_Extra_241 B b n w hB hbk hBw hn
def Tryz.lays165_ren : Go.Shelf.Ren := ⟨fun | 165 => 307 | 240 => 160 | 241 => 340 | 276 => 239 | 277 => 353 | n => n, fun | 70 => 140 | 3 => 3 | 0 => 0 | 4 => 4 | 9 => 9 | 20 => 20 | 72 => 142 | 37 => 76 | 164 => 253 | 5 => 5 | n => n, fun | n => n⟩
theorem Tryz.lays165 : Go.Proofs.Lays.n165 Tryz.prog Tryz.lays165_ren := {
  mixed := by kernel_rfl
  f165 := Tryz.func307.trans (congrArg some (by kernel_rfl))
  f240 := Tryz.func160.trans (congrArg some (by kernel_rfl))
  f241 := Tryz.func340.trans (congrArg some (by kernel_rfl))
  f276 := Tryz.func239.trans (congrArg some (by kernel_rfl))
  f277 := Tryz.func353.trans (congrArg some (by kernel_rfl))
  t0 := Tryz.underlying0
  a0 := Tryz.isAgg0
  z0 := Tryz.sizeOf0
  v0 := Tryz.zeroValue0
  t3 := Tryz.underlying3
  a3 := Tryz.isAgg3
  z3 := Tryz.sizeOf3
  v3 := Tryz.zeroValue3
  t4 := Tryz.underlying4
  a4 := Tryz.isAgg4
  z4 := Tryz.sizeOf4
  v4 := Tryz.zeroValue4
  t9 := Tryz.underlying9
  a9 := Tryz.isAgg9
  z9 := Tryz.sizeOf9
  v9 := Tryz.zeroValue9
  t20 := Tryz.underlying20
  a20 := Tryz.isAgg20
  z20 := Tryz.sizeOf20
  v20 := Tryz.zeroValue20
  t37 := Tryz.underlying76
  a37 := Tryz.isAgg76
  z37 := Tryz.sizeOf76
  v37 := Tryz.zeroValue76
  t70 := Tryz.underlying140
  a70 := Tryz.isAgg140
  z70 := Tryz.sizeOf140
  v70 := Tryz.zeroValue140
  t72 := Tryz.underlying142
  a72 := Tryz.isAgg142
  z72 := Tryz.sizeOf142
  v72 := Tryz.zeroValue142
  t164 := Tryz.underlying253
  a164 := Tryz.isAgg253
  z164 := Tryz.sizeOf253
  v164 := Tryz.zeroValue253 }
theorem Tryz.Builder_Extra_165 : Builder.Extra Tryz.prog Tryz.lays165_ren := {
  sizeBuilder := by kernel_rfl
  liesBuilder := by kernel_rfl
  t5 := Tryz.underlying5
  a5 := Tryz.isAgg5
  z5 := Tryz.sizeOf5
  v5 := Tryz.zeroValue5
  infoByte := by kernel_rfl
  cellsByte := by kernel_rfl
  sizeByte := by kernel_rfl
  neB5 := by decide }
open Go.RowKit in
/-- (*strings.Builder).Grow AT A BUILDER THAT HAS NOT BEEN WRITTEN ('var b strings.Builder; b.Grow(n)'): "Grow grows b's capacity, if necessary, to guarantee space for another n bytes.": it holds no byte behind it as before it. (LAID: no walk: one application.) -/
theorem Tryz.Builder_Grow_fresh (B b n : Nat) (w : World) (hB : B ≤ b) (hbk : w.heap[b]? = some (.cells #[.pointer none, .slice none 0 0] 142 (0, 0))) (hBw : B ≤ w.heap.size) (hn : n ≤ 281474976710656) :
    Calls Tryz.prog 307 #[.pointer (some ⟨b, 0, none⟩), .int .i64 n] w fun e w' => e = .returned (.tuple #[]) ∧ (Lib.BuilderAt 142 5 B b (.pointer (some ⟨b, 0, none⟩)) [] w' ∧ Below B w w') := Any.Builder_Grow_fresh Tryz.lays165 Tryz.Builder_Extra_165 B b n w hB hbk hBw hn
def Tryz.lays156_ren : Go.Shelf.Ren := ⟨fun | 156 => 249 | 165 => 307 | 166 => 93 | 169 => 89 | 240 => 160 | 241 => 340 | 276 => 239 | 277 => 353 | n => n, fun | 31 => 60 | 9 => 9 | 3 => 3 | 4 => 4 | 0 => 0 | 20 => 20 | 72 => 142 | 76 => 150 | 70 => 140 | 37 => 76 | 75 => 144 | 127 => 203 | 164 => 253 | 5 => 5 | 80 => 146 | n => n, fun | n => n⟩
theorem Tryz.lays156 : Go.Proofs.Lays.n156 Tryz.prog Tryz.lays156_ren := {
  mixed := by kernel_rfl
  f156 := Tryz.func249.trans (congrArg some (by kernel_rfl))
  f165 := Tryz.func307.trans (congrArg some (by kernel_rfl))
  f166 := Tryz.func93.trans (congrArg some (by kernel_rfl))
  f169 := Tryz.func89.trans (congrArg some (by kernel_rfl))
  f240 := Tryz.func160.trans (congrArg some (by kernel_rfl))
  f241 := Tryz.func340.trans (congrArg some (by kernel_rfl))
  f276 := Tryz.func239.trans (congrArg some (by kernel_rfl))
  f277 := Tryz.func353.trans (congrArg some (by kernel_rfl))
  t0 := Tryz.underlying0
  a0 := Tryz.isAgg0
  z0 := Tryz.sizeOf0
  v0 := Tryz.zeroValue0
  t3 := Tryz.underlying3
  a3 := Tryz.isAgg3
  z3 := Tryz.sizeOf3
  v3 := Tryz.zeroValue3
  t4 := Tryz.underlying4
  a4 := Tryz.isAgg4
  z4 := Tryz.sizeOf4
  v4 := Tryz.zeroValue4
  t9 := Tryz.underlying9
  a9 := Tryz.isAgg9
  z9 := Tryz.sizeOf9
  v9 := Tryz.zeroValue9
  t20 := Tryz.underlying20
  a20 := Tryz.isAgg20
  z20 := Tryz.sizeOf20
  v20 := Tryz.zeroValue20
  t31 := Tryz.underlying60
  a31 := Tryz.isAgg60
  z31 := Tryz.sizeOf60
  v31 := Tryz.zeroValue60
  t37 := Tryz.underlying76
  a37 := Tryz.isAgg76
  z37 := Tryz.sizeOf76
  v37 := Tryz.zeroValue76
  t70 := Tryz.underlying140
  a70 := Tryz.isAgg140
  z70 := Tryz.sizeOf140
  v70 := Tryz.zeroValue140
  t72 := Tryz.underlying142
  a72 := Tryz.isAgg142
  z72 := Tryz.sizeOf142
  v72 := Tryz.zeroValue142
  t75 := Tryz.underlying144
  a75 := Tryz.isAgg144
  z75 := Tryz.sizeOf144
  v75 := Tryz.zeroValue144
  t76 := Tryz.underlying150
  a76 := Tryz.isAgg150
  z76 := Tryz.sizeOf150
  v76 := Tryz.zeroValue150
  t127 := Tryz.underlying203
  a127 := Tryz.isAgg203
  z127 := Tryz.sizeOf203
  v127 := Tryz.zeroValue203
  t164 := Tryz.underlying253
  a164 := Tryz.isAgg253
  z164 := Tryz.sizeOf253
  v164 := Tryz.zeroValue253 }
theorem Tryz.Builder_Extra_156 : Builder.Extra Tryz.prog Tryz.lays156_ren := {
  sizeBuilder := by kernel_rfl
  liesBuilder := by kernel_rfl
  t5 := Tryz.underlying5
  a5 := Tryz.isAgg5
  z5 := Tryz.sizeOf5
  v5 := Tryz.zeroValue5
  infoByte := by kernel_rfl
  cellsByte := by kernel_rfl
  sizeByte := by kernel_rfl
  neB5 := by decide }
open Go.RowKit in
/-- No element: the empty string; the world is as it was. (Whatever the slice's address and capacity: a nil slice too.) (LAID: no walk: one application.) -/
theorem Tryz.strings_Join_none (a : Option Addr) (c : Nat) (sep : ByteArray) (w : World) :
    Calls Tryz.prog 249 #[.slice a 0 c, .string sep] w fun e w' => e = .returned (.string ⟨#[]⟩) ∧ w' = w := Any.strings_Join_none Tryz.lays156 Tryz.Builder_Extra_156 a c sep w
open Go.RowKit in
/-- strings.Join: "Join concatenates the elements of its first argument to create a single string. The separator string sep is placed between elements in the resulting string.": HOWEVER MANY ELEMENTS. Below the heap's end the world is as it was. (LAID: no walk: one application.) -/
theorem Tryz.strings_Join (bk o c : Nat) (xs : List ByteArray) (sep : ByteArray) (w : World) (hcells : ∀ (j : Nat) x, xs[j]? = some x → w.cell? ⟨bk, o + j, none⟩ = some (.string x)) (hbk : bk < w.heap.size) (hN : xs.length ≤ 140737488355328) (hcap : xs.length ≤ c) (hlen : (Lib.join (xs.map (·.data.toList)) sep.data.toList).length ≤ 140737488355328) :
    Calls Tryz.prog 249 #[.slice (some ⟨bk, o, none⟩) xs.length c, .string sep] w fun e w' => e = .returned (.string ⟨(Lib.join (xs.map (·.data.toList)) sep.data.toList).toArray⟩) ∧ Below w.heap.size w w' := Any.strings_Join Tryz.lays156 Tryz.Builder_Extra_156 bk o c xs sep w hcells hbk hN hcap hlen
def Tryz.lays119_ren : Go.Shelf.Ren := ⟨fun | 119 => 304 | n => n, fun | 21 => 21 | 4 => 4 | n => n, fun | n => n⟩
theorem Tryz.lays119 : Go.Proofs.Lays.n119 Tryz.prog Tryz.lays119_ren := {
  mixed := by kernel_rfl
  f119 := Tryz.func304.trans (congrArg some (by kernel_rfl))
  t4 := Tryz.underlying4
  a4 := Tryz.isAgg4
  z4 := Tryz.sizeOf4
  v4 := Tryz.zeroValue4
  t21 := Tryz.underlying21
  a21 := Tryz.isAgg21
  z21 := Tryz.sizeOf21
  v21 := Tryz.zeroValue21 }
/-- utf8.ValidRune: "ValidRune reports whether r can be legally encoded as UTF-8. Code points that are out of range or a surrogate half are illegal.": IT RETURNS 'Lib.validRune r'; the world is as it was. (LAID: no walk: one application.) -/
theorem Tryz.utf8_ValidRune (r : Int) (w : World) :
    Calls Tryz.prog 304 #[.int .i32 r] w fun e w' => e = .returned (.bool (Lib.validRune r)) ∧ w' = w := Any.utf8_ValidRune Tryz.lays119 r w
def Tryz.lays213_ren : Go.Shelf.Ren := ⟨fun | 213 => 201 | 265 => 279 | n => n, fun | 9 => 9 | 3 => 3 | n => n, fun | n => n⟩
theorem Tryz.lays213 : Go.Proofs.Lays.n213 Tryz.prog Tryz.lays213_ren := {
  mixed := by kernel_rfl
  f213 := Tryz.func201.trans (congrArg some (by kernel_rfl))
  f265 := Tryz.func279.trans (congrArg some (by kernel_rfl))
  t3 := Tryz.underlying3
  a3 := Tryz.isAgg3
  z3 := Tryz.sizeOf3
  v3 := Tryz.zeroValue3
  t9 := Tryz.underlying9
  a9 := Tryz.isAgg9
  z9 := Tryz.sizeOf9
  v9 := Tryz.zeroValue9 }
open Go.RowKit in
/-- internal/bytealg.CompareString (what strings.Compare calls): IT RETURNS 'Lib.compareBytes a b'; the world is as it was. (LAID: no walk: one application.) -/
theorem Tryz.bytealg_CompareString (a b : ByteArray) (w : World) :
    Calls Tryz.prog 201 #[.string a, .string b] w fun e w' => e = .returned (.int .i64 (Lib.compareBytes a.data.toList b.data.toList)) ∧ w' = w := Any.bytealg_CompareString Tryz.lays213 a b w
def Tryz.lays106_ren : Go.Shelf.Ren := ⟨fun | 106 => 130 | 213 => 201 | 265 => 279 | n => n, fun | 9 => 9 | 3 => 3 | n => n, fun | n => n⟩
theorem Tryz.lays106 : Go.Proofs.Lays.n106 Tryz.prog Tryz.lays106_ren := {
  mixed := by kernel_rfl
  f106 := Tryz.func130.trans (congrArg some (by kernel_rfl))
  f213 := Tryz.func201.trans (congrArg some (by kernel_rfl))
  f265 := Tryz.func279.trans (congrArg some (by kernel_rfl))
  t3 := Tryz.underlying3
  a3 := Tryz.isAgg3
  z3 := Tryz.sizeOf3
  v3 := Tryz.zeroValue3
  t9 := Tryz.underlying9
  a9 := Tryz.isAgg9
  z9 := Tryz.sizeOf9
  v9 := Tryz.zeroValue9 }
open Go.RowKit in
/-- strings.Compare: "Compare returns an integer comparing two strings lexicographically. The result will be 0 if a == b, -1 if a < b, and +1 if a > b.": IT RETURNS 'Lib.compareBytes a b'; the world is as it was. (LAID: no walk: one application.) -/
theorem Tryz.strings_Compare (a b : ByteArray) (w : World) :
    Calls Tryz.prog 130 #[.string a, .string b] w fun e w' => e = .returned (.int .i64 (Lib.compareBytes a.data.toList b.data.toList)) ∧ w' = w := Any.strings_Compare Tryz.lays106 a b w
def Tryz.lays137_ren : Go.Shelf.Ren := ⟨fun | 137 => 303 | 217 => 338 | 266 => 351 | n => n, fun | 9 => 9 | 5 => 5 | 3 => 3 | n => n, fun | n => n⟩
theorem Tryz.lays137 : Go.Proofs.Lays.n137 Tryz.prog Tryz.lays137_ren := {
  mixed := by kernel_rfl
  f137 := Tryz.func303.trans (congrArg some (by kernel_rfl))
  f217 := Tryz.func338.trans (congrArg some (by kernel_rfl))
  f266 := Tryz.func351.trans (congrArg some (by kernel_rfl))
  t3 := Tryz.underlying3
  a3 := Tryz.isAgg3
  z3 := Tryz.sizeOf3
  v3 := Tryz.zeroValue3
  t5 := Tryz.underlying5
  a5 := Tryz.isAgg5
  z5 := Tryz.sizeOf5
  v5 := Tryz.zeroValue5
  t9 := Tryz.underlying9
  a9 := Tryz.isAgg9
  z9 := Tryz.sizeOf9
  v9 := Tryz.zeroValue9 }
open Go.RowKit in
/-- strings.IndexByte: "IndexByte returns the index of the first instance of c in s, or -1 if c is not present in s.": IT RETURNS 'Lib.indexByte s c'; the world is as it was. (LAID: no walk: one application.) -/
theorem Tryz.strings_IndexByte (s : ByteArray) (c : Int) (w : World) :
    Calls Tryz.prog 303 #[.string s, .int .u8 c] w fun e w' => e = .returned (.int .i64 (Lib.indexByte s.data.toList c.toNat.toUInt8)) ∧ w' = w := Any.strings_IndexByte Tryz.lays137 s c w
def Tryz.lays210_ren : Go.Shelf.Ren := ⟨fun | 210 => 254 | 206 => 175 | n => n, fun | 9 => 9 | 4 => 4 | 3 => 3 | n => n, fun | n => n⟩
theorem Tryz.lays210 : Go.Proofs.Lays.n210 Tryz.prog Tryz.lays210_ren := {
  mixed := by kernel_rfl
  f206 := Tryz.func175.trans (congrArg some (by kernel_rfl))
  f210 := Tryz.func254.trans (congrArg some (by kernel_rfl))
  t3 := Tryz.underlying3
  a3 := Tryz.isAgg3
  z3 := Tryz.sizeOf3
  v3 := Tryz.zeroValue3
  t4 := Tryz.underlying4
  a4 := Tryz.isAgg4
  z4 := Tryz.sizeOf4
  v4 := Tryz.zeroValue4
  t9 := Tryz.underlying9
  a9 := Tryz.isAgg9
  z9 := Tryz.sizeOf9
  v9 := Tryz.zeroValue9 }
open Go.RowKit in
/-- internal/stringslite.CutPrefix (what strings.CutPrefix calls). (LAID: no walk: one application.) -/
theorem Tryz.stringslite_CutPrefix (s p : ByteArray) (w : World) :
    Calls Tryz.prog 254 #[.string s, .string p] w fun e w' => e = .returned (.tuple #[.string ⟨(Lib.trimPrefix s.data.toList p.data.toList).toArray⟩, .bool (Lib.hasPrefix s.data.toList p.data.toList)]) ∧ w' = w := Any.stringslite_CutPrefix Tryz.lays210 s p w
def Tryz.lays103_ren : Go.Shelf.Ren := ⟨fun | 103 => 177 | 210 => 254 | 206 => 175 | n => n, fun | 9 => 9 | 4 => 4 | 24 => 61 | 3 => 3 | n => n, fun | n => n⟩
theorem Tryz.lays103 : Go.Proofs.Lays.n103 Tryz.prog Tryz.lays103_ren := {
  mixed := by kernel_rfl
  f103 := Tryz.func177.trans (congrArg some (by kernel_rfl))
  f206 := Tryz.func175.trans (congrArg some (by kernel_rfl))
  f210 := Tryz.func254.trans (congrArg some (by kernel_rfl))
  t3 := Tryz.underlying3
  a3 := Tryz.isAgg3
  z3 := Tryz.sizeOf3
  v3 := Tryz.zeroValue3
  t4 := Tryz.underlying4
  a4 := Tryz.isAgg4
  z4 := Tryz.sizeOf4
  v4 := Tryz.zeroValue4
  t9 := Tryz.underlying9
  a9 := Tryz.isAgg9
  z9 := Tryz.sizeOf9
  v9 := Tryz.zeroValue9
  t24 := Tryz.underlying61
  a24 := Tryz.isAgg61
  z24 := Tryz.sizeOf61
  v24 := Tryz.zeroValue61 }
open Go.RowKit in
/-- strings.CutPrefix: "CutPrefix returns s without the provided leading prefix string and reports whether it found the prefix. If s doesn't start with prefix, CutPrefix returns s, false. If prefix is the empty string, CutPrefix returns s, true.": IT RETURNS '(Lib.trimPrefix s p, Lib.hasPrefix s p)'; the world is as it was. (LAID: no walk: one application.) -/
theorem Tryz.strings_CutPrefix (s p : ByteArray) (w : World) :
    Calls Tryz.prog 177 #[.string s, .string p] w fun e w' => e = .returned (.tuple #[.string ⟨(Lib.trimPrefix s.data.toList p.data.toList).toArray⟩, .bool (Lib.hasPrefix s.data.toList p.data.toList)]) ∧ w' = w := Any.strings_CutPrefix Tryz.lays103 s p w
def Tryz.lays211_ren : Go.Shelf.Ren := ⟨fun | 211 => 161 | 207 => 240 | n => n, fun | 9 => 9 | 4 => 4 | 3 => 3 | n => n, fun | n => n⟩
theorem Tryz.lays211 : Go.Proofs.Lays.n211 Tryz.prog Tryz.lays211_ren := {
  mixed := by kernel_rfl
  f207 := Tryz.func240.trans (congrArg some (by kernel_rfl))
  f211 := Tryz.func161.trans (congrArg some (by kernel_rfl))
  t3 := Tryz.underlying3
  a3 := Tryz.isAgg3
  z3 := Tryz.sizeOf3
  v3 := Tryz.zeroValue3
  t4 := Tryz.underlying4
  a4 := Tryz.isAgg4
  z4 := Tryz.sizeOf4
  v4 := Tryz.zeroValue4
  t9 := Tryz.underlying9
  a9 := Tryz.isAgg9
  z9 := Tryz.sizeOf9
  v9 := Tryz.zeroValue9 }
open Go.RowKit in
/-- internal/stringslite.CutSuffix (what strings.CutSuffix calls). (LAID: no walk: one application.) -/
theorem Tryz.stringslite_CutSuffix (s p : ByteArray) (w : World) (hs : s.size ≤ 9223372036854775807) :
    Calls Tryz.prog 161 #[.string s, .string p] w fun e w' => e = .returned (.tuple #[.string ⟨(Lib.trimSuffix s.data.toList p.data.toList).toArray⟩, .bool (Lib.hasSuffix s.data.toList p.data.toList)]) ∧ w' = w := Any.stringslite_CutSuffix Tryz.lays211 s p w hs
def Tryz.lays104_ren : Go.Shelf.Ren := ⟨fun | 104 => 90 | 211 => 161 | 207 => 240 | n => n, fun | 9 => 9 | 4 => 4 | 24 => 61 | 3 => 3 | n => n, fun | n => n⟩
theorem Tryz.lays104 : Go.Proofs.Lays.n104 Tryz.prog Tryz.lays104_ren := {
  mixed := by kernel_rfl
  f104 := Tryz.func90.trans (congrArg some (by kernel_rfl))
  f207 := Tryz.func240.trans (congrArg some (by kernel_rfl))
  f211 := Tryz.func161.trans (congrArg some (by kernel_rfl))
  t3 := Tryz.underlying3
  a3 := Tryz.isAgg3
  z3 := Tryz.sizeOf3
  v3 := Tryz.zeroValue3
  t4 := Tryz.underlying4
  a4 := Tryz.isAgg4
  z4 := Tryz.sizeOf4
  v4 := Tryz.zeroValue4
  t9 := Tryz.underlying9
  a9 := Tryz.isAgg9
  z9 := Tryz.sizeOf9
  v9 := Tryz.zeroValue9
  t24 := Tryz.underlying61
  a24 := Tryz.isAgg61
  z24 := Tryz.sizeOf61
  v24 := Tryz.zeroValue61 }
open Go.RowKit in
/-- strings.CutSuffix: "CutSuffix returns s without the provided ending suffix string and reports whether it found the suffix. If s doesn't end with suffix, CutSuffix returns s, false. If suffix is the empty string, CutSuffix returns s, true.": IT RETURNS '(Lib.trimSuffix s p, Lib.hasSuffix s p)'; the world is as it was. (LAID: no walk: one application.) -/
theorem Tryz.strings_CutSuffix (s p : ByteArray) (w : World) (hs : s.size ≤ 9223372036854775807) :
    Calls Tryz.prog 90 #[.string s, .string p] w fun e w' => e = .returned (.tuple #[.string ⟨(Lib.trimSuffix s.data.toList p.data.toList).toArray⟩, .bool (Lib.hasSuffix s.data.toList p.data.toList)]) ∧ w' = w := Any.strings_CutSuffix Tryz.lays104 s p w hs
def Tryz.lays215_ren : Go.Shelf.Ren := ⟨fun | 215 => 320 | n => n, fun | 3 => 3 | 4 => 4 | n => n, fun | n => n⟩
theorem Tryz.lays215 : Go.Proofs.Lays.n215 Tryz.prog Tryz.lays215_ren := {
  mixed := by kernel_rfl
  f215 := Tryz.func320.trans (congrArg some (by kernel_rfl))
  t3 := Tryz.underlying3
  a3 := Tryz.isAgg3
  z3 := Tryz.sizeOf3
  v3 := Tryz.zeroValue3
  t4 := Tryz.underlying4
  a4 := Tryz.isAgg4
  z4 := Tryz.sizeOf4
  v4 := Tryz.zeroValue4 }
open Go.RowKit in
/-- cmp.isNaN at int: 'x != x': false. (LAID: no walk: one application.) -/
theorem Tryz.cmp_isNaN_int (x : Int) (w : World) :
    Calls Tryz.prog 320 #[.int .i64 x] w fun e w' => e = .returned (.bool false) ∧ w' = w := Any.cmp_isNaN_int Tryz.lays215 x w
def Tryz.lays122_ren : Go.Shelf.Ren := ⟨fun | 122 => 268 | 215 => 320 | n => n, fun | 3 => 3 | 4 => 4 | n => n, fun | n => n⟩
theorem Tryz.lays122 : Go.Proofs.Lays.n122 Tryz.prog Tryz.lays122_ren := {
  mixed := by kernel_rfl
  f122 := Tryz.func268.trans (congrArg some (by kernel_rfl))
  f215 := Tryz.func320.trans (congrArg some (by kernel_rfl))
  t3 := Tryz.underlying3
  a3 := Tryz.isAgg3
  z3 := Tryz.sizeOf3
  v3 := Tryz.zeroValue3
  t4 := Tryz.underlying4
  a4 := Tryz.isAgg4
  z4 := Tryz.sizeOf4
  v4 := Tryz.zeroValue4 }
open Go.RowKit in
/-- cmp.Compare at int: "Compare returns -1 if x is less than y, 0 if x equals y, +1 if x is greater than y.": IT RETURNS 'Lib.compareInt x y'; the world is as it was. (LAID: no walk: one application.) -/
theorem Tryz.cmp_Compare_int (x y : Int) (w : World) :
    Calls Tryz.prog 268 #[.int .i64 x, .int .i64 y] w fun e w' => e = .returned (.int .i64 (Lib.compareInt x y)) ∧ w' = w := Any.cmp_Compare_int Tryz.lays122 x y w
open Go.RowKit in
/-- (*strings.Builder).Len: "Len returns the number of accumulated bytes; b.Len() == len(b.String()).": the world is as it was. (THE FORM '_f': 'Lib.IsBuilderF'.) (LAID: no walk: one application.) -/
theorem Tryz.Builder_Len_f (B b : Nat) (bs : List Value) (w : World) (h : Lib.IsBuilderF 142 5 B b bs w) :
    Calls Tryz.prog 101 #[.pointer (some ⟨b, 0, none⟩)] w fun e w' => e = .returned (.int .i64 bs.length) ∧ w' = w := Any.Builder_Len_f Tryz.lays170 B b bs w h
open Go.RowKit in
/-- (*strings.Builder).String: "String returns the accumulated string.": OF A BUILDER THAT HOLDS AT LEAST ONE BYTE. ✋ THE MODEL FREEZES THOSE BYTES IN THE BUFFER (unsafe.String): a later write INTO them ends the model's run without an answer; a later append BEHIND them goes on. The statement's order of evaluation is drawn: one draw. THE FORM '_f': IT SAYS BESIDES THAT THE BUILDER IS A BUILDER STILL ('Lib.IsBuilderF', the same bytes): SO IT CAN BE WRITTEN ON: 'b.WriteString(b.String()[:k])'. (LAID: no walk: one application.) -/
theorem Tryz.Builder_String_f (B b : Nat) (l : List UInt8) (w : World) (h : Lib.IsBuilderF 142 5 B b (Lib.byteCells l) w) (h0 : l ≠ []) :
    Calls Tryz.prog 89 #[.pointer (some ⟨b, 0, none⟩)] w fun e w' => e = .returned (.string ⟨l.toArray⟩) ∧ (Lib.IsBuilderF 142 5 B b (Lib.byteCells l) w' ∧ Below B w w') := Any.Builder_String_f Tryz.lays169 Tryz.Builder_Extra_169 B b l w h h0
open Go.RowKit in
/-- (*strings.Builder).String OF A BUILDER THAT HOLDS NO BYTE: the empty string; THE FORM '_f': a builder still. (LAID: no walk: one application.) -/
theorem Tryz.Builder_String_empty_f (B b : Nat) (w : World) (h : Lib.IsBuilderF 142 5 B b [] w) (hBw : B ≤ w.heap.size) :
    Calls Tryz.prog 89 #[.pointer (some ⟨b, 0, none⟩)] w fun e w' => e = .returned (.string ⟨#[]⟩) ∧ (Lib.IsBuilderF 142 5 B b [] w' ∧ Below B w w') := Any.Builder_String_empty_f Tryz.lays169 Tryz.Builder_Extra_169 B b w h hBw
open Go.RowKit in
/-- (*strings.Builder).String: "String returns the accumulated string.": WHATEVER THE BUILDER HOLDS; THE FORM '_f': OF A BUILDER THAT MAY HAVE BEEN READ BEFORE; AND IT IS A BUILDER STILL, holding the same bytes: it can be written on. (LAID: no walk: one application.) -/
theorem Tryz.Builder_String_any_f (B b : Nat) (l : List UInt8) (w : World) (h : Lib.IsBuilderF 142 5 B b (Lib.byteCells l) w) (hBw : B ≤ w.heap.size) :
    Calls Tryz.prog 89 #[.pointer (some ⟨b, 0, none⟩)] w fun e w' => e = .returned (.string ⟨l.toArray⟩) ∧ (Lib.IsBuilderF 142 5 B b (Lib.byteCells l) w' ∧ Below B w w') := Any.Builder_String_any_f Tryz.lays169 Tryz.Builder_Extra_169 B b l w h hBw
open Go.RowKit in
/-- (*strings.Builder).String: "String returns the accumulated string.": OF A BUILDER THAT HOLDS AT LEAST ONE BYTE. ✋ THE MODEL FREEZES THOSE BYTES IN THE BUFFER (unsafe.String): a later write INTO them ends the model's run without an answer; a later append BEHIND them goes on. The statement's order of evaluation is drawn: one draw. THE FORM '_k': OVER 'Lib.IsBuilderF' (a builder that 'String()' may have read), AND WITH THE FRAME THAT REACHES ABOVE THE BUILDER: 'Lib.OthersKept': every block that is not b and is no row of uint8's stands as it stood: the iterator of a range among them. (LAID: no walk: one application.) -/
theorem Tryz.Builder_String_k (B b : Nat) (l : List UInt8) (w : World) (h : Lib.IsBuilderF 142 5 B b (Lib.byteCells l) w) (h0 : l ≠ []) :
    Calls Tryz.prog 89 #[.pointer (some ⟨b, 0, none⟩)] w fun e w' => e = .returned (.string ⟨l.toArray⟩) ∧ (Lib.IsBuilderF 142 5 B b (Lib.byteCells l) w' ∧ Below B w w' ∧ Lib.OthersKept 5 (some b) w w') := Any.Builder_String_k Tryz.lays169 Tryz.Builder_Extra_169 B b l w h h0
open Go.RowKit in
/-- (*strings.Builder).String OF A BUILDER THAT HOLDS NO BYTE: the empty string; THE FORM '_k': OVER 'Lib.IsBuilderF' (a builder that 'String()' may have read), AND WITH THE FRAME THAT REACHES ABOVE THE BUILDER: 'Lib.OthersKept': every block that is not b and is no row of uint8's stands as it stood: the iterator of a range among them. (LAID: no walk: one application.) -/
theorem Tryz.Builder_String_empty_k (B b : Nat) (w : World) (h : Lib.IsBuilderF 142 5 B b [] w) (hBw : B ≤ w.heap.size) :
    Calls Tryz.prog 89 #[.pointer (some ⟨b, 0, none⟩)] w fun e w' => e = .returned (.string ⟨#[]⟩) ∧ (Lib.IsBuilderF 142 5 B b [] w' ∧ Below B w w' ∧ Lib.OthersKept 5 (some b) w w') := Any.Builder_String_empty_k Tryz.lays169 Tryz.Builder_Extra_169 B b w h hBw
open Go.RowKit in
/-- (*strings.Builder).String: "String returns the accumulated string.": WHATEVER THE BUILDER HOLDS; THE FORM '_k': OVER 'Lib.IsBuilderF' (a builder that 'String()' may have read), AND WITH THE FRAME THAT REACHES ABOVE THE BUILDER: 'Lib.OthersKept': every block that is not b and is no row of uint8's stands as it stood: the iterator of a range among them. (LAID: no walk: one application.) -/
theorem Tryz.Builder_String_any_k (B b : Nat) (l : List UInt8) (w : World) (h : Lib.IsBuilderF 142 5 B b (Lib.byteCells l) w) (hBw : B ≤ w.heap.size) :
    Calls Tryz.prog 89 #[.pointer (some ⟨b, 0, none⟩)] w fun e w' => e = .returned (.string ⟨l.toArray⟩) ∧ (Lib.IsBuilderF 142 5 B b (Lib.byteCells l) w' ∧ Below B w w' ∧ Lib.OthersKept 5 (some b) w w') := Any.Builder_String_any_k Tryz.lays169 Tryz.Builder_Extra_169 B b l w h hBw
def Tryz.lays244_ren : Go.Shelf.Ren := ⟨fun | 244 => 252 | 247 => 311 | 287 => 342 | 321 => 355 | 322 => 356 | n => n, fun | 9 => 9 | 3 => 3 | 75 => 144 | 4 => 4 | 5 => 5 | 167 => 300 | 37 => 76 | 0 => 0 | 85 => 301 | 2 => 2 | 53 => 245 | 175 => 319 | 46 => 185 | 21 => 21 | 80 => 146 | n => n, fun | n => n⟩
theorem Tryz.lays244 : Go.Proofs.Lays.n244 Tryz.prog Tryz.lays244_ren := {
  mixed := by kernel_rfl
  f244 := Tryz.func252.trans (congrArg some (by kernel_rfl))
  f247 := Tryz.func311.trans (congrArg some (by kernel_rfl))
  f287 := Tryz.func342.trans (congrArg some (by kernel_rfl))
  f321 := Tryz.func355.trans (congrArg some (by kernel_rfl))
  f322 := Tryz.func356.trans (congrArg some (by kernel_rfl))
  t0 := Tryz.underlying0
  a0 := Tryz.isAgg0
  z0 := Tryz.sizeOf0
  v0 := Tryz.zeroValue0
  t2 := Tryz.underlying2
  a2 := Tryz.isAgg2
  z2 := Tryz.sizeOf2
  v2 := Tryz.zeroValue2
  t3 := Tryz.underlying3
  a3 := Tryz.isAgg3
  z3 := Tryz.sizeOf3
  v3 := Tryz.zeroValue3
  t4 := Tryz.underlying4
  a4 := Tryz.isAgg4
  z4 := Tryz.sizeOf4
  v4 := Tryz.zeroValue4
  t5 := Tryz.underlying5
  a5 := Tryz.isAgg5
  z5 := Tryz.sizeOf5
  v5 := Tryz.zeroValue5
  t9 := Tryz.underlying9
  a9 := Tryz.isAgg9
  z9 := Tryz.sizeOf9
  v9 := Tryz.zeroValue9
  t21 := Tryz.underlying21
  a21 := Tryz.isAgg21
  z21 := Tryz.sizeOf21
  v21 := Tryz.zeroValue21
  t37 := Tryz.underlying76
  a37 := Tryz.isAgg76
  z37 := Tryz.sizeOf76
  v37 := Tryz.zeroValue76
  t46 := Tryz.underlying185
  a46 := Tryz.isAgg185
  z46 := Tryz.sizeOf185
  v46 := Tryz.zeroValue185
  t53 := Tryz.underlying245
  a53 := Tryz.isAgg245
  z53 := Tryz.sizeOf245
  v53 := Tryz.zeroValue245
  t75 := Tryz.underlying144
  a75 := Tryz.isAgg144
  z75 := Tryz.sizeOf144
  v75 := Tryz.zeroValue144
  t85 := Tryz.underlying301
  a85 := Tryz.isAgg301
  z85 := Tryz.sizeOf301
  v85 := Tryz.zeroValue301
  t167 := Tryz.underlying300
  a167 := Tryz.isAgg300
  z167 := Tryz.sizeOf300
  v167 := Tryz.zeroValue300
  t175 := Tryz.underlying319
  a175 := Tryz.isAgg319
  z175 := Tryz.sizeOf319
  v175 := Tryz.zeroValue319 }
open Go.RowKit in
/-- internal/strconv.Atoi, at a decimal numeral of at most 18 bytes: ITS VALUE, AND NO ERROR. The world behind the call: the one new row that '[]byte(s)' lays. (LAID: no walk: one application.) -/
theorem Tryz.internal_strconv_Atoi (s : ByteArray) (n : Int) (hl : s.size ≤ 18) (h : Lib.atoi s.data.toList = some n) (w : World) :
    Calls Tryz.prog 252 #[.string s] w fun e w' => e = .returned (.tuple #[.int .i64 n, .nilIface]) ∧ ∃ t, w' = Lib.bytesWorld w 5 t := Any.internal_strconv_Atoi Tryz.lays244 s n hl h w
def Tryz.lays172_ren : Go.Shelf.Ren := ⟨fun | 172 => 176 | 244 => 252 | 245 => 253 | 247 => 311 | 279 => 312 | 280 => 313 | 281 => 314 | 282 => 315 | 287 => 342 | 316 => 343 | 171 => 136 | 205 => 344 | 321 => 355 | 322 => 356 | 243 => 208 | 246 => 281 | 283 => 328 | 284 => 329 | 285 => 330 | 286 => 331 | 129 => 230 | 317 => 347 | 318 => 348 | 319 => 349 | 320 => 269 | 337 => 321 | 338 => 322 | n => n, fun | 9 => 9 | 3 => 3 | 75 => 144 | 76 => 150 | 4 => 4 | 5 => 5 | 167 => 300 | 37 => 76 | 0 => 0 | 85 => 301 | 2 => 2 | 168 => 303 | 53 => 245 | 175 => 319 | 46 => 185 | 210 => 322 | 127 => 203 | 145 => 345 | 143 => 343 | 21 => 21 | 171 => 309 | 173 => 311 | 212 => 330 | 51 => 243 | 20 => 20 | 213 => 331 | 232 => 325 | 233 => 326 | 80 => 146 | n => n, fun | 15 => 1 | 16 => 2 | 17 => 6 | 18 => 4 | 19 => 5 | n => n⟩
theorem Tryz.lays172 : Go.Proofs.Lays.n172 Tryz.prog Tryz.lays172_ren := {
  mixed := by kernel_rfl
  f129 := Tryz.func230.trans (congrArg some (by kernel_rfl))
  f171 := Tryz.func136.trans (congrArg some (by kernel_rfl))
  f172 := Tryz.func176.trans (congrArg some (by kernel_rfl))
  f205 := Tryz.func344.trans (congrArg some (by kernel_rfl))
  f243 := Tryz.func208.trans (congrArg some (by kernel_rfl))
  f244 := Tryz.func252.trans (congrArg some (by kernel_rfl))
  f245 := Tryz.func253.trans (congrArg some (by kernel_rfl))
  f246 := Tryz.func281.trans (congrArg some (by kernel_rfl))
  f247 := Tryz.func311.trans (congrArg some (by kernel_rfl))
  f279 := Tryz.func312.trans (congrArg some (by kernel_rfl))
  f280 := Tryz.func313.trans (congrArg some (by kernel_rfl))
  f281 := Tryz.func314.trans (congrArg some (by kernel_rfl))
  f282 := Tryz.func315.trans (congrArg some (by kernel_rfl))
  f283 := Tryz.func328.trans (congrArg some (by kernel_rfl))
  f284 := Tryz.func329.trans (congrArg some (by kernel_rfl))
  f285 := Tryz.func330.trans (congrArg some (by kernel_rfl))
  f286 := Tryz.func331.trans (congrArg some (by kernel_rfl))
  f287 := Tryz.func342.trans (congrArg some (by kernel_rfl))
  f316 := Tryz.func343.trans (congrArg some (by kernel_rfl))
  f317 := Tryz.func347.trans (congrArg some (by kernel_rfl))
  f318 := Tryz.func348.trans (congrArg some (by kernel_rfl))
  f319 := Tryz.func349.trans (congrArg some (by kernel_rfl))
  f320 := Tryz.func269.trans (congrArg some (by kernel_rfl))
  f321 := Tryz.func355.trans (congrArg some (by kernel_rfl))
  f322 := Tryz.func356.trans (congrArg some (by kernel_rfl))
  f337 := Tryz.func321.trans (congrArg some (by kernel_rfl))
  f338 := Tryz.func322.trans (congrArg some (by kernel_rfl))
  t0 := Tryz.underlying0
  a0 := Tryz.isAgg0
  z0 := Tryz.sizeOf0
  v0 := Tryz.zeroValue0
  t2 := Tryz.underlying2
  a2 := Tryz.isAgg2
  z2 := Tryz.sizeOf2
  v2 := Tryz.zeroValue2
  t3 := Tryz.underlying3
  a3 := Tryz.isAgg3
  z3 := Tryz.sizeOf3
  v3 := Tryz.zeroValue3
  t4 := Tryz.underlying4
  a4 := Tryz.isAgg4
  z4 := Tryz.sizeOf4
  v4 := Tryz.zeroValue4
  t5 := Tryz.underlying5
  a5 := Tryz.isAgg5
  z5 := Tryz.sizeOf5
  v5 := Tryz.zeroValue5
  t9 := Tryz.underlying9
  a9 := Tryz.isAgg9
  z9 := Tryz.sizeOf9
  v9 := Tryz.zeroValue9
  t20 := Tryz.underlying20
  a20 := Tryz.isAgg20
  z20 := Tryz.sizeOf20
  v20 := Tryz.zeroValue20
  t21 := Tryz.underlying21
  a21 := Tryz.isAgg21
  z21 := Tryz.sizeOf21
  v21 := Tryz.zeroValue21
  t37 := Tryz.underlying76
  a37 := Tryz.isAgg76
  z37 := Tryz.sizeOf76
  v37 := Tryz.zeroValue76
  t46 := Tryz.underlying185
  a46 := Tryz.isAgg185
  z46 := Tryz.sizeOf185
  v46 := Tryz.zeroValue185
  t51 := Tryz.underlying243
  a51 := Tryz.isAgg243
  z51 := Tryz.sizeOf243
  v51 := Tryz.zeroValue243
  t53 := Tryz.underlying245
  a53 := Tryz.isAgg245
  z53 := Tryz.sizeOf245
  v53 := Tryz.zeroValue245
  t75 := Tryz.underlying144
  a75 := Tryz.isAgg144
  z75 := Tryz.sizeOf144
  v75 := Tryz.zeroValue144
  t76 := Tryz.underlying150
  a76 := Tryz.isAgg150
  z76 := Tryz.sizeOf150
  v76 := Tryz.zeroValue150
  t85 := Tryz.underlying301
  a85 := Tryz.isAgg301
  z85 := Tryz.sizeOf301
  v85 := Tryz.zeroValue301
  t127 := Tryz.underlying203
  a127 := Tryz.isAgg203
  z127 := Tryz.sizeOf203
  v127 := Tryz.zeroValue203
  t143 := Tryz.underlying343
  a143 := Tryz.isAgg343
  z143 := Tryz.sizeOf343
  v143 := Tryz.zeroValue343
  t145 := Tryz.underlying345
  a145 := Tryz.isAgg345
  z145 := Tryz.sizeOf345
  v145 := Tryz.zeroValue345
  t167 := Tryz.underlying300
  a167 := Tryz.isAgg300
  z167 := Tryz.sizeOf300
  v167 := Tryz.zeroValue300
  t168 := Tryz.underlying303
  a168 := Tryz.isAgg303
  z168 := Tryz.sizeOf303
  v168 := Tryz.zeroValue303
  t171 := Tryz.underlying309
  a171 := Tryz.isAgg309
  z171 := Tryz.sizeOf309
  v171 := Tryz.zeroValue309
  t173 := Tryz.underlying311
  a173 := Tryz.isAgg311
  z173 := Tryz.sizeOf311
  v173 := Tryz.zeroValue311
  t175 := Tryz.underlying319
  a175 := Tryz.isAgg319
  z175 := Tryz.sizeOf319
  v175 := Tryz.zeroValue319
  t210 := Tryz.underlying322
  a210 := Tryz.isAgg322
  z210 := Tryz.sizeOf322
  v210 := Tryz.zeroValue322
  t212 := Tryz.underlying330
  a212 := Tryz.isAgg330
  z212 := Tryz.sizeOf330
  v212 := Tryz.zeroValue330
  t213 := Tryz.underlying331
  a213 := Tryz.isAgg331
  z213 := Tryz.sizeOf331
  t232 := Tryz.underlying325
  a232 := Tryz.isAgg325
  z232 := Tryz.sizeOf325
  v232 := Tryz.zeroValue325
  t233 := Tryz.underlying326
  a233 := Tryz.isAgg326
  z233 := Tryz.sizeOf326
  v233 := Tryz.zeroValue326
  g15 := by kernel_rfl
  g16 := by kernel_rfl
  g17 := by kernel_rfl
  g18 := by kernel_rfl
  g19 := by kernel_rfl }
open Go.RowKit in
/-- strconv.Atoi: "Atoi is equivalent to ParseInt(s, 10, 0), converted to type int.": AT A DECIMAL NUMERAL OF AT MOST 18 BYTES: its value, and a nil error. The world behind the call: the one new row that the library's '[]byte(s)' lays. (LAID: no walk: one application.) -/
theorem Tryz.strconv_Atoi (s : ByteArray) (n : Int) (hl : s.size ≤ 18) (h : Lib.atoi s.data.toList = some n) (w : World) :
    Calls Tryz.prog 176 #[.string s] w fun e w' => e = .returned (.tuple #[.int .i64 n, .nilIface]) ∧ ∃ t, w' = Lib.bytesWorld w 5 t := Any.strconv_Atoi Tryz.lays172 s n hl h w
def Tryz.lays129_ren : Go.Shelf.Ren := ⟨fun | 129 => 230 | n => n, fun | 53 => 245 | 3 => 3 | 4 => 4 | 46 => 185 | 5 => 5 | 9 => 9 | n => n, fun | n => n⟩
theorem Tryz.lays129 : Go.Proofs.Lays.n129 Tryz.prog Tryz.lays129_ren := {
  mixed := by kernel_rfl
  f129 := Tryz.func230.trans (congrArg some (by kernel_rfl))
  t3 := Tryz.underlying3
  a3 := Tryz.isAgg3
  z3 := Tryz.sizeOf3
  v3 := Tryz.zeroValue3
  t4 := Tryz.underlying4
  a4 := Tryz.isAgg4
  z4 := Tryz.sizeOf4
  v4 := Tryz.zeroValue4
  t5 := Tryz.underlying5
  a5 := Tryz.isAgg5
  z5 := Tryz.sizeOf5
  v5 := Tryz.zeroValue5
  t9 := Tryz.underlying9
  a9 := Tryz.isAgg9
  z9 := Tryz.sizeOf9
  v9 := Tryz.zeroValue9
  t46 := Tryz.underlying185
  a46 := Tryz.isAgg185
  z46 := Tryz.sizeOf185
  v46 := Tryz.zeroValue185
  t53 := Tryz.underlying245
  a53 := Tryz.isAgg245
  z53 := Tryz.sizeOf245
  v53 := Tryz.zeroValue245 }
/-- bits.Len64: "Len64 returns the minimum number of bits required to represent x; the result is 0 for x == 0.": IT RETURNS 'Lib.bitLen x'; the world is as it was. ('h0', 'h1': x is a uint64.) (LAID: no walk: one application.) -/
theorem Tryz.bits_Len64 (x : Int) (w : World) (h0 : 0 ≤ x) (h1 : x ≤ 18446744073709551615) :
    Calls Tryz.prog 230 #[.int .u64 x] w fun e w' => e = .returned (.int .i64 (Lib.bitLen x.toNat)) ∧ w' = w := Any.bits_Len64 Tryz.lays129 x w h0 h1
def Tryz.lays317_ren : Go.Shelf.Ren := ⟨fun | 317 => 347 | n => n, fun | 3 => 3 | 46 => 185 | n => n, fun | n => n⟩
theorem Tryz.lays317 : Go.Proofs.Lays.n317 Tryz.prog Tryz.lays317_ren := {
  mixed := by kernel_rfl
  f317 := Tryz.func347.trans (congrArg some (by kernel_rfl))
  t3 := Tryz.underlying3
  a3 := Tryz.isAgg3
  z3 := Tryz.sizeOf3
  v3 := Tryz.zeroValue3
  t46 := Tryz.underlying185
  a46 := Tryz.isAgg185
  z46 := Tryz.sizeOf185
  v46 := Tryz.zeroValue185 }
open Go.Lib in
/-- internal/strconv.log10Pow2: "log10Pow2(x) returns ⌊log₁₀ 2**x⌋ = ⌊x * log₁₀ 2⌋.": '(x * 78913) >> 18', at an x up to 64 (a length in bits). The world is as it was. (LAID: no walk: one application.) -/
theorem Tryz.internal_strconv_log10Pow2 (x : Nat) (h : x ≤ 64) (w : World) :
    Calls Tryz.prog 347 #[.int .i64 x] w fun e w' => e = .returned (.int .i64 (Lib.l10 x)) ∧ w' = w := Any.internal_strconv_log10Pow2 Tryz.lays317 x h w
def Tryz.lays318_ren : Go.Shelf.Ren := ⟨fun | 318 => 348 | n => n, fun | 3 => 3 | 4 => 4 | n => n, fun | n => n⟩
theorem Tryz.lays318 : Go.Proofs.Lays.n318 Tryz.prog Tryz.lays318_ren := {
  mixed := by kernel_rfl
  f318 := Tryz.func348.trans (congrArg some (by kernel_rfl))
  t3 := Tryz.underlying3
  a3 := Tryz.isAgg3
  z3 := Tryz.sizeOf3
  v3 := Tryz.zeroValue3
  t4 := Tryz.underlying4
  a4 := Tryz.isAgg4
  z4 := Tryz.sizeOf4
  v4 := Tryz.zeroValue4 }
open Go.Lib in
/-- internal/strconv.bool2: "bool2 converts b to an integer: 1 for true, 0 for false." The world is as it was. (LAID: no walk: one application.) -/
theorem Tryz.internal_strconv_bool2_int (b : Bool) (w : World) :
    Calls Tryz.prog 348 #[.bool b] w fun e w' => e = .returned (.int .i64 (if b then 1 else 0)) ∧ w' = w := Any.internal_strconv_bool2_int Tryz.lays318 b w
def Tryz.lays283_ren : Go.Shelf.Ren := ⟨fun | 283 => 328 | n => n, fun | 3 => 3 | 9 => 9 | 4 => 4 | n => n, fun | n => n⟩
theorem Tryz.lays283 : Go.Proofs.Lays.n283 Tryz.prog Tryz.lays283_ren := {
  mixed := by kernel_rfl
  f283 := Tryz.func328.trans (congrArg some (by kernel_rfl))
  t3 := Tryz.underlying3
  a3 := Tryz.isAgg3
  z3 := Tryz.sizeOf3
  v3 := Tryz.zeroValue3
  t4 := Tryz.underlying4
  a4 := Tryz.isAgg4
  z4 := Tryz.sizeOf4
  v4 := Tryz.zeroValue4
  t9 := Tryz.underlying9
  a9 := Tryz.isAgg9
  z9 := Tryz.sizeOf9
  v9 := Tryz.zeroValue9 }
open Go.Lib in
/-- internal/strconv.small: "small returns the string for an i with 0 <= i < nSmalls.": i's decimal numeral. The world is as it was. (LAID: no walk: one application.) -/
theorem Tryz.internal_strconv_small (i : Nat) (h : i < 100) (w : World) :
    Calls Tryz.prog 328 #[.int .i64 i] w fun e w' => e = .returned (.string ⟨(Lib.decDigits i).toArray⟩) ∧ w' = w := Any.internal_strconv_small Tryz.lays283 i h w
def Tryz.laysM284_ren : Go.Shelf.Ren := ⟨fun | 284 => 329 | 129 => 230 | 317 => 347 | 318 => 348 | n => n, fun | 53 => 245 | 3 => 3 | 212 => 330 | 0 => 0 | 4 => 4 | 46 => 185 | 5 => 5 | 9 => 9 | n => n, fun | 17 => 6 | n => n⟩
theorem Tryz.laysM284 : Go.Proofs.LaysM.n284 Tryz.prog Tryz.laysM284_ren := {
  mixed := by kernel_rfl
  f129 := Tryz.func230.trans (congrArg some (by kernel_rfl))
  f284 := Tryz.func329.trans (congrArg some (by kernel_rfl))
  f317 := Tryz.func347.trans (congrArg some (by kernel_rfl))
  f318 := Tryz.func348.trans (congrArg some (by kernel_rfl))
  t0 := Tryz.underlying0
  a0 := Tryz.isAgg0
  z0 := Tryz.sizeOf0
  v0 := Tryz.zeroValue0
  t3 := Tryz.underlying3
  a3 := Tryz.isAgg3
  z3 := Tryz.sizeOf3
  v3 := Tryz.zeroValue3
  t4 := Tryz.underlying4
  a4 := Tryz.isAgg4
  z4 := Tryz.sizeOf4
  v4 := Tryz.zeroValue4
  t5 := Tryz.underlying5
  a5 := Tryz.isAgg5
  z5 := Tryz.sizeOf5
  v5 := Tryz.zeroValue5
  t9 := Tryz.underlying9
  a9 := Tryz.isAgg9
  z9 := Tryz.sizeOf9
  v9 := Tryz.zeroValue9
  t46 := Tryz.underlying185
  a46 := Tryz.isAgg185
  z46 := Tryz.sizeOf185
  v46 := Tryz.zeroValue185
  t53 := Tryz.underlying245
  a53 := Tryz.isAgg245
  z53 := Tryz.sizeOf245
  v53 := Tryz.zeroValue245
  t212 := Tryz.underlying330
  a212 := Tryz.isAgg330
  z212 := Tryz.sizeOf330
  v212 := Tryz.zeroValue330
  g17 := by kernel_rfl
  i0 := by kernel_rfl
  i3 := by kernel_rfl
  i4 := by kernel_rfl
  i5 := by kernel_rfl
  i9 := by kernel_rfl
  i46 := by kernel_rfl
  i53 := by kernel_rfl
  i212 := by kernel_rfl
  m17 := by kernel_rfl }
def Tryz.lays285_ren : Go.Shelf.Ren := ⟨fun | 285 => 330 | n => n, fun | 37 => 76 | 53 => 245 | 3 => 3 | 4 => 4 | 51 => 243 | 9 => 9 | 5 => 5 | 0 => 0 | n => n, fun | n => n⟩
theorem Tryz.lays285 : Go.Proofs.Lays.n285 Tryz.prog Tryz.lays285_ren := {
  mixed := by kernel_rfl
  f285 := Tryz.func330.trans (congrArg some (by kernel_rfl))
  t0 := Tryz.underlying0
  a0 := Tryz.isAgg0
  z0 := Tryz.sizeOf0
  v0 := Tryz.zeroValue0
  t3 := Tryz.underlying3
  a3 := Tryz.isAgg3
  z3 := Tryz.sizeOf3
  v3 := Tryz.zeroValue3
  t4 := Tryz.underlying4
  a4 := Tryz.isAgg4
  z4 := Tryz.sizeOf4
  v4 := Tryz.zeroValue4
  t5 := Tryz.underlying5
  a5 := Tryz.isAgg5
  z5 := Tryz.sizeOf5
  v5 := Tryz.zeroValue5
  t9 := Tryz.underlying9
  a9 := Tryz.isAgg9
  z9 := Tryz.sizeOf9
  v9 := Tryz.zeroValue9
  t37 := Tryz.underlying76
  a37 := Tryz.isAgg76
  z37 := Tryz.sizeOf76
  v37 := Tryz.zeroValue76
  t51 := Tryz.underlying243
  a51 := Tryz.isAgg243
  z51 := Tryz.sizeOf243
  v51 := Tryz.zeroValue243
  t53 := Tryz.underlying245
  a53 := Tryz.isAgg245
  z53 := Tryz.sizeOf245
  v53 := Tryz.zeroValue245 }
open Go.RowKit Go.Sort Go.Lib in
/-- internal/strconv.formatBase10: "formatBase10 formats the decimal representation of u into a. The caller is responsible for ensuring that a is big enough to hold u. If a is too big, leading zeros will be filled in as needed.": THE ROW HOLDS u's DIGITS ('FmtInv .. 0 ..': every place t holds 'dg u (len - 1 - t)'); all else is as it was but for the count of draws. (LAID: no walk: one application.) -/
theorem Tryz.internal_strconv_formatBase10 (blk off cap : Nat) (u : Nat) (d : Array UInt8) (w : World) (hH : Holds (fun (b : UInt8) => Value.int .u8 (b.toNat : Int)) w blk off d) (hu : u < 10 ^ d.size) (hu64 : u < 18446744073709551616) (hsz : d.size < 4611686018427387904) :
    Calls Tryz.prog 330 #[.slice (some ⟨blk, off, none⟩) d.size cap, .int .u64 u] w fun e w' =>
      e = .returned (.tuple #[]) ∧ ∃ (n v' : Nat) (dk : Array UInt8), w' = (putRow (fun (b : UInt8) => Value.int .u8 (b.toNat : Int)) w blk off dk).drewN n ∧ FmtInv d.size u 0 v' dk := Any.internal_strconv_formatBase10 Tryz.lays285 blk off cap u d w hH hu hu64 hsz
def Tryz.laysM246_ren : Go.Shelf.Ren := ⟨fun | 246 => 281 | 283 => 328 | 284 => 329 | 285 => 330 | 286 => 331 | 129 => 230 | 317 => 347 | 318 => 348 | 319 => 349 | 320 => 269 | 337 => 321 | 338 => 322 | n => n, fun | 2 => 2 | 3 => 3 | 9 => 9 | 4 => 4 | 171 => 309 | 0 => 0 | 53 => 245 | 37 => 76 | 5 => 5 | 173 => 311 | 212 => 330 | 51 => 243 | 20 => 20 | 213 => 331 | 46 => 185 | 232 => 325 | 233 => 326 | n => n, fun | 17 => 6 | 18 => 4 | 19 => 5 | n => n⟩
theorem Tryz.laysM246 : Go.Proofs.LaysM.n246 Tryz.prog Tryz.laysM246_ren := {
  mixed := by kernel_rfl
  f129 := Tryz.func230.trans (congrArg some (by kernel_rfl))
  f246 := Tryz.func281.trans (congrArg some (by kernel_rfl))
  f283 := Tryz.func328.trans (congrArg some (by kernel_rfl))
  f284 := Tryz.func329.trans (congrArg some (by kernel_rfl))
  f285 := Tryz.func330.trans (congrArg some (by kernel_rfl))
  f286 := Tryz.func331.trans (congrArg some (by kernel_rfl))
  f317 := Tryz.func347.trans (congrArg some (by kernel_rfl))
  f318 := Tryz.func348.trans (congrArg some (by kernel_rfl))
  f319 := Tryz.func349.trans (congrArg some (by kernel_rfl))
  f320 := Tryz.func269.trans (congrArg some (by kernel_rfl))
  f337 := Tryz.func321.trans (congrArg some (by kernel_rfl))
  f338 := Tryz.func322.trans (congrArg some (by kernel_rfl))
  t0 := Tryz.underlying0
  a0 := Tryz.isAgg0
  z0 := Tryz.sizeOf0
  v0 := Tryz.zeroValue0
  t2 := Tryz.underlying2
  a2 := Tryz.isAgg2
  z2 := Tryz.sizeOf2
  v2 := Tryz.zeroValue2
  t3 := Tryz.underlying3
  a3 := Tryz.isAgg3
  z3 := Tryz.sizeOf3
  v3 := Tryz.zeroValue3
  t4 := Tryz.underlying4
  a4 := Tryz.isAgg4
  z4 := Tryz.sizeOf4
  v4 := Tryz.zeroValue4
  t5 := Tryz.underlying5
  a5 := Tryz.isAgg5
  z5 := Tryz.sizeOf5
  v5 := Tryz.zeroValue5
  t9 := Tryz.underlying9
  a9 := Tryz.isAgg9
  z9 := Tryz.sizeOf9
  v9 := Tryz.zeroValue9
  t20 := Tryz.underlying20
  a20 := Tryz.isAgg20
  z20 := Tryz.sizeOf20
  v20 := Tryz.zeroValue20
  t37 := Tryz.underlying76
  a37 := Tryz.isAgg76
  z37 := Tryz.sizeOf76
  v37 := Tryz.zeroValue76
  t46 := Tryz.underlying185
  a46 := Tryz.isAgg185
  z46 := Tryz.sizeOf185
  v46 := Tryz.zeroValue185
  t51 := Tryz.underlying243
  a51 := Tryz.isAgg243
  z51 := Tryz.sizeOf243
  v51 := Tryz.zeroValue243
  t53 := Tryz.underlying245
  a53 := Tryz.isAgg245
  z53 := Tryz.sizeOf245
  v53 := Tryz.zeroValue245
  t171 := Tryz.underlying309
  a171 := Tryz.isAgg309
  z171 := Tryz.sizeOf309
  v171 := Tryz.zeroValue309
  t173 := Tryz.underlying311
  a173 := Tryz.isAgg311
  z173 := Tryz.sizeOf311
  v173 := Tryz.zeroValue311
  t212 := Tryz.underlying330
  a212 := Tryz.isAgg330
  z212 := Tryz.sizeOf330
  v212 := Tryz.zeroValue330
  t213 := Tryz.underlying331
  a213 := Tryz.isAgg331
  z213 := Tryz.sizeOf331
  t232 := Tryz.underlying325
  a232 := Tryz.isAgg325
  z232 := Tryz.sizeOf325
  v232 := Tryz.zeroValue325
  t233 := Tryz.underlying326
  a233 := Tryz.isAgg326
  z233 := Tryz.sizeOf326
  v233 := Tryz.zeroValue326
  g17 := by kernel_rfl
  g18 := by kernel_rfl
  g19 := by kernel_rfl
  i0 := by kernel_rfl
  i2 := by kernel_rfl
  i3 := by kernel_rfl
  i4 := by kernel_rfl
  i5 := by kernel_rfl
  i9 := by kernel_rfl
  i20 := by kernel_rfl
  i37 := by kernel_rfl
  i46 := by kernel_rfl
  i51 := by kernel_rfl
  i53 := by kernel_rfl
  i171 := by kernel_rfl
  i173 := by kernel_rfl
  i212 := by kernel_rfl
  i232 := by kernel_rfl
  i233 := by kernel_rfl
  m17 := by kernel_rfl
  m18 := by kernel_rfl
  m19 := by kernel_rfl }
def Tryz.lays246_ren : Go.Shelf.Ren := ⟨fun | 246 => 281 | 283 => 328 | 284 => 329 | 285 => 330 | 286 => 331 | 129 => 230 | 317 => 347 | 318 => 348 | 319 => 349 | 320 => 269 | 337 => 321 | 338 => 322 | n => n, fun | 2 => 2 | 3 => 3 | 9 => 9 | 4 => 4 | 171 => 309 | 0 => 0 | 53 => 245 | 37 => 76 | 5 => 5 | 173 => 311 | 212 => 330 | 51 => 243 | 20 => 20 | 213 => 331 | 46 => 185 | 232 => 325 | 233 => 326 | n => n, fun | 17 => 6 | 18 => 4 | 19 => 5 | n => n⟩
theorem Tryz.lays246 : Go.Proofs.Lays.n246 Tryz.prog Tryz.lays246_ren := {
  mixed := by kernel_rfl
  f129 := Tryz.func230.trans (congrArg some (by kernel_rfl))
  f246 := Tryz.func281.trans (congrArg some (by kernel_rfl))
  f283 := Tryz.func328.trans (congrArg some (by kernel_rfl))
  f284 := Tryz.func329.trans (congrArg some (by kernel_rfl))
  f285 := Tryz.func330.trans (congrArg some (by kernel_rfl))
  f286 := Tryz.func331.trans (congrArg some (by kernel_rfl))
  f317 := Tryz.func347.trans (congrArg some (by kernel_rfl))
  f318 := Tryz.func348.trans (congrArg some (by kernel_rfl))
  f319 := Tryz.func349.trans (congrArg some (by kernel_rfl))
  f320 := Tryz.func269.trans (congrArg some (by kernel_rfl))
  f337 := Tryz.func321.trans (congrArg some (by kernel_rfl))
  f338 := Tryz.func322.trans (congrArg some (by kernel_rfl))
  t0 := Tryz.underlying0
  a0 := Tryz.isAgg0
  z0 := Tryz.sizeOf0
  v0 := Tryz.zeroValue0
  t2 := Tryz.underlying2
  a2 := Tryz.isAgg2
  z2 := Tryz.sizeOf2
  v2 := Tryz.zeroValue2
  t3 := Tryz.underlying3
  a3 := Tryz.isAgg3
  z3 := Tryz.sizeOf3
  v3 := Tryz.zeroValue3
  t4 := Tryz.underlying4
  a4 := Tryz.isAgg4
  z4 := Tryz.sizeOf4
  v4 := Tryz.zeroValue4
  t5 := Tryz.underlying5
  a5 := Tryz.isAgg5
  z5 := Tryz.sizeOf5
  v5 := Tryz.zeroValue5
  t9 := Tryz.underlying9
  a9 := Tryz.isAgg9
  z9 := Tryz.sizeOf9
  v9 := Tryz.zeroValue9
  t20 := Tryz.underlying20
  a20 := Tryz.isAgg20
  z20 := Tryz.sizeOf20
  v20 := Tryz.zeroValue20
  t37 := Tryz.underlying76
  a37 := Tryz.isAgg76
  z37 := Tryz.sizeOf76
  v37 := Tryz.zeroValue76
  t46 := Tryz.underlying185
  a46 := Tryz.isAgg185
  z46 := Tryz.sizeOf185
  v46 := Tryz.zeroValue185
  t51 := Tryz.underlying243
  a51 := Tryz.isAgg243
  z51 := Tryz.sizeOf243
  v51 := Tryz.zeroValue243
  t53 := Tryz.underlying245
  a53 := Tryz.isAgg245
  z53 := Tryz.sizeOf245
  v53 := Tryz.zeroValue245
  t171 := Tryz.underlying309
  a171 := Tryz.isAgg309
  z171 := Tryz.sizeOf309
  v171 := Tryz.zeroValue309
  t173 := Tryz.underlying311
  a173 := Tryz.isAgg311
  z173 := Tryz.sizeOf311
  v173 := Tryz.zeroValue311
  t212 := Tryz.underlying330
  a212 := Tryz.isAgg330
  z212 := Tryz.sizeOf330
  v212 := Tryz.zeroValue330
  t213 := Tryz.underlying331
  a213 := Tryz.isAgg331
  z213 := Tryz.sizeOf331
  t232 := Tryz.underlying325
  a232 := Tryz.isAgg325
  z232 := Tryz.sizeOf325
  v232 := Tryz.zeroValue325
  t233 := Tryz.underlying326
  a233 := Tryz.isAgg326
  z233 := Tryz.sizeOf326
  v233 := Tryz.zeroValue326
  g17 := by kernel_rfl
  g18 := by kernel_rfl
  g19 := by kernel_rfl }
open Go.RowKit Go.Sort Go.Lib in
/-- THE ROAD WITHOUT THE TABLE: 0 <= i < 100: two constants are read, nothing is laid: no premise on the world, and the world is as it was. (LAID: no walk: one application.) -/
theorem Tryz.internal_strconv_FormatInt_10_small (i : Nat) (hi : i < 100) (w : World) :
    Calls Tryz.prog 281 #[.int .i64 i, .int .i64 10] w fun e w' => e = .returned (.string ⟨(Lib.decDigits i).toArray⟩) ∧ w' = w := Any.internal_strconv_FormatInt_10_small Tryz.lays246 i hi w
def Tryz.laysM243_ren : Go.Shelf.Ren := ⟨fun | 243 => 208 | 246 => 281 | 283 => 328 | 284 => 329 | 285 => 330 | 286 => 331 | 129 => 230 | 317 => 347 | 318 => 348 | 319 => 349 | 320 => 269 | 337 => 321 | 338 => 322 | n => n, fun | 3 => 3 | 9 => 9 | 2 => 2 | 4 => 4 | 171 => 309 | 0 => 0 | 53 => 245 | 37 => 76 | 5 => 5 | 173 => 311 | 212 => 330 | 51 => 243 | 20 => 20 | 213 => 331 | 46 => 185 | 232 => 325 | 233 => 326 | n => n, fun | 17 => 6 | 18 => 4 | 19 => 5 | n => n⟩
theorem Tryz.laysM243 : Go.Proofs.LaysM.n243 Tryz.prog Tryz.laysM243_ren := {
  mixed := by kernel_rfl
  f129 := Tryz.func230.trans (congrArg some (by kernel_rfl))
  f243 := Tryz.func208.trans (congrArg some (by kernel_rfl))
  f246 := Tryz.func281.trans (congrArg some (by kernel_rfl))
  f283 := Tryz.func328.trans (congrArg some (by kernel_rfl))
  f284 := Tryz.func329.trans (congrArg some (by kernel_rfl))
  f285 := Tryz.func330.trans (congrArg some (by kernel_rfl))
  f286 := Tryz.func331.trans (congrArg some (by kernel_rfl))
  f317 := Tryz.func347.trans (congrArg some (by kernel_rfl))
  f318 := Tryz.func348.trans (congrArg some (by kernel_rfl))
  f319 := Tryz.func349.trans (congrArg some (by kernel_rfl))
  f320 := Tryz.func269.trans (congrArg some (by kernel_rfl))
  f337 := Tryz.func321.trans (congrArg some (by kernel_rfl))
  f338 := Tryz.func322.trans (congrArg some (by kernel_rfl))
  t0 := Tryz.underlying0
  a0 := Tryz.isAgg0
  z0 := Tryz.sizeOf0
  v0 := Tryz.zeroValue0
  t2 := Tryz.underlying2
  a2 := Tryz.isAgg2
  z2 := Tryz.sizeOf2
  v2 := Tryz.zeroValue2
  t3 := Tryz.underlying3
  a3 := Tryz.isAgg3
  z3 := Tryz.sizeOf3
  v3 := Tryz.zeroValue3
  t4 := Tryz.underlying4
  a4 := Tryz.isAgg4
  z4 := Tryz.sizeOf4
  v4 := Tryz.zeroValue4
  t5 := Tryz.underlying5
  a5 := Tryz.isAgg5
  z5 := Tryz.sizeOf5
  v5 := Tryz.zeroValue5
  t9 := Tryz.underlying9
  a9 := Tryz.isAgg9
  z9 := Tryz.sizeOf9
  v9 := Tryz.zeroValue9
  t20 := Tryz.underlying20
  a20 := Tryz.isAgg20
  z20 := Tryz.sizeOf20
  v20 := Tryz.zeroValue20
  t37 := Tryz.underlying76
  a37 := Tryz.isAgg76
  z37 := Tryz.sizeOf76
  v37 := Tryz.zeroValue76
  t46 := Tryz.underlying185
  a46 := Tryz.isAgg185
  z46 := Tryz.sizeOf185
  v46 := Tryz.zeroValue185
  t51 := Tryz.underlying243
  a51 := Tryz.isAgg243
  z51 := Tryz.sizeOf243
  v51 := Tryz.zeroValue243
  t53 := Tryz.underlying245
  a53 := Tryz.isAgg245
  z53 := Tryz.sizeOf245
  v53 := Tryz.zeroValue245
  t171 := Tryz.underlying309
  a171 := Tryz.isAgg309
  z171 := Tryz.sizeOf309
  v171 := Tryz.zeroValue309
  t173 := Tryz.underlying311
  a173 := Tryz.isAgg311
  z173 := Tryz.sizeOf311
  v173 := Tryz.zeroValue311
  t212 := Tryz.underlying330
  a212 := Tryz.isAgg330
  z212 := Tryz.sizeOf330
  v212 := Tryz.zeroValue330
  t213 := Tryz.underlying331
  a213 := Tryz.isAgg331
  z213 := Tryz.sizeOf331
  t232 := Tryz.underlying325
  a232 := Tryz.isAgg325
  z232 := Tryz.sizeOf325
  v232 := Tryz.zeroValue325
  t233 := Tryz.underlying326
  a233 := Tryz.isAgg326
  z233 := Tryz.sizeOf326
  v233 := Tryz.zeroValue326
  g17 := by kernel_rfl
  g18 := by kernel_rfl
  g19 := by kernel_rfl
  i0 := by kernel_rfl
  i2 := by kernel_rfl
  i3 := by kernel_rfl
  i4 := by kernel_rfl
  i5 := by kernel_rfl
  i9 := by kernel_rfl
  i20 := by kernel_rfl
  i37 := by kernel_rfl
  i46 := by kernel_rfl
  i51 := by kernel_rfl
  i53 := by kernel_rfl
  i171 := by kernel_rfl
  i173 := by kernel_rfl
  i212 := by kernel_rfl
  i232 := by kernel_rfl
  i233 := by kernel_rfl
  m17 := by kernel_rfl
  m18 := by kernel_rfl
  m19 := by kernel_rfl }
def Tryz.lays243_ren : Go.Shelf.Ren := ⟨fun | 243 => 208 | 246 => 281 | 283 => 328 | 284 => 329 | 285 => 330 | 286 => 331 | 129 => 230 | 317 => 347 | 318 => 348 | 319 => 349 | 320 => 269 | 337 => 321 | 338 => 322 | n => n, fun | 3 => 3 | 9 => 9 | 2 => 2 | 4 => 4 | 171 => 309 | 0 => 0 | 53 => 245 | 37 => 76 | 5 => 5 | 173 => 311 | 212 => 330 | 51 => 243 | 20 => 20 | 213 => 331 | 46 => 185 | 232 => 325 | 233 => 326 | n => n, fun | 17 => 6 | 18 => 4 | 19 => 5 | n => n⟩
theorem Tryz.lays243 : Go.Proofs.Lays.n243 Tryz.prog Tryz.lays243_ren := {
  mixed := by kernel_rfl
  f129 := Tryz.func230.trans (congrArg some (by kernel_rfl))
  f243 := Tryz.func208.trans (congrArg some (by kernel_rfl))
  f246 := Tryz.func281.trans (congrArg some (by kernel_rfl))
  f283 := Tryz.func328.trans (congrArg some (by kernel_rfl))
  f284 := Tryz.func329.trans (congrArg some (by kernel_rfl))
  f285 := Tryz.func330.trans (congrArg some (by kernel_rfl))
  f286 := Tryz.func331.trans (congrArg some (by kernel_rfl))
  f317 := Tryz.func347.trans (congrArg some (by kernel_rfl))
  f318 := Tryz.func348.trans (congrArg some (by kernel_rfl))
  f319 := Tryz.func349.trans (congrArg some (by kernel_rfl))
  f320 := Tryz.func269.trans (congrArg some (by kernel_rfl))
  f337 := Tryz.func321.trans (congrArg some (by kernel_rfl))
  f338 := Tryz.func322.trans (congrArg some (by kernel_rfl))
  t0 := Tryz.underlying0
  a0 := Tryz.isAgg0
  z0 := Tryz.sizeOf0
  v0 := Tryz.zeroValue0
  t2 := Tryz.underlying2
  a2 := Tryz.isAgg2
  z2 := Tryz.sizeOf2
  v2 := Tryz.zeroValue2
  t3 := Tryz.underlying3
  a3 := Tryz.isAgg3
  z3 := Tryz.sizeOf3
  v3 := Tryz.zeroValue3
  t4 := Tryz.underlying4
  a4 := Tryz.isAgg4
  z4 := Tryz.sizeOf4
  v4 := Tryz.zeroValue4
  t5 := Tryz.underlying5
  a5 := Tryz.isAgg5
  z5 := Tryz.sizeOf5
  v5 := Tryz.zeroValue5
  t9 := Tryz.underlying9
  a9 := Tryz.isAgg9
  z9 := Tryz.sizeOf9
  v9 := Tryz.zeroValue9
  t20 := Tryz.underlying20
  a20 := Tryz.isAgg20
  z20 := Tryz.sizeOf20
  v20 := Tryz.zeroValue20
  t37 := Tryz.underlying76
  a37 := Tryz.isAgg76
  z37 := Tryz.sizeOf76
  v37 := Tryz.zeroValue76
  t46 := Tryz.underlying185
  a46 := Tryz.isAgg185
  z46 := Tryz.sizeOf185
  v46 := Tryz.zeroValue185
  t51 := Tryz.underlying243
  a51 := Tryz.isAgg243
  z51 := Tryz.sizeOf243
  v51 := Tryz.zeroValue243
  t53 := Tryz.underlying245
  a53 := Tryz.isAgg245
  z53 := Tryz.sizeOf245
  v53 := Tryz.zeroValue245
  t171 := Tryz.underlying309
  a171 := Tryz.isAgg309
  z171 := Tryz.sizeOf309
  v171 := Tryz.zeroValue309
  t173 := Tryz.underlying311
  a173 := Tryz.isAgg311
  z173 := Tryz.sizeOf311
  v173 := Tryz.zeroValue311
  t212 := Tryz.underlying330
  a212 := Tryz.isAgg330
  z212 := Tryz.sizeOf330
  v212 := Tryz.zeroValue330
  t213 := Tryz.underlying331
  a213 := Tryz.isAgg331
  z213 := Tryz.sizeOf331
  t232 := Tryz.underlying325
  a232 := Tryz.isAgg325
  z232 := Tryz.sizeOf325
  v232 := Tryz.zeroValue325
  t233 := Tryz.underlying326
  a233 := Tryz.isAgg326
  z233 := Tryz.sizeOf326
  v233 := Tryz.zeroValue326
  g17 := by kernel_rfl
  g18 := by kernel_rfl
  g19 := by kernel_rfl }
open Go.RowKit Go.Sort Go.Lib in
/-- THE ROAD WITHOUT THE TABLE: 0 <= i < 100. (LAID: no walk: one application.) -/
theorem Tryz.internal_strconv_Itoa_small (i : Nat) (hi : i < 100) (w : World) :
    Calls Tryz.prog 208 #[.int .i64 i] w fun e w' => e = .returned (.string ⟨(Lib.decDigits i).toArray⟩) ∧ w' = w := Any.internal_strconv_Itoa_small Tryz.lays243 i hi w
def Tryz.laysM171_ren : Go.Shelf.Ren := ⟨fun | 171 => 136 | 243 => 208 | 246 => 281 | 283 => 328 | 284 => 329 | 285 => 330 | 286 => 331 | 129 => 230 | 317 => 347 | 318 => 348 | 319 => 349 | 320 => 269 | 337 => 321 | 338 => 322 | n => n, fun | 3 => 3 | 9 => 9 | 2 => 2 | 4 => 4 | 171 => 309 | 0 => 0 | 53 => 245 | 37 => 76 | 5 => 5 | 173 => 311 | 212 => 330 | 51 => 243 | 20 => 20 | 213 => 331 | 46 => 185 | 232 => 325 | 233 => 326 | n => n, fun | 17 => 6 | 18 => 4 | 19 => 5 | n => n⟩
theorem Tryz.laysM171 : Go.Proofs.LaysM.n171 Tryz.prog Tryz.laysM171_ren := {
  mixed := by kernel_rfl
  f129 := Tryz.func230.trans (congrArg some (by kernel_rfl))
  f171 := Tryz.func136.trans (congrArg some (by kernel_rfl))
  f243 := Tryz.func208.trans (congrArg some (by kernel_rfl))
  f246 := Tryz.func281.trans (congrArg some (by kernel_rfl))
  f283 := Tryz.func328.trans (congrArg some (by kernel_rfl))
  f284 := Tryz.func329.trans (congrArg some (by kernel_rfl))
  f285 := Tryz.func330.trans (congrArg some (by kernel_rfl))
  f286 := Tryz.func331.trans (congrArg some (by kernel_rfl))
  f317 := Tryz.func347.trans (congrArg some (by kernel_rfl))
  f318 := Tryz.func348.trans (congrArg some (by kernel_rfl))
  f319 := Tryz.func349.trans (congrArg some (by kernel_rfl))
  f320 := Tryz.func269.trans (congrArg some (by kernel_rfl))
  f337 := Tryz.func321.trans (congrArg some (by kernel_rfl))
  f338 := Tryz.func322.trans (congrArg some (by kernel_rfl))
  t0 := Tryz.underlying0
  a0 := Tryz.isAgg0
  z0 := Tryz.sizeOf0
  v0 := Tryz.zeroValue0
  t2 := Tryz.underlying2
  a2 := Tryz.isAgg2
  z2 := Tryz.sizeOf2
  v2 := Tryz.zeroValue2
  t3 := Tryz.underlying3
  a3 := Tryz.isAgg3
  z3 := Tryz.sizeOf3
  v3 := Tryz.zeroValue3
  t4 := Tryz.underlying4
  a4 := Tryz.isAgg4
  z4 := Tryz.sizeOf4
  v4 := Tryz.zeroValue4
  t5 := Tryz.underlying5
  a5 := Tryz.isAgg5
  z5 := Tryz.sizeOf5
  v5 := Tryz.zeroValue5
  t9 := Tryz.underlying9
  a9 := Tryz.isAgg9
  z9 := Tryz.sizeOf9
  v9 := Tryz.zeroValue9
  t20 := Tryz.underlying20
  a20 := Tryz.isAgg20
  z20 := Tryz.sizeOf20
  v20 := Tryz.zeroValue20
  t37 := Tryz.underlying76
  a37 := Tryz.isAgg76
  z37 := Tryz.sizeOf76
  v37 := Tryz.zeroValue76
  t46 := Tryz.underlying185
  a46 := Tryz.isAgg185
  z46 := Tryz.sizeOf185
  v46 := Tryz.zeroValue185
  t51 := Tryz.underlying243
  a51 := Tryz.isAgg243
  z51 := Tryz.sizeOf243
  v51 := Tryz.zeroValue243
  t53 := Tryz.underlying245
  a53 := Tryz.isAgg245
  z53 := Tryz.sizeOf245
  v53 := Tryz.zeroValue245
  t171 := Tryz.underlying309
  a171 := Tryz.isAgg309
  z171 := Tryz.sizeOf309
  v171 := Tryz.zeroValue309
  t173 := Tryz.underlying311
  a173 := Tryz.isAgg311
  z173 := Tryz.sizeOf311
  v173 := Tryz.zeroValue311
  t212 := Tryz.underlying330
  a212 := Tryz.isAgg330
  z212 := Tryz.sizeOf330
  v212 := Tryz.zeroValue330
  t213 := Tryz.underlying331
  a213 := Tryz.isAgg331
  z213 := Tryz.sizeOf331
  t232 := Tryz.underlying325
  a232 := Tryz.isAgg325
  z232 := Tryz.sizeOf325
  v232 := Tryz.zeroValue325
  t233 := Tryz.underlying326
  a233 := Tryz.isAgg326
  z233 := Tryz.sizeOf326
  v233 := Tryz.zeroValue326
  g17 := by kernel_rfl
  g18 := by kernel_rfl
  g19 := by kernel_rfl
  i0 := by kernel_rfl
  i2 := by kernel_rfl
  i3 := by kernel_rfl
  i4 := by kernel_rfl
  i5 := by kernel_rfl
  i9 := by kernel_rfl
  i20 := by kernel_rfl
  i37 := by kernel_rfl
  i46 := by kernel_rfl
  i51 := by kernel_rfl
  i53 := by kernel_rfl
  i171 := by kernel_rfl
  i173 := by kernel_rfl
  i212 := by kernel_rfl
  i232 := by kernel_rfl
  i233 := by kernel_rfl
  m17 := by kernel_rfl
  m18 := by kernel_rfl
  m19 := by kernel_rfl }
def Tryz.lays171_ren : Go.Shelf.Ren := ⟨fun | 171 => 136 | 243 => 208 | 246 => 281 | 283 => 328 | 284 => 329 | 285 => 330 | 286 => 331 | 129 => 230 | 317 => 347 | 318 => 348 | 319 => 349 | 320 => 269 | 337 => 321 | 338 => 322 | n => n, fun | 3 => 3 | 9 => 9 | 2 => 2 | 4 => 4 | 171 => 309 | 0 => 0 | 53 => 245 | 37 => 76 | 5 => 5 | 173 => 311 | 212 => 330 | 51 => 243 | 20 => 20 | 213 => 331 | 46 => 185 | 232 => 325 | 233 => 326 | n => n, fun | 17 => 6 | 18 => 4 | 19 => 5 | n => n⟩
theorem Tryz.lays171 : Go.Proofs.Lays.n171 Tryz.prog Tryz.lays171_ren := {
  mixed := by kernel_rfl
  f129 := Tryz.func230.trans (congrArg some (by kernel_rfl))
  f171 := Tryz.func136.trans (congrArg some (by kernel_rfl))
  f243 := Tryz.func208.trans (congrArg some (by kernel_rfl))
  f246 := Tryz.func281.trans (congrArg some (by kernel_rfl))
  f283 := Tryz.func328.trans (congrArg some (by kernel_rfl))
  f284 := Tryz.func329.trans (congrArg some (by kernel_rfl))
  f285 := Tryz.func330.trans (congrArg some (by kernel_rfl))
  f286 := Tryz.func331.trans (congrArg some (by kernel_rfl))
  f317 := Tryz.func347.trans (congrArg some (by kernel_rfl))
  f318 := Tryz.func348.trans (congrArg some (by kernel_rfl))
  f319 := Tryz.func349.trans (congrArg some (by kernel_rfl))
  f320 := Tryz.func269.trans (congrArg some (by kernel_rfl))
  f337 := Tryz.func321.trans (congrArg some (by kernel_rfl))
  f338 := Tryz.func322.trans (congrArg some (by kernel_rfl))
  t0 := Tryz.underlying0
  a0 := Tryz.isAgg0
  z0 := Tryz.sizeOf0
  v0 := Tryz.zeroValue0
  t2 := Tryz.underlying2
  a2 := Tryz.isAgg2
  z2 := Tryz.sizeOf2
  v2 := Tryz.zeroValue2
  t3 := Tryz.underlying3
  a3 := Tryz.isAgg3
  z3 := Tryz.sizeOf3
  v3 := Tryz.zeroValue3
  t4 := Tryz.underlying4
  a4 := Tryz.isAgg4
  z4 := Tryz.sizeOf4
  v4 := Tryz.zeroValue4
  t5 := Tryz.underlying5
  a5 := Tryz.isAgg5
  z5 := Tryz.sizeOf5
  v5 := Tryz.zeroValue5
  t9 := Tryz.underlying9
  a9 := Tryz.isAgg9
  z9 := Tryz.sizeOf9
  v9 := Tryz.zeroValue9
  t20 := Tryz.underlying20
  a20 := Tryz.isAgg20
  z20 := Tryz.sizeOf20
  v20 := Tryz.zeroValue20
  t37 := Tryz.underlying76
  a37 := Tryz.isAgg76
  z37 := Tryz.sizeOf76
  v37 := Tryz.zeroValue76
  t46 := Tryz.underlying185
  a46 := Tryz.isAgg185
  z46 := Tryz.sizeOf185
  v46 := Tryz.zeroValue185
  t51 := Tryz.underlying243
  a51 := Tryz.isAgg243
  z51 := Tryz.sizeOf243
  v51 := Tryz.zeroValue243
  t53 := Tryz.underlying245
  a53 := Tryz.isAgg245
  z53 := Tryz.sizeOf245
  v53 := Tryz.zeroValue245
  t171 := Tryz.underlying309
  a171 := Tryz.isAgg309
  z171 := Tryz.sizeOf309
  v171 := Tryz.zeroValue309
  t173 := Tryz.underlying311
  a173 := Tryz.isAgg311
  z173 := Tryz.sizeOf311
  v173 := Tryz.zeroValue311
  t212 := Tryz.underlying330
  a212 := Tryz.isAgg330
  z212 := Tryz.sizeOf330
  v212 := Tryz.zeroValue330
  t213 := Tryz.underlying331
  a213 := Tryz.isAgg331
  z213 := Tryz.sizeOf331
  t232 := Tryz.underlying325
  a232 := Tryz.isAgg325
  z232 := Tryz.sizeOf325
  v232 := Tryz.zeroValue325
  t233 := Tryz.underlying326
  a233 := Tryz.isAgg326
  z233 := Tryz.sizeOf326
  v233 := Tryz.zeroValue326
  g17 := by kernel_rfl
  g18 := by kernel_rfl
  g19 := by kernel_rfl }
open Go.RowKit Go.Sort Go.Lib in
/-- THE ROAD WITHOUT THE TABLE: 0 <= i < 100: NO PREMISE ON THE WORLD, AND THE WORLD IS AS IT WAS: a row that keeps its argument in that range need list no table ('laid = []'). (LAID: no walk: one application.) -/
theorem Tryz.strconv_Itoa_small (i : Nat) (hi : i < 100) (w : World) :
    Calls Tryz.prog 136 #[.int .i64 i] w fun e w' => e = .returned (.string ⟨(Lib.decDigits i).toArray⟩) ∧ w' = w := Any.strconv_Itoa_small Tryz.lays171 i hi w
def Tryz.lays217_ren : Go.Shelf.Ren := ⟨fun | 217 => 338 | 266 => 351 | n => n, fun | 9 => 9 | 5 => 5 | 3 => 3 | n => n, fun | n => n⟩
theorem Tryz.lays217 : Go.Proofs.Lays.n217 Tryz.prog Tryz.lays217_ren := {
  mixed := by kernel_rfl
  f217 := Tryz.func338.trans (congrArg some (by kernel_rfl))
  f266 := Tryz.func351.trans (congrArg some (by kernel_rfl))
  t3 := Tryz.underlying3
  a3 := Tryz.isAgg3
  z3 := Tryz.sizeOf3
  v3 := Tryz.zeroValue3
  t5 := Tryz.underlying5
  a5 := Tryz.isAgg5
  z5 := Tryz.sizeOf5
  v5 := Tryz.zeroValue5
  t9 := Tryz.underlying9
  a9 := Tryz.isAgg9
  z9 := Tryz.sizeOf9
  v9 := Tryz.zeroValue9 }
open Go.RowKit Go.Lib in
/-- internal/stringslite.IndexByte (what strings.IndexByte calls): IT RETURNS 'Lib.indexByte s c'; the world is as it was. (LAID: no walk: one application.) -/
theorem Tryz.stringslite_IndexByte (s : ByteArray) (c : Int) (w : World) :
    Calls Tryz.prog 338 #[.string s, .int .u8 c] w fun e w' => e = .returned (.int .i64 (Lib.indexByte s.data.toList c.toNat.toUInt8)) ∧ w' = w := Any.stringslite_IndexByte Tryz.lays217 s c w
def Tryz.lays224_ren : Go.Shelf.Ren := ⟨fun | 224 => 305 | n => n, fun | 3 => 3 | n => n, fun | n => n⟩
theorem Tryz.lays224 : Go.Proofs.Lays.n224 Tryz.prog Tryz.lays224_ren := {
  mixed := by kernel_rfl
  f224 := Tryz.func305.trans (congrArg some (by kernel_rfl))
  t3 := Tryz.underlying3
  a3 := Tryz.isAgg3
  z3 := Tryz.sizeOf3
  v3 := Tryz.zeroValue3 }
open Go.RowKit Go.Lib in
/-- internal/bytealg.Cutover: "Cutover reports the number of failures of IndexByte we should tolerate before switching over to Index. n is the number of bytes processed so far.": on amd64: (n + 16) / 8. (LAID: no walk: one application.) -/
theorem Tryz.bytealg_Cutover (n : Int) (h0 : 0 ≤ n) (h1 : n < 4611686018427387904) (w : World) :
    Calls Tryz.prog 305 #[.int .i64 n] w fun e w' => e = .returned (.int .i64 ((n + 16) / 8)) ∧ w' = w := Any.bytealg_Cutover Tryz.lays224 n h0 h1 w
def Tryz.lays314_ren : Go.Shelf.Ren := ⟨fun | 314 => 352 | n => n, fun | 9 => 9 | 51 => 243 | 3 => 3 | 4 => 4 | 5 => 5 | 46 => 185 | n => n, fun | n => n⟩
theorem Tryz.lays314 : Go.Proofs.Lays.n314 Tryz.prog Tryz.lays314_ren := {
  mixed := by kernel_rfl
  f314 := Tryz.func352.trans (congrArg some (by kernel_rfl))
  t3 := Tryz.underlying3
  a3 := Tryz.isAgg3
  z3 := Tryz.sizeOf3
  v3 := Tryz.zeroValue3
  t4 := Tryz.underlying4
  a4 := Tryz.isAgg4
  z4 := Tryz.sizeOf4
  v4 := Tryz.zeroValue4
  t5 := Tryz.underlying5
  a5 := Tryz.isAgg5
  z5 := Tryz.sizeOf5
  v5 := Tryz.zeroValue5
  t9 := Tryz.underlying9
  a9 := Tryz.isAgg9
  z9 := Tryz.sizeOf9
  v9 := Tryz.zeroValue9
  t46 := Tryz.underlying185
  a46 := Tryz.isAgg185
  z46 := Tryz.sizeOf185
  v46 := Tryz.zeroValue185
  t51 := Tryz.underlying243
  a51 := Tryz.isAgg243
  z51 := Tryz.sizeOf243
  v51 := Tryz.zeroValue243 }
open Go.RowKit Go.Lib in
/-- hashStr: "returns the hash and the appropriate multiplicative factor for use in Rabin-Karp algorithm": THE HASH OF ALL OF sep, AND 16777619 ^ len(sep), both in uint32. (LAID: no walk: one application.) -/
theorem Tryz.bytealg_hashStr (sep : ByteArray) (hs : sep.size < 4294967281) (w : World) :
    Calls Tryz.prog 352 #[.string sep] w fun e w' => e = .returned (.tuple #[.int .u32 (RK.H sep.data.toList % 4294967296), .int .u32 (16777619 ^ sep.size % 4294967296)]) ∧ w' = w := Any.bytealg_hashStr Tryz.lays314 sep hs w
def Tryz.lays267_ren : Go.Shelf.Ren := ⟨fun | 267 => 339 | 314 => 352 | n => n, fun | 9 => 9 | 3 => 3 | 146 => 337 | 51 => 243 | 4 => 4 | 5 => 5 | 46 => 185 | n => n, fun | n => n⟩
theorem Tryz.lays267 : Go.Proofs.Lays.n267 Tryz.prog Tryz.lays267_ren := {
  mixed := by kernel_rfl
  f267 := Tryz.func339.trans (congrArg some (by kernel_rfl))
  f314 := Tryz.func352.trans (congrArg some (by kernel_rfl))
  t3 := Tryz.underlying3
  a3 := Tryz.isAgg3
  z3 := Tryz.sizeOf3
  v3 := Tryz.zeroValue3
  t4 := Tryz.underlying4
  a4 := Tryz.isAgg4
  z4 := Tryz.sizeOf4
  v4 := Tryz.zeroValue4
  t5 := Tryz.underlying5
  a5 := Tryz.isAgg5
  z5 := Tryz.sizeOf5
  v5 := Tryz.zeroValue5
  t9 := Tryz.underlying9
  a9 := Tryz.isAgg9
  z9 := Tryz.sizeOf9
  v9 := Tryz.zeroValue9
  t46 := Tryz.underlying185
  a46 := Tryz.isAgg185
  z46 := Tryz.sizeOf185
  v46 := Tryz.zeroValue185
  t51 := Tryz.underlying243
  a51 := Tryz.isAgg243
  z51 := Tryz.sizeOf243
  v51 := Tryz.zeroValue243
  t146 := Tryz.underlying337
  a146 := Tryz.isAgg337
  z146 := Tryz.sizeOf337
  v146 := Tryz.zeroValue337 }
open Go.RowKit Go.Lib in
theorem Tryz.bytealg_IndexRabinKarp (s sep : ByteArray) (h1 : 1 ≤ sep.size) (h2 : sep.size ≤ s.size) (hs : s.size < 4294967281) (w : World) :
    Calls Tryz.prog 339 #[.string s, .string sep] w fun e w' => e = .returned (.int .i64 (Lib.index s.data.toList sep.data.toList)) ∧ w' = w := Any.bytealg_IndexRabinKarp Tryz.lays267 s sep h1 h2 hs w
def Tryz.lays219_ren : Go.Shelf.Ren := ⟨fun | 219 => 302 | 217 => 338 | 225 => 306 | 224 => 305 | 267 => 339 | 266 => 351 | 314 => 352 | n => n, fun | 9 => 9 | 3 => 3 | 4 => 4 | 5 => 5 | 46 => 185 | 146 => 337 | 51 => 243 | n => n, fun | 1 => 0 | n => n⟩
theorem Tryz.lays219 : Go.Proofs.Lays.n219 Tryz.prog Tryz.lays219_ren := {
  mixed := by kernel_rfl
  f217 := Tryz.func338.trans (congrArg some (by kernel_rfl))
  f219 := Tryz.func302.trans (congrArg some (by kernel_rfl))
  f224 := Tryz.func305.trans (congrArg some (by kernel_rfl))
  f225 := Tryz.func306.trans (congrArg some (by kernel_rfl))
  f266 := Tryz.func351.trans (congrArg some (by kernel_rfl))
  f267 := Tryz.func339.trans (congrArg some (by kernel_rfl))
  f314 := Tryz.func352.trans (congrArg some (by kernel_rfl))
  t3 := Tryz.underlying3
  a3 := Tryz.isAgg3
  z3 := Tryz.sizeOf3
  v3 := Tryz.zeroValue3
  t4 := Tryz.underlying4
  a4 := Tryz.isAgg4
  z4 := Tryz.sizeOf4
  v4 := Tryz.zeroValue4
  t5 := Tryz.underlying5
  a5 := Tryz.isAgg5
  z5 := Tryz.sizeOf5
  v5 := Tryz.zeroValue5
  t9 := Tryz.underlying9
  a9 := Tryz.isAgg9
  z9 := Tryz.sizeOf9
  v9 := Tryz.zeroValue9
  t46 := Tryz.underlying185
  a46 := Tryz.isAgg185
  z46 := Tryz.sizeOf185
  v46 := Tryz.zeroValue185
  t51 := Tryz.underlying243
  a51 := Tryz.isAgg243
  z51 := Tryz.sizeOf243
  v51 := Tryz.zeroValue243
  t146 := Tryz.underlying337
  a146 := Tryz.isAgg337
  z146 := Tryz.sizeOf337
  v146 := Tryz.zeroValue337
  g1 := by kernel_rfl }
open Go.RowKit Go.Lib in
/-- internal/stringslite.Index (what strings.Index calls) AT A substr OF ONE BYTE c: IT RETURNS 'Lib.indexByte s c'; the world is as it was. (LAID: no walk: one application.) -/
theorem Tryz.stringslite_Index_one (s : ByteArray) (c : UInt8) (w : World) :
    Calls Tryz.prog 302 #[.string s, .string ⟨#[c]⟩] w fun e w' => e = .returned (.int .i64 (Lib.indexByte s.data.toList c)) ∧ w' = w := Any.stringslite_Index_one Tryz.lays219 s c w
open Go.RowKit Go.Lib in
/-- internal/stringslite.Index (what strings.Index calls) AT A substr OF WHATEVER LENGTH: IT RETURNS 'Lib.index s substr'; the world is as it was. 'm': what internal/bytealg.MaxLen holds: whatever. (LAID: no walk: one application.) -/
theorem Tryz.stringslite_Index (s sub : ByteArray) (m : Int) (w : World) (hs : s.size < 4294967281) (hm : w.cell? ⟨0, 0, none⟩ = some (.int .i64 m)) :
    Calls Tryz.prog 302 #[.string s, .string sub] w fun e w' => e = .returned (.int .i64 (Lib.index s.data.toList sub.data.toList)) ∧ w' = w := Any.stringslite_Index Tryz.lays219 s sub m w hs hm
def Tryz.lays143_ren : Go.Shelf.Ren := ⟨fun | 143 => 243 | 219 => 302 | 217 => 338 | 225 => 306 | 224 => 305 | 267 => 339 | 266 => 351 | 314 => 352 | n => n, fun | 9 => 9 | 3 => 3 | 4 => 4 | 5 => 5 | 46 => 185 | 146 => 337 | 51 => 243 | n => n, fun | 1 => 0 | n => n⟩
theorem Tryz.lays143 : Go.Proofs.Lays.n143 Tryz.prog Tryz.lays143_ren := {
  mixed := by kernel_rfl
  f143 := Tryz.func243.trans (congrArg some (by kernel_rfl))
  f217 := Tryz.func338.trans (congrArg some (by kernel_rfl))
  f219 := Tryz.func302.trans (congrArg some (by kernel_rfl))
  f224 := Tryz.func305.trans (congrArg some (by kernel_rfl))
  f225 := Tryz.func306.trans (congrArg some (by kernel_rfl))
  f266 := Tryz.func351.trans (congrArg some (by kernel_rfl))
  f267 := Tryz.func339.trans (congrArg some (by kernel_rfl))
  f314 := Tryz.func352.trans (congrArg some (by kernel_rfl))
  t3 := Tryz.underlying3
  a3 := Tryz.isAgg3
  z3 := Tryz.sizeOf3
  v3 := Tryz.zeroValue3
  t4 := Tryz.underlying4
  a4 := Tryz.isAgg4
  z4 := Tryz.sizeOf4
  v4 := Tryz.zeroValue4
  t5 := Tryz.underlying5
  a5 := Tryz.isAgg5
  z5 := Tryz.sizeOf5
  v5 := Tryz.zeroValue5
  t9 := Tryz.underlying9
  a9 := Tryz.isAgg9
  z9 := Tryz.sizeOf9
  v9 := Tryz.zeroValue9
  t46 := Tryz.underlying185
  a46 := Tryz.isAgg185
  z46 := Tryz.sizeOf185
  v46 := Tryz.zeroValue185
  t51 := Tryz.underlying243
  a51 := Tryz.isAgg243
  z51 := Tryz.sizeOf243
  v51 := Tryz.zeroValue243
  t146 := Tryz.underlying337
  a146 := Tryz.isAgg337
  z146 := Tryz.sizeOf337
  v146 := Tryz.zeroValue337
  g1 := by kernel_rfl }
open Go.RowKit Go.Lib in
/-- strings.Index: "Index returns the index of the first instance of substr in s, or -1 if substr is not present in s.": AT A substr OF ONE BYTE c: IT RETURNS 'Lib.indexByte s c'; the world is as it was. (LAID: no walk: one application.) -/
theorem Tryz.strings_Index_one (s : ByteArray) (c : UInt8) (w : World) :
    Calls Tryz.prog 243 #[.string s, .string ⟨#[c]⟩] w fun e w' => e = .returned (.int .i64 (Lib.indexByte s.data.toList c)) ∧ w' = w := Any.strings_Index_one Tryz.lays143 s c w
open Go.RowKit Go.Lib in
/-- strings.Index: "Index returns the index of the first instance of substr in s, or -1 if substr is not present in s.": IT RETURNS 'Lib.index s substr'; the world is as it was. (LAID: no walk: one application.) -/
theorem Tryz.strings_Index (s sub : ByteArray) (m : Int) (w : World) (hs : s.size < 4294967281) (hm : w.cell? ⟨0, 0, none⟩ = some (.int .i64 m)) :
    Calls Tryz.prog 243 #[.string s, .string sub] w fun e w' => e = .returned (.int .i64 (Lib.index s.data.toList sub.data.toList)) ∧ w' = w := Any.strings_Index Tryz.lays143 s sub m w hs hm
def Tryz.lays220_ren : Go.Shelf.Ren := ⟨fun | 220 => 248 | 219 => 302 | 217 => 338 | 225 => 306 | 224 => 305 | 267 => 339 | 266 => 351 | 314 => 352 | n => n, fun | 9 => 9 | 4 => 4 | 3 => 3 | 5 => 5 | 46 => 185 | 146 => 337 | 51 => 243 | n => n, fun | 1 => 0 | n => n⟩
theorem Tryz.lays220 : Go.Proofs.Lays.n220 Tryz.prog Tryz.lays220_ren := {
  mixed := by kernel_rfl
  f217 := Tryz.func338.trans (congrArg some (by kernel_rfl))
  f219 := Tryz.func302.trans (congrArg some (by kernel_rfl))
  f220 := Tryz.func248.trans (congrArg some (by kernel_rfl))
  f224 := Tryz.func305.trans (congrArg some (by kernel_rfl))
  f225 := Tryz.func306.trans (congrArg some (by kernel_rfl))
  f266 := Tryz.func351.trans (congrArg some (by kernel_rfl))
  f267 := Tryz.func339.trans (congrArg some (by kernel_rfl))
  f314 := Tryz.func352.trans (congrArg some (by kernel_rfl))
  t3 := Tryz.underlying3
  a3 := Tryz.isAgg3
  z3 := Tryz.sizeOf3
  v3 := Tryz.zeroValue3
  t4 := Tryz.underlying4
  a4 := Tryz.isAgg4
  z4 := Tryz.sizeOf4
  v4 := Tryz.zeroValue4
  t5 := Tryz.underlying5
  a5 := Tryz.isAgg5
  z5 := Tryz.sizeOf5
  v5 := Tryz.zeroValue5
  t9 := Tryz.underlying9
  a9 := Tryz.isAgg9
  z9 := Tryz.sizeOf9
  v9 := Tryz.zeroValue9
  t46 := Tryz.underlying185
  a46 := Tryz.isAgg185
  z46 := Tryz.sizeOf185
  v46 := Tryz.zeroValue185
  t51 := Tryz.underlying243
  a51 := Tryz.isAgg243
  z51 := Tryz.sizeOf243
  v51 := Tryz.zeroValue243
  t146 := Tryz.underlying337
  a146 := Tryz.isAgg337
  z146 := Tryz.sizeOf337
  v146 := Tryz.zeroValue337
  g1 := by kernel_rfl }
open Go.RowKit Go.Lib in
/-- internal/stringslite.Cut (what strings.Cut calls): IT RETURNS 'Lib.cut s sep'; the world is as it was but for the count of draws. (LAID: no walk: one application.) -/
theorem Tryz.stringslite_Cut (s sep : ByteArray) (m : Int) (w : World) (hs : s.size < 4294967281) (hm : w.cell? ⟨0, 0, none⟩ = some (.int .i64 m)) :
    Calls Tryz.prog 248 #[.string s, .string sep] w fun e w' => e = .returned (.tuple #[.string ⟨(Lib.cut s.data.toList sep.data.toList).1.toArray⟩, .string ⟨(Lib.cut s.data.toList sep.data.toList).2.1.toArray⟩, .bool (Lib.cut s.data.toList sep.data.toList).2.2]) ∧ ∃ n, w' = w.drewN n := Any.stringslite_Cut Tryz.lays220 s sep m w hs hm
def Tryz.lays145_ren : Go.Shelf.Ren := ⟨fun | 145 => 166 | 220 => 248 | 219 => 302 | 217 => 338 | 225 => 306 | 224 => 305 | 267 => 339 | 266 => 351 | 314 => 352 | n => n, fun | 9 => 9 | 4 => 4 | 59 => 206 | 3 => 3 | 5 => 5 | 46 => 185 | 146 => 337 | 51 => 243 | n => n, fun | 1 => 0 | n => n⟩
theorem Tryz.lays145 : Go.Proofs.Lays.n145 Tryz.prog Tryz.lays145_ren := {
  mixed := by kernel_rfl
  f145 := Tryz.func166.trans (congrArg some (by kernel_rfl))
  f217 := Tryz.func338.trans (congrArg some (by kernel_rfl))
  f219 := Tryz.func302.trans (congrArg some (by kernel_rfl))
  f220 := Tryz.func248.trans (congrArg some (by kernel_rfl))
  f224 := Tryz.func305.trans (congrArg some (by kernel_rfl))
  f225 := Tryz.func306.trans (congrArg some (by kernel_rfl))
  f266 := Tryz.func351.trans (congrArg some (by kernel_rfl))
  f267 := Tryz.func339.trans (congrArg some (by kernel_rfl))
  f314 := Tryz.func352.trans (congrArg some (by kernel_rfl))
  t3 := Tryz.underlying3
  a3 := Tryz.isAgg3
  z3 := Tryz.sizeOf3
  v3 := Tryz.zeroValue3
  t4 := Tryz.underlying4
  a4 := Tryz.isAgg4
  z4 := Tryz.sizeOf4
  v4 := Tryz.zeroValue4
  t5 := Tryz.underlying5
  a5 := Tryz.isAgg5
  z5 := Tryz.sizeOf5
  v5 := Tryz.zeroValue5
  t9 := Tryz.underlying9
  a9 := Tryz.isAgg9
  z9 := Tryz.sizeOf9
  v9 := Tryz.zeroValue9
  t46 := Tryz.underlying185
  a46 := Tryz.isAgg185
  z46 := Tryz.sizeOf185
  v46 := Tryz.zeroValue185
  t51 := Tryz.underlying243
  a51 := Tryz.isAgg243
  z51 := Tryz.sizeOf243
  v51 := Tryz.zeroValue243
  t59 := Tryz.underlying206
  a59 := Tryz.isAgg206
  z59 := Tryz.sizeOf206
  v59 := Tryz.zeroValue206
  t146 := Tryz.underlying337
  a146 := Tryz.isAgg337
  z146 := Tryz.sizeOf337
  v146 := Tryz.zeroValue337
  g1 := by kernel_rfl }
open Go.RowKit Go.Lib in
/-- strings.Cut: "Cut slices s around the first instance of sep, returning the text before and after sep. The found result reports whether sep appears in s. If sep does not appear in s, cut returns s, "", false.": IT RETURNS 'Lib.cut s sep'; the world is as it was but for the count of draws. (LAID: no walk: one application.) -/
theorem Tryz.strings_Cut (s sep : ByteArray) (m : Int) (w : World) (hs : s.size < 4294967281) (hm : w.cell? ⟨0, 0, none⟩ = some (.int .i64 m)) :
    Calls Tryz.prog 166 #[.string s, .string sep] w fun e w' => e = .returned (.tuple #[.string ⟨(Lib.cut s.data.toList sep.data.toList).1.toArray⟩, .string ⟨(Lib.cut s.data.toList sep.data.toList).2.1.toArray⟩, .bool (Lib.cut s.data.toList sep.data.toList).2.2]) ∧ ∃ n, w' = w.drewN n := Any.strings_Cut Tryz.lays145 s sep m w hs hm
def Tryz.lays138_ren : Go.Shelf.Ren := ⟨fun | 138 => 242 | 195 => 299 | 218 => 301 | 143 => 243 | 219 => 302 | 217 => 338 | 225 => 306 | 224 => 305 | 267 => 339 | 266 => 351 | 314 => 352 | n => n, fun | 9 => 9 | 3 => 3 | 4 => 4 | 5 => 5 | 0 => 0 | 46 => 185 | 146 => 337 | 51 => 243 | n => n, fun | 1 => 0 | n => n⟩
theorem Tryz.lays138 : Go.Proofs.Lays.n138 Tryz.prog Tryz.lays138_ren := {
  mixed := by kernel_rfl
  f138 := Tryz.func242.trans (congrArg some (by kernel_rfl))
  f143 := Tryz.func243.trans (congrArg some (by kernel_rfl))
  f195 := Tryz.func299.trans (congrArg some (by kernel_rfl))
  f217 := Tryz.func338.trans (congrArg some (by kernel_rfl))
  f218 := Tryz.func301.trans (congrArg some (by kernel_rfl))
  f219 := Tryz.func302.trans (congrArg some (by kernel_rfl))
  f224 := Tryz.func305.trans (congrArg some (by kernel_rfl))
  f225 := Tryz.func306.trans (congrArg some (by kernel_rfl))
  f266 := Tryz.func351.trans (congrArg some (by kernel_rfl))
  f267 := Tryz.func339.trans (congrArg some (by kernel_rfl))
  f314 := Tryz.func352.trans (congrArg some (by kernel_rfl))
  t0 := Tryz.underlying0
  a0 := Tryz.isAgg0
  z0 := Tryz.sizeOf0
  v0 := Tryz.zeroValue0
  t3 := Tryz.underlying3
  a3 := Tryz.isAgg3
  z3 := Tryz.sizeOf3
  v3 := Tryz.zeroValue3
  t4 := Tryz.underlying4
  a4 := Tryz.isAgg4
  z4 := Tryz.sizeOf4
  v4 := Tryz.zeroValue4
  t5 := Tryz.underlying5
  a5 := Tryz.isAgg5
  z5 := Tryz.sizeOf5
  v5 := Tryz.zeroValue5
  t9 := Tryz.underlying9
  a9 := Tryz.isAgg9
  z9 := Tryz.sizeOf9
  v9 := Tryz.zeroValue9
  t46 := Tryz.underlying185
  a46 := Tryz.isAgg185
  z46 := Tryz.sizeOf185
  v46 := Tryz.zeroValue185
  t51 := Tryz.underlying243
  a51 := Tryz.isAgg243
  z51 := Tryz.sizeOf243
  v51 := Tryz.zeroValue243
  t146 := Tryz.underlying337
  a146 := Tryz.isAgg337
  z146 := Tryz.sizeOf337
  v146 := Tryz.zeroValue337
  g1 := by kernel_rfl }
open Go.RowKit Go.Lib in
/-- strings.Count AT A substr OF ONE BYTE ('hp'): "Count counts the number of non-overlapping instances of substr in s.": IT RETURNS 'Lib.countByte s (that byte)'; the world is as it was. ✋ NO CONTRACT HERE YET at an empty substr (utf8.RuneCountInString) or at a longer one (a loop over strings.Index). (LAID: no walk: one application.) -/
theorem Tryz.strings_Count_one (s : ByteArray) (c : UInt8) (w : World) :
    Calls Tryz.prog 242 #[.string s, .string ⟨#[c]⟩] w fun e w' => e = .returned (.int .i64 (Lib.countByte s.data.toList c)) ∧ w' = w := Any.strings_Count_one Tryz.lays138 s c w
open Go.RowKit Go.Lib in
/-- strings.Count AT A substr OF TWO BYTES OR MORE: "Count counts the number of non-overlapping instances of substr in s.": IT RETURNS 'Lib.count s substr'; the world is as it was. (LAID: no walk: one application.) -/
theorem Tryz.strings_Count (s sub : ByteArray) (m : Int) (w : World) (hs : s.size < 4294967281) (hm : w.cell? ⟨0, 0, none⟩ = some (.int .i64 m)) (h2 : 2 ≤ sub.size) :
    Calls Tryz.prog 242 #[.string s, .string sub] w fun e w' => e = .returned (.int .i64 (Lib.countB s sub)) ∧ w' = w := Any.strings_Count Tryz.lays138 s sub m w hs hm h2
def Tryz.laysM219_ren : Go.Shelf.Ren := ⟨fun | 219 => 302 | 217 => 338 | 225 => 306 | 224 => 305 | 267 => 339 | 266 => 351 | 314 => 352 | n => n, fun | 9 => 9 | 3 => 3 | 4 => 4 | 5 => 5 | 46 => 185 | 146 => 337 | 51 => 243 | n => n, fun | 1 => 0 | n => n⟩
theorem Tryz.laysM219 : Go.Proofs.LaysM.n219 Tryz.prog Tryz.laysM219_ren := {
  mixed := by kernel_rfl
  f217 := Tryz.func338.trans (congrArg some (by kernel_rfl))
  f219 := Tryz.func302.trans (congrArg some (by kernel_rfl))
  f224 := Tryz.func305.trans (congrArg some (by kernel_rfl))
  f225 := Tryz.func306.trans (congrArg some (by kernel_rfl))
  f266 := Tryz.func351.trans (congrArg some (by kernel_rfl))
  f267 := Tryz.func339.trans (congrArg some (by kernel_rfl))
  f314 := Tryz.func352.trans (congrArg some (by kernel_rfl))
  t3 := Tryz.underlying3
  a3 := Tryz.isAgg3
  z3 := Tryz.sizeOf3
  v3 := Tryz.zeroValue3
  t4 := Tryz.underlying4
  a4 := Tryz.isAgg4
  z4 := Tryz.sizeOf4
  v4 := Tryz.zeroValue4
  t5 := Tryz.underlying5
  a5 := Tryz.isAgg5
  z5 := Tryz.sizeOf5
  v5 := Tryz.zeroValue5
  t9 := Tryz.underlying9
  a9 := Tryz.isAgg9
  z9 := Tryz.sizeOf9
  v9 := Tryz.zeroValue9
  t46 := Tryz.underlying185
  a46 := Tryz.isAgg185
  z46 := Tryz.sizeOf185
  v46 := Tryz.zeroValue185
  t51 := Tryz.underlying243
  a51 := Tryz.isAgg243
  z51 := Tryz.sizeOf243
  v51 := Tryz.zeroValue243
  t146 := Tryz.underlying337
  a146 := Tryz.isAgg337
  z146 := Tryz.sizeOf337
  v146 := Tryz.zeroValue337
  g1 := by kernel_rfl
  i3 := by kernel_rfl
  i4 := by kernel_rfl
  i5 := by kernel_rfl
  i9 := by kernel_rfl
  i46 := by kernel_rfl
  i51 := by kernel_rfl
  i146 := by kernel_rfl
  m1 := by kernel_rfl
  s1_3 := fun w h => Go.Proofs.cell_of_shapedOpen_int (zero := #[.int .i64 0]) (t := 3) h (of_decide_eq_true (by kernel_rfl)) (by kernel_rfl) rfl (by kernel_rfl) (by kernel_rfl) Tryz.underlying3 }
open Go.RowKit Go.Lib in
theorem Tryz.stringslite_Index_shaped (s sub : ByteArray) (w : World) (h : w.ShapedOpen Tryz.prog) (hs : s.size < 4294967281) :
    Calls Tryz.prog 302 #[.string s, .string sub] w fun e w' => e = .returned (.int .i64 (Lib.index s.data.toList sub.data.toList)) ∧ w' = w := Any.stringslite_Index_shaped Tryz.laysM219 s sub w h hs
def Tryz.laysM143_ren : Go.Shelf.Ren := ⟨fun | 143 => 243 | 219 => 302 | 217 => 338 | 225 => 306 | 224 => 305 | 267 => 339 | 266 => 351 | 314 => 352 | n => n, fun | 9 => 9 | 3 => 3 | 4 => 4 | 5 => 5 | 46 => 185 | 146 => 337 | 51 => 243 | n => n, fun | 1 => 0 | n => n⟩
theorem Tryz.laysM143 : Go.Proofs.LaysM.n143 Tryz.prog Tryz.laysM143_ren := {
  mixed := by kernel_rfl
  f143 := Tryz.func243.trans (congrArg some (by kernel_rfl))
  f217 := Tryz.func338.trans (congrArg some (by kernel_rfl))
  f219 := Tryz.func302.trans (congrArg some (by kernel_rfl))
  f224 := Tryz.func305.trans (congrArg some (by kernel_rfl))
  f225 := Tryz.func306.trans (congrArg some (by kernel_rfl))
  f266 := Tryz.func351.trans (congrArg some (by kernel_rfl))
  f267 := Tryz.func339.trans (congrArg some (by kernel_rfl))
  f314 := Tryz.func352.trans (congrArg some (by kernel_rfl))
  t3 := Tryz.underlying3
  a3 := Tryz.isAgg3
  z3 := Tryz.sizeOf3
  v3 := Tryz.zeroValue3
  t4 := Tryz.underlying4
  a4 := Tryz.isAgg4
  z4 := Tryz.sizeOf4
  v4 := Tryz.zeroValue4
  t5 := Tryz.underlying5
  a5 := Tryz.isAgg5
  z5 := Tryz.sizeOf5
  v5 := Tryz.zeroValue5
  t9 := Tryz.underlying9
  a9 := Tryz.isAgg9
  z9 := Tryz.sizeOf9
  v9 := Tryz.zeroValue9
  t46 := Tryz.underlying185
  a46 := Tryz.isAgg185
  z46 := Tryz.sizeOf185
  v46 := Tryz.zeroValue185
  t51 := Tryz.underlying243
  a51 := Tryz.isAgg243
  z51 := Tryz.sizeOf243
  v51 := Tryz.zeroValue243
  t146 := Tryz.underlying337
  a146 := Tryz.isAgg337
  z146 := Tryz.sizeOf337
  v146 := Tryz.zeroValue337
  g1 := by kernel_rfl
  i3 := by kernel_rfl
  i4 := by kernel_rfl
  i5 := by kernel_rfl
  i9 := by kernel_rfl
  i46 := by kernel_rfl
  i51 := by kernel_rfl
  i146 := by kernel_rfl
  m1 := by kernel_rfl
  s1_3 := fun w h => Go.Proofs.cell_of_shapedOpen_int (zero := #[.int .i64 0]) (t := 3) h (of_decide_eq_true (by kernel_rfl)) (by kernel_rfl) rfl (by kernel_rfl) (by kernel_rfl) Tryz.underlying3 }
open Go.RowKit Go.Lib in
theorem Tryz.strings_Index_shaped (s sub : ByteArray) (w : World) (h : w.ShapedOpen Tryz.prog) (hs : s.size < 4294967281) :
    Calls Tryz.prog 243 #[.string s, .string sub] w fun e w' => e = .returned (.int .i64 (Lib.index s.data.toList sub.data.toList)) ∧ w' = w := Any.strings_Index_shaped Tryz.laysM143 s sub w h hs
def Tryz.laysM220_ren : Go.Shelf.Ren := ⟨fun | 220 => 248 | 219 => 302 | 217 => 338 | 225 => 306 | 224 => 305 | 267 => 339 | 266 => 351 | 314 => 352 | n => n, fun | 9 => 9 | 4 => 4 | 3 => 3 | 5 => 5 | 46 => 185 | 146 => 337 | 51 => 243 | n => n, fun | 1 => 0 | n => n⟩
theorem Tryz.laysM220 : Go.Proofs.LaysM.n220 Tryz.prog Tryz.laysM220_ren := {
  mixed := by kernel_rfl
  f217 := Tryz.func338.trans (congrArg some (by kernel_rfl))
  f219 := Tryz.func302.trans (congrArg some (by kernel_rfl))
  f220 := Tryz.func248.trans (congrArg some (by kernel_rfl))
  f224 := Tryz.func305.trans (congrArg some (by kernel_rfl))
  f225 := Tryz.func306.trans (congrArg some (by kernel_rfl))
  f266 := Tryz.func351.trans (congrArg some (by kernel_rfl))
  f267 := Tryz.func339.trans (congrArg some (by kernel_rfl))
  f314 := Tryz.func352.trans (congrArg some (by kernel_rfl))
  t3 := Tryz.underlying3
  a3 := Tryz.isAgg3
  z3 := Tryz.sizeOf3
  v3 := Tryz.zeroValue3
  t4 := Tryz.underlying4
  a4 := Tryz.isAgg4
  z4 := Tryz.sizeOf4
  v4 := Tryz.zeroValue4
  t5 := Tryz.underlying5
  a5 := Tryz.isAgg5
  z5 := Tryz.sizeOf5
  v5 := Tryz.zeroValue5
  t9 := Tryz.underlying9
  a9 := Tryz.isAgg9
  z9 := Tryz.sizeOf9
  v9 := Tryz.zeroValue9
  t46 := Tryz.underlying185
  a46 := Tryz.isAgg185
  z46 := Tryz.sizeOf185
  v46 := Tryz.zeroValue185
  t51 := Tryz.underlying243
  a51 := Tryz.isAgg243
  z51 := Tryz.sizeOf243
  v51 := Tryz.zeroValue243
  t146 := Tryz.underlying337
  a146 := Tryz.isAgg337
  z146 := Tryz.sizeOf337
  v146 := Tryz.zeroValue337
  g1 := by kernel_rfl
  i3 := by kernel_rfl
  i4 := by kernel_rfl
  i5 := by kernel_rfl
  i9 := by kernel_rfl
  i46 := by kernel_rfl
  i51 := by kernel_rfl
  i146 := by kernel_rfl
  m1 := by kernel_rfl
  s1_3 := fun w h => Go.Proofs.cell_of_shapedOpen_int (zero := #[.int .i64 0]) (t := 3) h (of_decide_eq_true (by kernel_rfl)) (by kernel_rfl) rfl (by kernel_rfl) (by kernel_rfl) Tryz.underlying3 }
open Go.RowKit Go.Lib in
theorem Tryz.stringslite_Cut_shaped (s sep : ByteArray) (w : World) (h : w.ShapedOpen Tryz.prog) (hs : s.size < 4294967281) :
    Calls Tryz.prog 248 #[.string s, .string sep] w fun e w' => e = .returned (.tuple #[.string ⟨(Lib.cut s.data.toList sep.data.toList).1.toArray⟩, .string ⟨(Lib.cut s.data.toList sep.data.toList).2.1.toArray⟩, .bool (Lib.cut s.data.toList sep.data.toList).2.2]) ∧ ∃ n, w' = w.drewN n := Any.stringslite_Cut_shaped Tryz.laysM220 s sep w h hs
def Tryz.laysM145_ren : Go.Shelf.Ren := ⟨fun | 145 => 166 | 220 => 248 | 219 => 302 | 217 => 338 | 225 => 306 | 224 => 305 | 267 => 339 | 266 => 351 | 314 => 352 | n => n, fun | 9 => 9 | 4 => 4 | 59 => 206 | 3 => 3 | 5 => 5 | 46 => 185 | 146 => 337 | 51 => 243 | n => n, fun | 1 => 0 | n => n⟩
theorem Tryz.laysM145 : Go.Proofs.LaysM.n145 Tryz.prog Tryz.laysM145_ren := {
  mixed := by kernel_rfl
  f145 := Tryz.func166.trans (congrArg some (by kernel_rfl))
  f217 := Tryz.func338.trans (congrArg some (by kernel_rfl))
  f219 := Tryz.func302.trans (congrArg some (by kernel_rfl))
  f220 := Tryz.func248.trans (congrArg some (by kernel_rfl))
  f224 := Tryz.func305.trans (congrArg some (by kernel_rfl))
  f225 := Tryz.func306.trans (congrArg some (by kernel_rfl))
  f266 := Tryz.func351.trans (congrArg some (by kernel_rfl))
  f267 := Tryz.func339.trans (congrArg some (by kernel_rfl))
  f314 := Tryz.func352.trans (congrArg some (by kernel_rfl))
  t3 := Tryz.underlying3
  a3 := Tryz.isAgg3
  z3 := Tryz.sizeOf3
  v3 := Tryz.zeroValue3
  t4 := Tryz.underlying4
  a4 := Tryz.isAgg4
  z4 := Tryz.sizeOf4
  v4 := Tryz.zeroValue4
  t5 := Tryz.underlying5
  a5 := Tryz.isAgg5
  z5 := Tryz.sizeOf5
  v5 := Tryz.zeroValue5
  t9 := Tryz.underlying9
  a9 := Tryz.isAgg9
  z9 := Tryz.sizeOf9
  v9 := Tryz.zeroValue9
  t46 := Tryz.underlying185
  a46 := Tryz.isAgg185
  z46 := Tryz.sizeOf185
  v46 := Tryz.zeroValue185
  t51 := Tryz.underlying243
  a51 := Tryz.isAgg243
  z51 := Tryz.sizeOf243
  v51 := Tryz.zeroValue243
  t59 := Tryz.underlying206
  a59 := Tryz.isAgg206
  z59 := Tryz.sizeOf206
  v59 := Tryz.zeroValue206
  t146 := Tryz.underlying337
  a146 := Tryz.isAgg337
  z146 := Tryz.sizeOf337
  v146 := Tryz.zeroValue337
  g1 := by kernel_rfl
  i3 := by kernel_rfl
  i4 := by kernel_rfl
  i5 := by kernel_rfl
  i9 := by kernel_rfl
  i46 := by kernel_rfl
  i51 := by kernel_rfl
  i59 := by kernel_rfl
  i146 := by kernel_rfl
  m1 := by kernel_rfl
  s1_3 := fun w h => Go.Proofs.cell_of_shapedOpen_int (zero := #[.int .i64 0]) (t := 3) h (of_decide_eq_true (by kernel_rfl)) (by kernel_rfl) rfl (by kernel_rfl) (by kernel_rfl) Tryz.underlying3 }
open Go.RowKit Go.Lib in
theorem Tryz.strings_Cut_shaped (s sep : ByteArray) (w : World) (h : w.ShapedOpen Tryz.prog) (hs : s.size < 4294967281) :
    Calls Tryz.prog 166 #[.string s, .string sep] w fun e w' => e = .returned (.tuple #[.string ⟨(Lib.cut s.data.toList sep.data.toList).1.toArray⟩, .string ⟨(Lib.cut s.data.toList sep.data.toList).2.1.toArray⟩, .bool (Lib.cut s.data.toList sep.data.toList).2.2]) ∧ ∃ n, w' = w.drewN n := Any.strings_Cut_shaped Tryz.laysM145 s sep w h hs
def Tryz.laysM138_ren : Go.Shelf.Ren := ⟨fun | 138 => 242 | 195 => 299 | 218 => 301 | 143 => 243 | 219 => 302 | 217 => 338 | 225 => 306 | 224 => 305 | 267 => 339 | 266 => 351 | 314 => 352 | n => n, fun | 9 => 9 | 3 => 3 | 4 => 4 | 5 => 5 | 0 => 0 | 46 => 185 | 146 => 337 | 51 => 243 | n => n, fun | 1 => 0 | n => n⟩
theorem Tryz.laysM138 : Go.Proofs.LaysM.n138 Tryz.prog Tryz.laysM138_ren := {
  mixed := by kernel_rfl
  f138 := Tryz.func242.trans (congrArg some (by kernel_rfl))
  f143 := Tryz.func243.trans (congrArg some (by kernel_rfl))
  f195 := Tryz.func299.trans (congrArg some (by kernel_rfl))
  f217 := Tryz.func338.trans (congrArg some (by kernel_rfl))
  f218 := Tryz.func301.trans (congrArg some (by kernel_rfl))
  f219 := Tryz.func302.trans (congrArg some (by kernel_rfl))
  f224 := Tryz.func305.trans (congrArg some (by kernel_rfl))
  f225 := Tryz.func306.trans (congrArg some (by kernel_rfl))
  f266 := Tryz.func351.trans (congrArg some (by kernel_rfl))
  f267 := Tryz.func339.trans (congrArg some (by kernel_rfl))
  f314 := Tryz.func352.trans (congrArg some (by kernel_rfl))
  t0 := Tryz.underlying0
  a0 := Tryz.isAgg0
  z0 := Tryz.sizeOf0
  v0 := Tryz.zeroValue0
  t3 := Tryz.underlying3
  a3 := Tryz.isAgg3
  z3 := Tryz.sizeOf3
  v3 := Tryz.zeroValue3
  t4 := Tryz.underlying4
  a4 := Tryz.isAgg4
  z4 := Tryz.sizeOf4
  v4 := Tryz.zeroValue4
  t5 := Tryz.underlying5
  a5 := Tryz.isAgg5
  z5 := Tryz.sizeOf5
  v5 := Tryz.zeroValue5
  t9 := Tryz.underlying9
  a9 := Tryz.isAgg9
  z9 := Tryz.sizeOf9
  v9 := Tryz.zeroValue9
  t46 := Tryz.underlying185
  a46 := Tryz.isAgg185
  z46 := Tryz.sizeOf185
  v46 := Tryz.zeroValue185
  t51 := Tryz.underlying243
  a51 := Tryz.isAgg243
  z51 := Tryz.sizeOf243
  v51 := Tryz.zeroValue243
  t146 := Tryz.underlying337
  a146 := Tryz.isAgg337
  z146 := Tryz.sizeOf337
  v146 := Tryz.zeroValue337
  g1 := by kernel_rfl
  i0 := by kernel_rfl
  i3 := by kernel_rfl
  i4 := by kernel_rfl
  i5 := by kernel_rfl
  i9 := by kernel_rfl
  i46 := by kernel_rfl
  i51 := by kernel_rfl
  i146 := by kernel_rfl
  m1 := by kernel_rfl
  s1_3 := fun w h => Go.Proofs.cell_of_shapedOpen_int (zero := #[.int .i64 0]) (t := 3) h (of_decide_eq_true (by kernel_rfl)) (by kernel_rfl) rfl (by kernel_rfl) (by kernel_rfl) Tryz.underlying3 }
open Go.RowKit Go.Lib in
theorem Tryz.strings_Count_shaped (s sub : ByteArray) (w : World) (h : w.ShapedOpen Tryz.prog) (hs : s.size < 4294967281) (h2 : 2 ≤ sub.size) :
    Calls Tryz.prog 242 #[.string s, .string sub] w fun e w' => e = .returned (.int .i64 (Lib.countB s sub)) ∧ w' = w := Any.strings_Count_shaped Tryz.laysM138 s sub w h hs h2
def Tryz.lays206_ren : Go.Shelf.Ren := ⟨fun | 206 => 175 | n => n, fun | 9 => 9 | 4 => 4 | 3 => 3 | n => n, fun | n => n⟩
theorem Tryz.lays206 : Go.Proofs.Lays.n206 Tryz.prog Tryz.lays206_ren := {
  mixed := by kernel_rfl
  f206 := Tryz.func175.trans (congrArg some (by kernel_rfl))
  t3 := Tryz.underlying3
  a3 := Tryz.isAgg3
  z3 := Tryz.sizeOf3
  v3 := Tryz.zeroValue3
  t4 := Tryz.underlying4
  a4 := Tryz.isAgg4
  z4 := Tryz.sizeOf4
  v4 := Tryz.zeroValue4
  t9 := Tryz.underlying9
  a9 := Tryz.isAgg9
  z9 := Tryz.sizeOf9
  v9 := Tryz.zeroValue9 }
open Go.RowKit Go.Lib in
/-- internal/stringslite.HasPrefix (what strings.HasPrefix calls). (LAID: no walk: one application.) -/
theorem Tryz.stringslite_HasPrefix (s p : ByteArray) (w : World) :
    Calls Tryz.prog 175 #[.string s, .string p] w fun e w' => e = .returned (.bool (Lib.hasPrefix s.data.toList p.data.toList)) ∧ w' = w := Any.stringslite_HasPrefix Tryz.lays206 s p w
def Tryz.lays99_ren : Go.Shelf.Ren := ⟨fun | 99 => 104 | 206 => 175 | n => n, fun | 9 => 9 | 4 => 4 | 3 => 3 | n => n, fun | n => n⟩
theorem Tryz.lays99 : Go.Proofs.Lays.n99 Tryz.prog Tryz.lays99_ren := {
  mixed := by kernel_rfl
  f99 := Tryz.func104.trans (congrArg some (by kernel_rfl))
  f206 := Tryz.func175.trans (congrArg some (by kernel_rfl))
  t3 := Tryz.underlying3
  a3 := Tryz.isAgg3
  z3 := Tryz.sizeOf3
  v3 := Tryz.zeroValue3
  t4 := Tryz.underlying4
  a4 := Tryz.isAgg4
  z4 := Tryz.sizeOf4
  v4 := Tryz.zeroValue4
  t9 := Tryz.underlying9
  a9 := Tryz.isAgg9
  z9 := Tryz.sizeOf9
  v9 := Tryz.zeroValue9 }
open Go.RowKit Go.Lib in
/-- strings.HasPrefix: "HasPrefix reports whether the string s begins with prefix.": IT RETURNS 'Lib.hasPrefix s prefix'; the world is as it was. (LAID: no walk: one application.) -/
theorem Tryz.strings_HasPrefix (s p : ByteArray) (w : World) :
    Calls Tryz.prog 104 #[.string s, .string p] w fun e w' => e = .returned (.bool (Lib.hasPrefix s.data.toList p.data.toList)) ∧ w' = w := Any.strings_HasPrefix Tryz.lays99 s p w
def Tryz.lays207_ren : Go.Shelf.Ren := ⟨fun | 207 => 240 | n => n, fun | 9 => 9 | 4 => 4 | 3 => 3 | n => n, fun | n => n⟩
theorem Tryz.lays207 : Go.Proofs.Lays.n207 Tryz.prog Tryz.lays207_ren := {
  mixed := by kernel_rfl
  f207 := Tryz.func240.trans (congrArg some (by kernel_rfl))
  t3 := Tryz.underlying3
  a3 := Tryz.isAgg3
  z3 := Tryz.sizeOf3
  v3 := Tryz.zeroValue3
  t4 := Tryz.underlying4
  a4 := Tryz.isAgg4
  z4 := Tryz.sizeOf4
  v4 := Tryz.zeroValue4
  t9 := Tryz.underlying9
  a9 := Tryz.isAgg9
  z9 := Tryz.sizeOf9
  v9 := Tryz.zeroValue9 }
open Go.RowKit Go.Lib in
/-- internal/stringslite.HasSuffix (what strings.HasSuffix calls). (LAID: no walk: one application.) -/
theorem Tryz.stringslite_HasSuffix (s p : ByteArray) (w : World) (hs : s.size ≤ 9223372036854775807) :
    Calls Tryz.prog 240 #[.string s, .string p] w fun e w' => e = .returned (.bool (Lib.hasSuffix s.data.toList p.data.toList)) ∧ w' = w := Any.stringslite_HasSuffix Tryz.lays207 s p w hs
def Tryz.lays209_ren : Go.Shelf.Ren := ⟨fun | 209 => 256 | 207 => 240 | n => n, fun | 9 => 9 | 4 => 4 | 3 => 3 | n => n, fun | n => n⟩
theorem Tryz.lays209 : Go.Proofs.Lays.n209 Tryz.prog Tryz.lays209_ren := {
  mixed := by kernel_rfl
  f207 := Tryz.func240.trans (congrArg some (by kernel_rfl))
  f209 := Tryz.func256.trans (congrArg some (by kernel_rfl))
  t3 := Tryz.underlying3
  a3 := Tryz.isAgg3
  z3 := Tryz.sizeOf3
  v3 := Tryz.zeroValue3
  t4 := Tryz.underlying4
  a4 := Tryz.isAgg4
  z4 := Tryz.sizeOf4
  v4 := Tryz.zeroValue4
  t9 := Tryz.underlying9
  a9 := Tryz.isAgg9
  z9 := Tryz.sizeOf9
  v9 := Tryz.zeroValue9 }
open Go.RowKit Go.Lib in
/-- internal/stringslite.TrimSuffix (what strings.TrimSuffix calls). (LAID: no walk: one application.) -/
theorem Tryz.stringslite_TrimSuffix (s p : ByteArray) (w : World) (hs : s.size ≤ 9223372036854775807) :
    Calls Tryz.prog 256 #[.string s, .string p] w fun e w' => e = .returned (.string ⟨(Lib.trimSuffix s.data.toList p.data.toList).toArray⟩) ∧ w' = w := Any.stringslite_TrimSuffix Tryz.lays209 s p w hs
def Tryz.lays102_ren : Go.Shelf.Ren := ⟨fun | 102 => 179 | 209 => 256 | 207 => 240 | n => n, fun | 9 => 9 | 4 => 4 | 3 => 3 | n => n, fun | n => n⟩
theorem Tryz.lays102 : Go.Proofs.Lays.n102 Tryz.prog Tryz.lays102_ren := {
  mixed := by kernel_rfl
  f102 := Tryz.func179.trans (congrArg some (by kernel_rfl))
  f207 := Tryz.func240.trans (congrArg some (by kernel_rfl))
  f209 := Tryz.func256.trans (congrArg some (by kernel_rfl))
  t3 := Tryz.underlying3
  a3 := Tryz.isAgg3
  z3 := Tryz.sizeOf3
  v3 := Tryz.zeroValue3
  t4 := Tryz.underlying4
  a4 := Tryz.isAgg4
  z4 := Tryz.sizeOf4
  v4 := Tryz.zeroValue4
  t9 := Tryz.underlying9
  a9 := Tryz.isAgg9
  z9 := Tryz.sizeOf9
  v9 := Tryz.zeroValue9 }
open Go.RowKit Go.Lib in
/-- strings.TrimSuffix: "TrimSuffix returns s without the provided trailing suffix string. If s doesn't end with suffix, s is returned unchanged.": IT RETURNS 'Lib.trimSuffix s suffix'; the world is as it was. (LAID: no walk: one application.) -/
theorem Tryz.strings_TrimSuffix (s p : ByteArray) (w : World) (hs : s.size ≤ 9223372036854775807) :
    Calls Tryz.prog 179 #[.string s, .string p] w fun e w' => e = .returned (.string ⟨(Lib.trimSuffix s.data.toList p.data.toList).toArray⟩) ∧ w' = w := Any.strings_TrimSuffix Tryz.lays102 s p w hs
open Go.RowKit Go.Lib in
/-- strings.Count at whatever sep that is not empty: the two roads under one statement. (LAID: no walk: one application.) -/
theorem Tryz.strings_Count_any (s sep : ByteArray) (m : Int) (w : World) (hs : s.size < 4294967281) (hm : w.cell? ⟨0, 0, none⟩ = some (.int .i64 m)) (h1 : 1 ≤ sep.size) :
    Calls Tryz.prog 242 #[.string s, .string sep] w fun e w' => e = .returned (.int .i64 (Lib.countB s sep)) ∧ w' = w := Any.strings_Count_any Tryz.lays138 s sep m w hs hm h1
def Tryz.lays221_ren : Go.Shelf.Ren := ⟨fun | 221 => 162 | 268 => 241 | 138 => 242 | 143 => 243 | 195 => 299 | 197 => 300 | 218 => 301 | 219 => 302 | 260 => 337 | 217 => 338 | 225 => 306 | 224 => 305 | 267 => 339 | 266 => 351 | 314 => 352 | n => n, fun | 9 => 9 | 3 => 3 | 31 => 60 | 4 => 4 | 0 => 0 | 105 => 294 | 21 => 21 | 5 => 5 | 46 => 185 | 119 => 333 | 139 => 336 | 138 => 335 | 146 => 337 | 51 => 243 | n => n, fun | 1 => 0 | 3 => 7 | 4 => 8 | n => n⟩
theorem Tryz.lays221 : Go.Proofs.Lays.n221 Tryz.prog Tryz.lays221_ren := {
  mixed := by kernel_rfl
  f138 := Tryz.func242.trans (congrArg some (by kernel_rfl))
  f143 := Tryz.func243.trans (congrArg some (by kernel_rfl))
  f195 := Tryz.func299.trans (congrArg some (by kernel_rfl))
  f197 := Tryz.func300.trans (congrArg some (by kernel_rfl))
  f217 := Tryz.func338.trans (congrArg some (by kernel_rfl))
  f218 := Tryz.func301.trans (congrArg some (by kernel_rfl))
  f219 := Tryz.func302.trans (congrArg some (by kernel_rfl))
  f221 := Tryz.func162.trans (congrArg some (by kernel_rfl))
  f224 := Tryz.func305.trans (congrArg some (by kernel_rfl))
  f225 := Tryz.func306.trans (congrArg some (by kernel_rfl))
  f260 := Tryz.func337.trans (congrArg some (by kernel_rfl))
  f266 := Tryz.func351.trans (congrArg some (by kernel_rfl))
  f267 := Tryz.func339.trans (congrArg some (by kernel_rfl))
  f268 := Tryz.func241.trans (congrArg some (by kernel_rfl))
  f314 := Tryz.func352.trans (congrArg some (by kernel_rfl))
  t0 := Tryz.underlying0
  a0 := Tryz.isAgg0
  z0 := Tryz.sizeOf0
  v0 := Tryz.zeroValue0
  t3 := Tryz.underlying3
  a3 := Tryz.isAgg3
  z3 := Tryz.sizeOf3
  v3 := Tryz.zeroValue3
  t4 := Tryz.underlying4
  a4 := Tryz.isAgg4
  z4 := Tryz.sizeOf4
  v4 := Tryz.zeroValue4
  t5 := Tryz.underlying5
  a5 := Tryz.isAgg5
  z5 := Tryz.sizeOf5
  v5 := Tryz.zeroValue5
  t9 := Tryz.underlying9
  a9 := Tryz.isAgg9
  z9 := Tryz.sizeOf9
  v9 := Tryz.zeroValue9
  t21 := Tryz.underlying21
  a21 := Tryz.isAgg21
  z21 := Tryz.sizeOf21
  v21 := Tryz.zeroValue21
  t31 := Tryz.underlying60
  a31 := Tryz.isAgg60
  z31 := Tryz.sizeOf60
  v31 := Tryz.zeroValue60
  t46 := Tryz.underlying185
  a46 := Tryz.isAgg185
  z46 := Tryz.sizeOf185
  v46 := Tryz.zeroValue185
  t51 := Tryz.underlying243
  a51 := Tryz.isAgg243
  z51 := Tryz.sizeOf243
  v51 := Tryz.zeroValue243
  t105 := Tryz.underlying294
  a105 := Tryz.isAgg294
  z105 := Tryz.sizeOf294
  v105 := Tryz.zeroValue294
  t119 := Tryz.underlying333
  a119 := Tryz.isAgg333
  z119 := Tryz.sizeOf333
  t138 := Tryz.underlying335
  a138 := Tryz.isAgg335
  z138 := Tryz.sizeOf335
  v138 := Tryz.zeroValue335
  t139 := Tryz.underlying336
  a139 := Tryz.isAgg336
  z139 := Tryz.sizeOf336
  v139 := Tryz.zeroValue336
  t146 := Tryz.underlying337
  a146 := Tryz.isAgg337
  z146 := Tryz.sizeOf337
  v146 := Tryz.zeroValue337
  g1 := by kernel_rfl
  g3 := by kernel_rfl
  g4 := by kernel_rfl }
open Go.RowKit Go.Lib in
theorem Tryz.strings_genSplit (s sep : ByteArray) (sv : Nat) (n : Int) (N : Nat) (m : Int) (w : World) (hs : s.size < 4294967281) (hm : w.cell? ⟨0, 0, none⟩ = some (.int .i64 m)) (h1 : 1 ≤ sep.size) (hsv : sv ≤ sep.size) (hn0 : n ≠ 0) (hn63 : n ≤ 9223372036854775807) (hN : (N : Int) = min (if n < 0 then (Lib.countB s sep : Int) + 1 else n) ((s.size : Int) + 1)) :
    Calls Tryz.prog 162 #[.string s, .string sep, .int .i64 sv, .int .i64 n] w fun e w' =>
      e = .returned (.slice (some ⟨w.heap.size, 0, none⟩) (Lib.splitB sep sv (N - 1) s).length N) ∧ w' = w.alloc (.cells (Lib.cellsOf (Lib.splitB sep sv (N - 1) s) N) 9) := Any.strings_genSplit Tryz.lays221 (by kernel_rfl) s sep sv n N m w hs hm h1 hsv hn0 hn63 hN
def Tryz.lays146_ren : Go.Shelf.Ren := ⟨fun | 146 => 91 | 221 => 162 | 268 => 241 | 138 => 242 | 143 => 243 | 195 => 299 | 197 => 300 | 218 => 301 | 219 => 302 | 260 => 337 | 217 => 338 | 225 => 306 | 224 => 305 | 267 => 339 | 266 => 351 | 314 => 352 | n => n, fun | 9 => 9 | 31 => 60 | 3 => 3 | 4 => 4 | 0 => 0 | 105 => 294 | 21 => 21 | 5 => 5 | 46 => 185 | 119 => 333 | 139 => 336 | 138 => 335 | 146 => 337 | 51 => 243 | n => n, fun | 1 => 0 | 3 => 7 | 4 => 8 | n => n⟩
theorem Tryz.lays146 : Go.Proofs.Lays.n146 Tryz.prog Tryz.lays146_ren := {
  mixed := by kernel_rfl
  f138 := Tryz.func242.trans (congrArg some (by kernel_rfl))
  f143 := Tryz.func243.trans (congrArg some (by kernel_rfl))
  f146 := Tryz.func91.trans (congrArg some (by kernel_rfl))
  f195 := Tryz.func299.trans (congrArg some (by kernel_rfl))
  f197 := Tryz.func300.trans (congrArg some (by kernel_rfl))
  f217 := Tryz.func338.trans (congrArg some (by kernel_rfl))
  f218 := Tryz.func301.trans (congrArg some (by kernel_rfl))
  f219 := Tryz.func302.trans (congrArg some (by kernel_rfl))
  f221 := Tryz.func162.trans (congrArg some (by kernel_rfl))
  f224 := Tryz.func305.trans (congrArg some (by kernel_rfl))
  f225 := Tryz.func306.trans (congrArg some (by kernel_rfl))
  f260 := Tryz.func337.trans (congrArg some (by kernel_rfl))
  f266 := Tryz.func351.trans (congrArg some (by kernel_rfl))
  f267 := Tryz.func339.trans (congrArg some (by kernel_rfl))
  f268 := Tryz.func241.trans (congrArg some (by kernel_rfl))
  f314 := Tryz.func352.trans (congrArg some (by kernel_rfl))
  t0 := Tryz.underlying0
  a0 := Tryz.isAgg0
  z0 := Tryz.sizeOf0
  v0 := Tryz.zeroValue0
  t3 := Tryz.underlying3
  a3 := Tryz.isAgg3
  z3 := Tryz.sizeOf3
  v3 := Tryz.zeroValue3
  t4 := Tryz.underlying4
  a4 := Tryz.isAgg4
  z4 := Tryz.sizeOf4
  v4 := Tryz.zeroValue4
  t5 := Tryz.underlying5
  a5 := Tryz.isAgg5
  z5 := Tryz.sizeOf5
  v5 := Tryz.zeroValue5
  t9 := Tryz.underlying9
  a9 := Tryz.isAgg9
  z9 := Tryz.sizeOf9
  v9 := Tryz.zeroValue9
  t21 := Tryz.underlying21
  a21 := Tryz.isAgg21
  z21 := Tryz.sizeOf21
  v21 := Tryz.zeroValue21
  t31 := Tryz.underlying60
  a31 := Tryz.isAgg60
  z31 := Tryz.sizeOf60
  v31 := Tryz.zeroValue60
  t46 := Tryz.underlying185
  a46 := Tryz.isAgg185
  z46 := Tryz.sizeOf185
  v46 := Tryz.zeroValue185
  t51 := Tryz.underlying243
  a51 := Tryz.isAgg243
  z51 := Tryz.sizeOf243
  v51 := Tryz.zeroValue243
  t105 := Tryz.underlying294
  a105 := Tryz.isAgg294
  z105 := Tryz.sizeOf294
  v105 := Tryz.zeroValue294
  t119 := Tryz.underlying333
  a119 := Tryz.isAgg333
  z119 := Tryz.sizeOf333
  t138 := Tryz.underlying335
  a138 := Tryz.isAgg335
  z138 := Tryz.sizeOf335
  v138 := Tryz.zeroValue335
  t139 := Tryz.underlying336
  a139 := Tryz.isAgg336
  z139 := Tryz.sizeOf336
  v139 := Tryz.zeroValue336
  t146 := Tryz.underlying337
  a146 := Tryz.isAgg337
  z146 := Tryz.sizeOf337
  v146 := Tryz.zeroValue337
  g1 := by kernel_rfl
  g3 := by kernel_rfl
  g4 := by kernel_rfl }
open Go.RowKit Go.Lib in
/-- strings.Split. (LAID: no walk: one application.) -/
theorem Tryz.strings_Split (s sep : ByteArray) (m : Int) (w : World) (hs : s.size < 4294967281) (hm : w.cell? ⟨0, 0, none⟩ = some (.int .i64 m)) (h1 : 1 ≤ sep.size) :
    Calls Tryz.prog 91 #[.string s, .string sep] w fun e w' =>
      e = .returned (.slice (some ⟨w.heap.size, 0, none⟩) (Lib.countB s sep + 1) (Lib.countB s sep + 1)) ∧ w' = w.alloc (.cells ((Lib.splitB sep 0 (Lib.countB s sep) s).map Value.string).toArray 9) := Any.strings_Split Tryz.lays146 (by kernel_rfl) s sep m w hs hm h1
def Tryz.laysM146_ren : Go.Shelf.Ren := ⟨fun | 146 => 91 | 221 => 162 | 268 => 241 | 138 => 242 | 143 => 243 | 195 => 299 | 197 => 300 | 218 => 301 | 219 => 302 | 260 => 337 | 217 => 338 | 225 => 306 | 224 => 305 | 267 => 339 | 266 => 351 | 314 => 352 | n => n, fun | 9 => 9 | 31 => 60 | 3 => 3 | 4 => 4 | 0 => 0 | 105 => 294 | 21 => 21 | 5 => 5 | 46 => 185 | 119 => 333 | 139 => 336 | 138 => 335 | 146 => 337 | 51 => 243 | n => n, fun | 1 => 0 | 3 => 7 | 4 => 8 | n => n⟩
theorem Tryz.laysM146 : Go.Proofs.LaysM.n146 Tryz.prog Tryz.laysM146_ren := {
  mixed := by kernel_rfl
  f138 := Tryz.func242.trans (congrArg some (by kernel_rfl))
  f143 := Tryz.func243.trans (congrArg some (by kernel_rfl))
  f146 := Tryz.func91.trans (congrArg some (by kernel_rfl))
  f195 := Tryz.func299.trans (congrArg some (by kernel_rfl))
  f197 := Tryz.func300.trans (congrArg some (by kernel_rfl))
  f217 := Tryz.func338.trans (congrArg some (by kernel_rfl))
  f218 := Tryz.func301.trans (congrArg some (by kernel_rfl))
  f219 := Tryz.func302.trans (congrArg some (by kernel_rfl))
  f221 := Tryz.func162.trans (congrArg some (by kernel_rfl))
  f224 := Tryz.func305.trans (congrArg some (by kernel_rfl))
  f225 := Tryz.func306.trans (congrArg some (by kernel_rfl))
  f260 := Tryz.func337.trans (congrArg some (by kernel_rfl))
  f266 := Tryz.func351.trans (congrArg some (by kernel_rfl))
  f267 := Tryz.func339.trans (congrArg some (by kernel_rfl))
  f268 := Tryz.func241.trans (congrArg some (by kernel_rfl))
  f314 := Tryz.func352.trans (congrArg some (by kernel_rfl))
  t0 := Tryz.underlying0
  a0 := Tryz.isAgg0
  z0 := Tryz.sizeOf0
  v0 := Tryz.zeroValue0
  t3 := Tryz.underlying3
  a3 := Tryz.isAgg3
  z3 := Tryz.sizeOf3
  v3 := Tryz.zeroValue3
  t4 := Tryz.underlying4
  a4 := Tryz.isAgg4
  z4 := Tryz.sizeOf4
  v4 := Tryz.zeroValue4
  t5 := Tryz.underlying5
  a5 := Tryz.isAgg5
  z5 := Tryz.sizeOf5
  v5 := Tryz.zeroValue5
  t9 := Tryz.underlying9
  a9 := Tryz.isAgg9
  z9 := Tryz.sizeOf9
  v9 := Tryz.zeroValue9
  t21 := Tryz.underlying21
  a21 := Tryz.isAgg21
  z21 := Tryz.sizeOf21
  v21 := Tryz.zeroValue21
  t31 := Tryz.underlying60
  a31 := Tryz.isAgg60
  z31 := Tryz.sizeOf60
  v31 := Tryz.zeroValue60
  t46 := Tryz.underlying185
  a46 := Tryz.isAgg185
  z46 := Tryz.sizeOf185
  v46 := Tryz.zeroValue185
  t51 := Tryz.underlying243
  a51 := Tryz.isAgg243
  z51 := Tryz.sizeOf243
  v51 := Tryz.zeroValue243
  t105 := Tryz.underlying294
  a105 := Tryz.isAgg294
  z105 := Tryz.sizeOf294
  v105 := Tryz.zeroValue294
  t119 := Tryz.underlying333
  a119 := Tryz.isAgg333
  z119 := Tryz.sizeOf333
  t138 := Tryz.underlying335
  a138 := Tryz.isAgg335
  z138 := Tryz.sizeOf335
  v138 := Tryz.zeroValue335
  t139 := Tryz.underlying336
  a139 := Tryz.isAgg336
  z139 := Tryz.sizeOf336
  v139 := Tryz.zeroValue336
  t146 := Tryz.underlying337
  a146 := Tryz.isAgg337
  z146 := Tryz.sizeOf337
  v146 := Tryz.zeroValue337
  g1 := by kernel_rfl
  g3 := by kernel_rfl
  g4 := by kernel_rfl
  i0 := by kernel_rfl
  i3 := by kernel_rfl
  i4 := by kernel_rfl
  i5 := by kernel_rfl
  i9 := by kernel_rfl
  i21 := by kernel_rfl
  i31 := by kernel_rfl
  i46 := by kernel_rfl
  i51 := by kernel_rfl
  i105 := by kernel_rfl
  i138 := by kernel_rfl
  i139 := by kernel_rfl
  i146 := by kernel_rfl
  m1 := by kernel_rfl
  s1_3 := fun w h => Go.Proofs.cell_of_shapedOpen_int (zero := #[.int .i64 0]) (t := 3) h (of_decide_eq_true (by kernel_rfl)) (by kernel_rfl) rfl (by kernel_rfl) (by kernel_rfl) Tryz.underlying3
  m3 := by kernel_rfl
  m4 := by kernel_rfl }
open Go.RowKit Go.Lib in
/-- strings.Split, sep not empty. (LAID: no walk: one application.) -/
theorem Tryz.strings_Split_shaped (s sep : ByteArray) (w : World) (h : w.ShapedOpen Tryz.prog) (hs : s.size < 4294967281) (h1 : 1 ≤ sep.size) :
    Calls Tryz.prog 91 #[.string s, .string sep] w fun e w' =>
      e = .returned (.slice (some ⟨w.heap.size, 0, none⟩) (Lib.countB s sep + 1) (Lib.countB s sep + 1)) ∧ w' = w.alloc (.cells ((Lib.splitB sep 0 (Lib.countB s sep) s).map Value.string).toArray 9) := Any.strings_Split_shaped Tryz.laysM146 s sep w h hs h1
def Tryz.lays152_ren : Go.Shelf.Ren := ⟨fun | 152 => 244 | 137 => 303 | 119 => 304 | 224 => 305 | 225 => 306 | 217 => 338 | 266 => 351 | n => n, fun | 9 => 9 | 21 => 21 | 3 => 3 | 4 => 4 | 5 => 5 | 0 => 0 | 46 => 185 | n => n, fun | n => n⟩
theorem Tryz.lays152 : Go.Proofs.Lays.n152 Tryz.prog Tryz.lays152_ren := {
  mixed := by kernel_rfl
  f119 := Tryz.func304.trans (congrArg some (by kernel_rfl))
  f137 := Tryz.func303.trans (congrArg some (by kernel_rfl))
  f152 := Tryz.func244.trans (congrArg some (by kernel_rfl))
  f217 := Tryz.func338.trans (congrArg some (by kernel_rfl))
  f224 := Tryz.func305.trans (congrArg some (by kernel_rfl))
  f225 := Tryz.func306.trans (congrArg some (by kernel_rfl))
  f266 := Tryz.func351.trans (congrArg some (by kernel_rfl))
  t0 := Tryz.underlying0
  a0 := Tryz.isAgg0
  z0 := Tryz.sizeOf0
  v0 := Tryz.zeroValue0
  t3 := Tryz.underlying3
  a3 := Tryz.isAgg3
  z3 := Tryz.sizeOf3
  v3 := Tryz.zeroValue3
  t4 := Tryz.underlying4
  a4 := Tryz.isAgg4
  z4 := Tryz.sizeOf4
  v4 := Tryz.zeroValue4
  t5 := Tryz.underlying5
  a5 := Tryz.isAgg5
  z5 := Tryz.sizeOf5
  v5 := Tryz.zeroValue5
  t9 := Tryz.underlying9
  a9 := Tryz.isAgg9
  z9 := Tryz.sizeOf9
  v9 := Tryz.zeroValue9
  t21 := Tryz.underlying21
  a21 := Tryz.isAgg21
  z21 := Tryz.sizeOf21
  v21 := Tryz.zeroValue21
  t46 := Tryz.underlying185
  a46 := Tryz.isAgg185
  z46 := Tryz.sizeOf185
  v46 := Tryz.zeroValue185 }
open Go.RowKit Go.Lib in
theorem Tryz.strings_IndexRune_ascii (s : ByteArray) (r : Int) (w : World) (h0 : 0 ≤ r) (h1 : r < 128) :
    Calls Tryz.prog 244 #[.string s, .int .i32 r] w fun e w' => e = .returned (.int .i64 (Lib.indexByte s.data.toList r.toNat.toUInt8)) ∧ w' = w := Any.strings_IndexRune_ascii Tryz.lays152 s r w h0 h1
def Tryz.lays226_ren : Go.Shelf.Ren := ⟨fun | 226 => 245 | n => n, fun | 3 => 3 | 4 => 4 | n => n, fun | n => n⟩
theorem Tryz.lays226 : Go.Proofs.Lays.n226 Tryz.prog Tryz.lays226_ren := {
  mixed := by kernel_rfl
  f226 := Tryz.func245.trans (congrArg some (by kernel_rfl))
  t3 := Tryz.underlying3
  a3 := Tryz.isAgg3
  z3 := Tryz.sizeOf3
  v3 := Tryz.zeroValue3
  t4 := Tryz.underlying4
  a4 := Tryz.isAgg4
  z4 := Tryz.sizeOf4
  v4 := Tryz.zeroValue4 }
open Go.RowKit Go.Lib in
theorem Tryz.strings_shouldUseASCIISet (n : Int) (w : World) :
    Calls Tryz.prog 245 #[.int .i64 n] w fun e w' => e = .returned (.bool (decide (8 < n))) ∧ w' = w := Any.strings_shouldUseASCIISet Tryz.lays226 n w
def Tryz.lays153_ren : Go.Shelf.Ren := ⟨fun | 153 => 163 | 152 => 244 | 226 => 245 | 227 => 246 | 228 => 247 | 137 => 303 | 119 => 304 | 224 => 305 | 225 => 306 | 217 => 338 | 266 => 351 | n => n, fun | 9 => 9 | 3 => 3 | 4 => 4 | 5 => 5 | 21 => 21 | 117 => 259 | 116 => 258 | 0 => 0 | 46 => 185 | 124 => 298 | n => n, fun | n => n⟩
theorem Tryz.lays153 : Go.Proofs.Lays.n153 Tryz.prog Tryz.lays153_ren := {
  mixed := by kernel_rfl
  f119 := Tryz.func304.trans (congrArg some (by kernel_rfl))
  f137 := Tryz.func303.trans (congrArg some (by kernel_rfl))
  f152 := Tryz.func244.trans (congrArg some (by kernel_rfl))
  f153 := Tryz.func163.trans (congrArg some (by kernel_rfl))
  f217 := Tryz.func338.trans (congrArg some (by kernel_rfl))
  f224 := Tryz.func305.trans (congrArg some (by kernel_rfl))
  f225 := Tryz.func306.trans (congrArg some (by kernel_rfl))
  f226 := Tryz.func245.trans (congrArg some (by kernel_rfl))
  f227 := Tryz.func246.trans (congrArg some (by kernel_rfl))
  f228 := Tryz.func247.trans (congrArg some (by kernel_rfl))
  f266 := Tryz.func351.trans (congrArg some (by kernel_rfl))
  t0 := Tryz.underlying0
  a0 := Tryz.isAgg0
  z0 := Tryz.sizeOf0
  v0 := Tryz.zeroValue0
  t3 := Tryz.underlying3
  a3 := Tryz.isAgg3
  z3 := Tryz.sizeOf3
  v3 := Tryz.zeroValue3
  t4 := Tryz.underlying4
  a4 := Tryz.isAgg4
  z4 := Tryz.sizeOf4
  v4 := Tryz.zeroValue4
  t5 := Tryz.underlying5
  a5 := Tryz.isAgg5
  z5 := Tryz.sizeOf5
  v5 := Tryz.zeroValue5
  t9 := Tryz.underlying9
  a9 := Tryz.isAgg9
  z9 := Tryz.sizeOf9
  v9 := Tryz.zeroValue9
  t21 := Tryz.underlying21
  a21 := Tryz.isAgg21
  z21 := Tryz.sizeOf21
  v21 := Tryz.zeroValue21
  t46 := Tryz.underlying185
  a46 := Tryz.isAgg185
  z46 := Tryz.sizeOf185
  v46 := Tryz.zeroValue185
  t116 := Tryz.underlying258
  a116 := Tryz.isAgg258
  z116 := Tryz.sizeOf258
  t117 := Tryz.underlying259
  a117 := Tryz.isAgg259
  z117 := Tryz.sizeOf259
  v117 := Tryz.zeroValue259
  t124 := Tryz.underlying298
  a124 := Tryz.isAgg298
  z124 := Tryz.sizeOf298
  v124 := Tryz.zeroValue298 }
open Go.RowKit Go.Lib in
/-- chars is empty. (LAID: no walk: one application.) -/
theorem Tryz.strings_IndexAny_none (s chars : ByteArray) (w : World) (h0 : chars.size = 0) :
    Calls Tryz.prog 163 #[.string s, .string chars] w fun e w' => e = .returned (.int .i64 (Lib.indexAny s.data.toList chars.data.toList)) ∧ w' = w := Any.strings_IndexAny_none Tryz.lays153 s chars w h0
open Go.RowKit Go.Lib in
/-- chars is one ASCII byte. (LAID: no walk: one application.) -/
theorem Tryz.strings_IndexAny_one (s chars : ByteArray) (w : World) (h1 : chars.size = 1) (hascii : ∀ (j : Nat) b, chars.data.toList[j]? = some b → b.toNat < 128) :
    Calls Tryz.prog 163 #[.string s, .string chars] w fun e w' => e = .returned (.int .i64 (Lib.indexAny s.data.toList chars.data.toList)) ∧ w' = w := Any.strings_IndexAny_one Tryz.lays153 s chars w h1 hascii
open Go.RowKit Go.Lib in
/-- s of at most 8 bytes; chars of two or more: 'for i, c := range s { if IndexRune(chars, c) >= 0 { return i } }'. One block more: the model's iterator over s. (LAID: no walk: one application.) -/
theorem Tryz.strings_IndexAny_short (s chars : ByteArray) (w : World) (h2 : 2 ≤ chars.size) (h8 : s.size ≤ 8) (hascii : ∀ (j : Nat) b, s.data.toList[j]? = some b → b.toNat < 128) :
    Calls Tryz.prog 163 #[.string s, .string chars] w fun e w' => e = .returned (.int .i64 (Lib.indexAny s.data.toList chars.data.toList)) ∧ ∃ pos, w' = w.iter s pos := Any.strings_IndexAny_short Tryz.lays153 s chars w h2 h8 hascii
def Tryz.lays227_ren : Go.Shelf.Ren := ⟨fun | 227 => 246 | n => n, fun | 9 => 9 | 116 => 258 | 4 => 4 | 0 => 0 | 3 => 3 | 5 => 5 | n => n, fun | n => n⟩
theorem Tryz.lays227 : Go.Proofs.Lays.n227 Tryz.prog Tryz.lays227_ren := {
  mixed := by kernel_rfl
  f227 := Tryz.func246.trans (congrArg some (by kernel_rfl))
  t0 := Tryz.underlying0
  a0 := Tryz.isAgg0
  z0 := Tryz.sizeOf0
  v0 := Tryz.zeroValue0
  t3 := Tryz.underlying3
  a3 := Tryz.isAgg3
  z3 := Tryz.sizeOf3
  v3 := Tryz.zeroValue3
  t4 := Tryz.underlying4
  a4 := Tryz.isAgg4
  z4 := Tryz.sizeOf4
  v4 := Tryz.zeroValue4
  t5 := Tryz.underlying5
  a5 := Tryz.isAgg5
  z5 := Tryz.sizeOf5
  v5 := Tryz.zeroValue5
  t9 := Tryz.underlying9
  a9 := Tryz.isAgg9
  z9 := Tryz.sizeOf9
  v9 := Tryz.zeroValue9
  t116 := Tryz.underlying258
  a116 := Tryz.isAgg258
  z116 := Tryz.sizeOf258 }
open Go.RowKit Go.Lib in
theorem Tryz.strings_makeASCIISet (hv116 : ∀ w, (zeroValue 258).run Tryz.prog w = .ok (.agg (Array.replicate 256 (.bool false))) w) (chars : ByteArray) (w : World) (hs : chars.size < 4294967281) (hascii : ∀ (j : Nat) b, chars.data.toList[j]? = some b → b.toNat < 128) :
    Calls Tryz.prog 246 #[.string chars] w fun e w' => e = .returned (.tuple #[.agg (Lib.setCells chars.data.toList), .bool true]) ∧ w' = w.alloc (.cells (Lib.setCells chars.data.toList) 258) := Any.strings_makeASCIISet Tryz.lays227 hv116 (by kernel_rfl) chars w hs hascii
def Tryz.lays228_ren : Go.Shelf.Ren := ⟨fun | 228 => 247 | n => n, fun | 124 => 298 | 5 => 5 | 4 => 4 | 0 => 0 | 116 => 258 | n => n, fun | n => n⟩
theorem Tryz.lays228 : Go.Proofs.Lays.n228 Tryz.prog Tryz.lays228_ren := {
  mixed := by kernel_rfl
  f228 := Tryz.func247.trans (congrArg some (by kernel_rfl))
  t0 := Tryz.underlying0
  a0 := Tryz.isAgg0
  z0 := Tryz.sizeOf0
  v0 := Tryz.zeroValue0
  t4 := Tryz.underlying4
  a4 := Tryz.isAgg4
  z4 := Tryz.sizeOf4
  v4 := Tryz.zeroValue4
  t5 := Tryz.underlying5
  a5 := Tryz.isAgg5
  z5 := Tryz.sizeOf5
  v5 := Tryz.zeroValue5
  t116 := Tryz.underlying258
  a116 := Tryz.isAgg258
  z116 := Tryz.sizeOf258
  t124 := Tryz.underlying298
  a124 := Tryz.isAgg298
  z124 := Tryz.sizeOf298
  v124 := Tryz.zeroValue298 }
open Go.RowKit Go.Lib in
/-- '(as *asciiSet) contains(c)': 'as[c]': the set lies at block b, whole. (LAID: no walk: one application.) -/
theorem Tryz.asciiSet_contains (b : Nat) (x : UInt8) (v : Bool) (w : World) (hc : w.cell? ⟨b, x.toNat, none⟩ = some (.bool v)) :
    Calls Tryz.prog 247 #[.pointer (some ⟨b, 0, none⟩), .int .u8 x.toNat] w fun e w' => e = .returned (.bool v) ∧ w' = w := Any.asciiSet_contains Tryz.lays228 b x v w hc
open Go.RowKit Go.Lib in
theorem Tryz.strings_IndexAny_long (hv116 : ∀ w, (zeroValue 258).run Tryz.prog w = .ok (.agg (Array.replicate 256 (.bool false))) w) (s chars : ByteArray) (w : World) (h2 : 2 ≤ chars.size) (h8 : 8 < s.size) (hs : s.size < 4294967281) (hcs : chars.size < 4294967281) (hascii : ∀ (j : Nat) b, chars.data.toList[j]? = some b → b.toNat < 128) :
    Calls Tryz.prog 163 #[.string s, .string chars] w fun e w' => e = .returned (.int .i64 (Lib.indexAny s.data.toList chars.data.toList)) ∧ w' = ((w.alloc (.cells (Lib.setCells chars.data.toList) 258)).alloc (.cells (Lib.setCells chars.data.toList) 258)) := Any.strings_IndexAny_long Tryz.lays153 hv116 (by kernel_rfl) s chars w h2 h8 hs hcs hascii
open Go.RowKit Go.Lib in
/-- strings.IndexAny ON ASCII BYTES: the four roads under one statement. (LAID: no walk: one application.) -/
theorem Tryz.strings_IndexAny (hv116 : ∀ w, (zeroValue 258).run Tryz.prog w = .ok (.agg (Array.replicate 256 (.bool false))) w) (s chars : ByteArray) (w : World) (hs : s.size < 4294967281) (hcs : chars.size < 4294967281) (has : ∀ (j : Nat) b, s.data.toList[j]? = some b → b.toNat < 128) (hac : ∀ (j : Nat) b, chars.data.toList[j]? = some b → b.toNat < 128) :
    Calls Tryz.prog 163 #[.string s, .string chars] w fun e w' => e = .returned (.int .i64 (Lib.indexAny s.data.toList chars.data.toList)) ∧ Below w.heap.size w w' := Any.strings_IndexAny Tryz.lays153 hv116 (by kernel_rfl) s chars w hs hcs has hac
def Tryz.lays150_ren : Go.Shelf.Ren := ⟨fun | 150 => 92 | 153 => 163 | 152 => 244 | 226 => 245 | 227 => 246 | 228 => 247 | 137 => 303 | 119 => 304 | 224 => 305 | 225 => 306 | 217 => 338 | 266 => 351 | n => n, fun | 9 => 9 | 4 => 4 | 3 => 3 | 5 => 5 | 21 => 21 | 117 => 259 | 116 => 258 | 0 => 0 | 46 => 185 | 124 => 298 | n => n, fun | n => n⟩
theorem Tryz.lays150 : Go.Proofs.Lays.n150 Tryz.prog Tryz.lays150_ren := {
  mixed := by kernel_rfl
  f119 := Tryz.func304.trans (congrArg some (by kernel_rfl))
  f137 := Tryz.func303.trans (congrArg some (by kernel_rfl))
  f150 := Tryz.func92.trans (congrArg some (by kernel_rfl))
  f152 := Tryz.func244.trans (congrArg some (by kernel_rfl))
  f153 := Tryz.func163.trans (congrArg some (by kernel_rfl))
  f217 := Tryz.func338.trans (congrArg some (by kernel_rfl))
  f224 := Tryz.func305.trans (congrArg some (by kernel_rfl))
  f225 := Tryz.func306.trans (congrArg some (by kernel_rfl))
  f226 := Tryz.func245.trans (congrArg some (by kernel_rfl))
  f227 := Tryz.func246.trans (congrArg some (by kernel_rfl))
  f228 := Tryz.func247.trans (congrArg some (by kernel_rfl))
  f266 := Tryz.func351.trans (congrArg some (by kernel_rfl))
  t0 := Tryz.underlying0
  a0 := Tryz.isAgg0
  z0 := Tryz.sizeOf0
  v0 := Tryz.zeroValue0
  t3 := Tryz.underlying3
  a3 := Tryz.isAgg3
  z3 := Tryz.sizeOf3
  v3 := Tryz.zeroValue3
  t4 := Tryz.underlying4
  a4 := Tryz.isAgg4
  z4 := Tryz.sizeOf4
  v4 := Tryz.zeroValue4
  t5 := Tryz.underlying5
  a5 := Tryz.isAgg5
  z5 := Tryz.sizeOf5
  v5 := Tryz.zeroValue5
  t9 := Tryz.underlying9
  a9 := Tryz.isAgg9
  z9 := Tryz.sizeOf9
  v9 := Tryz.zeroValue9
  t21 := Tryz.underlying21
  a21 := Tryz.isAgg21
  z21 := Tryz.sizeOf21
  v21 := Tryz.zeroValue21
  t46 := Tryz.underlying185
  a46 := Tryz.isAgg185
  z46 := Tryz.sizeOf185
  v46 := Tryz.zeroValue185
  t116 := Tryz.underlying258
  a116 := Tryz.isAgg258
  z116 := Tryz.sizeOf258
  t117 := Tryz.underlying259
  a117 := Tryz.isAgg259
  z117 := Tryz.sizeOf259
  v117 := Tryz.zeroValue259
  t124 := Tryz.underlying298
  a124 := Tryz.isAgg298
  z124 := Tryz.sizeOf298
  v124 := Tryz.zeroValue298 }
open Go.RowKit Go.Lib in
/-- strings.ContainsAny ON ASCII BYTES. (LAID: no walk: one application.) -/
theorem Tryz.strings_ContainsAny (hv116 : ∀ w, (zeroValue 258).run Tryz.prog w = .ok (.agg (Array.replicate 256 (.bool false))) w) (s chars : ByteArray) (w : World) (hs : s.size < 4294967281) (hcs : chars.size < 4294967281) (has : ∀ (j : Nat) b, s.data.toList[j]? = some b → b.toNat < 128) (hac : ∀ (j : Nat) b, chars.data.toList[j]? = some b → b.toNat < 128) :
    Calls Tryz.prog 92 #[.string s, .string chars] w fun e w' => e = .returned (.bool (Lib.containsAny s.data.toList chars.data.toList)) ∧ Below w.heap.size w w' := Any.strings_ContainsAny Tryz.lays150 hv116 (by kernel_rfl) s chars w hs hcs has hac
open Go.RowKit Go.Lib in
theorem Tryz.strings_IndexAny_laid (s chars : ByteArray) (w : World) (hs : s.size < 4294967281) (hcs : chars.size < 4294967281) (has : ∀ (j : Nat) b, s.data.toList[j]? = some b → b.toNat < 128) (hac : ∀ (j : Nat) b, chars.data.toList[j]? = some b → b.toNat < 128) :
    Calls Tryz.prog 163 #[.string s, .string chars] w fun e w' => e = .returned (.int .i64 (Lib.indexAny s.data.toList chars.data.toList)) ∧ Below w.heap.size w w' := Any.strings_IndexAny_laid Tryz.lays153 (by kernel_rfl) s chars w hs hcs has hac
open Go.RowKit Go.Lib in
theorem Tryz.strings_ContainsAny_laid (s chars : ByteArray) (w : World) (hs : s.size < 4294967281) (hcs : chars.size < 4294967281) (has : ∀ (j : Nat) b, s.data.toList[j]? = some b → b.toNat < 128) (hac : ∀ (j : Nat) b, chars.data.toList[j]? = some b → b.toNat < 128) :
    Calls Tryz.prog 92 #[.string s, .string chars] w fun e w' => e = .returned (.bool (Lib.containsAny s.data.toList chars.data.toList)) ∧ Below w.heap.size w w' := Any.strings_ContainsAny_laid Tryz.lays150 (by kernel_rfl) s chars w hs hcs has hac
def Tryz.lays264_ren : Go.Shelf.Ren := ⟨fun | 264 => 358 | n => n, fun | 53 => 245 | 46 => 185 | n => n, fun | n => n⟩
theorem Tryz.lays264 : Go.Proofs.Lays.n264 Tryz.prog Tryz.lays264_ren := {
  mixed := by kernel_rfl
  f264 := Tryz.func358.trans (congrArg some (by kernel_rfl))
  t46 := Tryz.underlying185
  a46 := Tryz.isAgg185
  z46 := Tryz.sizeOf185
  v46 := Tryz.zeroValue185
  t53 := Tryz.underlying245
  a53 := Tryz.isAgg245
  z53 := Tryz.sizeOf245
  v53 := Tryz.zeroValue245 }
open Go.RowKit Go.Lib in
theorem Tryz.bits_Mul64 (x y : Nat) (hx : x < 18446744073709551616) (hy : y < 18446744073709551616) (w : World) :
    Calls Tryz.prog 358 #[.int .u64 x, .int .u64 y] w fun e w' => e = .returned (.tuple #[.int .u64 ((x * y / 18446744073709551616 : Nat) : Int), .int .u64 ((x * y % 18446744073709551616 : Nat) : Int)]) ∧ w' = w := Any.bits_Mul64 Tryz.lays264 x y hx hy w
def Tryz.lays212_ren : Go.Shelf.Ren := ⟨fun | 212 => 354 | 263 => 357 | 264 => 358 | n => n, fun | 46 => 185 | 51 => 243 | 146 => 337 | 53 => 245 | 148 => 347 | n => n, fun | n => n⟩
theorem Tryz.lays212 : Go.Proofs.Lays.n212 Tryz.prog Tryz.lays212_ren := {
  mixed := by kernel_rfl
  f212 := Tryz.func354.trans (congrArg some (by kernel_rfl))
  f263 := Tryz.func357.trans (congrArg some (by kernel_rfl))
  f264 := Tryz.func358.trans (congrArg some (by kernel_rfl))
  t46 := Tryz.underlying185
  a46 := Tryz.isAgg185
  z46 := Tryz.sizeOf185
  v46 := Tryz.zeroValue185
  t51 := Tryz.underlying243
  a51 := Tryz.isAgg243
  z51 := Tryz.sizeOf243
  v51 := Tryz.zeroValue243
  t53 := Tryz.underlying245
  a53 := Tryz.isAgg245
  z53 := Tryz.sizeOf245
  v53 := Tryz.zeroValue245
  t146 := Tryz.underlying337
  a146 := Tryz.isAgg337
  z146 := Tryz.sizeOf337
  v146 := Tryz.zeroValue337
  t148 := Tryz.underlying347
  a148 := Tryz.isAgg347
  z148 := Tryz.sizeOf347
  v148 := Tryz.zeroValue347 }
open Go.RowKit Go.Lib in
/-- math/bits.Mul: "Mul returns the full-width product of x and y": on a machine of 64 bits: Mul64's. (LAID: no walk: one application.) -/
theorem Tryz.bits_Mul (x y : Nat) (hx : x < 18446744073709551616) (hy : y < 18446744073709551616) (w : World) :
    Calls Tryz.prog 354 #[.int .u64 x, .int .u64 y] w fun e w' => e = .returned (.tuple #[.int .u64 ((x * y / 18446744073709551616 : Nat) : Int), .int .u64 ((x * y % 18446744073709551616 : Nat) : Int)]) ∧ w' = w := Any.bits_Mul Tryz.lays212 x y hx hy w
def Tryz.lays105_ren : Go.Shelf.Ren := ⟨fun | 105 => 341 | 212 => 354 | 99 => 104 | 165 => 307 | 166 => 93 | 170 => 101 | 169 => 89 | 263 => 357 | 264 => 358 | 206 => 175 | 240 => 160 | 241 => 340 | 276 => 239 | 277 => 353 | n => n, fun | 9 => 9 | 3 => 3 | 4 => 4 | 20 => 20 | 0 => 0 | 46 => 185 | 109 => 340 | 5 => 5 | 72 => 142 | 76 => 150 | 51 => 243 | 146 => 337 | 53 => 245 | 148 => 347 | 70 => 140 | 37 => 76 | 75 => 144 | 127 => 203 | 164 => 253 | 80 => 146 | n => n, fun | n => n⟩
theorem Tryz.lays105 : Go.Proofs.Lays.n105 Tryz.prog Tryz.lays105_ren := {
  mixed := by kernel_rfl
  f99 := Tryz.func104.trans (congrArg some (by kernel_rfl))
  f105 := Tryz.func341.trans (congrArg some (by kernel_rfl))
  f165 := Tryz.func307.trans (congrArg some (by kernel_rfl))
  f166 := Tryz.func93.trans (congrArg some (by kernel_rfl))
  f169 := Tryz.func89.trans (congrArg some (by kernel_rfl))
  f170 := Tryz.func101.trans (congrArg some (by kernel_rfl))
  f206 := Tryz.func175.trans (congrArg some (by kernel_rfl))
  f212 := Tryz.func354.trans (congrArg some (by kernel_rfl))
  f240 := Tryz.func160.trans (congrArg some (by kernel_rfl))
  f241 := Tryz.func340.trans (congrArg some (by kernel_rfl))
  f263 := Tryz.func357.trans (congrArg some (by kernel_rfl))
  f264 := Tryz.func358.trans (congrArg some (by kernel_rfl))
  f276 := Tryz.func239.trans (congrArg some (by kernel_rfl))
  f277 := Tryz.func353.trans (congrArg some (by kernel_rfl))
  t0 := Tryz.underlying0
  a0 := Tryz.isAgg0
  z0 := Tryz.sizeOf0
  v0 := Tryz.zeroValue0
  t3 := Tryz.underlying3
  a3 := Tryz.isAgg3
  z3 := Tryz.sizeOf3
  v3 := Tryz.zeroValue3
  t4 := Tryz.underlying4
  a4 := Tryz.isAgg4
  z4 := Tryz.sizeOf4
  v4 := Tryz.zeroValue4
  t5 := Tryz.underlying5
  a5 := Tryz.isAgg5
  z5 := Tryz.sizeOf5
  v5 := Tryz.zeroValue5
  t9 := Tryz.underlying9
  a9 := Tryz.isAgg9
  z9 := Tryz.sizeOf9
  v9 := Tryz.zeroValue9
  t20 := Tryz.underlying20
  a20 := Tryz.isAgg20
  z20 := Tryz.sizeOf20
  v20 := Tryz.zeroValue20
  t37 := Tryz.underlying76
  a37 := Tryz.isAgg76
  z37 := Tryz.sizeOf76
  v37 := Tryz.zeroValue76
  t46 := Tryz.underlying185
  a46 := Tryz.isAgg185
  z46 := Tryz.sizeOf185
  v46 := Tryz.zeroValue185
  t51 := Tryz.underlying243
  a51 := Tryz.isAgg243
  z51 := Tryz.sizeOf243
  v51 := Tryz.zeroValue243
  t53 := Tryz.underlying245
  a53 := Tryz.isAgg245
  z53 := Tryz.sizeOf245
  v53 := Tryz.zeroValue245
  t70 := Tryz.underlying140
  a70 := Tryz.isAgg140
  z70 := Tryz.sizeOf140
  v70 := Tryz.zeroValue140
  t72 := Tryz.underlying142
  a72 := Tryz.isAgg142
  z72 := Tryz.sizeOf142
  v72 := Tryz.zeroValue142
  t75 := Tryz.underlying144
  a75 := Tryz.isAgg144
  z75 := Tryz.sizeOf144
  v75 := Tryz.zeroValue144
  t76 := Tryz.underlying150
  a76 := Tryz.isAgg150
  z76 := Tryz.sizeOf150
  v76 := Tryz.zeroValue150
  t109 := Tryz.underlying340
  a109 := Tryz.isAgg340
  z109 := Tryz.sizeOf340
  v109 := Tryz.zeroValue340
  t127 := Tryz.underlying203
  a127 := Tryz.isAgg203
  z127 := Tryz.sizeOf203
  v127 := Tryz.zeroValue203
  t146 := Tryz.underlying337
  a146 := Tryz.isAgg337
  z146 := Tryz.sizeOf337
  v146 := Tryz.zeroValue337
  t148 := Tryz.underlying347
  a148 := Tryz.isAgg347
  z148 := Tryz.sizeOf347
  v148 := Tryz.zeroValue347
  t164 := Tryz.underlying253
  a164 := Tryz.isAgg253
  z164 := Tryz.sizeOf253
  v164 := Tryz.zeroValue253 }
theorem Tryz.Builder_Extra_105 : Builder.Extra Tryz.prog Tryz.lays105_ren := {
  sizeBuilder := by kernel_rfl
  liesBuilder := by kernel_rfl
  t5 := Tryz.underlying5
  a5 := Tryz.isAgg5
  z5 := Tryz.sizeOf5
  v5 := Tryz.zeroValue5
  infoByte := by kernel_rfl
  cellsByte := by kernel_rfl
  sizeByte := by kernel_rfl
  neB5 := by decide }
open Go.RowKit Go.Lib in
/-- THE MAIN CASE: at least two copies of a string that is not empty. (LAID: no walk: one application.) -/
theorem Tryz.strings_Repeat_main (s : ByteArray) (c : Nat) (w : World) (hc2 : 2 ≤ c) (hc : c ≤ 9223372036854775807) (hlen : s.size * c ≤ 140737488355328) (h0 : 0 < s.size) :
    Calls Tryz.prog 341 #[.string s, .int .i64 c] w fun e w' => e = .returned (.string ⟨(Lib.repeatL s.data.toList c).toArray⟩) ∧ Below w.heap.size w w' := Any.strings_Repeat_main Tryz.lays105 Tryz.Builder_Extra_105 s c w hc2 hc hlen h0
open Go.RowKit Go.Lib in
theorem Tryz.strings_Repeat_zero (s : ByteArray) (w : World) :
    Calls Tryz.prog 341 #[.string s, .int .i64 0] w fun e w' => e = .returned (.string ⟨#[]⟩) ∧ w' = w := Any.strings_Repeat_zero Tryz.lays105 s w
open Go.RowKit Go.Lib in
theorem Tryz.strings_Repeat_one (s : ByteArray) (w : World) :
    Calls Tryz.prog 341 #[.string s, .int .i64 1] w fun e w' => e = .returned (.string s) ∧ w' = w := Any.strings_Repeat_one Tryz.lays105 s w
open Go.RowKit Go.Lib in
/-- Copies of the empty string. (LAID: no walk: one application.) -/
theorem Tryz.strings_Repeat_empty (s : ByteArray) (c : Nat) (w : World) (hc2 : 2 ≤ c) (hc : c ≤ 9223372036854775807) (h0 : s.size = 0) :
    Calls Tryz.prog 341 #[.string s, .int .i64 c] w fun e w' => e = .returned (.string ⟨#[]⟩) ∧ w' = w := Any.strings_Repeat_empty Tryz.lays105 s c w hc2 hc h0
open Go.RowKit Go.Lib in
/-- **strings.Repeat: count ≥ 0, the result within one allocation: count copies of s.** (LAID: no walk: one application.) -/
theorem Tryz.strings_Repeat (s : ByteArray) (c : Nat) (w : World) (hc : c ≤ 9223372036854775807) (hlen : s.size * c ≤ 140737488355328) :
    Calls Tryz.prog 341 #[.string s, .int .i64 c] w fun e w' => e = .returned (.string ⟨(Lib.repeatL s.data.toList c).toArray⟩) ∧ Below w.heap.size w w' := Any.strings_Repeat Tryz.lays105 Tryz.Builder_Extra_105 s c w hc hlen
def Tryz.lays260_ren : Go.Shelf.Ren := ⟨fun | 260 => 337 | n => n, fun | 9 => 9 | 21 => 21 | 3 => 3 | 4 => 4 | 5 => 5 | 119 => 333 | 0 => 0 | 46 => 185 | 139 => 336 | 138 => 335 | n => n, fun | 3 => 7 | 4 => 8 | n => n⟩
theorem Tryz.lays260 : Go.Proofs.Lays.n260 Tryz.prog Tryz.lays260_ren := {
  mixed := by kernel_rfl
  f260 := Tryz.func337.trans (congrArg some (by kernel_rfl))
  t0 := Tryz.underlying0
  a0 := Tryz.isAgg0
  z0 := Tryz.sizeOf0
  v0 := Tryz.zeroValue0
  t3 := Tryz.underlying3
  a3 := Tryz.isAgg3
  z3 := Tryz.sizeOf3
  v3 := Tryz.zeroValue3
  t4 := Tryz.underlying4
  a4 := Tryz.isAgg4
  z4 := Tryz.sizeOf4
  v4 := Tryz.zeroValue4
  t5 := Tryz.underlying5
  a5 := Tryz.isAgg5
  z5 := Tryz.sizeOf5
  v5 := Tryz.zeroValue5
  t9 := Tryz.underlying9
  a9 := Tryz.isAgg9
  z9 := Tryz.sizeOf9
  v9 := Tryz.zeroValue9
  t21 := Tryz.underlying21
  a21 := Tryz.isAgg21
  z21 := Tryz.sizeOf21
  v21 := Tryz.zeroValue21
  t46 := Tryz.underlying185
  a46 := Tryz.isAgg185
  z46 := Tryz.sizeOf185
  v46 := Tryz.zeroValue185
  t119 := Tryz.underlying333
  a119 := Tryz.isAgg333
  z119 := Tryz.sizeOf333
  t138 := Tryz.underlying335
  a138 := Tryz.isAgg335
  z138 := Tryz.sizeOf335
  v138 := Tryz.zeroValue335
  t139 := Tryz.underlying336
  a139 := Tryz.isAgg336
  z139 := Tryz.sizeOf336
  v139 := Tryz.zeroValue336
  g3 := by kernel_rfl
  g4 := by kernel_rfl }
open Go.RowKit Go.Lib in
theorem Tryz.utf8_decodeRuneInStringSlow (s : ByteArray) (w : World) (hT : Lib.Utf8Tabs 7 8 w) :
    Calls Tryz.prog 337 #[.string s] w fun e w' => e = .returned (.tuple #[.int .i32 (Lib.decodeGo s).1, .int .i64 (Lib.decodeGo s).2]) ∧ Below w.heap.size w w' := Any.utf8_decodeRuneInStringSlow Tryz.lays260 s w hT
def Tryz.lays108_ren : Go.Shelf.Ren := ⟨fun | 108 => 222 | n => n, fun | 28 => 27 | 3 => 3 | 0 => 0 | 4 => 4 | n => n, fun | n => n⟩
theorem Tryz.lays108 : Go.Proofs.Lays.n108 Tryz.prog Tryz.lays108_ren := {
  mixed := by kernel_rfl
  f108 := Tryz.func222.trans (congrArg some (by kernel_rfl))
  t0 := Tryz.underlying0
  a0 := Tryz.isAgg0
  z0 := Tryz.sizeOf0
  v0 := Tryz.zeroValue0
  t3 := Tryz.underlying3
  a3 := Tryz.isAgg3
  z3 := Tryz.sizeOf3
  v3 := Tryz.zeroValue3
  t4 := Tryz.underlying4
  a4 := Tryz.isAgg4
  z4 := Tryz.sizeOf4
  v4 := Tryz.zeroValue4
  t28 := Tryz.underlying27
  a28 := Tryz.isAgg27
  z28 := Tryz.sizeOf27
  v28 := Tryz.zeroValue27 }
open Go.Lib in
/-- slices.Index at []int: "Index returns the index of the first occurrence of v in s, or -1 if not present.": IT RETURNS 'Lib.idxOf (the elements) v'; the world is as it was. 'zs': what the cells behind the slice's address hold (its spare capacity too, if you have it); 'zs.take n': its elements. (LAID: no walk: one application.) -/
theorem Tryz.slices_Index_int (b off n c : Nat) (zs : List Int) (x : Int) (w : World) (hz : n ≤ zs.length) (hbig : n ≤ 9223372036854775807) (hc : ∀ j, j < zs.length → w.cell? ⟨b, off + j, none⟩ = some (.int .i64 (zs.getD j 0))) :
    Calls Tryz.prog 222 #[.slice (some ⟨b, off, none⟩) n c, .int .i64 x] w fun e w' => e = .returned (.int .i64 (Lib.idxOf (zs.take n) x)) ∧ w' = w := Any.slices_Index_int Tryz.lays108 b off n c zs x w hz hbig hc
open Go.Lib in
/-- The same at a slice of length 0, a nil one too: no cell is known, none is asked for. (LAID: no walk: one application.) -/
theorem Tryz.slices_Index_int_empty (a : Option Addr) (c : Nat) (x : Int) (w : World) :
    Calls Tryz.prog 222 #[.slice a 0 c, .int .i64 x] w fun e w' => e = .returned (.int .i64 (Lib.idxOf [] x)) ∧ w' = w := Any.slices_Index_int_empty Tryz.lays108 a c x w
def Tryz.lays107_ren : Go.Shelf.Ren := ⟨fun | 107 => 148 | 108 => 222 | n => n, fun | 28 => 27 | 3 => 3 | 4 => 4 | 0 => 0 | n => n, fun | n => n⟩
theorem Tryz.lays107 : Go.Proofs.Lays.n107 Tryz.prog Tryz.lays107_ren := {
  mixed := by kernel_rfl
  f107 := Tryz.func148.trans (congrArg some (by kernel_rfl))
  f108 := Tryz.func222.trans (congrArg some (by kernel_rfl))
  t0 := Tryz.underlying0
  a0 := Tryz.isAgg0
  z0 := Tryz.sizeOf0
  v0 := Tryz.zeroValue0
  t3 := Tryz.underlying3
  a3 := Tryz.isAgg3
  z3 := Tryz.sizeOf3
  v3 := Tryz.zeroValue3
  t4 := Tryz.underlying4
  a4 := Tryz.isAgg4
  z4 := Tryz.sizeOf4
  v4 := Tryz.zeroValue4
  t28 := Tryz.underlying27
  a28 := Tryz.isAgg27
  z28 := Tryz.sizeOf27
  v28 := Tryz.zeroValue27 }
open Go.Lib in
/-- slices.Contains at []int: "Contains reports whether v is present in s.": IT RETURNS 'elements.contains v'; the world is as it was. ITS CALLEE slices.Index IS MET BY ITS OWN CONTRACT OFF THE SHELF (lay that first): no loop is walked here. (LAID: no walk: one application.) -/
theorem Tryz.slices_Contains_int (b off n c : Nat) (zs : List Int) (x : Int) (w : World) (hz : n ≤ zs.length) (hbig : n ≤ 9223372036854775807) (hc : ∀ j, j < zs.length → w.cell? ⟨b, off + j, none⟩ = some (.int .i64 (zs.getD j 0))) :
    Calls Tryz.prog 148 #[.slice (some ⟨b, off, none⟩) n c, .int .i64 x] w fun e w' => e = .returned (.bool ((zs.take n).contains x)) ∧ w' = w := Any.slices_Contains_int Tryz.lays107 b off n c zs x w hz hbig hc
open Go.Lib in
/-- The same at a slice of length 0, a nil one too. (LAID: no walk: one application.) -/
theorem Tryz.slices_Contains_int_empty (a : Option Addr) (c : Nat) (x : Int) (w : World) :
    Calls Tryz.prog 148 #[.slice a 0 c, .int .i64 x] w fun e w' => e = .returned (.bool false) ∧ w' = w := Any.slices_Contains_int_empty Tryz.lays107 a c x w
def Tryz.lays111_ren : Go.Shelf.Ren := ⟨fun | 111 => 270 | n => n, fun | 28 => 27 | 3 => 3 | 4 => 4 | 0 => 0 | n => n, fun | n => n⟩
theorem Tryz.lays111 : Go.Proofs.Lays.n111 Tryz.prog Tryz.lays111_ren := {
  mixed := by kernel_rfl
  f111 := Tryz.func270.trans (congrArg some (by kernel_rfl))
  t0 := Tryz.underlying0
  a0 := Tryz.isAgg0
  z0 := Tryz.sizeOf0
  v0 := Tryz.zeroValue0
  t3 := Tryz.underlying3
  a3 := Tryz.isAgg3
  z3 := Tryz.sizeOf3
  v3 := Tryz.zeroValue3
  t4 := Tryz.underlying4
  a4 := Tryz.isAgg4
  z4 := Tryz.sizeOf4
  v4 := Tryz.zeroValue4
  t28 := Tryz.underlying27
  a28 := Tryz.isAgg27
  z28 := Tryz.sizeOf27
  v28 := Tryz.zeroValue27 }
open Go.RowKit Go.Lib in
/-- slices.Equal at []int: "Equal reports whether two slices are equal: the same length and all elements equal. If the lengths are different, Equal returns false. Otherwise, the elements are compared in increasing index order, and the comparison stops at the first unequal pair. Empty and nil slices are considered equal.": IT RETURNS WHETHER THE TWO LISTS OF ELEMENTS ARE ONE; the world is as it was but for the count of draws (the test 's1[i] != s2[i]' has two reads, whose order the model draws, once a round). 'xs', 'ys': what the cells behind the two addresses hold (the spare capacity too, if you have it); 'xs.take n', 'ys.take m': the elements. THE TWO SLICES MAY OVERLAP. (LAID: no walk: one application.) -/
theorem Tryz.slices_Equal_int (b1 o1 n c b2 o2 m d : Nat) (xs ys : List Int) (w : World) (hx : n ≤ xs.length) (hy : m ≤ ys.length) (hbig : n ≤ 9223372036854775807) (hbig2 : m ≤ 9223372036854775807) (hc1 : ∀ j, j < xs.length → w.cell? ⟨b1, o1 + j, none⟩ = some (.int .i64 (xs.getD j 0))) (hc2 : ∀ j, j < ys.length → w.cell? ⟨b2, o2 + j, none⟩ = some (.int .i64 (ys.getD j 0))) :
    Calls Tryz.prog 270 #[.slice (some ⟨b1, o1, none⟩) n c, .slice (some ⟨b2, o2, none⟩) m d] w fun e w' => e = .returned (.bool (xs.take n == ys.take m)) ∧ ∃ q, w' = w.drewN q := Any.slices_Equal_int Tryz.lays111 b1 o1 n c b2 o2 m d xs ys w hx hy hbig hbig2 hc1 hc2
open Go.RowKit Go.Lib in
/-- The same where the first is of length 0 (a nil one too): no cell is asked for. (LAID: no walk: one application.) -/
theorem Tryz.slices_Equal_int_empty (a1 a2 : Option Addr) (c m d : Nat) (w : World) (hbig2 : m ≤ 9223372036854775807) :
    Calls Tryz.prog 270 #[.slice a1 0 c, .slice a2 m d] w fun e w' => e = .returned (.bool (decide (m = 0))) ∧ w' = w := Any.slices_Equal_int_empty Tryz.lays111 a1 a2 c m d w hbig2
def Tryz.laysNm215_ren : Go.Shelf.Ren := ⟨fun | 15 => 146 | n => n, fun | 22 => 27 | 3 => 3 | 4 => 4 | n => n, fun | n => n⟩
theorem Tryz.laysNm215 : Go.Proofs.Lays2.n15 Tryz.prog Tryz.laysNm215_ren := {
  mixed := by kernel_rfl
  f15 := Tryz.func146.trans (congrArg some (by kernel_rfl))
  t3 := Tryz.underlying3
  a3 := Tryz.isAgg3
  z3 := Tryz.sizeOf3
  v3 := Tryz.zeroValue3
  t4 := Tryz.underlying4
  a4 := Tryz.isAgg4
  z4 := Tryz.sizeOf4
  v4 := Tryz.zeroValue4
  t22 := Tryz.underlying27
  a22 := Tryz.isAgg27
  z22 := Tryz.sizeOf27
  v22 := Tryz.zeroValue27
  i3 := by kernel_rfl }
open Go.RowKit Go.Lib in
/-- slices.Clone at []int: "Clone returns a copy of the slice. The elements are copied using assignment, so this is a shallow clone. The result may have additional unused capacity. The result preserves the nilness of s.": OF A SLICE THAT IS NOT nil IT RETURNS A SLICE THAT IS NOT nil, OF THE SAME ELEMENTS, IN MEMORY OF THE CALL's OWN: in the how-to's words (6f): 'w'.ownsRow B e 1 v' n cells': v' begins at the head of a row among the blocks from B on (B: the heap's size at the call), not frozen, whose first cells are the elements · 'Below B w w'': below B all is as it was. The capacity is whatever the run-time gives. 'zs': what the cells behind the slice's address hold; 'zs.take n': its elements. (LAID: no walk: one application.) -/
theorem Tryz.slices_Clone_int (b off n c : Nat) (zs : List Int) (w : World) (hz : n ≤ zs.length) (hbig : n * 8 ≤ 140737488355328) (hc : ∀ j, j < zs.length → w.cell? ⟨b, off + j, none⟩ = some (.int .i64 (zs.getD j 0))) :
    Calls Tryz.prog 146 #[.slice (some ⟨b, off, none⟩) n c] w fun e w' => ∃ v', e = .returned v' ∧ w'.ownsRow w.heap.size 3 1 v' n ((zs.take n).map (Value.int .i64)) ∧ v' ≠ .slice none 0 0 ∧ Below w.heap.size w w' := Any.slices_Clone_int Tryz.laysNm215 b off n c zs w hz hbig hc
open Go.RowKit Go.Lib in
/-- The same at nil: nil comes back; the world is as it was. (LAID: no walk: one application.) -/
theorem Tryz.slices_Clone_int_nil (n c : Nat) (w : World) :
    Calls Tryz.prog 146 #[.slice none n c] w fun e w' => e = .returned (.slice none 0 0) ∧ w' = w := Any.slices_Clone_int_nil Tryz.laysNm215 n c w
open Go.RowKit Go.Lib in
/-- The same at a slice of length 0 that is not nil, WHATEVER ITS ADDRESS (no cell is asked for): a slice that is not nil and owns nothing comes back. (LAID: no walk: one application.) -/
theorem Tryz.slices_Clone_int_zero (a : Addr) (c : Nat) (w : World) :
    Calls Tryz.prog 146 #[.slice (some a) 0 c] w fun e w' => ∃ v', e = .returned v' ∧ w'.ownsRow w.heap.size 3 1 v' 0 [] ∧ v' ≠ .slice none 0 0 ∧ Below w.heap.size w w' := Any.slices_Clone_int_zero Tryz.laysNm215 a c w
end Go.Proofs
