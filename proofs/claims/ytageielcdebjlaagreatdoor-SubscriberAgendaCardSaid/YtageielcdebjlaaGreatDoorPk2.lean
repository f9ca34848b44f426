/- DERIVED: THE SHELF's CONTRACTS AT THIS DUMP, IN PLAIN WORDS (tools/lay-plain.mjs out of 'the shelf command.lean', which tools/lay-shelf.mjs wrote): THE SAME DECLARATIONS UNDER THE SAME NAMES: 'import', 'namespace', 'open', 'def', 'theorem' AND NOTHING ELSE: no command of the shelf's: FOR A HAND-IN. Each laying: the table of numbers ('.._ren') and one theorem, a field a fact of the dump's own or the kernel's comparison; each contract: ONE APPLICATION. strings.Builder over this program: contracts of copyCheck, WriteByte, WriteString, String, Len with a frame that keeps all blocks below a bound but the builder's own. Plain facts on texts of a calendar: how a text is escaped and read back, how a line is folded, what a text is unfolded to. No program in sight. Condition: none. feed.Escape: its contract. feed.Unescape: its contract. codes.Valid: its contract. -/
import Derived.Shelf.Strings.Builder1
import Derived.Shelf.Strings.Builder2
import Derived.Shelf.Strings.OnBuilder
import Derived.Shelf.Small.Utf8
import Derived.Shelf.Small.Strs
import Derived.Shelf.Small.Wraps
import Derived.Shelf.Strings.BuilderF
import Derived.Shelf.Strings.BuilderK
import Derived.Shelf.Strconv.Atoi
import Derived.Shelf.Strconv.Itoa0
import Derived.Shelf.Strconv.Itoa1
import Derived.Shelf.LaysM
import Derived.Shelf.Strconv.Itoa2
import Derived.Shelf.Strconv.Itoa3
import Derived.Shelf.Strings.Search1
import Derived.Shelf.Strings.Search2
import Derived.Shelf.Strings.Search3
import Derived.Shelf.Strings.Cut
import Derived.Shelf.Strings.Count
import Derived.Shelf.Strings.Shaped
import Derived.Shelf.Strings.Prefix
import Derived.Shelf.Strings.Split
import Derived.Shelf.Strings.SplitShaped
import Derived.Shelf.Strings.Runes
import Derived.Shelf.Strings.IndexAny
import Derived.Shelf.Strings.AsciiSet
import Derived.Shelf.Strings.IndexAnyAll
import Derived.Shelf.Bits.Mul64
import Derived.Shelf.Strings.Repeat
import Derived.Shelf.Unicode.DecodeSlow
import Derived.Shelf.Slices.Turned
import Derived.Shelf.Slices.Equal
import Derived.Ground.Names2Prog
import Derived.Shelf.Slices.Clone
import Derived.Test.YtageielcdebjlaaGreatDoorProg
import Derived.Test.YtageielcdebjlaaGreatDoorPk1
import Derived.Lib.Builder
import Derived.Lib.AppendStr
import Derived.Lib.Walk
import Derived.Laws.Externs
import Derived.Lib.Split
import Derived.Laws.IdiomStrings
import Derived.LoopTactic
namespace Go.Proofs
open Go.Shelf
open Go.RowKit in
open Go.RowKit in
open Go.RowKit in
open Go.RowKit in
open Go.RowKit in
open Go.RowKit in
open Go.RowKit in
open Go.RowKit in
open Go.RowKit in
def Tryz.lays106_ren : Go.Shelf.Ren := ⟨fun | 106 => 130 | 213 => 201 | 265 => 279 | n => n, fun | 9 => 9 | 3 => 3 | n => n, fun | n => n⟩
theorem Tryz.lays106 : Go.Proofs.Lays.n106 Tryz.prog Tryz.lays106_ren := {
  mixed := by kernel_rfl
  f106 := Tryz.func130.trans (congrArg some (by kernel_rfl))
  f213 := Tryz.func201.trans (congrArg some (by kernel_rfl))
  f265 := Tryz.func279.trans (congrArg some (by kernel_rfl))
  t3 := Tryz.underlying3
  a3 := Tryz.isAgg3
  z3 := Tryz.sizeOf3
  v3 := Tryz.zeroValue3
  t9 := Tryz.underlying9
  a9 := Tryz.isAgg9
  z9 := Tryz.sizeOf9
  v9 := Tryz.zeroValue9 }
open Go.RowKit in
/-- strings.Compare: "Compare returns an integer comparing two strings lexicographically. The result will be 0 if a == b, -1 if a < b, and +1 if a > b.": IT RETURNS 'Lib.compareBytes a b'; the world is as it was. (LAID: no walk: one application.) -/
theorem Tryz.strings_Compare (a b : ByteArray) (w : World) :
    Calls Tryz.prog 130 #[.string a, .string b] w fun e w' => e = .returned (.int .i64 (Lib.compareBytes a.data.toList b.data.toList)) ∧ w' = w := Any.strings_Compare Tryz.lays106 a b w
open Go.RowKit in
open Go.RowKit in
open Go.RowKit in
open Go.RowKit in
open Go.RowKit in
open Go.RowKit in
open Go.RowKit in
open Go.RowKit in
open Go.RowKit in
open Go.RowKit in
open Go.RowKit in
open Go.RowKit in
open Go.RowKit in
open Go.RowKit in
open Go.RowKit in
open Go.RowKit in
open Go.Lib in
open Go.Lib in
open Go.Lib in
open Go.RowKit Go.Sort Go.Lib in
open Go.RowKit Go.Sort Go.Lib in
open Go.RowKit Go.Sort Go.Lib in
def Tryz.lays171_ren : Go.Shelf.Ren := ⟨fun | 171 => 136 | 243 => 208 | 246 => 281 | 283 => 328 | 284 => 329 | 285 => 330 | 286 => 331 | 129 => 230 | 317 => 347 | 318 => 348 | 319 => 349 | 320 => 269 | 337 => 321 | 338 => 322 | n => n, fun | 3 => 3 | 9 => 9 | 2 => 2 | 4 => 4 | 171 => 309 | 0 => 0 | 53 => 245 | 37 => 76 | 5 => 5 | 173 => 311 | 212 => 330 | 51 => 243 | 20 => 20 | 213 => 331 | 46 => 185 | 232 => 325 | 233 => 326 | n => n, fun | 17 => 6 | 18 => 4 | 19 => 5 | n => n⟩
theorem Tryz.lays171 : Go.Proofs.Lays.n171 Tryz.prog Tryz.lays171_ren := {
  mixed := by kernel_rfl
  f129 := Tryz.func230.trans (congrArg some (by kernel_rfl))
  f171 := Tryz.func136.trans (congrArg some (by kernel_rfl))
  f243 := Tryz.func208.trans (congrArg some (by kernel_rfl))
  f246 := Tryz.func281.trans (congrArg some (by kernel_rfl))
  f283 := Tryz.func328.trans (congrArg some (by kernel_rfl))
  f284 := Tryz.func329.trans (congrArg some (by kernel_rfl))
  f285 := Tryz.func330.trans (congrArg some (by kernel_rfl))
  f286 := Tryz.func331.trans (congrArg some (by kernel_rfl))
  f317 := Tryz.func347.trans (congrArg some (by kernel_rfl))
  f318 := Tryz.func348.trans (congrArg some (by kernel_rfl))
  f319 := Tryz.func349.trans (congrArg some (by kernel_rfl))
  f320 := Tryz.func269.trans (congrArg some (by kernel_rfl))
  f337 := Tryz.func321.trans (congrArg some (by kernel_rfl))
  f338 := Tryz.func322.trans (congrArg some (by kernel_rfl))
  t0 := Tryz.underlying0
  a0 := Tryz.isAgg0
  z0 := Tryz.sizeOf0
  v0 := Tryz.zeroValue0
  t2 := Tryz.underlying2
  a2 := Tryz.isAgg2
  z2 := Tryz.sizeOf2
  v2 := Tryz.zeroValue2
  t3 := Tryz.underlying3
  a3 := Tryz.isAgg3
  z3 := Tryz.sizeOf3
  v3 := Tryz.zeroValue3
  t4 := Tryz.underlying4
  a4 := Tryz.isAgg4
  z4 := Tryz.sizeOf4
  v4 := Tryz.zeroValue4
  t5 := Tryz.underlying5
  a5 := Tryz.isAgg5
  z5 := Tryz.sizeOf5
  v5 := Tryz.zeroValue5
  t9 := Tryz.underlying9
  a9 := Tryz.isAgg9
  z9 := Tryz.sizeOf9
  v9 := Tryz.zeroValue9
  t20 := Tryz.underlying20
  a20 := Tryz.isAgg20
  z20 := Tryz.sizeOf20
  v20 := Tryz.zeroValue20
  t37 := Tryz.underlying76
  a37 := Tryz.isAgg76
  z37 := Tryz.sizeOf76
  v37 := Tryz.zeroValue76
  t46 := Tryz.underlying185
  a46 := Tryz.isAgg185
  z46 := Tryz.sizeOf185
  v46 := Tryz.zeroValue185
  t51 := Tryz.underlying243
  a51 := Tryz.isAgg243
  z51 := Tryz.sizeOf243
  v51 := Tryz.zeroValue243
  t53 := Tryz.underlying245
  a53 := Tryz.isAgg245
  z53 := Tryz.sizeOf245
  v53 := Tryz.zeroValue245
  t171 := Tryz.underlying309
  a171 := Tryz.isAgg309
  z171 := Tryz.sizeOf309
  v171 := Tryz.zeroValue309
  t173 := Tryz.underlying311
  a173 := Tryz.isAgg311
  z173 := Tryz.sizeOf311
  v173 := Tryz.zeroValue311
  t212 := Tryz.underlying330
  a212 := Tryz.isAgg330
  z212 := Tryz.sizeOf330
  v212 := Tryz.zeroValue330
  t213 := Tryz.underlying331
  a213 := Tryz.isAgg331
  z213 := Tryz.sizeOf331
  t232 := Tryz.underlying325
  a232 := Tryz.isAgg325
  z232 := Tryz.sizeOf325
  v232 := Tryz.zeroValue325
  t233 := Tryz.underlying326
  a233 := Tryz.isAgg326
  z233 := Tryz.sizeOf326
  v233 := Tryz.zeroValue326
  g17 := by kernel_rfl
  g18 := by kernel_rfl
  g19 := by kernel_rfl }
open Go.RowKit Go.Sort Go.Lib in
/-- THE ROAD WITHOUT THE TABLE: 0 <= i < 100: NO PREMISE ON THE WORLD, AND THE WORLD IS AS IT WAS: a row that keeps its argument in that range need list no table ('laid = []'). (LAID: no walk: one application.) -/
theorem Tryz.strconv_Itoa_small (i : Nat) (hi : i < 100) (w : World) :
    Calls Tryz.prog 136 #[.int .i64 i] w fun e w' => e = .returned (.string ⟨(Lib.decDigits i).toArray⟩) ∧ w' = w := Any.strconv_Itoa_small Tryz.lays171 i hi w
open Go.RowKit Go.Lib in
open Go.RowKit Go.Lib in
open Go.RowKit Go.Lib in
open Go.RowKit Go.Lib in
def Tryz.lays219_ren : Go.Shelf.Ren := ⟨fun | 219 => 302 | 217 => 338 | 225 => 306 | 224 => 305 | 267 => 339 | 266 => 351 | 314 => 352 | n => n, fun | 9 => 9 | 3 => 3 | 4 => 4 | 5 => 5 | 46 => 185 | 146 => 337 | 51 => 243 | n => n, fun | 1 => 0 | n => n⟩
theorem Tryz.lays219 : Go.Proofs.Lays.n219 Tryz.prog Tryz.lays219_ren := {
  mixed := by kernel_rfl
  f217 := Tryz.func338.trans (congrArg some (by kernel_rfl))
  f219 := Tryz.func302.trans (congrArg some (by kernel_rfl))
  f224 := Tryz.func305.trans (congrArg some (by kernel_rfl))
  f225 := Tryz.func306.trans (congrArg some (by kernel_rfl))
  f266 := Tryz.func351.trans (congrArg some (by kernel_rfl))
  f267 := Tryz.func339.trans (congrArg some (by kernel_rfl))
  f314 := Tryz.func352.trans (congrArg some (by kernel_rfl))
  t3 := Tryz.underlying3
  a3 := Tryz.isAgg3
  z3 := Tryz.sizeOf3
  v3 := Tryz.zeroValue3
  t4 := Tryz.underlying4
  a4 := Tryz.isAgg4
  z4 := Tryz.sizeOf4
  v4 := Tryz.zeroValue4
  t5 := Tryz.underlying5
  a5 := Tryz.isAgg5
  z5 := Tryz.sizeOf5
  v5 := Tryz.zeroValue5
  t9 := Tryz.underlying9
  a9 := Tryz.isAgg9
  z9 := Tryz.sizeOf9
  v9 := Tryz.zeroValue9
  t46 := Tryz.underlying185
  a46 := Tryz.isAgg185
  z46 := Tryz.sizeOf185
  v46 := Tryz.zeroValue185
  t51 := Tryz.underlying243
  a51 := Tryz.isAgg243
  z51 := Tryz.sizeOf243
  v51 := Tryz.zeroValue243
  t146 := Tryz.underlying337
  a146 := Tryz.isAgg337
  z146 := Tryz.sizeOf337
  v146 := Tryz.zeroValue337
  g1 := by kernel_rfl }
open Go.RowKit Go.Lib in
/-- internal/stringslite.Index (what strings.Index calls) AT A substr OF ONE BYTE c: IT RETURNS 'Lib.indexByte s c'; the world is as it was. (LAID: no walk: one application.) -/
theorem Tryz.stringslite_Index_one (s : ByteArray) (c : UInt8) (w : World) :
    Calls Tryz.prog 302 #[.string s, .string ⟨#[c]⟩] w fun e w' => e = .returned (.int .i64 (Lib.indexByte s.data.toList c)) ∧ w' = w := Any.stringslite_Index_one Tryz.lays219 s c w
open Go.RowKit Go.Lib in
open Go.RowKit Go.Lib in
open Go.RowKit Go.Lib in
open Go.RowKit Go.Lib in
open Go.RowKit Go.Lib in
open Go.RowKit Go.Lib in
open Go.RowKit Go.Lib in
open Go.RowKit Go.Lib in
open Go.RowKit Go.Lib in
open Go.RowKit Go.Lib in
open Go.RowKit Go.Lib in
open Go.RowKit Go.Lib in
open Go.RowKit Go.Lib in
open Go.RowKit Go.Lib in
open Go.RowKit Go.Lib in
open Go.RowKit Go.Lib in
open Go.RowKit Go.Lib in
open Go.RowKit Go.Lib in
open Go.RowKit Go.Lib in
open Go.RowKit Go.Lib in
open Go.RowKit Go.Lib in
open Go.RowKit Go.Lib in
open Go.RowKit Go.Lib in
open Go.RowKit Go.Lib in
open Go.RowKit Go.Lib in
open Go.RowKit Go.Lib in
open Go.RowKit Go.Lib in
open Go.RowKit Go.Lib in
open Go.RowKit Go.Lib in
open Go.RowKit Go.Lib in
open Go.RowKit Go.Lib in
open Go.RowKit Go.Lib in
open Go.RowKit Go.Lib in
open Go.RowKit Go.Lib in
open Go.RowKit Go.Lib in
open Go.RowKit Go.Lib in
open Go.RowKit Go.Lib in
open Go.RowKit Go.Lib in
open Go.RowKit Go.Lib in
open Go.RowKit Go.Lib in
open Go.RowKit Go.Lib in
open Go.Lib in
open Go.Lib in
def Tryz.lays107_ren : Go.Shelf.Ren := ⟨fun | 107 => 148 | 108 => 222 | n => n, fun | 28 => 27 | 3 => 3 | 4 => 4 | 0 => 0 | n => n, fun | n => n⟩
theorem Tryz.lays107 : Go.Proofs.Lays.n107 Tryz.prog Tryz.lays107_ren := {
  mixed := by kernel_rfl
  f107 := Tryz.func148.trans (congrArg some (by kernel_rfl))
  f108 := Tryz.func222.trans (congrArg some (by kernel_rfl))
  t0 := Tryz.underlying0
  a0 := Tryz.isAgg0
  z0 := Tryz.sizeOf0
  v0 := Tryz.zeroValue0
  t3 := Tryz.underlying3
  a3 := Tryz.isAgg3
  z3 := Tryz.sizeOf3
  v3 := Tryz.zeroValue3
  t4 := Tryz.underlying4
  a4 := Tryz.isAgg4
  z4 := Tryz.sizeOf4
  v4 := Tryz.zeroValue4
  t28 := Tryz.underlying27
  a28 := Tryz.isAgg27
  z28 := Tryz.sizeOf27
  v28 := Tryz.zeroValue27 }
open Go.Lib in
/-- slices.Contains at []int: "Contains reports whether v is present in s.": IT RETURNS 'elements.contains v'; the world is as it was. ITS CALLEE slices.Index IS MET BY ITS OWN CONTRACT OFF THE SHELF (lay that first): no loop is walked here. (LAID: no walk: one application.) -/
theorem Tryz.slices_Contains_int (b off n c : Nat) (zs : List Int) (x : Int) (w : World) (hz : n ≤ zs.length) (hbig : n ≤ 9223372036854775807) (hc : ∀ j, j < zs.length → w.cell? ⟨b, off + j, none⟩ = some (.int .i64 (zs.getD j 0))) :
    Calls Tryz.prog 148 #[.slice (some ⟨b, off, none⟩) n c, .int .i64 x] w fun e w' => e = .returned (.bool ((zs.take n).contains x)) ∧ w' = w := Any.slices_Contains_int Tryz.lays107 b off n c zs x w hz hbig hc
open Go.Lib in
/-- The same at a slice of length 0, a nil one too. (LAID: no walk: one application.) -/
theorem Tryz.slices_Contains_int_empty (a : Option Addr) (c : Nat) (x : Int) (w : World) :
    Calls Tryz.prog 148 #[.slice a 0 c, .int .i64 x] w fun e w' => e = .returned (.bool false) ∧ w' = w := Any.slices_Contains_int_empty Tryz.lays107 a c x w
open Go.RowKit Go.Lib in
open Go.RowKit Go.Lib in
def Tryz.laysNm215_ren : Go.Shelf.Ren := ⟨fun | 15 => 146 | n => n, fun | 22 => 27 | 3 => 3 | 4 => 4 | n => n, fun | n => n⟩
theorem Tryz.laysNm215 : Go.Proofs.Lays2.n15 Tryz.prog Tryz.laysNm215_ren := {
  mixed := by kernel_rfl
  f15 := Tryz.func146.trans (congrArg some (by kernel_rfl))
  t3 := Tryz.underlying3
  a3 := Tryz.isAgg3
  z3 := Tryz.sizeOf3
  v3 := Tryz.zeroValue3
  t4 := Tryz.underlying4
  a4 := Tryz.isAgg4
  z4 := Tryz.sizeOf4
  v4 := Tryz.zeroValue4
  t22 := Tryz.underlying27
  a22 := Tryz.isAgg27
  z22 := Tryz.sizeOf27
  v22 := Tryz.zeroValue27
  i3 := by kernel_rfl }
open Go.RowKit Go.Lib in
/-- slices.Clone at []int: "Clone returns a copy of the slice. The elements are copied using assignment, so this is a shallow clone. The result may have additional unused capacity. The result preserves the nilness of s.": OF A SLICE THAT IS NOT nil IT RETURNS A SLICE THAT IS NOT nil, OF THE SAME ELEMENTS, IN MEMORY OF THE CALL's OWN: in the how-to's words (6f): 'w'.ownsRow B e 1 v' n cells': v' begins at the head of a row among the blocks from B on (B: the heap's size at the call), not frozen, whose first cells are the elements · 'Below B w w'': below B all is as it was. The capacity is whatever the run-time gives. 'zs': what the cells behind the slice's address hold; 'zs.take n': its elements. (LAID: no walk: one application.) -/
theorem Tryz.slices_Clone_int (b off n c : Nat) (zs : List Int) (w : World) (hz : n ≤ zs.length) (hbig : n * 8 ≤ 140737488355328) (hc : ∀ j, j < zs.length → w.cell? ⟨b, off + j, none⟩ = some (.int .i64 (zs.getD j 0))) :
    Calls Tryz.prog 146 #[.slice (some ⟨b, off, none⟩) n c] w fun e w' => ∃ v', e = .returned v' ∧ w'.ownsRow w.heap.size 3 1 v' n ((zs.take n).map (Value.int .i64)) ∧ v' ≠ .slice none 0 0 ∧ Below w.heap.size w w' := Any.slices_Clone_int Tryz.laysNm215 b off n c zs w hz hbig hc
open Go.RowKit Go.Lib in
/-- The same at nil: nil comes back; the world is as it was. (LAID: no walk: one application.) -/
theorem Tryz.slices_Clone_int_nil (n c : Nat) (w : World) :
    Calls Tryz.prog 146 #[.slice none n c] w fun e w' => e = .returned (.slice none 0 0) ∧ w' = w := Any.slices_Clone_int_nil Tryz.laysNm215 n c w
open Go.RowKit Go.Lib in
/-- The same at a slice of length 0 that is not nil, WHATEVER ITS ADDRESS (no cell is asked for): a slice that is not nil and owns nothing comes back. (LAID: no walk: one application.) -/
theorem Tryz.slices_Clone_int_zero (a : Addr) (c : Nat) (w : World) :
    Calls Tryz.prog 146 #[.slice (some a) 0 c] w fun e w' => ∃ v', e = .returned v' ∧ w'.ownsRow w.heap.size 3 1 v' 0 [] ∧ v' ≠ .slice none 0 0 ∧ Below w.heap.size w w' := Any.slices_Clone_int_zero Tryz.laysNm215 a c w
end Go.Proofs
namespace Go.Proofs.YtageielcdebjlaaGreatDoor
open Go.RowKit

/-- The builder in block b holds the bytes l; its row lies from block B on. -/
structure Bld (b B : Nat) (l : List UInt8) (w : World) : Prop where
  lt : b < B
  ex : ∃ p v, (p = .pointer none ∨ p = .pointer (some ⟨b, 0, none⟩)) ∧ w.heap[b]? = some (.cells #[p, v] 142 (0, 0)) ∧ w.ownsRow B 5 1 v l.length (Lib.byteCells l)

/-- Below B all is as it was, but for block b. -/
structure But (b B : Nat) (w w' : World) : Prop where
  os : w'.os = w.os
  tape : w'.tape = w.tape
  output : w'.output = w.output
  size : w.heap.size ≤ w'.heap.size
  block : ∀ k, k < B → k ≠ b → w'.heap[k]? = w.heap[k]?

theorem But.refl (b B : Nat) (w : World) : But b B w w := ⟨rfl, rfl, rfl, Nat.le_refl _, fun _ _ _ => rfl⟩
theorem But.trans {b B : Nat} {w1 w2 w3 : World} (h : But b B w1 w2) (k : But b B w2 w3) : But b B w1 w3 :=
  ⟨k.os.trans h.os, k.tape.trans h.tape, k.output.trans h.output, Nat.le_trans h.size k.size, fun i hi hb => (k.block i hi hb).trans (h.block i hi hb)⟩
theorem But.below {b B B' : Nat} {w w' : World} (h : But b B w w') (h1 : B' ≤ b) (h2 : B' ≤ B) : Below B' w w' :=
  ⟨h.os, h.tape, h.output, h.size, fun k hk => h.block k (by omega) (by omega)⟩
theorem But.of_below {b B : Nat} {w w' : World} (h : Below B w w') : But b B w w' := ⟨h.os, h.tape, h.output, h.size, fun k hk _ => h.block k hk⟩
theorem But.cell {b B : Nat} {w w' : World} (h : But b B w w') {p : Addr} (h1 : p.block < B) (h2 : p.block ≠ b) : w'.cell? p = w.cell? p := World.cell?_of_block (w := w) (h.block p.block h1 h2)

/-- A builder stays one where its block and its row are as they were. -/
theorem Bld.kept {b B : Nat} {l : List UInt8} {w w' : World} (h : Bld b B l w) (hw : Below w.heap.size w w') : Bld b B l w' := by
  obtain ⟨p, v, hp, hb, hown⟩ := h.ex
  refine ⟨h.lt, p, v, hp, (hw.block b (Array.getElem?_eq_some_iff.1 hb).1).trans hb, hown.1, ?_⟩
  rcases hown.2 with h1 | ⟨g, cap, cur, r1, r2, r3, r4⟩
  · exact .inl h1
  · exact .inr ⟨g, cap, cur, r1, r2, (hw.block g (Array.getElem?_eq_some_iff.1 r3).1).trans r3, r4⟩

theorem infoByte : (Tryz.prog.info? 5).map (fun i => (i.zero, i.size, i.bytes)) = some (some (.int .u8 0), 1, 1) := by kernel_rfl

theorem ownsRow_setCell_out {w : World} {B : Nat} {v : Value} {n : Nat} {xs : List Value} {b j : Nat} (h : w.ownsRow B 5 1 v n xs) (hb : b < B) (u : Value) : (w.setCell ⟨b, j, none⟩ u).ownsRow B 5 1 v n xs :=
  ownsRow_setCell_below h (a := ⟨b, j, none⟩) hb u

/-- A new row laid into the builder. -/
theorem Bld.put {b B : Nat} {l : List UInt8} {w : World} {v v' : Value} (h1 : b < B) (hb : w.heap[b]? = some (.cells #[.pointer (some ⟨b, 0, none⟩), v] 142 (0, 0))) (hown : w.ownsRow B 5 1 v' l.length (Lib.byteCells l)) :
    Bld b B l (w.setCell ⟨b, 1, none⟩ v') :=
  ⟨h1, _, v', .inr rfl, by simp [World.setCell, Array.getElem?_modify, hb], ownsRow_setCell_out hown h1 _⟩

end Go.Proofs.YtageielcdebjlaaGreatDoor
namespace Tt

/-! ### Lines -/

def Clean (l : List UInt8) : Prop := ∀ c ∈ l, c ≠ 13 ∧ c ≠ 10
instance (l : List UInt8) : Decidable (Clean l) := by unfold Clean; infer_instance

/-! ### Split at the ends -/
open Go.Lib

/-! ### Folding -/

end Tt
-- Esc
namespace Go.Proofs.YtageielcdebjlaaGreatDoor
open Go.RowKit

/-- '[]byte(s)': a new block that holds the bytes. -/
theorem bytes_of (s : ByteArray) (w : World) : ∃ cap W', (convert 9 76 (.string s)).run Tryz.prog w = .ok (.slice (some ⟨w.heap.size, 0, none⟩) s.size cap) W' ∧ Below w.heap.size w W' ∧ w.heap.size + 1 ≤ W'.heap.size ∧
    ∀ j c, s.data.toList[j]? = some c → W'.cell? ⟨w.heap.size, j, none⟩ = some (.int .u8 (c.toNat : Int)) := by
  refine ⟨_, _, run_bytes_of_string w 9 76 5 s Tryz.underlying9 Tryz.underlying76 Tryz.underlying5, ⟨rfl, rfl, rfl, by simp, fun k hk => ?_⟩, by simp, fun j c hj => ?_⟩
  · exact Below.heap_alloc w.drew _ k hk
  · have hnew : ∀ (w : World) (o : Obj), (w.alloc o).heap[w.heap.size]? = some o := fun w o => heap_alloc_new w o
    have h2 := hnew w.drew (.cells (bytesRow s (grownCap w s.size 0 5)) 5 ((bytesRow s (grownCap w s.size 0 5)).size, (bytesRow s (grownCap w s.size 0 5)).size + 1))
    have h3 : w.drew.heap.size = w.heap.size := rfl
    rw [h3] at h2
    rw [World.cell?]
    simp only [h2]
    have hj' : j < s.data.size := by have := (List.getElem?_eq_some_iff.1 hj).1; simpa using this
    have : s.data[j]? = some c := by rw [← Array.getElem?_toList]; exact hj
    have hj2 : j < s.size := hj'
    have h4 := (Array.getElem?_eq_some_iff.1 this).2
    simp [bytesRow, Array.getElem?_append, hj2]
    rw [h4]

end Go.Proofs.YtageielcdebjlaaGreatDoor

-- Unesc
namespace Go.Proofs.YtageielcdebjlaaGreatDoor
open Go.RowKit

theorem byte_eq (c : UInt8) (m : Int) (u : UInt8) (hu : (u.toNat : Int) = m) (h : c = u) : ((c.toNat : Int) == m) = true := by rw [h, hu]; exact beq_self_eq_true _
theorem byte_ne (c : UInt8) (m : Int) (u : UInt8) (hu : (u.toNat : Int) = m) (h : ¬ c = u) : ((c.toNat : Int) == m) = false := by
  rw [beq_eq_false_iff_ne]; intro e; exact h (UInt8.toNat_inj.1 (by omega))

theorem drop_cons (l : List UInt8) (k : Nat) (c : UInt8) (h : l[k]? = some c) : l.drop k = c :: l.drop (k + 1) := by
  obtain ⟨h1, h2⟩ := List.getElem?_eq_some_iff.1 h
  rw [List.drop_eq_getElem_cons h1, h2]

end Go.Proofs.YtageielcdebjlaaGreatDoor

-- Codes
namespace Tt

/-- A byte that may stand in a code. -/
def alnum (c : UInt8) : Bool := (48 ≤ c && c ≤ 57) || (65 ≤ c && c ≤ 90) || (97 ≤ c && c ≤ 122)
def sign (c : UInt8) : Bool := c == 95 || c == 45
def codeTail (l : List UInt8) : Bool := l.all fun c => alnum c || sign c
/-- Is a text a code? -/
def code (l : List UInt8) : Bool := match l with
  | [] => false
  | c :: r => decide (l.length ≤ 16) && alnum c && codeTail r
end Tt
namespace Go.Proofs.YtageielcdebjlaaGreatDoor
open Go.RowKit

def digitB (c : UInt8) : Bool := 48 ≤ c && c ≤ 57
def letterB (c : UInt8) : Bool := (65 ≤ c && c ≤ 90) || (97 ≤ c && c ≤ 122)

theorem u8_le (c : UInt8) (k : Nat) (hk : k < 256) : decide ((k : Int) ≤ (c.toNat : Int)) = decide (k.toUInt8 ≤ c) := by
  have : (k.toUInt8).toNat = k := by simp; omega
  rw [Bool.eq_iff_iff, decide_eq_true_iff, decide_eq_true_iff, UInt8.le_iff_toNat_le, this]; omega
theorem u8_ge (c : UInt8) (k : Nat) (hk : k < 256) : decide ((c.toNat : Int) ≤ (k : Int)) = decide (c ≤ k.toUInt8) := by
  have : (k.toUInt8).toNat = k := by simp; omega
  rw [Bool.eq_iff_iff, decide_eq_true_iff, decide_eq_true_iff, UInt8.le_iff_toNat_le, this]; omega

set_option maxHeartbeats 1000000 in
theorem digit_any (n : Int) (c : UInt8) (hn : n = c.toNat) (w : World) : Calls Tryz.prog 164 #[.int .u8 n] w fun e w' => e = .returned (.bool (digitB c)) ∧ w' = w := by
  have h1 := u8_le c 48 (by omega)
  have h2 := u8_ge c 57 (by omega)
  rw [← hn] at h1 h2
  have hd : digitB c = (decide ((48 : Int) ≤ n) && decide (n ≤ (57 : Int))) := by
    rw [show (48 : Int) = ((48 : Nat) : Int) from rfl, show (57 : Int) = ((57 : Nat) : Int) from rfl, h1, h2]; rfl
  have HD := Lib.hid hd; clear hd h1 h2 hn; by_cases a : (48 : Int) ≤ n
  · by_cases b : n ≤ (57 : Int)
    · have HE := Lib.hid (show digitB c = true by rw [HD.out]; simp [a, b])
      go_enter Tryz.func164, Tryz.ntmps164
      go_wp2
      go_ret; rw [HE.out]; exact ⟨rfl, rfl⟩
    · have HE := Lib.hid (show digitB c = false by rw [HD.out]; simp; omega)
      go_enter Tryz.func164, Tryz.ntmps164
      go_wp2
      go_ret; rw [HE.out]; exact ⟨rfl, rfl⟩
  · have HE := Lib.hid (show digitB c = false by rw [HD.out]; simp; omega)
    go_enter Tryz.func164, Tryz.ntmps164
    go_wp2
    go_ret; rw [HE.out]; exact ⟨rfl, rfl⟩

set_option maxHeartbeats 1000000 in
theorem letter_any (n : Int) (c : UInt8) (hn : n = c.toNat) (w : World) : Calls Tryz.prog 165 #[.int .u8 n] w fun e w' => e = .returned (.bool (letterB c)) ∧ w' = w := by
  have h1 := u8_le c 65 (by omega)
  have h2 := u8_ge c 90 (by omega)
  have h3 := u8_le c 97 (by omega)
  have h4 := u8_ge c 122 (by omega)
  rw [← hn] at h1 h2 h3 h4
  have hd : letterB c = ((decide ((65 : Int) ≤ n) && decide (n ≤ (90 : Int))) || (decide ((97 : Int) ≤ n) && decide (n ≤ (122 : Int)))) := by
    rw [show (65 : Int) = ((65 : Nat) : Int) from rfl, show (90 : Int) = ((90 : Nat) : Int) from rfl, show (97 : Int) = ((97 : Nat) : Int) from rfl, show (122 : Int) = ((122 : Nat) : Int) from rfl, h1, h2, h3, h4]; rfl
  have HD := Lib.hid hd; clear hd h1 h2 h3 h4 hn; have key : (n < 65) ∨ (65 ≤ n ∧ n ≤ 90) ∨ (90 < n ∧ n < 97) ∨ (97 ≤ n ∧ n ≤ 122) ∨ (122 < n) := by omega
  rcases key with a | ⟨a, b⟩ | ⟨a, b⟩ | ⟨a, b⟩ | a
  · have HE := Lib.hid (show letterB c = false by rw [HD.out]; simp; omega)
    go_enter Tryz.func165, Tryz.ntmps165
    go_wp2
    go_ret; rw [HE.out]; exact ⟨rfl, rfl⟩
  · have HE := Lib.hid (show letterB c = true by rw [HD.out]; simp; omega)
    go_enter Tryz.func165, Tryz.ntmps165
    go_wp2
    go_ret; rw [HE.out]; exact ⟨rfl, rfl⟩
  · have HE := Lib.hid (show letterB c = false by rw [HD.out]; simp; omega)
    have f1 : decide (n ≤ 90) = false := decide_eq_false (by omega)
    go_enter Tryz.func165, Tryz.ntmps165
    go_wp2
    go_ret; rw [HE.out]; exact ⟨rfl, rfl⟩
  · have HE := Lib.hid (show letterB c = true by rw [HD.out]; simp; omega)
    go_enter Tryz.func165, Tryz.ntmps165
    go_wp2
    go_ret; rw [HE.out]; exact ⟨rfl, rfl⟩
  · have HE := Lib.hid (show letterB c = false by rw [HD.out]; simp; omega)
    have f1 : decide (n ≤ 90) = false := decide_eq_false (by omega)
    have f2 : decide (n ≤ 122) = false := decide_eq_false (by omega)
    go_enter Tryz.func165, Tryz.ntmps165
    go_wp2
    go_ret; rw [HE.out]; exact ⟨rfl, rfl⟩

theorem alnum_eq (c : UInt8) : Tt.alnum c = (digitB c || letterB c) := by unfold Tt.alnum digitB letterB; rw [Bool.or_assoc]

/-- The bytes of a text from place k on are fit for a code. -/
def codeFrom (l : List UInt8) (k : Nat) : Bool := if k = 0 then (match l with | [] => true | c :: r => Tt.alnum c && Tt.codeTail r) else Tt.codeTail (l.drop k)

theorem codeFrom_end (l : List UInt8) (k : Nat) (h : l.length ≤ k) : codeFrom l k = true := by
  unfold codeFrom
  split
  · rename_i hk
    subst hk; cases l with
    | nil => rfl
    | cons a t => simp at h
  · rw [List.drop_eq_nil_of_le h]; rfl

theorem codeFrom_step (l : List UInt8) (k : Nat) (c : UInt8) (h : l[k]? = some c) : codeFrom l k = ((Tt.alnum c || (decide (0 < k) && Tt.sign c)) && codeFrom l (k + 1)) := by
  have hd := drop_cons l k c h; unfold codeFrom
  rw [if_neg (show ¬ k + 1 = 0 by omega)]
  by_cases hk : k = 0
  · subst hk; rw [if_pos rfl]
    cases l with
    | nil => simp at h
    | cons a t => simp at h; subst h; simp
  · rw [if_neg hk, hd]
    have : decide (0 < k) = true := decide_eq_true (by omega)
    rw [this]; simp [Tt.codeTail]

theorem code_eq (l : List UInt8) : Tt.code l = (decide (1 ≤ l.length) && decide (l.length ≤ 16) && codeFrom l 0) := by
  cases l with
  | nil => rfl
  | cons c r => simp [Tt.code, codeFrom, Bool.and_assoc]

theorem ret_bool {a b : Bool} (h : a = b) : Ending.returned (.bool a) = .returned (.bool b) := by rw [h]

set_option maxHeartbeats 4000000 in
set_option maxRecDepth 100000 in
theorem code_any (s : ByteArray) (w : World) : Calls Tryz.prog 94 #[.string s] w fun e w' => e = .returned (.bool (Tt.code s.data.toList)) ∧ w' = w := by
  have HL := Lib.hid (Lib.size_eq s)
  by_cases h1 : 1 ≤ s.size ∧ s.size ≤ 16
  · obtain ⟨h1, h2⟩ := h1; have HC := Lib.hid (show Tt.code s.data.toList = codeFrom s.data.toList 0 by
      rw [code_eq, ← HL.out, decide_eq_true h1, decide_eq_true h2]; rfl)
    have q1 : decide ((s.size : Int) < 1) = false := decide_eq_false (by omega)
    have q2 : decide ((16 : Int) < (s.size : Int)) = false := decide_eq_false (by omega)
    go_enter Tryz.func94, Tryz.ntmps94
    go_wp2_with fail
    go_loop [15] (fun i => ∃ k : Nat, k ≤ s.size ∧ i = .int .i64 k ∧ Hid (codeFrom s.data.toList 0 = codeFrom s.data.toList k)) (fun i => s.size - (intOf i).toNat)
    case atStart => exact ⟨0, Nat.zero_le _, rfl, rfl⟩
    case round =>
      obtain ⟨k, hk, rfl, HK⟩ := hrel; by_cases hlt : k < s.size
      · obtain ⟨c, hx⟩ : ∃ c : UInt8, s[k]'hlt = c := ⟨_, rfl⟩
        have hcl := Lib.data_getElem? s k hlt
        rw [hx] at hcl
        have HS := Lib.hid (codeFrom_step _ _ _ hcl)
        have HA := Lib.hid (alnum_eq c)
        have hsg : (¬ ((0 : Int) < (k : Int)) ∧ Hid ((decide (0 < k) && Tt.sign c) = false)) ∨ (((0 : Int) < (k : Int)) ∧ ((c.toNat : Int) == 95) = true ∧ Hid ((decide (0 < k) && Tt.sign c) = true)) ∨
            (((0 : Int) < (k : Int)) ∧ ((c.toNat : Int) == 95) = false ∧ ((c.toNat : Int) == 45) = true ∧ Hid ((decide (0 < k) && Tt.sign c) = true)) ∨
            (((0 : Int) < (k : Int)) ∧ ((c.toNat : Int) == 95) = false ∧ ((c.toNat : Int) == 45) = false ∧ Hid ((decide (0 < k) && Tt.sign c) = false)) := by
          by_cases hk0 : 0 < k
          · have hki : (0 : Int) < (k : Int) := by omega
            by_cases e : c = 95
            · exact .inr (.inl ⟨hki, byte_eq c 95 95 rfl e, by show _ = _; rw [decide_eq_true hk0, e]; rfl⟩)
            · by_cases e2 : c = 45
              · exact .inr (.inr (.inl ⟨hki, byte_ne c 95 95 rfl e, byte_eq c 45 45 rfl e2, by show _ = _; rw [decide_eq_true hk0, e2]; rfl⟩))
              · refine .inr (.inr (.inr ⟨hki, byte_ne c 95 95 rfl e, byte_ne c 45 45 rfl e2, ?_⟩))
                show _ = _
                unfold Tt.sign
                rw [beq_eq_false_iff_ne.2 e, beq_eq_false_iff_ne.2 e2]; simp
          · exact .inl ⟨by omega, by show _ = _; rw [decide_eq_false hk0]; rfl⟩
        have hdl : (digitB c = true ∧ Hid (Tt.alnum c = true)) ∨ (digitB c = false ∧ letterB c = true ∧ Hid (Tt.alnum c = true)) ∨ (digitB c = false ∧ letterB c = false ∧ Hid (Tt.alnum c = false)) := by
          cases e1 : digitB c
          · cases e2 : letterB c
            · exact .inr (.inr ⟨rfl, rfl, by show _ = _; rw [HA.out, e1, e2]; rfl⟩)
            · exact .inr (.inl ⟨rfl, rfl, by show _ = _; rw [HA.out, e1, e2]; rfl⟩)
          · exact .inl ⟨rfl, by show _ = _; rw [HA.out, e1]; rfl⟩
        clear hcl HA; rcases hsg with ⟨g1, GS⟩ | ⟨g1, g2, GS⟩ | ⟨g1, g2, g3, GS⟩ | ⟨g1, g2, g3, GS⟩
        all_goals
          rcases hdl with ⟨d1, DS⟩ | ⟨d1, d2, DS⟩ | ⟨d1, d2, DS⟩
          all_goals
            go_wp2_with (first | (go_at_call 164; refine (digit_any _ c rfl _).mono ?_; rintro e w' ⟨rfl, rfl⟩) | (go_at_call 165; refine (letter_any _ c rfl _).mono ?_; rintro e w' ⟨rfl, rfl⟩))
            first
              | (go_ret
                 exact ⟨ret_bool (by rw [HC.out, HK.out, HS.out, GS.out, DS.out]; rfl), rfl⟩)
              | (go_round
                 case rel => exact ⟨k + 1, by omega, by go_num, by show _ = _; rw [HK.out, HS.out, GS.out, DS.out]; simp⟩
                 case measure => simp [intOf]; omega)
      · go_wp2_with fail
        go_ret; exact ⟨ret_bool (by rw [HC.out, HK.out, codeFrom_end _ _ (by rw [← HL.out]; omega)]), rfl⟩
  · have HC := Lib.hid (show Tt.code s.data.toList = false by
      rw [code_eq, ← HL.out]
      by_cases e : 1 ≤ s.size
      · rw [decide_eq_false (show ¬ s.size ≤ 16 by omega)]; simp
      · rw [decide_eq_false e]; rfl)
    by_cases e : 1 ≤ s.size
    · have q1 : decide ((s.size : Int) < 1) = false := decide_eq_false (by omega)
      have q2 : decide ((16 : Int) < (s.size : Int)) = true := decide_eq_true (by omega)
      clear h1; go_enter Tryz.func94, Tryz.ntmps94
      go_wp2_with fail
      go_ret; exact ⟨ret_bool (by rw [HC.out]), rfl⟩
    · have q1 : decide ((s.size : Int) < 1) = true := decide_eq_true (by omega)
      clear h1; go_enter Tryz.func94, Tryz.ntmps94
      go_wp2_with fail
      go_ret; exact ⟨ret_bool (by rw [HC.out]), rfl⟩
end Go.Proofs.YtageielcdebjlaaGreatDoor
