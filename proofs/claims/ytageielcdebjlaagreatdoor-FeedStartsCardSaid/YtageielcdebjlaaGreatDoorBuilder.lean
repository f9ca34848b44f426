/- strings.Builder over this program: contracts of copyCheck, WriteByte, WriteString, String, Len with a frame that keeps all blocks below a bound but the builder's own. -/
import Derived.Test.YtageielcdebjlaaGreatDoorDice
import Derived.Lib.Builder
import Derived.Lib.AppendStr
import Derived.Lib.Walk
import Derived.Laws.Externs
import Derived.Test.YtageielcdebjlaaGreatDoorShelf
namespace Go.Proofs.YtageielcdebjlaaGreatDoor
open Go.RowKit

/-- The builder in block b holds the bytes l; its row lies from block B on. -/
structure Bld (b B : Nat) (l : List UInt8) (w : World) : Prop where
  lt : b < B
  ex : ∃ p v, (p = .pointer none ∨ p = .pointer (some ⟨b, 0, none⟩)) ∧ w.heap[b]? = some (.cells #[p, v] 142 (0, 0)) ∧ w.ownsRow B 5 1 v l.length (Lib.byteCells l)

/-- Below B all is as it was, but for block b. -/
structure But (b B : Nat) (w w' : World) : Prop where
  os : w'.os = w.os
  tape : w'.tape = w.tape
  output : w'.output = w.output
  size : w.heap.size ≤ w'.heap.size
  block : ∀ k, k < B → k ≠ b → w'.heap[k]? = w.heap[k]?

theorem But.refl (b B : Nat) (w : World) : But b B w w := ⟨rfl, rfl, rfl, Nat.le_refl _, fun _ _ _ => rfl⟩
theorem But.trans {b B : Nat} {w1 w2 w3 : World} (h : But b B w1 w2) (k : But b B w2 w3) : But b B w1 w3 :=
  ⟨k.os.trans h.os, k.tape.trans h.tape, k.output.trans h.output, Nat.le_trans h.size k.size, fun i hi hb => (k.block i hi hb).trans (h.block i hi hb)⟩
theorem But.below {b B B' : Nat} {w w' : World} (h : But b B w w') (h1 : B' ≤ b) (h2 : B' ≤ B) : Below B' w w' :=
  ⟨h.os, h.tape, h.output, h.size, fun k hk => h.block k (by omega) (by omega)⟩
theorem But.of_below {b B : Nat} {w w' : World} (h : Below B w w') : But b B w w' := ⟨h.os, h.tape, h.output, h.size, fun k hk _ => h.block k hk⟩
theorem But.cell {b B : Nat} {w w' : World} (h : But b B w w') {p : Addr} (h1 : p.block < B) (h2 : p.block ≠ b) : w'.cell? p = w.cell? p := World.cell?_of_block (w := w) (h.block p.block h1 h2)

theorem Bld.fresh (w : World) (B : Nat) (h1 : w.heap.size < B) : Bld w.heap.size B [] (w.alloc (.cells #[.pointer none, .slice none 0 0] 142)) :=
  ⟨h1, _, _, .inl rfl, heap_alloc_new w _, World.ownsRow_nil _ _ _ _⟩

/-- A builder stays one where its block and its row are as they were. -/
theorem Bld.kept {b B : Nat} {l : List UInt8} {w w' : World} (h : Bld b B l w) (hw : Below w.heap.size w w') : Bld b B l w' := by
  obtain ⟨p, v, hp, hb, hown⟩ := h.ex
  refine ⟨h.lt, p, v, hp, (hw.block b (Array.getElem?_eq_some_iff.1 hb).1).trans hb, hown.1, ?_⟩
  rcases hown.2 with h1 | ⟨g, cap, cur, r1, r2, r3, r4⟩
  · exact .inl h1
  · exact .inr ⟨g, cap, cur, r1, r2, (hw.block g (Array.getElem?_eq_some_iff.1 r3).1).trans r3, r4⟩

theorem Bld.blt {b B : Nat} {l : List UInt8} {w : World} (h : Bld b B l w) : b < w.heap.size := by
  obtain ⟨p, v, hp, hb, hown⟩ := h.ex
  exact (Array.getElem?_eq_some_iff.1 hb).1

theorem sizeBuilder : (Tryz.prog.info? 142).map (·.size) = some 2 := by kernel_rfl
theorem liesBuilder : liesAt Tryz.prog Tryz.prog.depth 142 (2 / Tryz.prog.cellsOf 142) 0 142 1 = true := by kernel_rfl
theorem infoByte : (Tryz.prog.info? 5).map (fun i => (i.zero, i.size, i.bytes)) = some (some (.int .u8 0), 1, 1) := by kernel_rfl

set_option maxHeartbeats 1000000 in
set_option maxRecDepth 100000 in
theorem copyCheck_used (b : Nat) (w : World) (h0 : w.cell? ⟨b, 0, none⟩ = some (.pointer (some ⟨b, 0, none⟩))) :
    Calls Tryz.prog 160 #[.pointer (some ⟨b, 0, none⟩)] w fun e w' => e = .returned (.tuple #[]) ∧ w' = w := by
  obtain ⟨j, hj, _⟩ := Option.map_eq_some_iff.1 sizeBuilder
  go_enter Tryz.func160, Tryz.ntmps160
  go_wp2
  rw [Lib.run_neq_ptr_same w _ Tryz.underlying140 hj]
  go_wp2
  go_end0
  exact ⟨rfl, rfl⟩

set_option maxHeartbeats 1000000 in
set_option maxRecDepth 100000 in
theorem copyCheck_fresh (b : Nat) (w : World) (h0 : w.cell? ⟨b, 0, none⟩ = some (.pointer none)) (hsh : w.shape? b = some (142, 2)) (hfz : w.frozen? ⟨b, 0, none⟩ = false) :
    Calls Tryz.prog 160 #[.pointer (some ⟨b, 0, none⟩)] w fun e w' => e = .returned (.tuple #[]) ∧ w' = w.setCell ⟨b, 0, none⟩ (.pointer (some ⟨b, 0, none⟩)) := by
  obtain ⟨j, hj, hjs⟩ := Option.map_eq_some_iff.1 sizeBuilder
  go_enter Tryz.func160, Tryz.ntmps160
  go_wp2
  rw [Lib.run_to_unsafe w ⟨b, 0, none⟩ Tryz.underlying140 Tryz.underlying253 hj (by rw [hjs]; decide) hsh (Nat.zero_lt_succ 1)]
  simp only [Result.andThen]
  rw [Oper.upon_value]
  go_wp2
  rw [run_callFunc_extern Tryz.func239 (by kernel_rfl) (by kernel_rfl) (by kernel_rfl) (e := Extern.AbiNoEscape.same) (by kernel_rfl)]
  rw [Lib.run_noEscape]
  simp only [Result.andThen]
  rw [Oper.upon_value]
  go_wp2
  rw [Lib.run_from_unsafe w ⟨b, 0, none⟩ Tryz.underlying253 Tryz.underlying140 hj hsh liesBuilder]
  simp only [Result.andThen]
  rw [Oper.upon_value]
  go_wp2
  go_end0
  exact ⟨rfl, rfl⟩

theorem ownsRow_setCell_out {w : World} {B : Nat} {v : Value} {n : Nat} {xs : List Value} {b j : Nat} (h : w.ownsRow B 5 1 v n xs) (hb : b < B) (u : Value) : (w.setCell ⟨b, j, none⟩ u).ownsRow B 5 1 v n xs :=
  ownsRow_setCell_below h (a := ⟨b, j, none⟩) hb u

/-- Behind copyCheck the builder's first cell holds its own address. -/
theorem copyCheck_any (b B : Nat) (l : List UInt8) (w : World) (h : Bld b B l w) :
    Calls Tryz.prog 160 #[.pointer (some ⟨b, 0, none⟩)] w fun e w' => e = .returned (.tuple #[]) ∧ (∃ v, w'.heap[b]? = some (.cells #[.pointer (some ⟨b, 0, none⟩), v] 142 (0, 0)) ∧ w'.ownsRow B 5 1 v l.length (Lib.byteCells l)) ∧ But b B w w' := by
  obtain ⟨p, v, hp, hb, hown⟩ := h.ex
  rcases hp with rfl | rfl
  · refine (copyCheck_fresh b w (by simp [World.cell?, hb]) (by simp [World.shape?, hb]) (by simp [World.frozen?, hb])).mono ?_
    rintro e w' ⟨rfl, rfl⟩
    refine ⟨rfl, ⟨v, by simp [World.setCell, Array.getElem?_modify, hb], ownsRow_setCell_out hown h.lt _⟩, ⟨rfl, rfl, rfl, by simp [World.setCell], fun k _ hk => Below.heap_setCell _ _ _ _ hk⟩⟩
  · refine (copyCheck_used b w (by simp [World.cell?, hb])).mono ?_
    rintro e w' ⟨rfl, rfl⟩
    exact ⟨rfl, ⟨v, hb, hown⟩, But.refl _ _ _⟩

/-- A new row laid into the builder. -/
theorem Bld.put {b B : Nat} {l : List UInt8} {w : World} {v v' : Value} (h1 : b < B) (hb : w.heap[b]? = some (.cells #[.pointer (some ⟨b, 0, none⟩), v] 142 (0, 0))) (hown : w.ownsRow B 5 1 v' l.length (Lib.byteCells l)) :
    Bld b B l (w.setCell ⟨b, 1, none⟩ v') :=
  ⟨h1, _, v', .inr rfl, by simp [World.setCell, Array.getElem?_modify, hb], ownsRow_setCell_out hown h1 _⟩

set_option maxHeartbeats 2000000 in
set_option maxRecDepth 100000 in
theorem writeByte_any (b B : Nat) (l : List UInt8) (n : Int) (c : UInt8) (hn : n = c.toNat) (w : World) (h : Bld b B l w) (hlen : l.length + 1 ≤ 140737488355328) (hB : B ≤ w.heap.size) :
    Calls Tryz.prog 88 #[.pointer (some ⟨b, 0, none⟩), .int .u8 n] w fun e w' => e = .returned .nilIface ∧ Bld b B (l ++ [c]) w' ∧ But b B w w' := by
  subst hn
  obtain ⟨i0, hi, hz0, hz1, hz2⟩ := info_parts infoByte
  have hbB := h.lt
  go_enter Tryz.func88, Tryz.ntmps88
  go_wp2_with fail
  refine (copyCheck_any b B l _ h).mono ?_
  rintro e w1 ⟨rfl, ⟨v, hbk, hown⟩, hb1⟩
  have hs1 := hb1.size
  have c0 : w1.cell? ⟨b, 0, none⟩ = some (.pointer (some ⟨b, 0, none⟩)) := by rw [Lib.cell_of_heap hbk]; rfl
  have c1 : w1.cell? ⟨b, 1, none⟩ = some v := by rw [Lib.cell_of_heap hbk]; rfl
  go_wp2_with (at_builtin; refine wpList_append_own _ rfl _ _ 76 rfl B 5 i0 (.int .u8 0) 1 1 Tryz.underlying76 hi hz0 hz1 hz2 rfl (by decide) _ _ _ rfl (hown.alloc _) ⟨w1.heap.size, 0, none⟩ 1 1 [.int .u8 c.toNat] rfl rfl ?c1 ?c2 ?c3 ?c4 ?c5 ?_)
  case c1 =>
    intro j u hj
    match j, hj with
    | 0, hj => simp at hj; subst hj; simp [Addr.add]
  case c2 => intro u hu; simp at hu; subst hu; rfl
  case c3 => unfold maxLen; omega
  case c4 => omega
  case c5 => simp; omega
  intro v' w2 hown' hgrow _
  have hlt : b < w1.heap.size := (Array.getElem?_eq_some_iff.1 hbk).1
  have hne : some b ≠ v.ownBlock := by
    intro e; have := (hown.lt b e.symm).1; omega
  have hb2 : w2.heap[b]? = some (.cells #[.pointer (some ⟨b, 0, none⟩), v] 142 (0, 0)) := by
    rw [hgrow.block b (by simp; omega) hne, Lib.alloc_old w1 _ b hlt]
    exact hbk
  have d1 : w2.cell? ⟨b, 1, none⟩ = some v := by rw [Lib.cell_of_heap hb2]; rfl
  have f1 : w2.frozen? ⟨b, 1, none⟩ = false := Lib.frozen_of_heap hb2 1
  obtain ⟨g, cap, rfl⟩ : ∃ g cap, v' = .slice (some ⟨g, 0, none⟩) (l.length + 1) cap := by
    rcases hown'.2 with ⟨_, h0⟩ | ⟨g, cap, cur, hv, _⟩
    · omega
    · exact ⟨g, cap, hv⟩
  go_wp2
  go_ret
  refine ⟨rfl, Bld.put hbB hb2 (by simpa [Lib.byteCells] using hown'), ?_⟩
  refine hb1.trans ⟨hgrow.os, hgrow.tape, hgrow.output, by have := hgrow.size; simp [World.setCell] at this ⊢; omega, fun k hk hkb => ?_⟩
  rw [Below.heap_setCell _ _ _ _ hkb, hgrow.block k (by simp; omega) (by intro e; have := (hown.lt k e.symm).1; omega), Lib.alloc_old w1 _ k (by omega)]

set_option maxHeartbeats 2000000 in
set_option maxRecDepth 100000 in
theorem writeString_any (b B : Nat) (l : List UInt8) (s : ByteArray) (w : World) (h : Bld b B l w) (hlen : l.length + s.size ≤ 140737488355328) (hB : B ≤ w.heap.size) :
    Calls Tryz.prog 93 #[.pointer (some ⟨b, 0, none⟩), .string s] w fun e w' => e = .returned (.tuple #[.int .i64 s.size, .nilIface]) ∧ Bld b B (l ++ s.data.toList) w' ∧ But b B w w' := by
  obtain ⟨i0, hi, hz0, hz1, hz2⟩ := info_parts infoByte
  have hbB := h.lt
  go_enter Tryz.func93, Tryz.ntmps93
  go_wp2_with fail
  refine (copyCheck_any b B l _ h).mono ?_
  rintro e w1 ⟨rfl, ⟨v, hbk, hown⟩, hb1⟩
  have hs1 := hb1.size
  have c0 : w1.cell? ⟨b, 0, none⟩ = some (.pointer (some ⟨b, 0, none⟩)) := by rw [Lib.cell_of_heap hbk]; rfl
  have c1 : w1.cell? ⟨b, 1, none⟩ = some v := by rw [Lib.cell_of_heap hbk]; rfl
  go_wp2_with (at_builtin; refine Lib.wpList_append_own_string _ rfl _ _ 76 9 rfl B 5 i0 Tryz.underlying76 Tryz.underlying9 hi hz0 hz1 hz2 _ _ _ rfl hown s rfl ?c3 ?c4 ?c5 ?_)
  case c3 => unfold maxLen; omega
  case c4 => omega
  case c5 => omega
  intro v' w2 hown' hgrow _
  have hlt : b < w1.heap.size := (Array.getElem?_eq_some_iff.1 hbk).1
  have hne : some b ≠ v.ownBlock := by
    intro e; have := (hown.lt b e.symm).1; omega
  have hb2 : w2.heap[b]? = some (.cells #[.pointer (some ⟨b, 0, none⟩), v] 142 (0, 0)) := by
    rw [hgrow.block b hlt hne]
    exact hbk
  have d1 : w2.cell? ⟨b, 1, none⟩ = some v := by rw [Lib.cell_of_heap hb2]; rfl
  have f1 : w2.frozen? ⟨b, 1, none⟩ = false := Lib.frozen_of_heap hb2 1
  obtain ⟨ao, n', cap, rfl⟩ : ∃ ao n' cap, v' = .slice ao n' cap := by
    rcases hown'.2 with ⟨hv, h0⟩ | ⟨g, cap, cur, hv, _⟩
    · exact ⟨_, _, _, hv⟩
    · exact ⟨_, _, _, hv⟩
  go_wp2
  go_ret2
  refine ⟨rfl, Bld.put hbB hb2 ?_, ?_⟩
  · have e : s.size = s.data.toList.length := Lib.size_eq s
    have := hown'
    rw [e] at this
    simpa [Lib.byteCells, Lib.strCells] using this
  refine hb1.trans ⟨hgrow.os, hgrow.tape, hgrow.output, by have := hgrow.size; simp [World.setCell] at this ⊢; omega, fun k hk hkb => ?_⟩
  rw [Below.heap_setCell _ _ _ _ hkb, hgrow.block k (by omega) (by intro e; have := (hown.lt k e.symm).1; omega)]

theorem Bld.is {b B : Nat} {l : List UInt8} {w : World} (h : Bld b B l w) : Lib.IsBuilder 142 5 b b (Lib.byteCells l) w := by
  obtain ⟨p, v, hp, hb, hown⟩ := h.ex
  have hlt := h.lt
  have hown' : w.ownsRow b 5 1 v l.length (Lib.byteCells l) := by
    refine ⟨hown.1, ?_⟩
    rcases hown.2 with h1 | ⟨g, cap, cur, r1, r2, r3⟩
    · exact .inl h1
    · exact .inr ⟨g, cap, cur, r1, by omega, r3⟩
  have hne : v.ownBlock ≠ some b := fun e => by have := (hown.lt b e).1; omega
  rcases hp with rfl | rfl
  · exact .inl ⟨Nat.le_refl _, v, hb, by rw [Lib.byteCells_length]; exact hown', hne⟩
  · exact .inr ⟨Nat.le_refl _, v, hb, by rw [Lib.byteCells_length]; exact hown', hne⟩

theorem string_any (b B : Nat) (l : List UInt8) (w : World) (h : Bld b B l w) :
    Calls Tryz.prog 89 #[.pointer (some ⟨b, 0, none⟩)] w fun e w' => e = .returned (.string ⟨l.toArray⟩) ∧ Below b w w' :=
  Tryz.Builder_String_any b b l w h.is (Nat.le_of_lt h.blt)

theorem len_any (b B : Nat) (l : List UInt8) (w : World) (h : Bld b B l w) :
    Calls Tryz.prog 101 #[.pointer (some ⟨b, 0, none⟩)] w fun e w' => e = .returned (.int .i64 l.length) ∧ w' = w := by
  have := Tryz.Builder_Len b b (Lib.byteCells l) w h.is
  rw [Lib.byteCells_length] at this
  exact this

end Go.Proofs.YtageielcdebjlaaGreatDoor
