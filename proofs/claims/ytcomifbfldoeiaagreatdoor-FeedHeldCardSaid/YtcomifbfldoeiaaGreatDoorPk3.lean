/- strings.Builder over this program: contracts of copyCheck, WriteByte, WriteString, String, Len with a frame that keeps all blocks below a bound but the builder's own. Plain facts on texts of a calendar: how a text is escaped and read back, how a line is folded, what a text is unfolded to. No program in sight. Condition: none. -/
import Derived.Test.YtcomifbfldoeiaaGreatDoorPk1
import Derived.Lib.Builder
import Derived.Lib.AppendStr
import Derived.Lib.Walk
import Derived.Laws.Externs
import Derived.Test.YtcomifbfldoeiaaGreatDoorShelf
import Derived.Lib.Split
namespace Go.Proofs.YtcomifbfldoeiaaGreatDoor
open Go.RowKit

/-- The builder in block b holds the bytes l; its row lies from block B on. -/
structure Bld (b B : Nat) (l : List UInt8) (w : World) : Prop where
  lt : b < B
  ex : ∃ p v, (p = .pointer none ∨ p = .pointer (some ⟨b, 0, none⟩)) ∧ w.heap[b]? = some (.cells #[p, v] 149 (0, 0)) ∧ w.ownsRow B 5 1 v l.length (Lib.byteCells l)

/-- Below B all is as it was, but for block b. -/
structure But (b B : Nat) (w w' : World) : Prop where
  os : w'.os = w.os
  tape : w'.tape = w.tape
  output : w'.output = w.output
  size : w.heap.size ≤ w'.heap.size
  block : ∀ k, k < B → k ≠ b → w'.heap[k]? = w.heap[k]?

theorem But.refl (b B : Nat) (w : World) : But b B w w := ⟨rfl, rfl, rfl, Nat.le_refl _, fun _ _ _ => rfl⟩
theorem But.trans {b B : Nat} {w1 w2 w3 : World} (h : But b B w1 w2) (k : But b B w2 w3) : But b B w1 w3 :=
  ⟨k.os.trans h.os, k.tape.trans h.tape, k.output.trans h.output, Nat.le_trans h.size k.size, fun i hi hb => (k.block i hi hb).trans (h.block i hi hb)⟩
theorem But.below {b B B' : Nat} {w w' : World} (h : But b B w w') (h1 : B' ≤ b) (h2 : B' ≤ B) : Below B' w w' :=
  ⟨h.os, h.tape, h.output, h.size, fun k hk => h.block k (by omega) (by omega)⟩
theorem But.of_below {b B : Nat} {w w' : World} (h : Below B w w') : But b B w w' := ⟨h.os, h.tape, h.output, h.size, fun k hk _ => h.block k hk⟩
theorem But.cell {b B : Nat} {w w' : World} (h : But b B w w') {p : Addr} (h1 : p.block < B) (h2 : p.block ≠ b) : w'.cell? p = w.cell? p := World.cell?_of_block (w := w) (h.block p.block h1 h2)

theorem Bld.fresh (w : World) (B : Nat) (h1 : w.heap.size < B) : Bld w.heap.size B [] (w.alloc (.cells #[.pointer none, .slice none 0 0] 149)) :=
  ⟨h1, _, _, .inl rfl, heap_alloc_new w _, World.ownsRow_nil _ _ _ _⟩

/-- A builder stays one where its block and its row are as they were. -/
theorem Bld.kept {b B : Nat} {l : List UInt8} {w w' : World} (h : Bld b B l w) (hw : Below w.heap.size w w') : Bld b B l w' := by
  obtain ⟨p, v, hp, hb, hown⟩ := h.ex
  refine ⟨h.lt, p, v, hp, (hw.block b (Array.getElem?_eq_some_iff.1 hb).1).trans hb, hown.1, ?_⟩
  rcases hown.2 with h1 | ⟨g, cap, cur, r1, r2, r3, r4⟩
  · exact .inl h1
  · exact .inr ⟨g, cap, cur, r1, r2, (hw.block g (Array.getElem?_eq_some_iff.1 r3).1).trans r3, r4⟩

theorem Bld.blt {b B : Nat} {l : List UInt8} {w : World} (h : Bld b B l w) : b < w.heap.size := by
  obtain ⟨p, v, hp, hb, hown⟩ := h.ex
  exact (Array.getElem?_eq_some_iff.1 hb).1

theorem sizeBuilder : (Tryz.prog.info? 149).map (·.size) = some 2 := by kernel_rfl
theorem liesBuilder : liesAt Tryz.prog Tryz.prog.depth 149 (2 / Tryz.prog.cellsOf 149) 0 149 1 = true := by kernel_rfl
theorem infoByte : (Tryz.prog.info? 5).map (fun i => (i.zero, i.size, i.bytes)) = some (some (.int .u8 0), 1, 1) := by kernel_rfl

set_option maxHeartbeats 1000000 in
set_option maxRecDepth 100000 in
theorem copyCheck_used (b : Nat) (w : World) (h0 : w.cell? ⟨b, 0, none⟩ = some (.pointer (some ⟨b, 0, none⟩))) :
    Calls Tryz.prog 134 #[.pointer (some ⟨b, 0, none⟩)] w fun e w' => e = .returned (.tuple #[]) ∧ w' = w := by
  obtain ⟨j, hj, _⟩ := Option.map_eq_some_iff.1 sizeBuilder
  go_enter Tryz.func134, Tryz.ntmps134
  go_wp2
  rw [Lib.run_neq_ptr_same w _ Tryz.underlying147 hj]
  go_wp2
  go_end0
  exact ⟨rfl, rfl⟩

set_option maxHeartbeats 1000000 in
set_option maxRecDepth 100000 in
theorem copyCheck_fresh (b : Nat) (w : World) (h0 : w.cell? ⟨b, 0, none⟩ = some (.pointer none)) (hsh : w.shape? b = some (149, 2)) (hfz : w.frozen? ⟨b, 0, none⟩ = false) :
    Calls Tryz.prog 134 #[.pointer (some ⟨b, 0, none⟩)] w fun e w' => e = .returned (.tuple #[]) ∧ w' = w.setCell ⟨b, 0, none⟩ (.pointer (some ⟨b, 0, none⟩)) := by
  obtain ⟨j, hj, hjs⟩ := Option.map_eq_some_iff.1 sizeBuilder
  go_enter Tryz.func134, Tryz.ntmps134
  go_wp2
  rw [Lib.run_to_unsafe w ⟨b, 0, none⟩ Tryz.underlying147 Tryz.underlying253 hj (by rw [hjs]; decide) hsh (Nat.zero_lt_succ 1)]
  simp only [Result.andThen]
  rw [Oper.upon_value]
  go_wp2
  rw [run_callFunc_extern Tryz.func197 (by kernel_rfl) (by kernel_rfl) (by kernel_rfl) (e := Extern.AbiNoEscape.same) (by kernel_rfl)]
  rw [Lib.run_noEscape]
  simp only [Result.andThen]
  rw [Oper.upon_value]
  go_wp2
  rw [Lib.run_from_unsafe w ⟨b, 0, none⟩ Tryz.underlying253 Tryz.underlying147 hj hsh liesBuilder]
  simp only [Result.andThen]
  rw [Oper.upon_value]
  go_wp2
  go_end0
  exact ⟨rfl, rfl⟩

theorem ownsRow_setCell_out {w : World} {B : Nat} {v : Value} {n : Nat} {xs : List Value} {b j : Nat} (h : w.ownsRow B 5 1 v n xs) (hb : b < B) (u : Value) : (w.setCell ⟨b, j, none⟩ u).ownsRow B 5 1 v n xs :=
  ownsRow_setCell_below h (a := ⟨b, j, none⟩) hb u

/-- Behind copyCheck the builder's first cell holds its own address. -/
theorem copyCheck_any (b B : Nat) (l : List UInt8) (w : World) (h : Bld b B l w) :
    Calls Tryz.prog 134 #[.pointer (some ⟨b, 0, none⟩)] w fun e w' => e = .returned (.tuple #[]) ∧ (∃ v, w'.heap[b]? = some (.cells #[.pointer (some ⟨b, 0, none⟩), v] 149 (0, 0)) ∧ w'.ownsRow B 5 1 v l.length (Lib.byteCells l)) ∧ But b B w w' := by
  obtain ⟨p, v, hp, hb, hown⟩ := h.ex
  rcases hp with rfl | rfl
  · refine (copyCheck_fresh b w (by simp [World.cell?, hb]) (by simp [World.shape?, hb]) (by simp [World.frozen?, hb])).mono ?_
    rintro e w' ⟨rfl, rfl⟩; refine ⟨rfl, ⟨v, by simp [World.setCell, Array.getElem?_modify, hb], ownsRow_setCell_out hown h.lt _⟩, ⟨rfl, rfl, rfl, by simp [World.setCell], fun k _ hk => Below.heap_setCell _ _ _ _ hk⟩⟩
  · refine (copyCheck_used b w (by simp [World.cell?, hb])).mono ?_
    rintro e w' ⟨rfl, rfl⟩; exact ⟨rfl, ⟨v, hb, hown⟩, But.refl _ _ _⟩

/-- A new row laid into the builder. -/
theorem Bld.put {b B : Nat} {l : List UInt8} {w : World} {v v' : Value} (h1 : b < B) (hb : w.heap[b]? = some (.cells #[.pointer (some ⟨b, 0, none⟩), v] 149 (0, 0))) (hown : w.ownsRow B 5 1 v' l.length (Lib.byteCells l)) :
    Bld b B l (w.setCell ⟨b, 1, none⟩ v') :=
  ⟨h1, _, v', .inr rfl, by simp [World.setCell, Array.getElem?_modify, hb], ownsRow_setCell_out hown h1 _⟩

set_option maxHeartbeats 2000000 in
set_option maxRecDepth 100000 in
theorem writeByte_any (b B : Nat) (l : List UInt8) (n : Int) (c : UInt8) (hn : n = c.toNat) (w : World) (h : Bld b B l w) (hlen : l.length + 1 ≤ 140737488355328) (hB : B ≤ w.heap.size) :
    Calls Tryz.prog 135 #[.pointer (some ⟨b, 0, none⟩), .int .u8 n] w fun e w' => e = .returned .nilIface ∧ Bld b B (l ++ [c]) w' ∧ But b B w w' := by
  subst hn; obtain ⟨i0, hi, hz0, hz1, hz2⟩ := info_parts infoByte
  have hbB := h.lt; go_enter Tryz.func135, Tryz.ntmps135
  go_wp2_with fail
  refine (copyCheck_any b B l _ h).mono ?_
  rintro e w1 ⟨rfl, ⟨v, hbk, hown⟩, hb1⟩
  have hs1 := hb1.size; have c0 : w1.cell? ⟨b, 0, none⟩ = some (.pointer (some ⟨b, 0, none⟩)) := by rw [Lib.cell_of_heap hbk]; rfl
  have c1 : w1.cell? ⟨b, 1, none⟩ = some v := by rw [Lib.cell_of_heap hbk]; rfl
  go_wp2_with (at_builtin; refine wpList_append_own _ rfl _ _ 145 rfl B 5 i0 (.int .u8 0) 1 1 Tryz.underlying145 hi hz0 hz1 hz2 rfl (by decide) _ _ _ rfl (hown.alloc _) ⟨w1.heap.size, 0, none⟩ 1 1 [.int .u8 c.toNat] rfl rfl ?c1 ?c2 ?c3 ?c4 ?c5 ?_)
  case c1 =>
    intro j u hj; match j, hj with
    | 0, hj => simp at hj; subst hj; simp [Addr.add]
  case c2 => intro u hu; simp at hu; subst hu; rfl
  case c3 => unfold maxLen; omega
  case c4 => omega
  case c5 => simp; omega
  intro v' w2 hown' hgrow _; have hlt : b < w1.heap.size := (Array.getElem?_eq_some_iff.1 hbk).1
  have hne : some b ≠ v.ownBlock := by
    intro e; have := (hown.lt b e.symm).1; omega
  have hb2 : w2.heap[b]? = some (.cells #[.pointer (some ⟨b, 0, none⟩), v] 149 (0, 0)) := by
    rw [hgrow.block b (by simp; omega) hne, Lib.alloc_old w1 _ b hlt]
    exact hbk
  have d1 : w2.cell? ⟨b, 1, none⟩ = some v := by rw [Lib.cell_of_heap hb2]; rfl
  have f1 : w2.frozen? ⟨b, 1, none⟩ = false := Lib.frozen_of_heap hb2 1
  obtain ⟨g, cap, rfl⟩ : ∃ g cap, v' = .slice (some ⟨g, 0, none⟩) (l.length + 1) cap := by
    rcases hown'.2 with ⟨_, h0⟩ | ⟨g, cap, cur, hv, _⟩
    · omega
    · exact ⟨g, cap, hv⟩
  go_wp2
  go_ret; refine ⟨rfl, Bld.put hbB hb2 (by simpa [Lib.byteCells] using hown'), ?_⟩
  refine hb1.trans ⟨hgrow.os, hgrow.tape, hgrow.output, by have := hgrow.size; simp [World.setCell] at this ⊢; omega, fun k hk hkb => ?_⟩
  rw [Below.heap_setCell _ _ _ _ hkb, hgrow.block k (by simp; omega) (by intro e; have := (hown.lt k e.symm).1; omega), Lib.alloc_old w1 _ k (by omega)]

set_option maxHeartbeats 2000000 in
set_option maxRecDepth 100000 in
theorem writeString_any (b B : Nat) (l : List UInt8) (s : ByteArray) (w : World) (h : Bld b B l w) (hlen : l.length + s.size ≤ 140737488355328) (hB : B ≤ w.heap.size) :
    Calls Tryz.prog 71 #[.pointer (some ⟨b, 0, none⟩), .string s] w fun e w' => e = .returned (.tuple #[.int .i64 s.size, .nilIface]) ∧ Bld b B (l ++ s.data.toList) w' ∧ But b B w w' := by
  obtain ⟨i0, hi, hz0, hz1, hz2⟩ := info_parts infoByte
  have hbB := h.lt; go_enter Tryz.func71, Tryz.ntmps71
  go_wp2_with fail
  refine (copyCheck_any b B l _ h).mono ?_
  rintro e w1 ⟨rfl, ⟨v, hbk, hown⟩, hb1⟩
  have hs1 := hb1.size; have c0 : w1.cell? ⟨b, 0, none⟩ = some (.pointer (some ⟨b, 0, none⟩)) := by rw [Lib.cell_of_heap hbk]; rfl
  have c1 : w1.cell? ⟨b, 1, none⟩ = some v := by rw [Lib.cell_of_heap hbk]; rfl
  go_wp2_with (at_builtin; refine Lib.wpList_append_own_string _ rfl _ _ 145 9 rfl B 5 i0 Tryz.underlying145 Tryz.underlying9 hi hz0 hz1 hz2 _ _ _ rfl hown s rfl ?c3 ?c4 ?c5 ?_)
  case c3 => unfold maxLen; omega
  case c4 => omega
  case c5 => omega
  intro v' w2 hown' hgrow _; have hlt : b < w1.heap.size := (Array.getElem?_eq_some_iff.1 hbk).1
  have hne : some b ≠ v.ownBlock := by
    intro e; have := (hown.lt b e.symm).1; omega
  have hb2 : w2.heap[b]? = some (.cells #[.pointer (some ⟨b, 0, none⟩), v] 149 (0, 0)) := by
    rw [hgrow.block b hlt hne]
    exact hbk
  have d1 : w2.cell? ⟨b, 1, none⟩ = some v := by rw [Lib.cell_of_heap hb2]; rfl
  have f1 : w2.frozen? ⟨b, 1, none⟩ = false := Lib.frozen_of_heap hb2 1
  obtain ⟨ao, n', cap, rfl⟩ : ∃ ao n' cap, v' = .slice ao n' cap := by
    rcases hown'.2 with ⟨hv, h0⟩ | ⟨g, cap, cur, hv, _⟩
    · exact ⟨_, _, _, hv⟩
    · exact ⟨_, _, _, hv⟩
  go_wp2
  go_ret2
  refine ⟨rfl, Bld.put hbB hb2 ?_, ?_⟩
  · have e : s.size = s.data.toList.length := Lib.size_eq s
    have := hown'
    rw [e] at this
    simpa [Lib.byteCells, Lib.strCells] using this
  refine hb1.trans ⟨hgrow.os, hgrow.tape, hgrow.output, by have := hgrow.size; simp [World.setCell] at this ⊢; omega, fun k hk hkb => ?_⟩
  rw [Below.heap_setCell _ _ _ _ hkb, hgrow.block k (by omega) (by intro e; have := (hown.lt k e.symm).1; omega)]

theorem Bld.is {b B : Nat} {l : List UInt8} {w : World} (h : Bld b B l w) : Lib.IsBuilder 149 5 b b (Lib.byteCells l) w := by
  obtain ⟨p, v, hp, hb, hown⟩ := h.ex
  have hlt := h.lt; have hown' : w.ownsRow b 5 1 v l.length (Lib.byteCells l) := by
    refine ⟨hown.1, ?_⟩
    rcases hown.2 with h1 | ⟨g, cap, cur, r1, r2, r3⟩
    · exact .inl h1
    · exact .inr ⟨g, cap, cur, r1, by omega, r3⟩
  have hne : v.ownBlock ≠ some b := fun e => by have := (hown.lt b e).1; omega
  rcases hp with rfl | rfl
  · exact .inl ⟨Nat.le_refl _, v, hb, by rw [Lib.byteCells_length]; exact hown', hne⟩
  · exact .inr ⟨Nat.le_refl _, v, hb, by rw [Lib.byteCells_length]; exact hown', hne⟩

theorem string_any (b B : Nat) (l : List UInt8) (w : World) (h : Bld b B l w) :
    Calls Tryz.prog 74 #[.pointer (some ⟨b, 0, none⟩)] w fun e w' => e = .returned (.string ⟨l.toArray⟩) ∧ Below b w w' :=
  Tryz.Builder_String_any b b l w h.is (Nat.le_of_lt h.blt)

theorem len_any (b B : Nat) (l : List UInt8) (w : World) (h : Bld b B l w) :
    Calls Tryz.prog 73 #[.pointer (some ⟨b, 0, none⟩)] w fun e w' => e = .returned (.int .i64 l.length) ∧ w' = w := by
  have := Tryz.Builder_Len b b (Lib.byteCells l) w h.is
  rw [Lib.byteCells_length] at this
  exact this

end Go.Proofs.YtcomifbfldoeiaaGreatDoor
namespace Tt

/-- One byte, escaped. -/
def escB (c : UInt8) : List UInt8 := if c = 92 ∨ c = 59 ∨ c = 44 then [92, c] else if c = 10 then [92, 110] else [c]
def esc (l : List UInt8) : List UInt8 := l.flatMap escB

theorem esc_cons (c : UInt8) (r : List UInt8) : esc (c :: r) = escB c ++ esc r := by simp [esc]

theorem escB_length (c : UInt8) : (escB c).length ≤ 2 := by
  unfold escB; split
  · simp
  · split <;> simp

theorem esc_length (l : List UInt8) : (esc l).length ≤ 2 * l.length := by
  induction l with
  | nil => simp [esc]
  | cons c r ih => rw [esc_cons, List.length_append]; have := escB_length c; simp; omega

/-! ### Lines -/

/-- The lines of a text, cut behind each end; 'cur': what has been read of the line. -/
def chopGo : List UInt8 → List UInt8 → Option (List (List UInt8))
  | cur, [] => if cur = [] then some [] else none
  | cur, c :: r =>
    if c = 10 then none
    else if c = 13 then
      match r with
      | [] => none
      | d :: r' => if d = 10 then (chopGo [] r').map (cur :: ·) else none
    else chopGo (cur ++ [c]) r

def begins (l : List UInt8) : Bool := match l with
  | [] => false
  | c :: _ => c == 32 || c == 9

/-- Lines that continue the one before are joined to it. -/
def joinL : List (List UInt8) → List (List UInt8) → Option (List (List UInt8))
  | out, [] => some out
  | out, l :: r => if begins l then (if out = [] then none else joinL (out.dropLast ++ [out.getLastD [] ++ l.tail]) r) else joinL (out ++ [l]) r

def unf (text : List UInt8) : Option (List (List UInt8)) := if text = [] then none else (chopGo [] text).bind (joinL [])

def Clean (l : List UInt8) : Prop := ∀ c ∈ l, c ≠ 13 ∧ c ≠ 10
instance (l : List UInt8) : Decidable (Clean l) := by unfold Clean; infer_instance

def crlf (l : List UInt8) : List UInt8 := l ++ [13, 10]

theorem chopGo_nil (cur : List UInt8) : chopGo cur [] = if cur = [] then some [] else none := by rw [chopGo.eq_def]
theorem chopGo_feed (cur r : List UInt8) : chopGo cur (10 :: r) = none := by rw [chopGo.eq_def]; rfl
theorem chopGo_cut (cur : List UInt8) : chopGo cur [13] = none := by rw [chopGo.eq_def]; rfl
theorem chopGo_end (cur r : List UInt8) : chopGo cur (13 :: 10 :: r) = (chopGo [] r).map (cur :: ·) := by rw [chopGo.eq_def]; simp
theorem chopGo_lone (cur r : List UInt8) (d : UInt8) (h : d ≠ 10) : chopGo cur (13 :: d :: r) = none := by rw [chopGo.eq_def]; simp [h]
theorem chopGo_plain (cur r : List UInt8) (c : UInt8) (h : c ≠ 13) (h2 : c ≠ 10) : chopGo cur (c :: r) = chopGo (cur ++ [c]) r := by rw [chopGo.eq_def]; simp [h, h2]

theorem chopGo_clean (l : List UInt8) (h : Clean l) : ∀ (cur r : List UInt8), chopGo cur (crlf l ++ r) = (chopGo [] r).map ((cur ++ l) :: ·) := by
  induction l with
  | nil => intro cur r; show chopGo cur (13 :: 10 :: r) = _; rw [chopGo_end]; simp
  | cons c t ih =>
    intro cur r; have hc := h c (by simp)
    show chopGo cur (c :: (crlf t ++ r)) = _
    rw [chopGo_plain _ _ _ hc.1 hc.2, ih (fun x hx => h x (by simp [hx]))]
    simp

theorem chopGo_lines : ∀ (ls : List (List UInt8)), (∀ l ∈ ls, Clean l) → ∀ r, chopGo [] (ls.flatMap crlf ++ r) = (chopGo [] r).map (ls ++ ·)
  | [], _, r => by simp
  | l :: ls, h, r => by
    rw [List.flatMap_cons, List.append_assoc, chopGo_clean l (h l (by simp)), chopGo_lines ls (fun x hx => h x (by simp [hx]))]
    simp [Option.map_map, Function.comp_def]

theorem chopGo_some : ∀ (n : Nat) (t cur : List UInt8) (ls : List (List UInt8)), t.length ≤ n → chopGo cur t = some ls → Clean cur →
    (ls = [] ∧ t = [] ∧ cur = []) ∨ ∃ l rest, ls = (cur ++ l) :: rest ∧ Clean (cur ++ l) ∧ (∀ x ∈ rest, Clean x) ∧ t = crlf l ++ rest.flatMap crlf
  | _, [], cur, ls, _, h, _ => by
    rw [chopGo_nil] at h
    split at h
    · rename_i hc
      exact .inl ⟨by simpa using h.symm, rfl, hc⟩
    · cases h
  | 0, _ :: _, _, _, hn, _, _ => by simp at hn
  | n + 1, c :: r, cur, ls, hn, h, hcl => by
    simp only [List.length_cons] at hn
    by_cases h10 : c = 10
    · subst h10; rw [chopGo_feed] at h; cases h
    · by_cases h13 : c = 13
      · subst h13; cases r with
        | nil => rw [chopGo_cut] at h; cases h
        | cons d r' =>
          by_cases hd : d = 10
          · subst hd; rw [chopGo_end] at h
            obtain ⟨y, hy, rfl⟩ := Option.map_eq_some_iff.1 h
            simp only [List.length_cons] at hn
            rcases chopGo_some n r' [] y (by omega) hy (by simp [Clean]) with ⟨rfl, rfl, _⟩ | ⟨l, rest, rfl, k1, k2, rfl⟩
            · exact .inr ⟨[], [], by simp, by simpa using hcl, by simp, by simp [crlf]⟩
            · refine .inr ⟨[], l :: rest, by simp, by simpa using hcl, ?_, by simp [crlf]⟩
              intro x hx; rcases List.mem_cons.1 hx with rfl | hx
              · simpa using k1
              · exact k2 x hx
          · rw [chopGo_lone _ _ _ hd] at h; cases h
      · have hcl' : Clean (cur ++ [c]) := by
          intro x hx; rcases List.mem_append.1 hx with hx | hx
          · exact hcl x hx
          · simp at hx; subst hx; exact ⟨h13, h10⟩
        rw [chopGo_plain _ _ _ h13 h10] at h
        rcases chopGo_some n r (cur ++ [c]) ls (by omega) h hcl' with ⟨_, _, e⟩ | ⟨l, rest, rfl, k1, k2, rfl⟩
        · simp at e
        · exact .inr ⟨c :: l, rest, by simp, by simpa using k1, k2, by simp [crlf]⟩

theorem chop_iff (t : List UInt8) (ls : List (List UInt8)) : chopGo [] t = some ls ↔ (∀ l ∈ ls, Clean l) ∧ t = ls.flatMap crlf := by
  constructor
  · intro h; rcases chopGo_some t.length t [] ls (Nat.le_refl _) h (by simp [Clean]) with ⟨rfl, rfl, _⟩ | ⟨l, rest, rfl, k1, k2, rfl⟩
    · simp
    · refine ⟨?_, by simp⟩
      intro x hx; rcases List.mem_cons.1 hx with rfl | hx
      · exact k1
      · exact k2 x hx
  · rintro ⟨h, rfl⟩; have := chopGo_lines ls h []
    simpa [chopGo_nil] using this

/-! ### Split at the ends -/
open Go.Lib

theorem occ_clean (l r : List UInt8) (h : Clean l) (j : Nat) (hj : j < l.length) : occAt (l ++ r) [13, 10] j = false := by
  unfold occAt
  rw [List.drop_append_of_le_length (by omega)]
  cases e : l.drop j with
  | nil => simp at e; omega
  | cons c t =>
    have hc : c ∈ l := List.mem_of_mem_drop (i := j) (by rw [e]; simp)
    have := (h c hc).1
    simp [List.isPrefixOf]
    intro e; exact absurd e.symm this

theorem index_clean (l r : List UInt8) (h : Clean l) : index (crlf l ++ r) [13, 10] = l.length := by
  refine index_first (by simp [crlf]) ?_ ?_
  · unfold occAt crlf; simp
  · intro j hj; have := occ_clean l ([13, 10] ++ r) h j hj
    simpa [crlf] using this

theorem index_alone (l : List UInt8) (h : Clean l) : index l [13, 10] = -1 := by
  refine index_none ?_
  intro j hj; by_cases e : j < l.length
  · have := occ_clean l [] h j e
    simpa using this
  · have : j = l.length := by omega
    subst this; simp [occAt]

/-- Lines with ends between them. -/
def between : List (List UInt8) → List UInt8
  | [] => []
  | [l] => l
  | l :: r => crlf l ++ between r

theorem between_cons (l m : List UInt8) (r : List (List UInt8)) : between (l :: m :: r) = crlf l ++ between (m :: r) := rfl

theorem between_crlf : ∀ (ls : List (List UInt8)), ls ≠ [] → between ls ++ [13, 10] = ls.flatMap crlf
  | [], h => absurd rfl h
  | [l], _ => by simp [between, crlf]
  | l :: m :: r, _ => by rw [between_cons, List.append_assoc, between_crlf (m :: r) (by simp)]; simp

theorem split_between : ∀ (ls : List (List UInt8)), ls ≠ [] → (∀ l ∈ ls, Clean l) → split (between ls) [13, 10] = ls
  | [], h, _ => absurd rfl h
  | [l], _, hc => by
    have hi := index_alone l (hc l (by simp))
    unfold split between
    rw [count_miss hi]; rfl
  | l :: m :: r, _, hc => by
    have hi := index_clean l (between (m :: r)) (hc l (by simp))
    have ih := split_between (m :: r) (by simp) (fun x hx => hc x (by simp [hx]))
    rw [between_cons]
    unfold split
    have hd : (crlf l ++ between (m :: r)).drop (l.length + 2) = between (m :: r) := by
      rw [List.drop_append_of_le_length (by simp [crlf])]; simp [crlf]
    rw [count_hit (by simp) hi, show [(13 : UInt8), 10].length = 2 from rfl, hd, Nat.add_comm 1, splitK, if_neg (by rw [hi]; simp), hi]
    unfold split at ih
    rw [show [(13 : UInt8), 10].length = 2 from rfl, Int.toNat_natCast, hd, ih]
    simp [crlf]

theorem split_joins : ∀ (k : Nat) (s : List UInt8), s.length ≤ k → between (split s [13, 10]) = s ∧ split s [13, 10] ≠ []
  | k, s, hk => by
    rcases index_spec s [13, 10] with ⟨hi, _⟩ | ⟨i, hi, hle, hocc, _⟩
    · unfold split
      rw [count_miss hi]
      exact ⟨rfl, by simp [splitK]⟩
    · have hroom : i + 2 ≤ s.length := by
        rcases occAt_room hocc with h | h
        · simpa using h
        · simp at h
      cases k with
      | zero => omega
      | succ k =>
        have ih := split_joins k (s.drop (i + 2)) (by simp; omega)
        have htake : (s.drop i).take 2 = [13, 10] := by
          have := occAt_iff_take s [13, 10] i (by simpa using hroom)
          rw [hocc] at this
          simpa using this.symm
        have he : split s [13, 10] = s.take i :: split (s.drop (i + 2)) [13, 10] := by
          unfold split
          rw [count_hit (by simp) hi, Nat.add_comm 1, splitK, if_neg (by rw [hi]; simp), hi]
          simp
        rw [he]
        refine ⟨?_, by simp⟩
        obtain ⟨m, r, e⟩ : ∃ m r, split (s.drop (i + 2)) [13, 10] = m :: r := by
          cases h : split (s.drop (i + 2)) [13, 10] with
          | nil => exact absurd h ih.2
          | cons m r => exact ⟨m, r, rfl⟩
        have ih1 := ih.1; rw [e] at ih1 ⊢
        rw [between_cons, ih1, crlf, ← htake, List.append_assoc]
        have : s.drop (i + 2) = (s.drop i).drop 2 := by rw [List.drop_drop]
        rw [this, List.take_append_drop, List.take_append_drop]

/-- What a text is unfolded to, by the pieces between the ends. -/
theorem unf_split (text t : List UInt8) (h : text = t ++ [13, 10]) : unf text = if (∀ l ∈ split t [13, 10], Clean l) then joinL [] (split t [13, 10]) else none := by
  have hne : text ≠ [] := by subst h; simp
  have hj := split_joins t.length t (Nat.le_refl _)
  have ht : text = (split t [13, 10]).flatMap crlf := by rw [← between_crlf _ hj.2, hj.1, h]
  unfold unf
  rw [if_neg hne]
  by_cases hc : ∀ l ∈ split t [13, 10], Clean l
  · rw [if_pos hc, (chop_iff text _).2 ⟨hc, ht⟩]; rfl
  · rw [if_neg hc]
    cases hch : chopGo [] text with
    | none => rfl
    | some ls =>
      obtain ⟨k1, k2⟩ := (chop_iff text ls).1 hch
      have hls : ls ≠ [] := by
        intro e; subst e; simp at k2; exact hne k2
      have hb : between ls = t := by
        have e1 : between ls ++ [13, 10] = t ++ [13, 10] := by rw [between_crlf ls hls, ← k2, h]
        exact List.append_cancel_right e1
      exact absurd (by rw [← hb, split_between ls hls k1]; exact k1) hc

theorem unf_no_end (text : List UInt8) (h : hasSuffix text [13, 10] = false) : unf text = none := by
  unfold unf
  split
  · rfl
  · rename_i hne
    cases hch : chopGo [] text with
    | none => rfl
    | some ls =>
      obtain ⟨k1, k2⟩ := (chop_iff text ls).1 hch
      have hls : ls ≠ [] := by
        intro e; subst e; simp at k2; exact hne k2
      rw [← between_crlf ls hls] at k2
      rw [k2] at h
      have : hasSuffix (between ls ++ [13, 10]) [13, 10] = true := by unfold hasSuffix; rw [List.isSuffixOf_iff_suffix]; exact List.suffix_append _ _
      rw [this] at h; cases h

/-! ### Folding -/

def foldGo : Nat → Nat → List UInt8 → List UInt8
  | 0, _, l => l ++ [13, 10]
  | f + 1, n, l => if n < l.length then l.take n ++ [13, 10, 32] ++ foldGo f 74 (l.drop n) else l ++ [13, 10]
def fold (l : List UInt8) : List UInt8 := foldGo l.length 75 l

theorem foldGo_fuel : ∀ (f g n : Nat) (l : List UInt8), 1 ≤ n → l.length ≤ f → l.length ≤ g → foldGo f n l = foldGo g n l
  | 0, 0, _, _, _, _, _ => rfl
  | 0, g + 1, n, l, _, hf, _ => by rw [foldGo, foldGo, if_neg (by omega)]
  | f + 1, 0, n, l, _, _, hg => by rw [foldGo, foldGo, if_neg (by omega)]
  | f + 1, g + 1, n, l, hn, hf, hg => by
    rw [foldGo, foldGo]
    split
    · rw [foldGo_fuel f g 74 (l.drop n) (by omega) (by simp; omega) (by simp; omega)]
    · rfl

theorem foldGo_step (f n : Nat) (l : List UInt8) (hn : 1 ≤ n) (hf : l.length ≤ f) (h : n < l.length) : foldGo f n l = l.take n ++ [13, 10, 32] ++ foldGo (l.drop n).length 74 (l.drop n) := by
  cases f with
  | zero => omega
  | succ f =>
    rw [foldGo, if_pos h]
    rw [foldGo_fuel f (l.drop n).length 74 _ (by omega) (by simp; omega) (Nat.le_refl _)]

theorem foldGo_end (f n : Nat) (l : List UInt8) (h : ¬ n < l.length) : foldGo f n l = l ++ [13, 10] := by
  cases f with
  | zero => rfl
  | succ f => rw [foldGo, if_neg h]

end Tt
