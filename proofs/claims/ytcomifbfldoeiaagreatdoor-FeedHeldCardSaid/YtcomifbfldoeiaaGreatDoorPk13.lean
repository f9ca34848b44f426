/- Events in a row of one's own, what they refer to in rows of its own: laid in, written over. No function of the program in sight. Condition: none. The days of a time in a term: calendar.At, Days, and the reference's. A set of numbers in a map that the call makes (map[int]bool): filled and asked. Dates: the contracts of calendar.Parts, calendar.Day and of the reference's. Numbers as decimal texts: strconv.Itoa, both digits, the reference's digits and decimal at the widths that are used; the text of a date. The reference's parser of rules, in plain words; its number (263). Days told as a series, in plain words; a series in a box whose two lists grow. Dates and rules of any text: the program's recurrence.date and recurrence.Parse: some series without lists, and a code. The reference's series of days: with, weekdays, Exceptions. The reference's series of any ascending days: Of (141). -/
import Derived.Test.YtcomifbfldoeiaaGreatDoorPk11
import Derived.Test.YtcomifbfldoeiaaGreatDoorProg
import Derived.WalkKit
import Derived.Lib.Hide
import Derived.Deep.QuietTactic
import Derived.BigQuiet
import Derived.Deep.RegionLaw
import Derived.Laws.CopyRow
import Derived.Laws.CopyOwn
import Derived.Laws.IdiomCopy
import Derived.Lib.AppendZerosOnto
import Derived.Lib.Overlaps
import Derived.Maps.AppendAt
import Derived.Laws.Externs
import Derived.Laws.NewBlocks
import Derived.Test.YtcomifbfldoeiaaGreatDoorPk12
import Derived.Maps.OwnOps
import Derived.Maps.Views
import Derived.Test.YtcomifbfldoeiaaGreatDoorPk1
import Derived.Test.YtcomifbfldoeiaaGreatDoorPk5
import Derived.Test.YtcomifbfldoeiaaGreatDoorPk8
import Derived.Lib.AppendIntMem
import Derived.Test.YtcomifbfldoeiaaGreatDoorParseAll
import Derived.Test.YtcomifbfldoeiaaGreatDoorDaysAll
import Derived.Test.YtcomifbfldoeiaaGreatDoorPk10
import Derived.Test.YtcomifbfldoeiaaGreatDoorShelf
import Derived.Shelf.Strconv.AtoiAll
import Derived.Deep.RegionWith
namespace Go.Proofs.YtcomifbfldoeiaaGreatDoor
open Go.RowKit

def RefT (lo : Nat) (w : World) (t : Ev × Value × Value) : Prop := EvB t.1 ∧ RowI lo w t.2.1 t.1.days.ex ∧ RowI lo w t.2.2 t.1.days.xt
/-- Events in a row of one's own. -/
structure RowT (lo : Nat) (w : World) (v : Value) (ts : List (Ev × Value × Value)) : Prop where
  row : w.ownsRow lo 104 13 v ts.length (tCells ts)
  ref : ∀ t ∈ ts, RefT lo w t
theorem RefT.s {lo : Nat} {w : World} {t : Ev × Value × Value} (h : RefT lo w t) : RefS w.heap.size w t := by
  obtain ⟨hg, hx, hy⟩ := h; obtain ⟨ax, cx, e1, i1⟩ := hx.ints
  obtain ⟨ay, cy, e2, i2⟩ := hy.ints
  exact ⟨hg, ⟨ax, cx, e1, i1⟩, ⟨ay, cy, e2, i2⟩⟩
theorem RowT.seg {lo : Nat} {w : World} {v : Value} {ts : List (Ev × Value × Value)} (h : RowT lo w v ts) : ∃ ao c, v = .slice ao ts.length c ∧ (ao = none → c = 0) ∧ Seg w.heap.size w ao ts := by
  have hr : ∀ t ∈ ts, RefS w.heap.size w t := fun t ht => (h.ref t ht).s
  rcases h.row.2 with ⟨hv, h0⟩ | ⟨g, cap, cur, hv, r2, r3, r4, r5, _⟩
  · have : ts = [] := List.eq_nil_of_length_eq_zero h0
    subst this; exact ⟨none, 0, hv, fun _ => rfl, Seg.nil _ _ _⟩
  · refine ⟨_, cap, hv, fun e => (by cases e), .inr ⟨g, 0, rfl, (Array.getElem?_eq_some_iff.1 r3).1, fun j u hj => ?_⟩, hr⟩
    have := h.row.cells (g := g) (by rw [hv]; rfl) j u hj
    rw [Addr.add_lit] at this
    exact this
theorem RowT.nil (lo : Nat) (w : World) : RowT lo w (.slice none 0 0) [] := ⟨World.ownsRow_nil _ _ _ _, fun t h => by cases h⟩
theorem RefT.made {lo : Nat} {w w' : World} {t : Ev × Value × Value} (h : RefT lo w t) (hb : Below w.heap.size w w') : RefT lo w' t := ⟨h.1, row_made h.2.1 hb, row_made h.2.2 hb⟩
theorem RowT.made {lo : Nat} {w w' : World} {v : Value} {ts : List (Ev × Value × Value)} (h : RowT lo w v ts) (hb : Below w.heap.size w w') : RowT lo w' v ts := ⟨row_made h.row hb, fun t ht => (h.ref t ht).made hb⟩
theorem RefT.set {lo : Nat} {w : World} {t : Ev × Value × Value} (h : RefT lo w t) {g : Nat} {cs : Array Value} {ty : TypeId} (hg : Blk g cs ty w) (hte : ty ≠ 3) (i : Nat) (u : Value) : RefT lo (w.setCell ⟨g, i, none⟩ u) t := ⟨h.1, row_set h.2.1 hg hte i u, row_set h.2.2 hg hte i u⟩
theorem RefT.grown {lo B n k : Nat} {w w' : World} {t : Ev × Value × Value} {v : Value} {xs : List Value} (h : RefT lo w t) (hown : w.ownsRow B 104 k v n xs) (hg : w.grownBy w' v.ownBlock) : RefT lo w' t :=
  ⟨h.1, World.ownsRow.kept h.2.1 hg (row_apart_ty h.2.1 hown (by decide)), World.ownsRow.kept h.2.2 hg (row_apart_ty h.2.2 hown (by decide))⟩
/-- A row of one's own changed: the blocks below are as they were. -/
theorem below_grownBy {B B' k n : Nat} {w0 w w' : World} {e : TypeId} {v : Value} {xs : List Value} (hb : Below B w0 w) (hown : w.ownsRow B' e k v n xs) (hB : B ≤ B') (hs : B ≤ w.heap.size) (hg : w.grownBy w' v.ownBlock) : Below B w0 w' := by
  refine hb.trans ⟨hg.os, hg.tape, hg.output, hg.size, fun j hj => hg.block j (by omega) (fun he => ?_)⟩
  have := (hown.lt j he.symm).1
  omega

/-- What is seen of one event in a row of one's own. -/
theorem RowT.ev {lo n c g : Nat} {w : World} {ts : List (Ev × Value × Value)} (h : RowT lo w (.slice (some ⟨g, 0, none⟩) n c) ts) (j : Nat) (t : Ev × Value × Value) (ht : ts[j]? = some t) : EvC g (j * 13) t.1 t.2.1 t.2.2 w := by
  have h0 := seg_c (w := w) (b := g) (o := 0) (ts := ts) (fun j u hj => by
    have := h.row.cells (g := g) rfl j u hj
    rw [Addr.add_lit] at this
    exact this) j t ht
  rw [Nat.zero_add] at h0
  exact h0
end Go.Proofs.YtcomifbfldoeiaaGreatDoor
namespace Go.Proofs.YtcomifbfldoeiaaGreatDoor
open Go.RowKit

theorem atB_of {t : Tt.Trm} {k d : Int} (h1 : Tt.trmV t = 0) (h2 : 1 ≤ k ∧ k ≤ t.weeks ∧ 0 ≤ d ∧ d < 7) : Tt.atB t k d = !decide (Tt.atD t k d ∈ t.hols) := by
  unfold Tt.atB; rw [decide_eq_true ⟨h1, h2⟩, Bool.true_and]
theorem atB_no {t : Tt.Trm} {k d : Int} (h : ¬ (Tt.trmV t = 0 ∧ 1 ≤ k ∧ k ≤ t.weeks ∧ 0 ≤ d ∧ d < 7)) : Tt.atB t k d = false := by
  unfold Tt.atB; rw [decide_eq_false h, Bool.false_and]
theorem ret_at {a b : Int} {c d : Bool} (h1 : a = b) (h2 : c = d) : Ending.returned (.tuple #[.int .i64 a, .bool c]) = .returned (.tuple #[.int .i64 b, .bool d]) := by rw [h1, h2]
set_option maxHeartbeats 4000000 in
set_option maxRecDepth 100000 in
theorem at144 (t : Tt.Trm) (ao : Option Addr) (c : Nat) (B : Nat) (k d : Int) (w : World) (hB : B ≤ w.heap.size) (hI : Ints B w ao t.hols) (hn : t.hols.length ≤ 4611686018427387903) : Calls Tryz.prog 86 #[trmVal t (.slice ao t.hols.length c), .int .i64 k, .int .i64 d] w fun e w' => e = .returned (.tuple #[.int .i64 (if Tt.atB t k d = true then Tt.atD t k d else 0), .bool (Tt.atB t k d)]) ∧ Below w.heap.size w w' := by
  obtain ⟨A, hA⟩ : ∃ A, A = Tt.atB t k d := ⟨_, rfl⟩
  rw [← hA]; have HA := Lib.hid hA; clear hA; obtain ⟨V, hV⟩ : ∃ V : Int, V = if A = true then Tt.atD t k d else 0 := ⟨_, rfl⟩
  rw [← hV]; have HV := Lib.hid hV; clear hV; obtain ⟨P, hP⟩ : ∃ P, P = w.heap.size := ⟨_, rfl⟩
  obtain ⟨W, hW⟩ : ∃ W, W = w.alloc (.cells #[.int .i64 t.first, .int .i64 t.weeks, .slice ao t.hols.length c] 94) := ⟨_, rfl⟩
  have HBW := Lib.hid (show Below w.heap.size w W from by rw [hW]; exact below_box w _)
  have HPW := Lib.hid (show Blk P #[.int .i64 t.first, .int .i64 t.weeks, .slice ao t.hols.length c] 94 W from by rw [hW, hP]; exact Blk.new w _ _)
  have HIW := Lib.hid (show Ints B W ao t.hols from hI.below (HBW.out.mono hB))
  have hBW : B ≤ W.heap.size := Nat.le_trans hB HBW.out.size
  have HC1 := Lib.hid (show ∀ X, Below W.heap.size W X → Calls Tryz.prog 79 #[.agg #[.int .i64 t.first, .int .i64 t.weeks, .slice ao t.hols.length c]] X fun e w' => e = .returned (.int .i64 (Tt.trmV t)) ∧ Below X.heap.size X w' from fun X hX => trm125 t ao c B X (Nat.le_trans hBW hX.size) (HIW.out.below (hX.mono hBW)) hn)
  have HC2 := Lib.hid (show ∀ (x : Int) X, Below W.heap.size W X → Calls Tryz.prog 94 #[.agg #[.int .i64 t.first, .int .i64 t.weeks, .slice ao t.hols.length c], .int .i64 x] X fun e w' => e = .returned (.bool (!decide (x ∈ t.hols))) ∧ Below X.heap.size X w' from fun x X hX => free219 t ao c B x X (Nat.le_trans hBW hX.size) (HIW.out.below (hX.mono hBW)) hn)
  unfold trmVal
  clear hI hB hBW hn; have c0 : W.cell? ⟨P, 0, none⟩ = some (.int .i64 t.first) := HPW.out.cell 0
  have c1 : W.cell? ⟨P, 1, none⟩ = some (.int .i64 t.weeks) := HPW.out.cell 1
  have c2 : W.cell? ⟨P, 2, none⟩ = some (.slice ao t.hols.length c) := HPW.out.cell 2
  obtain ⟨T, hT⟩ : ∃ T, T = Tt.trmV t := ⟨_, rfl⟩
  rw [← hT] at HC1
  have HT := Lib.hid hT; clear hT; go_enter Tryz.func86, Tryz.ntmps86
  go_upto_region 1 with (fail)
  rw [← hW, ← hP]; clear hW hP; go_wp2_with fail
  refine (HC1.out _ (Below.refl _ _)).mono ?_
  rintro e w1 ⟨rfl, hb1⟩; have HB1 := Lib.hid hb1; clear hb1 c0 c1 c2; have c0 : w1.cell? ⟨P, 0, none⟩ = some (.int .i64 t.first) := (HPW.out.below HB1.out HPW.out.lt).cell 0
  have c1 : w1.cell? ⟨P, 1, none⟩ = some (.int .i64 t.weeks) := (HPW.out.below HB1.out HPW.out.lt).cell 1
  have c2 : w1.cell? ⟨P, 2, none⟩ = some (.slice ao t.hols.length c) := (HPW.out.below HB1.out HPW.out.lt).cell 2
  have HF1 := Lib.hid (HBW.out.trans (HB1.out.mono HBW.out.size))
  by_cases hT0 : T = 0
  rotate_left
  · have hb : (T != 0) = true := by simp [hT0]
    have HA0 := Lib.hid (show A = false from by rw [HA.out]; exact atB_no (fun h => hT0 (HT.out.trans h.1)))
    clear hT0; go_wp2_with fail
    go_ret2
    exact ⟨ret_at (by rw [HV.out, HA0.out]; rfl) HA0.out.symm, HF1.out⟩
  have hb : (T != 0) = false := by simp [hT0]
  obtain ⟨f0, f1, k0, k1, l1, -⟩ := Tt.trmV_ok (HT.out.symm.trans hT0)
  have HT0 := Lib.hid hT0; clear hT0; have HLT := Lib.hid (show Tt.lastT t = t.first + 7 * t.weeks - 1 from rfl)
  by_cases hk : 1 ≤ k ∧ k ≤ t.weeks ∧ 0 ≤ d ∧ d < 7
  rotate_left
  · have HA0 := Lib.hid (show A = false from by rw [HA.out]; exact atB_no (fun h => hk h.2))
    go_wp2_with fail
    all_goals first
      | (exfalso; omega)
      | (go_ret2
         exact ⟨ret_at (by rw [HV.out, HA0.out]; rfl) HA0.out.symm, HF1.out⟩)
  have HK := Lib.hid hk; obtain ⟨g0, g1, g2, g3⟩ := hk; have HAD := Lib.hid (show Tt.atD t k d = t.first + 7 * (k - 1) + d from rfl)
  have HA1 := Lib.hid (show A = !decide (t.first + 7 * (k - 1) + d ∈ t.hols) from by rw [HA.out]; exact atB_of (HT.out.symm.trans HT0.out) HK.out)
  clear l1; go_wp2_with fail
  refine (HC2.out _ _ HB1.out).mono ?_
  rintro e w2 ⟨rfl, hb2⟩; have HF2 := Lib.hid (HF1.out.trans (hb2.mono HF1.out.size))
  clear hb2 c0 c1 c2; obtain ⟨M, hM⟩ : ∃ M, M = decide (t.first + 7 * (k - 1) + d ∈ t.hols) := ⟨_, rfl⟩
  rw [← hM] at HA1 ⊢
  clear hM; cases M
  · go_wp2_with fail
    go_ret2
    exact ⟨ret_at (by rw [HV.out, HA1.out]; exact HAD.out.symm) (by rw [HA1.out]; rfl), HF2.out⟩
  · go_wp2_with fail
    go_ret2
    exact ⟨ret_at (by rw [HV.out, HA1.out]; rfl) (by rw [HA1.out]; rfl), HF2.out⟩
set_option maxHeartbeats 4000000 in
set_option maxRecDepth 100000 in
theorem days73 (t : Tt.Trm) (x : Tt.Tim) (ao : Option Addr) (c : Nat) (B : Nat) (w : World) (hB : B ≤ w.heap.size) (hI : Ints B w ao t.hols) (hn : t.hols.length ≤ 4611686018427387903) (hx0 : 0 ≤ x.weeks) (hx1 : x.weeks < 4611686018427387904) : Calls Tryz.prog 42 #[trmVal t (.slice ao t.hols.length c), timVal x] w fun e w' => ∃ v, e = .returned v ∧ RowI w.heap.size w' v (Tt.daysK t x 20) ∧ Below w.heap.size w w' := by
  obtain ⟨i0, hi, hz0, hz1, hz2⟩ := info_parts infoInt
  obtain ⟨P, hP⟩ : ∃ P, P = w.heap.size := ⟨_, rfl⟩
  obtain ⟨Q, hQ⟩ : ∃ Q, Q = w.heap.size + 1 := ⟨_, rfl⟩
  obtain ⟨W, hW⟩ : ∃ W, W = (w.alloc (.cells #[.int .i64 t.first, .int .i64 t.weeks, .slice ao t.hols.length c] 94)).alloc (.cells #[.int .i64 x.weeks, .int .i64 x.day, .int .i64 x.start, .int .i64 x.len] 108) := ⟨_, rfl⟩
  have HBW := Lib.hid (show Below w.heap.size w W from by rw [hW]; exact (below_box w _).trans ((below_box _ _).mono (by simp)))
  have HPW := Lib.hid (show Blk P #[.int .i64 t.first, .int .i64 t.weeks, .slice ao t.hols.length c] 94 W from by rw [hW, hP]; exact (Blk.new w _ _).alloc _)
  have HQW := Lib.hid (show Blk Q #[.int .i64 x.weeks, .int .i64 x.day, .int .i64 x.start, .int .i64 x.len] 108 W from by rw [hW, hQ]; exact Blk.new' _ _ _ (by simp))
  have hWs : w.heap.size ≤ W.heap.size := HBW.out.size
  have hPl : P < W.heap.size := HPW.out.lt
  have hQl : Q < W.heap.size := HQW.out.lt
  have HIW := Lib.hid (show Ints B W ao t.hols from hI.below (HBW.out.mono hB))
  have hBW : B ≤ W.heap.size := Nat.le_trans hB HBW.out.size
  have HC := Lib.hid (show ∀ (k d : Int) X, Below W.heap.size W X → Calls Tryz.prog 86 #[.agg #[.int .i64 t.first, .int .i64 t.weeks, .slice ao t.hols.length c], .int .i64 k, .int .i64 d] X fun e w' => e = .returned (.tuple #[.int .i64 (if Tt.atB t k d = true then Tt.atD t k d else 0), .bool (Tt.atB t k d)]) ∧ Below X.heap.size X w' from fun k d X hX => at144 t ao c B k d X (Nat.le_trans hBW hX.size) (HIW.out.below (hX.mono hBW)) hn)
  have HBN := Lib.hid (fun k : Int => bit_not x.weeks k hx0 hx1)
  unfold trmVal timVal
  clear hI hB hBW hn; go_enter Tryz.func42, Tryz.ntmps42
  go_upto_region 1 with (fail)
  rw [← hW, ← hQ, ← hP]; clear hW hP hQ; go_wp2_with fail
  go_loopw [5, 9] (fun rv iv wr => ∃ k : Nat, k ≤ 20 ∧ iv = .int .i64 k ∧ Hid (RowI W.heap.size wr rv (Tt.daysK t x k)) ∧ Hid (Below W.heap.size W wr)) (fun _ iv _ => 30 - (intOf iv).toNat)
  case atStart => exact ⟨0, by omega, rfl, Lib.hid (RowI.nil _ _), Lib.hid (Below.refl _ _)⟩
  case round =>
    obtain ⟨k, hk, rfl, HR, HB⟩ := hrel; by_cases hlt : k < 20
    rotate_left
    · have hki : ¬ ((k : Int) < 20) := by omega
      obtain rfl : k = 20 := by omega
      go_wp2_with fail
      go_ret; exact ⟨_, rfl, ownsRow_mono HR.out HBW.out.size, HBW.out.trans (HB.out.mono HBW.out.size)⟩
    have hki : (k : Int) < 20 := by omega
    have hk0 : (0 : Int) ≤ (k : Int) := by omega
    have hk20 : (k : Int) < 20 := by omega
    have q0 : wr.cell? ⟨Q, 0, none⟩ = some (.int .i64 x.weeks) := (HQW.out.below HB.out HQW.out.lt).cell 0
    have q1 : wr.cell? ⟨Q, 1, none⟩ = some (.int .i64 x.day) := (HQW.out.below HB.out HQW.out.lt).cell 1
    have q2 : wr.cell? ⟨Q, 2, none⟩ = some (.int .i64 x.start) := (HQW.out.below HB.out HQW.out.lt).cell 2
    have q3 : wr.cell? ⟨Q, 3, none⟩ = some (.int .i64 x.len) := (HQW.out.below HB.out HQW.out.lt).cell 3
    have c0 : wr.cell? ⟨P, 0, none⟩ = some (.int .i64 t.first) := (HPW.out.below HB.out HPW.out.lt).cell 0
    have c1 : wr.cell? ⟨P, 1, none⟩ = some (.int .i64 t.weeks) := (HPW.out.below HB.out HPW.out.lt).cell 1
    have c2 : wr.cell? ⟨P, 2, none⟩ = some (.slice ao t.hols.length c) := (HPW.out.below HB.out HPW.out.lt).cell 2
    have hxn : ¬ x.weeks < 0 := by omega
    have hbn := HBN.out (k : Int)
    rw [show ((k : Int)).toNat = k from Int.toNat_natCast k] at hbn
    obtain ⟨b, hb⟩ : ∃ b, b = Tt.bit x.weeks (k : Int) := ⟨_, rfl⟩
    rw [← hb] at hbn
    have HBT := Lib.hid hb; clear hb; cases b
    · have hbn : (bits .and .i64 (x.weeks / 2 ^ k) 1 == 0) = true := hbn
      have HK := Lib.hid (show Tt.daysK t x (k + 1) = Tt.daysK t x k from by rw [Tt.daysK, if_neg (fun h => by rw [← HBT.out] at h; cases h.1)])
      go_wp2_with fail
      go_roundw
      case rel => exact ⟨k + 1, by omega, by go_num, Lib.hid (by rw [HK.out]; exact HR.out), HB⟩
      case measure => simp [intOf]; omega
    · have hbn : (bits .and .i64 (x.weeks / 2 ^ k) 1 == 0) = false := hbn
      go_wp2_with fail
      refine (HC.out ((k : Int) + 1) x.day _ HB.out).mono ?_
      rintro e w1 ⟨rfl, hb1⟩; have HB1 := Lib.hid (HB.out.trans (hb1.mono HB.out.size))
      have HR1 := Lib.hid (ownsRow_below HR.out hb1)
      clear hb1 HB HR q0 q1 q2 q3 c0 c1 c2; obtain ⟨A, hA⟩ : ∃ A, A = Tt.atB t ((k : Int) + 1) x.day := ⟨_, rfl⟩
      rw [← hA]; have HA := Lib.hid hA; clear hA; cases A
      · have HK := Lib.hid (show Tt.daysK t x (k + 1) = Tt.daysK t x k from by rw [Tt.daysK, if_neg (fun h => by rw [← HA.out] at h; cases h.2)])
        go_wp2_with fail
        go_roundw
        case rel => exact ⟨k + 1, by omega, by go_num, Lib.hid (by rw [HK.out]; exact HR1.out), HB1⟩
        case measure => simp [intOf]; omega
      · have HK := Lib.hid (show Tt.daysK t x (k + 1) = Tt.daysK t x k ++ [Tt.atD t ((k : Int) + 1) x.day] from by rw [Tt.daysK, if_pos ⟨HBT.out.symm, HA.out.symm⟩])
        have hdl := Tt.daysK_len t x k; have hw1s : W.heap.size ≤ w1.heap.size := HB1.out.size
        obtain ⟨D, hD⟩ : ∃ D, D = Tt.atD t ((k : Int) + 1) x.day := ⟨_, rfl⟩
        obtain ⟨L, hL⟩ : ∃ L, L = Tt.daysK t x k := ⟨_, rfl⟩
        rw [← hD, ← hL] at HK
        rw [← hL] at HR1 hdl
        rw [if_pos rfl, ← hD]
        clear hD hL; obtain ⟨pr, cr, hv⟩ := RowI.slice HR1.out
        subst hv; go_wp2_with (at_builtin; refine wpList_append_own_at _ rfl (.tmp 33) (.tmp 35) 22 rfl W.heap.size 3 i0 (.int .i64 0) 1 8 Tryz.underlying22 hi hz0 hz1 hz2 rfl (by decide) _ _ _ rfl (World.ownsRow.alloc HR1.out _) ⟨w1.heap.size, 0, none⟩ 1 1 [.int .i64 D] rfl rfl (cell_one _ _ _) (by intro u hu; simp at hu; subst hu; rfl) (by unfold maxLen; omega) (by omega) (by simp; omega) ?_)
        intro v' x8 hown8 hgrow _ hat; have HB8 := Lib.hid (below_grownBy (HB1.out.trans ((below_box w1 _).mono HB1.out.size)) (World.ownsRow.alloc HR1.out _) (Nat.le_refl _) (by simp; omega) hgrow)
        have HR8 := Lib.hid (show RowI W.heap.size x8 v' (Tt.daysK t x (k + 1)) from by rw [HK.out]; exact RowI.snoc hown8)
        clear hgrow hown8 hat; go_wp2_with fail
        go_roundw
        case rel => exact ⟨k + 1, by omega, by go_num, HR8, HB8⟩
        case measure => simp [intOf]; omega
end Go.Proofs.YtcomifbfldoeiaaGreatDoor
namespace Go.Proofs.YtcomifbfldoeiaaGreatDoor
open Go.RowKit Go.Maps

theorem keyI : Keyed Tryz.prog 3 := int_keyed Tryz.underlying3
theorem bool_inv {e : TypeId} (he : Tryz.prog.underlying e = some .bool) {v : Value} {z : DataW Unit × List MemPlace} (h : plainElem Tryz.prog e v = some z) : ∃ b, v = .bool b ∧ z = (.lit (.bool b), []) := by
  unfold plainElem at h
  rw [he] at h
  cases v <;> simp at h
  case bool b => exact ⟨b, rfl, h.symm⟩
/-- Block b is a map that holds the numbers xs. -/
def MapS (b : Nat) (xs : List Int) (w : World) : Prop := ∃ (D : DataW Unit), w.ownsMap Tryz.prog 3 (plainElem Tryz.prog 4) b xs.length D ∧ IsMap D ∧ ∀ x : Int, D.atKey (.int .i64 x) (.lit (.bool false)) = .lit (.bool (decide (x ∈ xs)))
theorem MapS.new (w : World) : MapS w.heap.size [] (w.alloc (.map #[] 0)) :=
  ⟨.map [], World.ownsMap_made _ _ _ _, isMap_empty, fun x => by rfl⟩
theorem MapS.lt {b : Nat} {xs : List Int} {w : World} (h : MapS b xs w) : b < w.heap.size := by obtain ⟨D, h1, _⟩ := h; exact h1.lt
theorem MapS.block {b : Nat} {xs : List Int} {w w' : World} (h : MapS b xs w) (hw : w'.heap[b]? = w.heap[b]?) : MapS b xs w' := by
  obtain ⟨D, ⟨es, clock, h1, h2, h3, h4⟩, h5, h6⟩ := h
  exact ⟨D, ⟨es, clock, hw.trans h1, h2, h3, h4⟩, h5, h6⟩
theorem wf_i64 {x : Int} (h0 : -9223372036854775808 ≤ x) (h1 : x ≤ 9223372036854775807) : (Lit.int .i64 x).wf = true := by
  simp [Lit.wf, IntKind.min, IntKind.max, IntKind.signed, IntKind.bits]; omega
theorem zeroB (w : World) : (zeroValue 4).run Tryz.prog w = .ok (.bool false) w := by kernel_rfl
theorem MapS.look {b : Nat} {xs : List Int} {w : World} (h : MapS b xs w) {t : TypeId} (ht : Tryz.prog.underlying t = some (.map 3 4)) (x : Int) (h0 : -9223372036854775808 ≤ x) (h1 : x ≤ 9223372036854775807) :
    (Instr.lookup t (.map (some b)) (.int .i64 x) false).run Tryz.prog w = .ok (.bool (decide (x ∈ xs))) w := by
  obtain ⟨D, hD, hm, hx⟩ := h; obtain ⟨v, ps, hrun, hv⟩ := hD.lookup keyI ht (zeroB w) (plainElem_bool Tryz.underlying4 false) (keyOf_int_mk Tryz.underlying3 (wf_i64 h0 h1))
  obtain ⟨c, rfl, hc⟩ := bool_inv Tryz.underlying4 hv
  rw [hx x] at hc
  simp only [Prod.mk.injEq, DataW.lit.injEq, Lit.bool.injEq] at hc
  rw [hrun, hc.1]
theorem MapS.put {b : Nat} {xs : List Int} {w' : World} (x : Int) {D : DataW Unit} (hm : IsMap D) (hx : ∀ x : Int, D.atKey (.int .i64 x) (.lit (.bool false)) = .lit (.bool (decide (x ∈ xs)))) (hw : w'.ownsMap Tryz.prog 3 (plainElem Tryz.prog 4) b (xs.length + 1) (D.put (.int .i64 x) (.lit (.bool true)))) : MapS b (xs ++ [x]) w' := by
  refine ⟨_, by rw [List.length_append]; exact hw, hm.put _ _, fun y => ?_⟩
  by_cases hy : y = x
  · subst hy; rw [atKey_put_same hm (by simp [WideAt.IsKeyLit])]
    simp
  · rw [atKey_put_other (by simp [hy]), hx y]
    simp [hy]
end Go.Proofs.YtcomifbfldoeiaaGreatDoor
namespace Go.Proofs.YtcomifbfldoeiaaGreatDoor
open Go.RowKit

/-- The package's table of lengths as it is laid. -/
def Lens (w : World) : Prop := ∀ i : Nat, i < 12 → w.cell? ⟨6, i, none⟩ = some (.int .i64 (([31, 28, 31, 30, 31, 30, 31, 31, 30, 31, 30, 31] : List Int).getD i 0))
-- Day
end Go.Proofs.YtcomifbfldoeiaaGreatDoor
namespace Tt
open Go.Lib (decDigits decDigits_one decDigits_two)
def d2 (n : Nat) : List UInt8 := [UInt8.ofNat (48 + n / 10), UInt8.ofNat (48 + n % 10)]
def d4 (n : Nat) : List UInt8 := [UInt8.ofNat (48 + n / 1000), UInt8.ofNat (48 + n / 100 % 10), UInt8.ofNat (48 + n / 10 % 10), UInt8.ofNat (48 + n % 10)]
theorem dec_step {n : Nat} (h : ¬ n < 10) : decDigits n = decDigits (n / 10) ++ [UInt8.ofNat (48 + n % 10)] := by rw [decDigits.eq_def n, dif_neg h]
theorem dec_len : ∀ (k n : Nat), n < 10 ^ (k + 1) → (decDigits n).length ≤ k + 1
  | 0, n, h => by rw [decDigits_one (by simpa using h)]; simp
  | k + 1, n, h => by
    by_cases h1 : n < 10
    · rw [decDigits_one h1]; simp
    · rw [dec_step h1, List.length_append]
      have := dec_len k (n / 10) (by rw [Nat.div_lt_iff_lt_mul (by omega)]; rw [Nat.pow_succ] at h; exact h)
      simp; omega
end Tt
namespace Go.Proofs.YtcomifbfldoeiaaGreatDoor
open Go.RowKit

/-- The library's table of powers as it is laid. -/
def Pow (w : World) : Prop := ∃ t fr, w.heap[3]? = some (.cells (Lib.pow10Tab.map fun z => Value.int .u64 z).toArray t fr)
theorem Pow.below {B : Nat} {w w' : World} (h : Pow w) (hB : 6 < B) (hb : Below B w w') : Pow w' := by
  obtain ⟨t, fr, h⟩ := h; exact ⟨t, fr, (hb.block 3 (by omega)).trans h⟩
theorem itoa136 (n : Int) (w : World) (hP : Pow w) (h0 : 0 ≤ n) (h1 : n ≤ 4611686018427387903) : Calls Tryz.prog 89 #[.int .i64 n] w fun e w' => e = .returned (.string ⟨(Lib.decDigits n.toNat).toArray⟩) ∧ Below w.heap.size w w' := by
  refine (Any.strconv_Itoa Tryz.laysM171 n (by omega) (by omega) w ?_).mono ?_
  · obtain ⟨t, fr, h⟩ := hP; unfold Lib.TabIs World.var?
    generalize hn : Program.globalNamed Tryz.prog _ = o
    have ho : o = some 3 := hn.symm.trans (by kernel_rfl)
    subst ho; simp [h]
  · rintro e w' ⟨rfl, k, os, rfl⟩; refine ⟨ret_str ?_, Lib.below_grow _ _ (Nat.le_refl _) _ _⟩
    unfold Lib.itoa
    rw [if_neg (by omega)]
end Go.Proofs.YtcomifbfldoeiaaGreatDoor
namespace Tt
open Go
theorem or_any0 : ∀ k : Nat, k < 7 → ∀ v : Nat, v < 128 → bits BinOp.or IntKind.i64 (v : Int) (2 ^ k : Int) = ((v ||| 2 ^ k : Nat) : Int) := by decide +kernel
theorem or_lt : ∀ k : Nat, k < 7 → ∀ v : Nat, v < 128 → v ||| 2 ^ k < 128 := by decide +kernel
end Tt
namespace Go.Proofs.YtcomifbfldoeiaaGreatDoor
open Go.RowKit

end Go.Proofs.YtcomifbfldoeiaaGreatDoor
namespace Tt
def fstD (ds : List Int) : Int := ds.headD 0
def lstD (ds : List Int) : Int := ds.getLastD 0
def spanN (ds : List Int) : Nat := (lstD ds - fstD ds + 1).toNat
/-- Days that may be told as a series. -/
structure DsOk (ds : List Int) : Prop where
  ne : ds ≠ []
  d : ∀ x ∈ ds, 0 ≤ x ∧ x ≤ 36524
  le : fstD ds ≤ lstD ds
  sp : lstD ds ≤ fstD ds + 140
  len : ds.length ≤ 1000000
theorem DsOk.pos {ds : List Int} (h : DsOk ds) : 0 < ds.length := List.length_pos_iff.2 h.ne
theorem DsOk.first {ds : List Int} (h : DsOk ds) : ds[0]? = some (fstD ds) := by
  have := h.ne
  cases ds with
  | nil => exact absurd rfl this
  | cons a r => rfl
theorem DsOk.last {ds : List Int} (h : DsOk ds) : ds[ds.length - 1]? = some (lstD ds) := by
  have hn := h.ne; unfold lstD
  rw [List.getLastD_eq_getLast?, List.getLast?_eq_getElem?]
  have h1 : ds.length - 1 < ds.length := by have := h.pos; omega
  rw [List.getElem?_eq_getElem h1]; rfl
theorem DsOk.bd {ds : List Int} (h : DsOk ds) : 0 ≤ fstD ds ∧ fstD ds ≤ 36524 ∧ 0 ≤ lstD ds ∧ lstD ds ≤ 36524 := by
  have h1 := h.d _ (List.mem_of_getElem? h.first)
  have h2 := h.d _ (List.mem_of_getElem? h.last)
  omega
theorem DsOk.span {ds : List Int} (h : DsOk ds) : ((spanN ds : Nat) : Int) = lstD ds - fstD ds + 1 ∧ spanN ds ≤ 141 := by
  have h1 := h.le; have h2 := h.sp; unfold spanN; omega
/-- Does a day lie on a weekday, in a week that counts? -/
def onB (ds : List Int) (e w d : Int) : Bool := decide (wk d = w) && cnt (fstD ds) e d
def hitK (ds : List Int) (e w : Int) : Nat → Int
  | 0 => 0
  | k + 1 => hitK ds e w k + (if onB ds e w (fstD ds + k) = true ∧ fstD ds + k ∈ ds then 1 else 0)
def missK (ds : List Int) (e w : Int) : Nat → Int
  | 0 => 0
  | k + 1 => missK ds e w k + (if onB ds e w (fstD ds + k) = true ∧ ¬ fstD ds + k ∈ ds then 1 else 0)
theorem hitK_bd (ds : List Int) (e w : Int) : ∀ k : Nat, 0 ≤ hitK ds e w k ∧ hitK ds e w k ≤ k ∧ 0 ≤ missK ds e w k ∧ missK ds e w k ≤ k
  | 0 => ⟨Int.le_refl _, Int.le_refl _, Int.le_refl _, Int.le_refl _⟩
  | k + 1 => by
    have ih := hitK_bd ds e w k; rw [hitK, missK]
    split <;> split <;> omega
/-- The weekdays ahead of j on which more days are there than not. -/
def wdK (ds : List Int) (e : Int) : Nat → Nat
  | 0 => 0
  | j + 1 => if missK ds e j (spanN ds) < hitK ds e j (spanN ds) then wdK ds e j ||| 2 ^ j else wdK ds e j
theorem wdK_lt (ds : List Int) (e : Int) : ∀ j, j ≤ 7 → wdK ds e j < 128
  | 0, _ => by show 0 < 128; decide
  | j + 1, h => by
    have ih := wdK_lt ds e j (by omega)
    rw [wdK]
    split
    · exact or_lt j (by omega) _ ih
    · exact ih
def exK (ds : List Int) (s : Ser) : Nat → List Int
  | 0 => []
  | k + 1 => if regB s (s.first + k) = true ∧ ¬ s.first + k ∈ ds then exK ds s k ++ [s.first + k] else exK ds s k
def xtK (ds : List Int) (s : Ser) : Nat → List Int
  | 0 => []
  | k + 1 => if regB s (s.first + k) = false ∧ s.first + k ∈ ds then xtK ds s k ++ [s.first + k] else xtK ds s k
theorem exK_len (ds : List Int) (s : Ser) : ∀ k, (exK ds s k).length ≤ k ∧ (xtK ds s k).length ≤ k
  | 0 => ⟨Nat.le_refl _, Nat.le_refl _⟩
  | k + 1 => by
    have ih := exK_len ds s k; rw [exK, xtK]
    constructor
    · split
      · rw [List.length_append]; simp; omega
      · omega
    · split
      · rw [List.length_append]; simp; omega
      · omega
/-- A series without lists, over the days. -/
def headS (ds : List Int) (e m : Int) : Ser := ⟨fstD ds, lstD ds, e, m, [], []⟩
/-- .. with the exceptions and the extra days ahead of the k-th day. -/
def serK (ds : List Int) (e m : Int) (k : Nat) : Ser := ⟨fstD ds, lstD ds, e, m, exK ds (headS ds e m) k, xtK ds (headS ds e m) k⟩
/-- The series of days, for a number of weeks. -/
def withV (ds : List Int) (e : Int) : Ser := serK ds e (wdK ds e 7) (spanN ds)
end Tt
namespace Go.Proofs.YtcomifbfldoeiaaGreatDoor
open Go.RowKit

/-- A series in box S; its lists lie in rows of one's own, apart. -/
structure SerM (S lo : Nat) (s : Tt.Ser) (v v' : Value) (w : World) : Prop where
  box : Blk S #[.int .i64 s.first, .int .i64 s.last, .int .i64 s.every, .int .i64 s.wd, v, v'] 102 w
  ex : RowI lo w v s.ex
  xt : RowI lo w v' s.xt
  ap : v.ownBlock = none ∨ v'.ownBlock = none ∨ v.ownBlock ≠ v'.ownBlock
theorem ap_one {a b : Option Nat} (h : a = none ∨ b = none ∨ a ≠ b) : b = none ∨ b ≠ a := by
  cases a with
  | none => cases b with
    | none => exact .inl rfl
    | some y => exact .inr (fun e => by cases e)
  | some x => rcases h with h | h | h
              · cases h
              · exact .inl h
              · exact .inr (fun e => h e.symm)
theorem ap_two {a b : Option Nat} (h : a = none ∨ b = none ∨ a ≠ b) : a = none ∨ a ≠ b := by
  rcases h with h | h | h
  · exact .inl h
  · cases a with
    | none => exact .inl rfl
    | some x => exact .inr (fun e => by rw [h] at e; cases e)
  · exact .inr h
section
variable {S lo : Nat} {s : Tt.Ser} {v v' : Value} {w : World}
theorem SerM.made (h : SerM S lo s v v' w) {w' : World} (hb : Below w.heap.size w w') : SerM S lo s v v' w' :=
  ⟨h.box.below hb h.box.lt, ownsRow_below h.ex hb, ownsRow_below h.xt hb, h.ap⟩
theorem own_lt {e k n : Nat} {xs : List Value} (h : w.ownsRow lo e k v n xs) : ∀ g, v.ownBlock = some g → g < w.heap.size := fun g hg => (h.lt g hg).2
theorem SerM.addX (h : SerM S lo s v v' w) {d : Int} {v2 : Value} {x : World} (hown : x.ownsRow lo 3 1 v2 (s.ex.length + 1) (s.ex.map (Value.int .i64) ++ [.int .i64 d])) (hg : w.grownBy x v.ownBlock) (hat : v2.ownBlock = v.ownBlock ∨ v2.ownBlock = some w.heap.size) :
    SerM S lo { s with ex := s.ex ++ [d] } v2 v' (x.setCell ⟨S, 4, none⟩ v2) := by
  have hS : Blk S #[.int .i64 s.first, .int .i64 s.last, .int .i64 s.every, .int .i64 s.wd, v, v'] 102 x := h.box.grown h.ex hg (by decide)
  have hx : RowI lo x v2 (s.ex ++ [d]) := RowI.snoc hown
  have hy : RowI lo x v' s.xt := World.ownsRow.kept h.xt hg (ap_one h.ap)
  refine ⟨hS.set 4 v2, row_set hx hS (by decide) 4 v2, row_set hy hS (by decide) 4 v2, ?_⟩
  rcases hat with e | e
  · rw [e]; exact h.ap
  · cases hv : v'.ownBlock with
    | none => exact .inr (.inl rfl)
    | some g => refine .inr (.inr ?_); rw [e]; intro hh; have := own_lt h.xt g hv; cases hh; omega
theorem SerM.addY (h : SerM S lo s v v' w) {d : Int} {v2 : Value} {x : World} (hown : x.ownsRow lo 3 1 v2 (s.xt.length + 1) (s.xt.map (Value.int .i64) ++ [.int .i64 d])) (hg : w.grownBy x v'.ownBlock) (hat : v2.ownBlock = v'.ownBlock ∨ v2.ownBlock = some w.heap.size) :
    SerM S lo { s with xt := s.xt ++ [d] } v v2 (x.setCell ⟨S, 5, none⟩ v2) := by
  have hS : Blk S #[.int .i64 s.first, .int .i64 s.last, .int .i64 s.every, .int .i64 s.wd, v, v'] 102 x := h.box.grown h.xt hg (by decide)
  have hx : RowI lo x v2 (s.xt ++ [d]) := RowI.snoc hown
  have hy : RowI lo x v s.ex := World.ownsRow.kept h.ex hg (ap_two h.ap)
  refine ⟨hS.set 5 v2, row_set hy hS (by decide) 5 v2, row_set hx hS (by decide) 5 v2, ?_⟩
  rcases hat with e | e
  · rw [e]; exact h.ap
  · cases hv : v.ownBlock with
    | none => exact .inl rfl
    | some g => refine .inr (.inr ?_); rw [e]; intro hh; have := own_lt h.ex g hv; cases hh; omega
end
end Go.Proofs.YtcomifbfldoeiaaGreatDoor
namespace Go.Proofs.YtcomifbfldoeiaaGreatDoor
open Go.RowKit

theorem fill6R {g : Nat} {cs : Array Value} {w0 w : World} (h : Blk g cs 102 w) (hc : cs.size = 6) (hb : Below w0.heap.size w0 w) (hg : w0.heap.size ≤ g) (u0 u1 u2 u3 u4 u5 : Value) : ∃ Y, Y = ((((((w.setCell ⟨g, 0, none⟩ u0).setCell ⟨g, 1, none⟩ u1).setCell ⟨g, 2, none⟩ u2).setCell ⟨g, 3, none⟩ u3).setCell ⟨g, 4, none⟩ u4).setCell ⟨g, 5, none⟩ u5) ∧ Blk g #[u0, u1, u2, u3, u4, u5] 102 Y ∧ Below w0.heap.size w0 Y := by
  refine ⟨_, rfl, ?_, ?_⟩
  · obtain ⟨l⟩ := cs; match l, hc with
    | [a0, a1, a2, a3, a4, a5], _ => exact (((((h.set 0 u0).set 1 u1).set 2 u2).set 3 u3).set 4 u4).set 5 u5
  · have q : ∀ (W : World) (i : Nat) (u : Value), Below w0.heap.size w0 W → Below w0.heap.size w0 (W.setCell ⟨g, i, none⟩ u) := fun W i u h => h.setCell hg _
    exact q _ _ _ (q _ _ _ (q _ _ _ (q _ _ _ (q _ _ _ (q _ _ _ hb)))))
end Go.Proofs.YtcomifbfldoeiaaGreatDoor
namespace Go.Proofs.YtcomifbfldoeiaaGreatDoor
open Go.RowKit

/-- A series without lists in a new box is one whose lists have not grown yet. -/
theorem SerM.new {S lo : Nat} {ds : List Int} {e m : Int} {w : World} (h : Blk S #[.int .i64 (Tt.fstD ds), .int .i64 (Tt.lstD ds), .int .i64 e, .int .i64 m, .slice none 0 0, .slice none 0 0] 102 w) : SerM S lo (Tt.serK ds e m 0) (.slice none 0 0) (.slice none 0 0) w :=
  ⟨h, RowI.nil _ _, RowI.nil _ _, .inl rfl⟩
/-- A series that is handed back. -/
def RetS (s : Tt.Ser) (w : World) (x : Ending) (w' : World) : Prop := ∃ (p p' : Option Addr) (c c' : Nat), x = .returned (serVal s (.slice p s.ex.length c) (.slice p' s.xt.length c')) ∧ RowI w.heap.size w' (.slice p s.ex.length c) s.ex ∧ RowI w.heap.size w' (.slice p' s.xt.length c') s.xt ∧ Below w.heap.size w w'
end Go.Proofs.YtcomifbfldoeiaaGreatDoor
namespace Tt
def excN (s : Ser) : Int := (s.ex.length : Int) + s.xt.length
/-- The best series of days, for at most k + 1 weeks. -/
def bestK (ds : List Int) : Nat → Ser
  | 0 => withV ds 1
  | k + 1 => if excN (withV ds ((k : Int) + 2)) < excN (bestK ds k) then withV ds ((k : Int) + 2) else bestK ds k
def ofV (ds : List Int) : Ser := bestK ds 3
theorem with_len (ds : List Int) (h : spanN ds ≤ 141) (e : Int) : (withV ds e).ex.length ≤ 141 ∧ (withV ds e).xt.length ≤ 141 := by
  have := exK_len ds (headS ds e (wdK ds e 7)) (spanN ds)
  exact ⟨Nat.le_trans this.1 h, Nat.le_trans this.2 h⟩
theorem best_len (ds : List Int) (h : spanN ds ≤ 141) : ∀ k, (bestK ds k).ex.length ≤ 141 ∧ (bestK ds k).xt.length ≤ 141
  | 0 => with_len ds h 1
  | k + 1 => by
    rw [bestK]
    split
    · exact with_len ds h _
    · exact best_len ds h k
def AscD (ds : List Int) : Prop := ∀ (k : Nat) (a b : Int), ds[k]? = some a → ds[k + 1]? = some b → a < b
end Tt
namespace Go.Proofs.YtcomifbfldoeiaaGreatDoor
open Go.RowKit

/-- A series in a box; its two lists in rows of one's own. -/
structure SerQ (T lo : Nat) (s : Tt.Ser) (p p' : Option Addr) (c c' : Nat) (w : World) : Prop where
  box : Blk T #[.int .i64 s.first, .int .i64 s.last, .int .i64 s.every, .int .i64 s.wd, .slice p s.ex.length c, .slice p' s.xt.length c'] 102 w
  ex : RowI lo w (.slice p s.ex.length c) s.ex
  xt : RowI lo w (.slice p' s.xt.length c') s.xt
theorem SerQ.made {T lo : Nat} {s : Tt.Ser} {p p' : Option Addr} {c c' : Nat} {w w' : World} (h : SerQ T lo s p p' c c' w) (hb : Below w.heap.size w w') : SerQ T lo s p p' c c' w' :=
  ⟨h.box.below hb h.box.lt, ownsRow_below h.ex hb, ownsRow_below h.xt hb⟩
/-- A series that is handed back, with a code. -/
def RetC (s : Tt.Ser) (cd : Int) (w : World) (x : Ending) (w' : World) : Prop := ∃ (p p' : Option Addr) (c c' : Nat), x = .returned (.tuple #[serVal s (.slice p s.ex.length c) (.slice p' s.xt.length c'), .int .i64 cd]) ∧ RowI w.heap.size w' (.slice p s.ex.length c) s.ex ∧ RowI w.heap.size w' (.slice p' s.xt.length c') s.xt ∧ Below w.heap.size w w'
end Go.Proofs.YtcomifbfldoeiaaGreatDoor
