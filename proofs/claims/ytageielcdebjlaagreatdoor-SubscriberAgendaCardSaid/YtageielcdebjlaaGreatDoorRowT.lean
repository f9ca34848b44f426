/- Events in a row of one's own, what they refer to in rows of its own: laid in, written over. No function of the program in sight. Condition: none. -/
import Derived.Test.YtageielcdebjlaaGreatDoorPk10
namespace Go.Proofs.YtageielcdebjlaaGreatDoor
open Go.RowKit

def RefT (lo : Nat) (w : World) (t : Ev × Value × Value) : Prop := EvB t.1 ∧ RowI lo w t.2.1 t.1.days.ex ∧ RowI lo w t.2.2 t.1.days.xt
/-- Events in a row of one's own. -/
structure RowT (lo : Nat) (w : World) (v : Value) (ts : List (Ev × Value × Value)) : Prop where
  row : w.ownsRow lo 82 13 v ts.length (tCells ts)
  ref : ∀ t ∈ ts, RefT lo w t
theorem RowE.t {lo : Nat} {w : World} {v : Value} {ts : List (Ev × Value × Value)} (h : RowE lo w v ts) : RowT lo w v ts := ⟨h.row, fun t ht => ⟨(h.ref t ht).1.b, (h.ref t ht).2⟩⟩
theorem RefT.s {lo : Nat} {w : World} {t : Ev × Value × Value} (h : RefT lo w t) : RefS w.heap.size w t := by
  obtain ⟨hg, hx, hy⟩ := h; obtain ⟨ax, cx, e1, i1⟩ := hx.ints
  obtain ⟨ay, cy, e2, i2⟩ := hy.ints
  exact ⟨hg, ⟨ax, cx, e1, i1⟩, ⟨ay, cy, e2, i2⟩⟩
theorem RowT.seg {lo : Nat} {w : World} {v : Value} {ts : List (Ev × Value × Value)} (h : RowT lo w v ts) : ∃ ao c, v = .slice ao ts.length c ∧ (ao = none → c = 0) ∧ Seg w.heap.size w ao ts := by
  have hr : ∀ t ∈ ts, RefS w.heap.size w t := fun t ht => (h.ref t ht).s
  rcases h.row.2 with ⟨hv, h0⟩ | ⟨g, cap, cur, hv, r2, r3, r4, r5, _⟩
  · have : ts = [] := List.eq_nil_of_length_eq_zero h0
    subst this; exact ⟨none, 0, hv, fun _ => rfl, Seg.nil _ _ _⟩
  · refine ⟨_, cap, hv, fun e => (by cases e), .inr ⟨g, 0, rfl, (Array.getElem?_eq_some_iff.1 r3).1, fun j u hj => ?_⟩, hr⟩
    have := h.row.cells (g := g) (by rw [hv]; rfl) j u hj
    rw [Addr.add_lit] at this
    exact this
theorem RowT.nil (lo : Nat) (w : World) : RowT lo w (.slice none 0 0) [] := ⟨World.ownsRow_nil _ _ _ _, fun t h => by cases h⟩
theorem RefT.mono {lo lo' : Nat} {w : World} {t : Ev × Value × Value} (h : RefT lo w t) (hb : lo' ≤ lo) : RefT lo' w t := ⟨h.1, ownsRow_mono h.2.1 hb, ownsRow_mono h.2.2 hb⟩
theorem RowT.mono {lo lo' : Nat} {w : World} {v : Value} {ts : List (Ev × Value × Value)} (h : RowT lo w v ts) (hb : lo' ≤ lo) : RowT lo' w v ts := ⟨ownsRow_mono h.row hb, fun t ht => (h.ref t ht).mono hb⟩
theorem RefT.made {lo : Nat} {w w' : World} {t : Ev × Value × Value} (h : RefT lo w t) (hb : Below w.heap.size w w') : RefT lo w' t := ⟨h.1, row_made h.2.1 hb, row_made h.2.2 hb⟩
theorem RowT.made {lo : Nat} {w w' : World} {v : Value} {ts : List (Ev × Value × Value)} (h : RowT lo w v ts) (hb : Below w.heap.size w w') : RowT lo w' v ts := ⟨row_made h.row hb, fun t ht => (h.ref t ht).made hb⟩
theorem RefT.set {lo : Nat} {w : World} {t : Ev × Value × Value} (h : RefT lo w t) {g : Nat} {cs : Array Value} {ty : TypeId} (hg : Blk g cs ty w) (hte : ty ≠ 3) (i : Nat) (u : Value) : RefT lo (w.setCell ⟨g, i, none⟩ u) t := ⟨h.1, row_set h.2.1 hg hte i u, row_set h.2.2 hg hte i u⟩
theorem RowT.set {lo : Nat} {w : World} {v : Value} {ts : List (Ev × Value × Value)} (h : RowT lo w v ts) {g : Nat} {cs : Array Value} {ty : TypeId} (hg : Blk g cs ty w) (hte : ty ≠ 3) (hte2 : ty ≠ 82) (i : Nat) (u : Value) : RowT lo (w.setCell ⟨g, i, none⟩ u) v ts := ⟨row_set h.row hg hte2 i u, fun t ht => (h.ref t ht).set hg hte i u⟩
theorem RefT.alloc {lo : Nat} {w : World} {t : Ev × Value × Value} (h : RefT lo w t) (o : Obj) : RefT lo (w.alloc o) t := ⟨h.1, World.ownsRow.alloc h.2.1 o, World.ownsRow.alloc h.2.2 o⟩
theorem RowT.alloc {lo : Nat} {w : World} {v : Value} {ts : List (Ev × Value × Value)} (h : RowT lo w v ts) (o : Obj) : RowT lo (w.alloc o) v ts := ⟨h.row.alloc o, fun t ht => (h.ref t ht).alloc o⟩
theorem RefT.grown {lo B n k : Nat} {w w' : World} {t : Ev × Value × Value} {v : Value} {xs : List Value} (h : RefT lo w t) (hown : w.ownsRow B 82 k v n xs) (hg : w.grownBy w' v.ownBlock) : RefT lo w' t :=
  ⟨h.1, World.ownsRow.kept h.2.1 hg (row_apart_ty h.2.1 hown (by decide)), World.ownsRow.kept h.2.2 hg (row_apart_ty h.2.2 hown (by decide))⟩
theorem RowT.one {lo : Nat} {w : World} {v : Value} {ts : List (Ev × Value × Value)} (h : RowT lo w v ts) : ∀ u ∈ tCells ts, u.oneCell' = true := by
  obtain ⟨ao, c, _, _, hs⟩ := h.seg
  exact hs.one
theorem tCells_sole (t : Ev × Value × Value) : tCells [t] = (evCells t.1 t.2.1 t.2.2).toList := by unfold tCells; simp
/-- The row behind a change that leaves other cells: what they refer to is as it was. -/
theorem RowT.changed {lo : Nat} {w w' : World} {v v' : Value} {ts us : List (Ev × Value × Value)} (h : RowT lo w v ts) (hg : w.grownBy w' v.ownBlock) (hu : ∀ t ∈ us, t ∈ ts ∨ RefT lo w t) (hrow : w'.ownsRow lo 82 13 v' us.length (tCells us)) : RowT lo w' v' us :=
  ⟨hrow, fun t ht => (hu t ht).elim (fun k => (h.ref t k).grown h.row hg) (fun k => k.grown h.row hg)⟩
theorem tCells_ins (ts : List (Ev × Value × Value)) (t : Ev × Value × Value) (i : Nat) (hi : i ≤ ts.length) : (tCells ts).take (i * 13) ++ (evCells t.1 t.2.1 t.2.2).toList ++ (tCells ts).drop (i * 13) = tCells (ts.take i ++ t :: ts.drop i) := by
  rw [← tCells_take ts i hi, ← tCells_drop ts i hi, tCells_app, show t :: ts.drop i = [t] ++ ts.drop i from rfl, tCells_app, tCells_sole, List.append_assoc]
theorem RowT.ins {lo : Nat} {w w' : World} {v v' : Value} {ts : List (Ev × Value × Value)} {t : Ev × Value × Value} (h : RowT lo w v ts) (ht : RefT lo w t) (hg : w.grownBy w' v.ownBlock) (i : Nat) (hi : i ≤ ts.length)
    (hrow : w'.ownsRow lo 82 13 v' (ts.length + 1) ((tCells ts).take (i * 13) ++ (evCells t.1 t.2.1 t.2.2).toList ++ (tCells ts).drop (i * 13))) : RowT lo w' v' (ts.take i ++ t :: ts.drop i) := by
  refine h.changed hg (fun s hs => ?_) ?_
  · rcases List.mem_append.1 hs with k | k
    · exact .inl (List.mem_of_mem_take k)
    · rcases List.mem_cons.1 k with rfl | k
      · exact .inr ht
      · exact .inl (List.mem_of_mem_drop k)
  · rw [← tCells_ins ts t i hi]; have : (ts.take i ++ t :: ts.drop i).length = ts.length + 1 := by simp; omega
    rw [this]
    exact hrow
theorem RowT.snoc {lo : Nat} {w w' : World} {v v' : Value} {ts : List (Ev × Value × Value)} {t : Ev × Value × Value} (h : RowT lo w v ts) (ht : RefT lo w t) (hg : w.grownBy w' v.ownBlock)
    (hrow : w'.ownsRow lo 82 13 v' (ts.length + 1) (tCells ts ++ (evCells t.1 t.2.1 t.2.2).toList)) : RowT lo w' v' (ts ++ [t]) := by
  refine h.changed hg (fun s hs => ?_) ?_
  · rcases List.mem_append.1 hs with k | k
    · exact .inl k
    · rw [List.mem_singleton.1 k]; exact .inr ht
  · rw [tCells_snoc, List.length_append]
    exact hrow
/-- A row of one's own changed: the blocks below are as they were. -/
theorem below_grownBy {B B' k n : Nat} {w0 w w' : World} {e : TypeId} {v : Value} {xs : List Value} (hb : Below B w0 w) (hown : w.ownsRow B' e k v n xs) (hB : B ≤ B') (hs : B ≤ w.heap.size) (hg : w.grownBy w' v.ownBlock) : Below B w0 w' := by
  refine hb.trans ⟨hg.os, hg.tape, hg.output, hg.size, fun j hj => hg.block j (by omega) (fun he => ?_)⟩
  have := (hown.lt j he.symm).1
  omega

/-- Cells written over in a row of one's own. -/
theorem ownsRow_setAll {lo k n c : Nat} {e : TypeId} {g : Nat} : ∀ (us : List Value) (j : Nat) (xs : List Value) (w : World), w.ownsRow lo e k (.slice (some ⟨g, 0, none⟩) n c) n xs → j + us.length ≤ n * k →
    (setAll w g j us).ownsRow lo e k (.slice (some ⟨g, 0, none⟩) n c) n (xs.take j ++ us ++ xs.drop (j + us.length)) ∧ w.grownBy (setAll w g j us) (some g)
  | [], j, xs, w, h, _ => by
    simp only [List.append_nil, List.length_nil, Nat.add_zero, List.take_append_drop]
    exact ⟨h, World.grownBy.refl w _⟩
  | u :: r, j, xs, w, h, hl => by
    have hx := h.1; have h1 := h.stored j u; have h2 := ownsRow_setAll r (j + 1) (xs.set j u) (w.setCell ⟨g, j, none⟩ u) h1.1 (by simp at hl ⊢; omega)
    have e1 := list_seg_step xs j u r (by simp at hl; omega)
    rw [e1] at h2
    exact ⟨h2.1, h1.2.trans h2.2⟩
/-- An event written over another one. -/
theorem RowT.store {lo n c g : Nat} {w : World} {ts : List (Ev × Value × Value)} (h : RowT lo w (.slice (some ⟨g, 0, none⟩) n c) ts) (hn : ts.length = n) (i : Nat) (e : Ev) (v v' : Value) (hi : i < n) (hr : RefT lo w (e, v, v')) :
    ∃ W, W = ((((((((((((w.setCell ⟨g, i * 13, none⟩ (.string e.uid)).setCell ⟨g, i * 13 + 1, none⟩ (.int .i64 e.seq)).setCell ⟨g, i * 13 + 2, none⟩ (.bool e.canc)).setCell ⟨g, i * 13 + 3, none⟩ (.int .i64 e.days.first)).setCell ⟨g, i * 13 + 4, none⟩ (.int .i64 e.days.last)).setCell ⟨g, i * 13 + 5, none⟩ (.int .i64 e.days.every)).setCell ⟨g, i * 13 + 6, none⟩ (.int .i64 e.days.wd)).setCell ⟨g, i * 13 + 7, none⟩ v).setCell ⟨g, i * 13 + 8, none⟩ v').setCell ⟨g, i * 13 + 9, none⟩ (.int .i64 e.start)).setCell ⟨g, i * 13 + 10, none⟩ (.int .i64 e.mins)).setCell ⟨g, i * 13 + 11, none⟩ (.string e.summ)).setCell ⟨g, i * 13 + 12, none⟩ (.string e.loc) ∧
      RowT lo W (.slice (some ⟨g, 0, none⟩) n c) (ts.set i (e, v, v')) ∧ w.grownBy W (some g) := by
  subst hn; have hl : (evCells e v v').toList.length = 13 := rfl
  have h1 := ownsRow_setAll (evCells e v v').toList (i * 13) (tCells ts) w h.row (by rw [hl]; omega)
  refine ⟨setAll w g (i * 13) (evCells e v v').toList, rfl, h.changed h1.2 (fun s hs => ?_) ?_, h1.2⟩
  · rcases List.mem_or_eq_of_mem_set hs with k | rfl
    · exact .inl k
    · exact .inr hr
  · have hset : ts.set i (e, v, v') = ts.take i ++ (e, v, v') :: ts.drop (i + 1) := by rw [List.set_eq_take_append_cons_drop, if_pos hi]
    rw [List.length_set, hset, tCells_app, show (e, v, v') :: ts.drop (i + 1) = [(e, v, v')] ++ ts.drop (i + 1) from rfl, tCells_app, tCells_sole, tCells_take ts i (by omega), tCells_drop ts (i + 1) (by omega), ← List.append_assoc]
    have h2 := h1.1; rw [hl] at h2
    rw [show (i + 1) * 13 = i * 13 + 13 by omega]
    exact h2
/-- What is seen of one event in a row of one's own. -/
theorem RowT.ev {lo n c g : Nat} {w : World} {ts : List (Ev × Value × Value)} (h : RowT lo w (.slice (some ⟨g, 0, none⟩) n c) ts) (j : Nat) (t : Ev × Value × Value) (ht : ts[j]? = some t) : EvC g (j * 13) t.1 t.2.1 t.2.2 w := by
  have h0 := seg_c (w := w) (b := g) (o := 0) (ts := ts) (fun j u hj => by
    have := h.row.cells (g := g) rfl j u hj
    rw [Addr.add_lit] at this
    exact this) j t ht
  rw [Nat.zero_add] at h0
  exact h0
end Go.Proofs.YtageielcdebjlaaGreatDoor
