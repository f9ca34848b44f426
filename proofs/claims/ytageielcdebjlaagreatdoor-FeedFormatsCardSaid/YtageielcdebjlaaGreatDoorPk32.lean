/- Plain facts on zones: which are valid, the instants at which clocks show a local time, and what a local time means. No program in sight. Condition: none. Zones in memory; zone.Valid and timetableref38.Valid: their contracts. Shifts in a row of their own, as a drawn zone holds them. No function of the program in sight. Condition: none. Events in a row of the call's own: one cell of one event written; one event more. No function of the program in sight. Condition: none. timetablelaw40.short over one event: its contract: an answer. timetableref17.SameInts: its contract. The law's awake: its contract. FeedTexts: the walk. timetablelaw40.short over any feed: its contract: an answer. timetableref40.Same: whether two feeds are equal. A drawn region without a tail: every operation may come at any time that what it waits for allows. No function of the program in sight. -/
import Derived.Test.YtageielcdebjlaaGreatDoorPk1
import Derived.Test.YtageielcdebjlaaGreatDoorPk25
import Derived.Test.YtageielcdebjlaaGreatDoorCondAll
import Derived.Test.YtageielcdebjlaaGreatDoorDaysAll
import Derived.Test.YtageielcdebjlaaGreatDoorUidAll
import Derived.Test.YtageielcdebjlaaGreatDoorFeedV
import Derived.Test.YtageielcdebjlaaGreatDoorGenF
import Derived.Test.YtageielcdebjlaaGreatDoorGenO
import Derived.Test.YtageielcdebjlaaGreatDoorParseAll
namespace Tt

/-- Shifts that ascend from m on, each within the bounds. -/
def Asc : Int → List (Int × Int) → Prop
  | _, [] => True
  | m, x :: r => m ≤ x.1 ∧ 0 ≤ x.1 ∧ x.1 < 52596000 ∧ -840 ≤ x.2 ∧ x.2 ≤ 840 ∧ Asc (x.1 + 2880) r

theorem Asc.mono : ∀ {sh : List (Int × Int)} {m m' : Int}, Asc m sh → m' ≤ m → Asc m' sh
  | [], _, _, _, _ => trivial
  | _ :: _, _, _, ⟨h1, h2⟩, h => ⟨by omega, h2⟩

end Tt
namespace Go.Proofs.YtageielcdebjlaaGreatDoor
open Go.RowKit

/-- A zone in block f. -/
def ZoneB (f : Nat) (n : ByteArray) (v : Int) (ev : Value) (w : World) : Prop := w.heap[f]? = some (.cells #[.string n, .int .i64 v, ev] 50 (0, 0))
theorem ZoneB.block {f : Nat} {n : ByteArray} {v : Int} {ev : Value} {w w' : World} (h : ZoneB f n v ev w) (hw : w'.heap[f]? = w.heap[f]?) : ZoneB f n v ev w' := hw.trans h
theorem ZoneB.lt {f : Nat} {n : ByteArray} {v : Int} {ev : Value} {w : World} (h : ZoneB f n v ev w) : f < w.heap.size := (Array.getElem?_eq_some_iff.1 h).1
theorem ZoneB.c {f : Nat} {n : ByteArray} {v : Int} {ev : Value} {w : World} (h : ZoneB f n v ev w) :
    w.cell? ⟨f, 0, none⟩ = some (.string n) ∧ w.cell? ⟨f, 1, none⟩ = some (.int .i64 v) ∧ w.cell? ⟨f, 2, none⟩ = some ev := by
  refine ⟨?_, ?_, ?_⟩ <;> (rw [Lib.cell_of_heap h]; rfl)

/-- The shifts of a slice, in blocks below B. -/
def Shs (B : Nat) (w : World) (ao : Option Addr) (sh : List (Int × Int)) : Prop := sh = [] ∨ ∃ b o, ao = some ⟨b, o, none⟩ ∧ b < B ∧ ∀ (j : Nat) (x : Int × Int), sh[j]? = some x → w.cell? ⟨b, o + j * 2, none⟩ = some (.int .i64 x.1) ∧ w.cell? ⟨b, o + j * 2 + 1, none⟩ = some (.int .i64 x.2)
theorem Shs.below {B : Nat} {w w' : World} {ao : Option Addr} {sh : List (Int × Int)} (h : Shs B w ao sh) (hw : Below B w w') : Shs B w' ao sh := by
  rcases h with h | ⟨b, o, ha, hb, hc⟩
  · exact .inl h
  · refine .inr ⟨b, o, ha, hb, fun j x hj => ?_⟩
    obtain ⟨h1, h2⟩ := hc j x hj
    exact ⟨(hw.cell (p := ⟨b, _, none⟩) hb).trans h1, (hw.cell (p := ⟨b, _, none⟩) hb).trans h2⟩
theorem Shs.mono {B B' : Nat} {w : World} {ao : Option Addr} {sh : List (Int × Int)} (h : Shs B w ao sh) (hB : B ≤ B') : Shs B' w ao sh := by
  rcases h with h | ⟨b, o, ha, hb, hc⟩
  · exact .inl h
  · exact .inr ⟨b, o, ha, by omega, hc⟩
theorem Shs.form {B : Nat} {w : World} {ao : Option Addr} {sh : List (Int × Int)} (h : Shs B w ao sh) (hne : 0 < sh.length) :
    ∃ b o, ao = some ⟨b, o, none⟩ ∧ b < B ∧ ∀ (j : Nat) (x : Int × Int), sh[j]? = some x → w.cell? ⟨b, o + j * 2, none⟩ = some (.int .i64 x.1) ∧ w.cell? ⟨b, o + j * 2 + 1, none⟩ = some (.int .i64 x.2) := by
  rcases h with h | h
  · rw [h] at hne; cases hne
  · exact h

end Go.Proofs.YtageielcdebjlaaGreatDoor
namespace Go.Proofs.YtageielcdebjlaaGreatDoor
open Go.RowKit

/-- The cells of some shifts. -/
def zCells (sh : List (Int × Int)) : List Value := sh.flatMap fun t => [.int .i64 t.1, .int .i64 t.2]
theorem zCells_len : ∀ sh : List (Int × Int), (zCells sh).length = sh.length * 2
  | [] => rfl
  | t :: r => by
    show ([Value.int .i64 t.1, .int .i64 t.2] ++ zCells r).length = _
    have h := zCells_len r; simp only [List.length_append, List.length_cons, List.length_nil, h]
    omega
theorem zCells_snoc (sh : List (Int × Int)) (a o : Int) : zCells (sh ++ [(a, o)]) = zCells sh ++ [.int .i64 a, .int .i64 o] := by unfold zCells; simp
/-- The shifts of a drawn zone. -/
def RowZ (lo : Nat) (w : World) (v : Value) (sh : List (Int × Int)) : Prop := w.ownsRow lo 137 2 v sh.length (zCells sh)
theorem RowZ.nil (lo : Nat) (w : World) : RowZ lo w (.slice none 0 0) [] := World.ownsRow_nil _ _ _ _
theorem RowZ.snoc {lo : Nat} {w : World} {v : Value} {sh : List (Int × Int)} {a o : Int} (h : w.ownsRow lo 137 2 v (sh.length + 1) (zCells sh ++ [.int .i64 a, .int .i64 o])) : RowZ lo w v (sh ++ [(a, o)]) := by
  unfold RowZ; rw [zCells_snoc]; simpa using h
/-- A row of the call's own, one of its cells written. -/
theorem row_put {w : World} {B k n c g : Nat} {e : TypeId} {xs : List Value} (h : w.ownsRow B e k (.slice (some ⟨g, 0, none⟩) n c) n xs) (i : Nat) (u : Value) : (w.setCell ⟨g, i, none⟩ u).ownsRow B e k (.slice (some ⟨g, 0, none⟩) n c) n (xs.set i u) := by
  rcases h.2 with ⟨hv, _⟩ | ⟨g', cap, cur, hv, r2, r3, r4, r5, r6, r7⟩
  · cases hv
  · cases hv
    refine ⟨by rw [List.length_set]; exact h.1, .inr ⟨g, c, cur.setIfInBounds i u, rfl, r2, (show Blk g cur e w from r3).set i u, r4, r5, by rw [Array.size_setIfInBounds]; exact r6, ?_⟩⟩
    rw [← r7, Array.toList_setIfInBounds, List.take_set]
theorem row_blk {w : World} {B k n c g : Nat} {e : TypeId} {xs : List Value} (h : w.ownsRow B e k (.slice (some ⟨g, 0, none⟩) n c) n xs) : ∃ cur, Blk g cur e w ∧ B ≤ g ∧ g < w.heap.size := by
  rcases h.2 with ⟨hv, _⟩ | ⟨g', cap, cur, hv, r2, r3, r4⟩
  · cases hv
  · cases hv
    exact ⟨cur, r3, r2, (show Blk g cur e w from r3).lt⟩
theorem row_form {w : World} {B k n : Nat} {e : TypeId} {v : Value} {xs : List Value} (h : w.ownsRow B e k v n xs) (hn : 0 < n) : ∃ g c, v = .slice (some ⟨g, 0, none⟩) n c := by
  rcases h.2 with ⟨hv, h0⟩ | ⟨g, cap, cur, hv, _⟩
  · omega
  · exact ⟨g, cap, hv⟩

/-- The numbers of some shifts. -/
def zInts (sh : List (Int × Int)) : List Int := sh.flatMap fun t => [t.1, t.2]
theorem zCells_ints : ∀ sh : List (Int × Int), zCells sh = (zInts sh).map (Value.int .i64)
  | [] => rfl
  | t :: r => by
    show [Value.int .i64 t.1, .int .i64 t.2] ++ zCells r = ([t.1, t.2] ++ zInts r).map (Value.int .i64)
    rw [zCells_ints r, List.map_append]; rfl
theorem zInts_of : ∀ (n : Nat) (ys : List Int), ys.length = n * 2 → ∃ sh : List (Int × Int), sh.length = n ∧ zInts sh = ys
  | 0, [], _ => ⟨[], rfl, rfl⟩
  | 0, _ :: _, h => by simp at h
  | n + 1, [], h => by simp at h
  | n + 1, [_], h => by simp at h; omega
  | n + 1, a :: o :: r, h => by
    obtain ⟨sh, h1, h2⟩ := zInts_of n r (by simp at h; omega)
    refine ⟨(a, o) :: sh, by simp [h1], ?_⟩
    show [a, o] ++ zInts sh = _
    rw [h2]; rfl
/-- One number of one shift written. -/
theorem RowZ.put {w : World} {lo n c g : Nat} {sh : List (Int × Int)} (h : RowZ lo w (.slice (some ⟨g, 0, none⟩) n c) sh) (hn : sh.length = n) (i : Nat) (a : Int) : ∃ sh2 : List (Int × Int), sh2.length = n ∧ RowZ lo (w.setCell ⟨g, i, none⟩ (.int .i64 a)) (.slice (some ⟨g, 0, none⟩) n c) sh2 := by
  subst hn; have h1 := row_put h i (.int .i64 a)
  rw [zCells_ints, ← List.map_set] at h1
  obtain ⟨sh2, e1, e2⟩ := zInts_of sh.length ((zInts sh).set i a) (by
    rw [List.length_set]
    have := zCells_len sh
    rw [zCells_ints, List.length_map] at this
    exact this)
  refine ⟨sh2, e1, ?_⟩
  unfold RowZ
  rw [e1, zCells_ints, e2]
  exact h1
theorem RowZ.cell {w : World} {lo n c g : Nat} {sh : List (Int × Int)} (h : RowZ lo w (.slice (some ⟨g, 0, none⟩) n c) sh) (i : Nat) (hi : i < sh.length * 2) : ∃ a : Int, w.cell? ⟨g, i, none⟩ = some (.int .i64 a) := by
  have h2 : i < (zInts sh).length := by
    have := zCells_len sh
    rw [zCells_ints, List.length_map] at this
    omega
  have h1 := World.ownsRow.cells h (g := g) rfl i (.int .i64 (zInts sh)[i]) (by rw [zCells_ints]; simp [h2])
  rw [Addr.add_lit] at h1
  exact ⟨_, by simpa using h1⟩
theorem RowZ.frozen {w : World} {lo n c g : Nat} {sh : List (Int × Int)} (h : RowZ lo w (.slice (some ⟨g, 0, none⟩) n c) sh) (i : Nat) : w.frozen? ⟨g, i, none⟩ = false := by
  rcases h.2 with ⟨hv, _⟩ | ⟨g', cap, cur, hv, r2, r3, r4⟩
  · cases hv
  · cases hv
    exact (show Blk g cur 137 w from r3).frozen i

/-- A block of three cells filled anew. -/
theorem fill3 {g : Nat} {ty : TypeId} {w : World} {x0 x1 x2 : Value} (h : Blk g #[x0, x1, x2] ty w) (v0 v1 v2 : Value) :
    ∃ W, W = ((w.setCell ⟨g, 0, none⟩ v0).setCell ⟨g, 1, none⟩ v1).setCell ⟨g, 2, none⟩ v2 ∧ Blk g #[v0, v1, v2] ty W ∧
      (∀ lo k e v n xs, ty ≠ e → w.ownsRow lo e k v n xs → W.ownsRow lo e k v n xs) ∧ (∀ b, b < g → Dice b w → Dice b W) ∧ (∀ b B w0, B ≤ g → But b B w0 w → But b B w0 W) := by
  refine ⟨_, rfl, ((h.set 0 v0).set 1 v1).set 2 v2, fun lo k e v n xs hty hx => ?_, fun b hb hd => ?_, fun b B w0 hB hk => ?_⟩
  · have h1 := h.set 0 v0; have h2 := h1.set 1 v1
    exact row_set (row_set (row_set hx h hty 0 v0) h1 hty 1 v1) h2 hty 2 v2
  · exact dice_set (i := 2) (dice_set (i := 1) (dice_set (i := 0) hd hb) hb) hb
  · exact but_set (i := 2) (but_set (i := 1) (but_set (i := 0) hk hB) hB) hB
end Go.Proofs.YtageielcdebjlaaGreatDoor
namespace Go.Proofs.YtageielcdebjlaaGreatDoor
open Go.RowKit

theorem tCells_set : ∀ (ts : List (Ev × Value × Value)) (k o : Nat) (t t' : Ev × Value × Value) (u : Value), ts[k]? = some t → o < 13 → (evCells t'.1 t'.2.1 t'.2.2).toList = (evCells t.1 t.2.1 t.2.2).toList.set o u →
    tCells (ts.set k t') = (tCells ts).set (k * 13 + o) u
  | [], _, _, _, _, _, h, _, _ => by simp at h
  | t0 :: r, 0, o, t, t', u, h, ho, hc => by
    simp at h; subst h
    show (evCells t'.1 t'.2.1 t'.2.2).toList ++ tCells r = ((evCells t0.1 t0.2.1 t0.2.2).toList ++ tCells r).set (0 * 13 + o) u
    rw [hc, show 0 * 13 + o = o by omega, List.set_append_left _ _ (show o < 13 from ho)]
  | t0 :: r, k + 1, o, t, t', u, h, ho, hc => by
    have ih := tCells_set r k o t t' u (by simpa using h) ho hc
    show (evCells t0.1 t0.2.1 t0.2.2).toList ++ tCells (r.set k t') = ((evCells t0.1 t0.2.1 t0.2.2).toList ++ tCells r).set ((k + 1) * 13 + o) u
    rw [ih, List.set_append_right _ _ (show 13 ≤ (k + 1) * 13 + o by omega), show (k + 1) * 13 + o - (evCells t0.1 t0.2.1 t0.2.2).toList.length = k * 13 + o by show _ - 13 = _; omega]

/-- One cell of one event written. -/
theorem RowE.put {w : World} {lo n c g : Nat} {ts : List (Ev × Value × Value)} (h : RowE lo w (.slice (some ⟨g, 0, none⟩) n c) ts) (k o : Nat) (t t' : Ev × Value × Value) (u : Value) (ht : ts[k]? = some t) (ho : o < 13)
    (hn : ts.length = n) (hc : (evCells t'.1 t'.2.1 t'.2.2).toList = (evCells t.1 t.2.1 t.2.2).toList.set o u) (hr : RefG lo w t') : RowE lo (w.setCell ⟨g, k * 13 + o, none⟩ u) (.slice (some ⟨g, 0, none⟩) n c) (ts.set k t') := by
  subst hn; have h1 := row_put h.row (k * 13 + o) u
  obtain ⟨cur, hb, -⟩ := row_blk h.row
  refine ⟨by rw [List.length_set, tCells_set ts k o t t' u ht ho hc]; exact h1, fun t2 h2 => ?_⟩
  rcases List.mem_or_eq_of_mem_set h2 with h3 | h3
  · exact (h.ref t2 h3).set hb (by decide) _ _
  · subst h3; exact hr.set hb (by decide) _ _
theorem RowE.cell {w : World} {lo n c g : Nat} {ts : List (Ev × Value × Value)} (h : RowE lo w (.slice (some ⟨g, 0, none⟩) n c) ts) (hn : ts.length = n) (k o : Nat) (t : Ev × Value × Value) (u : Value) (ht : ts[k]? = some t) (ho : o < 13) (hu : (evCells t.1 t.2.1 t.2.2).toList[o]? = some u) : w.cell? ⟨g, k * 13 + o, none⟩ = some u := by
  subst hn; have := h.row.cells (g := g) rfl (k * 13 + o) u (by rw [tCells_get ts k o t ht ho]; exact hu)
  rw [Addr.add_lit] at this
  simpa using this
theorem RowE.frz {w : World} {lo n c g : Nat} {ts : List (Ev × Value × Value)} (h : RowE lo w (.slice (some ⟨g, 0, none⟩) n c) ts) (hn : ts.length = n) (i : Nat) : w.frozen? ⟨g, i, none⟩ = false := by
  subst hn; obtain ⟨cur, hb, _⟩ := row_blk h.row
  exact hb.frozen i
theorem RowE.map {w W : World} {lo : Nat} {v : Value} {ts : List (Ev × Value × Value)} {ty : TypeId} (h : RowE lo w v ts) (h1 : ty ≠ 82) (h2 : ty ≠ 3) (f2 : ∀ lo k e v n xs, ty ≠ e → w.ownsRow lo e k v n xs → W.ownsRow lo e k v n xs) : RowE lo W v ts :=
  ⟨f2 _ _ _ _ _ _ h1 h.row, fun t ht => ⟨(h.ref t ht).1, f2 _ _ _ _ _ _ h2 (h.ref t ht).2.1, f2 _ _ _ _ _ _ h2 (h.ref t ht).2.2⟩⟩
theorem RowE.only {b lo : Nat} {w w' : World} {v : Value} {ts : List (Ev × Value × Value)} (h : RowE lo w v ts) (hb : b < lo) (ho : Only b w w') : RowE lo w' v ts := h.but hb ho.but
theorem tCells_one (ts : List (Ev × Value × Value)) (h : ∀ t ∈ ts, ∃ p n c p' n' c', t.2.1 = .slice p n c ∧ t.2.2 = .slice p' n' c') : ∀ u ∈ tCells ts, u.oneCell' = true := by
  intro u hu; obtain ⟨t, ht, h2⟩ := List.mem_flatMap.1 hu
  obtain ⟨p, n, c, p', n', c', h3, h4⟩ := h t ht
  rw [h3, h4] at h2
  exact evCells_one _ _ _ _ _ _ _ u h2
theorem RowE.one {lo : Nat} {w : World} {v : Value} {ts : List (Ev × Value × Value)} (h : RowE lo w v ts) : ∀ u ∈ tCells ts, u.oneCell' = true := by
  refine tCells_one ts fun t ht => ?_
  obtain ⟨p, c, h1⟩ := (h.ref t ht).2.1.slice
  obtain ⟨p', c', h2⟩ := (h.ref t ht).2.2.slice
  exact ⟨_, _, _, _, _, _, h1, h2⟩
/-- Behind a copy of the row: the same events, the row a new one. -/
theorem RowE.copied {lo lo2 : Nat} {w w' : World} {v v' : Value} {ts : List (Ev × Value × Value)} (h : RowE lo w v ts) (hl : lo ≤ lo2) (hg : w.grownBy w' none) (hrow : w'.ownsRow lo2 82 13 v' ts.length (tCells ts)) : RowE lo w' v' ts :=
  ⟨ownsRow_mono hrow hl, fun t ht => ⟨(h.ref t ht).1, World.ownsRow.kept (h.ref t ht).2.1 hg (by cases t.2.1.ownBlock <;> simp), World.ownsRow.kept (h.ref t ht).2.2 hg (by cases t.2.2.ownBlock <;> simp)⟩⟩
theorem tCells_days (ts : List (Ev × Value × Value)) (k : Nat) (ev : Ev) (va vb v1 v2 : Value) (s : Tt.Ser) (ht : ts[k]? = some (ev, va, vb)) :
    tCells (ts.set k ({ ev with days := s }, v1, v2)) = ((((((tCells ts).set (k * 13 + 3) (.int .i64 s.first)).set (k * 13 + 4) (.int .i64 s.last)).set (k * 13 + 5) (.int .i64 s.every)).set (k * 13 + 6) (.int .i64 s.wd)).set (k * 13 + 7) v1).set (k * 13 + 8) v2 := by
  have hk : k < ts.length := (List.getElem?_eq_some_iff.1 ht).1
  have hg : ∀ t : Ev × Value × Value, (ts.set k t)[k]? = some t := fun t => List.getElem?_set_self hk
  have e1 := tCells_set ts k 3 _ ({ ev with days := { ev.days with first := s.first } }, va, vb) (.int .i64 s.first) ht (by decide) rfl
  have e2 := tCells_set _ k 4 _ ({ ev with days := { ev.days with first := s.first, last := s.last } }, va, vb) (.int .i64 s.last) (hg ({ ev with days := { ev.days with first := s.first } }, va, vb)) (by decide) rfl
  have e3 := tCells_set _ k 5 _ ({ ev with days := { ev.days with first := s.first, last := s.last, every := s.every } }, va, vb) (.int .i64 s.every) (hg ({ ev with days := { ev.days with first := s.first, last := s.last } }, va, vb)) (by decide) rfl
  have e4 := tCells_set _ k 6 _ ({ ev with days := { ev.days with first := s.first, last := s.last, every := s.every, wd := s.wd } }, va, vb) (.int .i64 s.wd) (hg ({ ev with days := { ev.days with first := s.first, last := s.last, every := s.every } }, va, vb)) (by decide) rfl
  have e5 := tCells_set _ k 7 _ ({ ev with days := { ev.days with first := s.first, last := s.last, every := s.every, wd := s.wd } }, v1, vb) v1 (hg ({ ev with days := { ev.days with first := s.first, last := s.last, every := s.every, wd := s.wd } }, va, vb)) (by decide) rfl
  have e6 := tCells_set _ k 8 _ ({ ev with days := s }, v1, v2) v2 (hg ({ ev with days := { ev.days with first := s.first, last := s.last, every := s.every, wd := s.wd } }, v1, vb)) (by decide) rfl
  rw [List.set_set] at e2 e3 e4 e5 e6
  rw [e6, e5, e4, e3, e2, e1]

/-- The series of one event written. -/
theorem RowE.days {w : World} {lo n c g : Nat} {ts : List (Ev × Value × Value)} (h : RowE lo w (.slice (some ⟨g, 0, none⟩) n c) ts) (k : Nat) (ev : Ev) (va vb v1 v2 : Value) (s : Tt.Ser) (ht : ts[k]? = some (ev, va, vb)) (hn : ts.length = n)
    (hg : EvG { ev with days := s }) (h1 : RowI lo w v1 s.ex) (h2 : RowI lo w v2 s.xt) :
    RowE lo ((((((w.setCell ⟨g, k * 13 + 3, none⟩ (.int .i64 s.first)).setCell ⟨g, k * 13 + 4, none⟩ (.int .i64 s.last)).setCell ⟨g, k * 13 + 5, none⟩ (.int .i64 s.every)).setCell ⟨g, k * 13 + 6, none⟩ (.int .i64 s.wd)).setCell ⟨g, k * 13 + 7, none⟩ v1).setCell ⟨g, k * 13 + 8, none⟩ v2)
      (.slice (some ⟨g, 0, none⟩) n c) (ts.set k ({ ev with days := s }, v1, v2)) := by
  subst hn; have r6 := row_put (row_put (row_put (row_put (row_put (row_put h.row (k * 13 + 3) (.int .i64 s.first)) (k * 13 + 4) (.int .i64 s.last)) (k * 13 + 5) (.int .i64 s.every)) (k * 13 + 6) (.int .i64 s.wd)) (k * 13 + 7) v1) (k * 13 + 8) v2
  obtain ⟨cur, b0, -⟩ := row_blk h.row
  have b1 := b0.set (k * 13 + 3) (.int .i64 s.first)
  have b2 := b1.set (k * 13 + 4) (.int .i64 s.last)
  have b3 := b2.set (k * 13 + 5) (.int .i64 s.every)
  have b4 := b3.set (k * 13 + 6) (.int .i64 s.wd)
  have b5 := b4.set (k * 13 + 7) v1
  have fR : ∀ v xs, RowI lo w v xs → RowI lo ((((((w.setCell ⟨g, k * 13 + 3, none⟩ (.int .i64 s.first)).setCell ⟨g, k * 13 + 4, none⟩ (.int .i64 s.last)).setCell ⟨g, k * 13 + 5, none⟩ (.int .i64 s.every)).setCell ⟨g, k * 13 + 6, none⟩ (.int .i64 s.wd)).setCell ⟨g, k * 13 + 7, none⟩ v1).setCell ⟨g, k * 13 + 8, none⟩ v2) v xs :=
    fun v xs hx => row_set (row_set (row_set (row_set (row_set (row_set hx b0 (by decide) _ _) b1 (by decide) _ _) b2 (by decide) _ _) b3 (by decide) _ _) b4 (by decide) _ _) b5 (by decide) _ _
  refine ⟨by rw [List.length_set, tCells_days ts k ev va vb v1 v2 s ht]; exact r6, fun t2 ht2 => ?_⟩
  rcases List.mem_or_eq_of_mem_set ht2 with h3 | h3
  · exact ⟨(h.ref t2 h3).1, fR _ _ (h.ref t2 h3).2.1, fR _ _ (h.ref t2 h3).2.2⟩
  · subst h3; exact ⟨hg, fR _ _ h1, fR _ _ h2⟩
end Go.Proofs.YtageielcdebjlaaGreatDoor
-- Short
namespace Go.Proofs.YtageielcdebjlaaGreatDoor
open Go.RowKit

def SomeBool (w : World) (x : Ending) (w' : World) : Prop := ∃ z : Bool, x = .returned (.bool z) ∧ Below w.heap.size w w'
end Go.Proofs.YtageielcdebjlaaGreatDoor

-- Law10a
namespace Go.Proofs.YtageielcdebjlaaGreatDoor
open Go.RowKit

theorem RowI.few {lo : Nat} {w : World} {v : Value} {xs : List Int} (h : RowI lo w v xs) : xs.length ≤ 9223372036854775807 := by
  rcases h.2 with ⟨_, h0⟩ | ⟨g, cap, cur, _, _, _, r4, r5, _⟩
  · omega
  · unfold maxLen at r5; omega
end Go.Proofs.YtageielcdebjlaaGreatDoor

-- Awake
namespace Go.Proofs.YtageielcdebjlaaGreatDoor
open Go.RowKit

/-- The name 'a', the zone 'z', the text of that feed. -/
def nA : ByteArray := ⟨#[97]⟩
def nZ : ByteArray := ⟨#[122]⟩
def awakeText : List UInt8 := [66, 69, 71, 73, 78, 58, 86, 67, 65, 76, 69, 78, 68, 65, 82, 13, 10, 86, 69, 82, 83, 73, 79, 78, 58, 50, 46, 48, 13, 10, 80, 82, 79, 68, 73, 68, 58, 45, 47, 47, 116, 105, 109, 101, 116, 97, 98, 108, 101, 47, 47, 69, 78, 13, 10, 78, 65, 77, 69, 58, 97, 13, 10, 82, 69, 86, 73, 83, 73, 79, 78, 58, 48, 13, 10, 69, 78, 68, 58, 86, 67, 65, 76, 69, 78, 68, 65, 82, 13, 10]

theorem dig0 : Lib.decDigits 0 = [48] := by unfold Lib.decDigits; simp
theorem atoi0 : Lib.atoi (Lib.decDigits 0) = some ((0 : Nat) : Int) := by rw [dig0]; decide
theorem codeA : Tt.code nA.data.toList = true := by decide
theorem codeZ : Tt.code nZ.data.toList = true := by decide
theorem folds0 : (lines0 nA 0).flatMap (fun l => Tt.fold l.data.toList) = awakeText := by
  unfold lines0; rw [dig0]; decide
theorem unf0 : Tt.unf awakeText = some ((lines0 nA 0).map (·.data.toList)) := by
  unfold lines0; rw [dig0]; decide
theorem sizes0 : ∀ x ∈ lines0 nA 0, x.size ≤ 100000 := by
  unfold lines0; rw [dig0]; intro x hx
  simp only [List.mem_cons, List.not_mem_nil, or_false] at hx
  rcases hx with rfl | rfl | rfl | rfl | rfl | rfl
  all_goals decide
theorem esc0 : Tt.esc [97, 44, 98] = [97, 92, 44, 98] := by decide

theorem format_awake (w : World) : Calls Tryz.prog 48 #[.agg #[.string nA, .int .i64 0, .slice none 0 0], .string nZ] w fun e w' => e = .returned (.tuple #[.string (str awakeText), .int .i64 0]) ∧ Below w.heap.size w w' := by
  have := format_none nA nZ 0 codeA codeZ (by decide) (by decide) (by rw [dig0]; decide) sizes0 (by rw [folds0]; decide) w
  rw [folds0] at this
  exact this
theorem parse_awake (w : World) (m : Int) (hm : w.cell? ⟨0, 0, none⟩ = some (.int .i64 m)) (h0 : 0 < w.heap.size) : Calls Tryz.prog 50 #[.string (str awakeText), .string nZ] w fun e w' => e = .returned (.tuple #[.agg #[.string nA, .int .i64 0, .slice none 0 0], .int .i64 0]) ∧ Below w.heap.size w w' :=
  parse_none (str awakeText) nA nZ 0 (by decide) codeA codeZ (by decide) (by decide) (by rw [dig0]; decide) atoi0 unf0 w m hm h0
theorem escape_awake (w : World) : Calls Tryz.prog 39 #[.string ⟨#[97, 44, 98]⟩] w fun e w' => e = .returned (.string ⟨#[97, 92, 44, 98]⟩) ∧ Below w.heap.size w w' := by
  have := escape_any ⟨#[97, 44, 98]⟩ w (by decide)
  refine this.mono ?_
  rintro e w' ⟨h1, h2⟩; refine ⟨?_, h2⟩
  rw [h1]
  exact ret_str esc0
theorem awakeText_list : ((str awakeText).toList == awakeText) = true := by rw [Lib.toList_data]; exact beq_self_eq_true _
theorem nA_list : (nA.toList == [97]) = true := by rw [Lib.toList_data]; decide

set_option maxHeartbeats 4000000 in
set_option maxRecDepth 100000 in
theorem awake_any (w : World) (m : Int) (hm : w.cell? ⟨0, 0, none⟩ = some (.int .i64 m)) (h0 : 0 < w.heap.size) :
    Calls Tryz.prog 33 #[] w fun e w' => e = .returned (.bool true) ∧ Below w.heap.size w w' := by
  go_enter Tryz.func33, Tryz.ntmps33
  go_wp2_with fail
  refine (format_awake w).mono ?_
  rintro e w1 ⟨rfl, hb1⟩; have hm1 := (hb1.cell (p := ⟨0, 0, none⟩) h0).trans hm
  have h01 : 0 < w1.heap.size := Nat.lt_of_lt_of_le h0 hb1.size
  have s1 := hb1.size; clear hm; go_wp2_with fail
  refine (parse_awake w1 m hm1 h01).mono ?_
  rintro e w2 ⟨rfl, hb2⟩; have s2 := hb2.size; have hA := nA_list; go_wp2_with fail
  refine (escape_awake _).mono ?_
  rintro e w3 ⟨rfl, hb3⟩; go_wp2_with fail
  go_ret; refine ⟨?_, ?_⟩
  · show Ending.returned (.bool ((str awakeText).toList == awakeText)) = _
    rw [awakeText_list]
  · exact (((hb1.trans (hb2.mono s1)).alloc (by omega) _).trans (hb3.mono (by simp; omega)))
end Go.Proofs.YtageielcdebjlaaGreatDoor

-- Law7
namespace Go.Proofs.YtageielcdebjlaaGreatDoor
open Go.RowKit

/-- The whole numbers of a slice. -/
def Nums (w : World) (ao : Option Addr) (len : Nat) : Prop := ∀ i, i < len → ∃ a n, ao = some a ∧ a.block < w.heap.size ∧ w.cell? (a.add i) = some (.int .i64 n) ∧ -9223372036854775808 ≤ n ∧ n ≤ 9223372036854775807

theorem Nums.below {w w' : World} {ao : Option Addr} {len : Nat} (h : Nums w ao len) (hw : Below w.heap.size w w') : Nums w' ao len := fun i hi => by
  obtain ⟨a, n, ha, hlt, hc, hn⟩ := h i hi
  exact ⟨a, n, ha, Nat.lt_of_lt_of_le hlt hw.size, (hw.cell (p := a.add i) (by rw [addr_add_block]; omega)).trans hc, hn⟩

set_option maxRecDepth 100000 in
theorem light_any (ao : Option Addr) (len cap : Nat) (w : World) :
    Calls Tryz.prog 15 #[.slice ao len cap] w fun e w' => e = .returned (.bool (decide ((len : Int) ≤ 400))) ∧ w' = w := by
  go_enter Tryz.func15, Tryz.ntmps15
  go_wp2_with fail
  go_ret; exact ⟨rfl, rfl⟩

set_option maxRecDepth 100000 in
theorem roll_any (ao : Option Addr) (len cap : Nat) (w : World) (hl : len ≤ 400) (hn : Nums w ao len) :
    Calls Tryz.prog 18 #[.slice ao len cap] w fun e w' => e = .returned (.pointer (some ⟨w.heap.size, 0, none⟩)) ∧ Dice w.heap.size w' ∧ Below w.heap.size w w' ∧ w.heap.size + 1 ≤ w'.heap.size := by
  go_enter Tryz.func18, Tryz.ntmps18
  go_wp2_with fail
  go_ret; have hb : Below w.heap.size w (w.alloc (.cells #[.slice ao len cap, .int .i64 0] 124)) := (Below.refl _ w).alloc (Nat.le_refl _) _
  refine ⟨rfl, ⟨ao, len, cap, 0, ⟨heap_alloc_new w _, Nat.zero_le _, hl, fun i hi => ?_⟩⟩, hb, by simp⟩
  obtain ⟨a, n, ha, hlt, hc, hn⟩ := hn i hi
  exact ⟨a, n, ha, hlt, (hb.cell (p := a.add i) (by rw [addr_add_block]; omega)).trans hc, hn⟩

end Go.Proofs.YtageielcdebjlaaGreatDoor
namespace Go.Proofs.YtageielcdebjlaaGreatDoor
open Go.RowKit

set_option maxHeartbeats 16000000 in
set_option maxRecDepth 100000 in
theorem short44A (fn : ByteArray) (fv : Int) (es : List Ev) (ao : Option Addr) (c : Nat) (w : World) (hE : Evs w.heap.size w ao es) (hn : es.length ≤ 4611686018427387903) :
    Calls Tryz.prog 44 #[.agg #[.string fn, .int .i64 fv, .slice ao es.length c]] w (SomeBool w) := by
  have HE := Lib.hid hE; clear hE; obtain ⟨n, hne⟩ : ∃ n, n = es.length := ⟨_, rfl⟩
  rw [← hne] at hn ⊢
  have HN := Lib.hid hne; have hbx := Lib.hid (below_box w (.cells #[.string fn, .int .i64 fv, .slice ao n c] 26))
  have HB0 := Lib.hid (Blk.new w #[.string fn, .int .i64 fv, .slice ao n c] 26)
  clear hne; go_enter Tryz.func44, Tryz.ntmps44
  go_wp2_with fail
  go_loopw [3] (fun iv wr => ∃ k : Nat, k ≤ n ∧ k ≤ 300 ∧ iv = .int .i64 k ∧ Hid (Below w.heap.size w wr) ∧ Hid (Blk w.heap.size #[.string fn, .int .i64 fv, .slice ao n c] 26 wr)) (fun iv _ => n - (intOf iv).toNat)
  case atStart => exact ⟨0, Nat.zero_le _, by omega, rfl, hbx, HB0⟩
  case round =>
    clear HB0 hbx; obtain ⟨k, hk, hk3, rfl, HK, HB⟩ := hrel; have f2 : wr.cell? ⟨w.heap.size, 2, none⟩ = some (.slice ao n c) := HB.out.cell 2
    by_cases hlt : k < n
    · have hlti : (k : Int) < n := by omega
      by_cases hk4 : k < 300
      · have hk4i : (k : Int) < 300 := by omega
        have hke : k < es.length := by rw [← HN.out]; exact hlt
        rcases (HE.out.below HK.out) with h | ⟨g, o, rfl, hg, hc⟩
        · rw [h] at hke; simp at hke
        · obtain ⟨hEk, v, v', hv, ⟨p, c1, rfl, -⟩, ⟨p', c2, rfl, -⟩⟩ := hc k _ (List.getElem?_eq_getElem hke)
          obtain ⟨c0, c1, c2, c3, c4, c5, c6, c7, c8, c9, c10, c11, c12⟩ := hv; clear hc; obtain ⟨e, hee⟩ : ∃ e, e = es[k] := ⟨_, rfl⟩
          rw [← hee] at c0 c1 c2 c3 c4 c5 c6 c7 c8 c9 c10 c11 c12 hEk
          obtain ⟨h1, h2, h3, h4, h5⟩ := hEk; clear hee; obtain ⟨ex, hex⟩ : ∃ n, n = e.days.ex.length := ⟨_, rfl⟩
          obtain ⟨xt, hxt⟩ : ∃ n, n = e.days.xt.length := ⟨_, rfl⟩
          rw [← hex] at h1 c7
          rw [← hxt] at h2 c8
          clear hex hxt; rename_i d1 d2
          have hbe := HK.out.trans ((below_box wr (.cells #[.string e.uid, .int .i64 e.seq, .bool e.canc, .int .i64 e.days.first, .int .i64 e.days.last, .int .i64 e.days.every, .int .i64 e.days.wd, .slice p ex d1, .slice p' xt d2, .int .i64 e.start, .int .i64 e.mins, .string e.summ, .string e.loc] 82)).mono HK.out.size)
          have HK2 := Lib.hid hbe; have HB2 := Lib.hid (HB.out.alloc (.cells #[.string e.uid, .int .i64 e.seq, .bool e.canc, .int .i64 e.days.first, .int .i64 e.days.last, .int .i64 e.days.every, .int .i64 e.days.wd, .slice p ex d1, .slice p' xt d2, .int .i64 e.start, .int .i64 e.mins, .string e.summ, .string e.loc] 82))
          clear hbe; go_wp2_with fail
          all_goals first
            | (go_ret; refine ⟨false, ?_, HK2.out⟩; rfl)
            | (go_roundw
               case rel => exact ⟨k + 1, by omega, by omega, by go_num, HK2, HB2⟩
               case measure => simp [intOf]; omega)
      · have hk4i : ¬ (k : Int) < 300 := by omega
        have hne : ¬ (n : Int) ≤ 300 := by omega
        go_wp2_with fail
        go_ret; exact ⟨false, rfl, HK.out⟩
    · have hlti : ¬ (k : Int) < n := by omega
      have hle : (n : Int) ≤ 300 := by omega
      go_wp2_with fail
      go_ret; exact ⟨true, rfl, HK.out⟩

set_option maxHeartbeats 4000000 in
set_option maxRecDepth 100000 in
theorem same51 (n m : ByteArray) (u v : Int) (xs ys : List Ev) (ao bo : Option Addr) (c d : Nat) (w : World) (hX : Evs w.heap.size w ao xs) (hY : Evs w.heap.size w bo ys) (hn : xs.length ≤ 4611686018427387903) (he : n = m ∧ u = v ∧ xs = ys) :
    Calls Tryz.prog 51 #[.agg #[.string n, .int .i64 u, .slice ao xs.length c], .agg #[.string m, .int .i64 v, .slice bo ys.length d]] w fun e w' => e = .returned (.bool true) ∧ Below w.heap.size w w' := by
  obtain ⟨rfl, rfl, rfl⟩ := he; obtain ⟨l, hl⟩ : ∃ l, l = xs.length := ⟨_, rfl⟩
  obtain ⟨W, hW⟩ : ∃ W, W = (w.alloc (.cells #[.string n, .int .i64 u, .slice ao l c] 26)).alloc (.cells #[.string n, .int .i64 u, .slice bo l d] 26) := ⟨_, rfl⟩
  have HA := Lib.hid (show Blk w.heap.size #[.string n, .int .i64 u, .slice ao l c] 26 W from by rw [hW]; exact (Blk.new w _ _).alloc _)
  have HB := Lib.hid (show Blk (w.heap.size + 1) #[.string n, .int .i64 u, .slice bo l d] 26 W from by rw [hW]; exact Blk.new' (g := w.heap.size + 1) _ _ _ (by simp))
  have HL := Lib.hid (show Below w.heap.size w W from by rw [hW]; exact (below_box w _).alloc (by simp) _)
  have HC : Hid (Calls Tryz.prog 65 #[.slice ao l c, .slice bo l d] W fun e w' => e = .returned (.bool true) ∧ Below W.heap.size W w') := Lib.hid (by
    have h := sameevs65 xs xs ao bo c d w.heap.size W HL.out.size (hX.below HL.out) (hY.below HL.out) hn
    rw [decide_eq_true (p := xs = xs) rfl, ← hl] at h
    exact h)
  rw [← hl] at hn ⊢
  clear hX hY hl; have a0 : W.cell? ⟨w.heap.size, 0, none⟩ = some (.string n) := HA.out.cell 0
  have a1 : W.cell? ⟨w.heap.size, 1, none⟩ = some (.int .i64 u) := HA.out.cell 1
  have a2 : W.cell? ⟨w.heap.size, 2, none⟩ = some (.slice ao l c) := HA.out.cell 2
  have b0 : W.cell? ⟨w.heap.size + 1, 0, none⟩ = some (.string n) := HB.out.cell 0
  have b1 : W.cell? ⟨w.heap.size + 1, 1, none⟩ = some (.int .i64 u) := HB.out.cell 1
  have b2 : W.cell? ⟨w.heap.size + 1, 2, none⟩ = some (.slice bo l d) := HB.out.cell 2
  go_enter Tryz.func51, Tryz.ntmps51
  go_upto_region 1 with (fail)
  rw [← hW]; clear hW; go_wp2_with fail
  refine HC.out.mono ?_
  rintro e w1 ⟨rfl, hb⟩; go_wp2_with fail
  go_ret; exact ⟨rfl, HL.out.trans (hb.mono HL.out.size)⟩
end Go.Proofs.YtageielcdebjlaaGreatDoor
namespace Go.Proofs.YtageielcdebjlaaGreatDoor
open Go.RowKit

section
variable {P : Program} {ops : Array Oper} {Q : Exit → Act → World → Prop}
theorem wp_region_all {id : Nat} {a : Act} {w : World} (hm : P.follows .mixedOrders = true) (J : Array Bool → Act → World → Prop) (hw : aheadB ops = true)
    (h0 : J (Array.replicate ops.size false) a { w with drawn := w.drawn + 1 })
    (hJ : ∀ listed a w, J listed a w → listed.size = ops.size)
    (hstep : ∀ listed a w i, J listed a w → i < ops.size → listed.getD i true = false → (∀ o, ops[i]? = some o → ∀ e ∈ o.after.toList, Region.binds .any e = true → listed.getD e.on false = true) → wpOp P ops Q i (J (listed.setIfInBounds i true)) a w)
    (hend : ∀ listed a w, J listed a w → (∀ i, i < ops.size → listed.getD i true = true) → Q .normal a w) : (Code.region id ops true).wp P Q a w := by
  refine wp_region_inv hm (fun listed a w => J listed a w) h0 ?_ ?_
  · intro listed a x i h hi; obtain ⟨h1, h2, h3⟩ := ready_spec hi
    exact hstep listed a x i h h1 h2 h3
  · intro listed a x h hr; exact hend listed a x h (fun i hi => all_listed hr (hJ _ _ _ h) hw i hi)
end
theorem RowE.kept {lo : Nat} {w w' : World} {v : Value} {ts : List (Ev × Value × Value)} (h : RowE lo w v ts) (hk : Kept lo w w') : RowE lo w' v ts := ⟨row_kept h.row hk, fun t ht => ⟨(h.ref t ht).1, row_kept (h.ref t ht).2.1 hk, row_kept (h.ref t ht).2.2 hk⟩⟩
end Go.Proofs.YtageielcdebjlaaGreatDoor
