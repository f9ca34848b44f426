/- Shifts in a row of their own, as a drawn zone holds them. No function of the program in sight. Condition: none. Events in a row of the call's own: one cell of one event written; one event more. No function of the program in sight. Condition: none. timetablelaw40.short over one event: its contract: an answer. timetableref17.SameInts: its contract. The law's awake: its contract. FeedTexts: the walk. -/
import Derived.Test.YtageielcdebjlaaGreatDoorPk9
import Derived.Test.YtageielcdebjlaaGreatDoorPk18
import Derived.Test.YtageielcdebjlaaGreatDoorGenF
import Derived.Test.YtageielcdebjlaaGreatDoorPk7
namespace Go.Proofs.YtageielcdebjlaaGreatDoor
open Go.RowKit

/-- The cells of some shifts. -/
def zCells (sh : List (Int × Int)) : List Value := sh.flatMap fun t => [.int .i64 t.1, .int .i64 t.2]
theorem zCells_len : ∀ sh : List (Int × Int), (zCells sh).length = sh.length * 2
  | [] => rfl
  | t :: r => by
    show ([Value.int .i64 t.1, .int .i64 t.2] ++ zCells r).length = _
    have h := zCells_len r; simp only [List.length_append, List.length_cons, List.length_nil, h]
    omega
theorem zCells_get : ∀ (sh : List (Int × Int)) (j : Nat) (t : Int × Int), sh[j]? = some t → (zCells sh)[j * 2]? = some (.int .i64 t.1) ∧ (zCells sh)[j * 2 + 1]? = some (.int .i64 t.2)
  | [], _, _, h => by simp at h
  | t0 :: r, 0, t, h => by
    simp at h; subst h
    exact ⟨rfl, rfl⟩
  | t0 :: r, j + 1, t, h => by
    have ih := zCells_get r j t (by simpa using h)
    show ([Value.int .i64 t0.1, .int .i64 t0.2] ++ zCells r)[(j + 1) * 2]? = _ ∧ ([Value.int .i64 t0.1, .int .i64 t0.2] ++ zCells r)[(j + 1) * 2 + 1]? = _
    rw [List.getElem?_append_right (by show 2 ≤ _; omega), List.getElem?_append_right (by show 2 ≤ _; omega), show (j + 1) * 2 - [Value.int .i64 t0.1, .int .i64 t0.2].length = j * 2 by show _ - 2 = _; omega, show (j + 1) * 2 + 1 - [Value.int .i64 t0.1, .int .i64 t0.2].length = j * 2 + 1 by show _ - 2 = _; omega]
    exact ih
theorem zCells_snoc (sh : List (Int × Int)) (a o : Int) : zCells (sh ++ [(a, o)]) = zCells sh ++ [.int .i64 a, .int .i64 o] := by unfold zCells; simp
/-- The shifts of a drawn zone. -/
def RowZ (lo : Nat) (w : World) (v : Value) (sh : List (Int × Int)) : Prop := w.ownsRow lo 137 2 v sh.length (zCells sh)
theorem RowZ.nil (lo : Nat) (w : World) : RowZ lo w (.slice none 0 0) [] := World.ownsRow_nil _ _ _ _
theorem RowZ.snoc {lo : Nat} {w : World} {v : Value} {sh : List (Int × Int)} {a o : Int} (h : w.ownsRow lo 137 2 v (sh.length + 1) (zCells sh ++ [.int .i64 a, .int .i64 o])) : RowZ lo w v (sh ++ [(a, o)]) := by
  unfold RowZ; rw [zCells_snoc]; simpa using h
theorem RowZ.shs {lo : Nat} {w : World} {v : Value} {sh : List (Int × Int)} (h : RowZ lo w v sh) : ∃ ao c, v = .slice ao sh.length c ∧ Shs w.heap.size w ao sh := by
  rcases h.2 with ⟨hv, h0⟩ | ⟨g, cap, cur, hv, r2, r3, r4, r5, _⟩
  · exact ⟨none, 0, by rw [hv, h0], .inl (List.eq_nil_of_length_eq_zero h0)⟩
  · refine ⟨_, cap, hv, .inr ⟨g, 0, rfl, (Array.getElem?_eq_some_iff.1 r3).1, fun j x hj => ?_⟩⟩
    obtain ⟨h1, h2⟩ := zCells_get sh j x hj
    have e1 := h.cells (g := g) (by rw [hv]; rfl) (j * 2) _ h1
    have e2 := h.cells (g := g) (by rw [hv]; rfl) (j * 2 + 1) _ h2
    rw [Addr.add_lit] at e1 e2
    rw [show 0 + j * 2 + 1 = 0 + (j * 2 + 1) by omega]
    exact ⟨e1, e2⟩
/-- A row of the call's own, one of its cells written. -/
theorem row_put {w : World} {B k n c g : Nat} {e : TypeId} {xs : List Value} (h : w.ownsRow B e k (.slice (some ⟨g, 0, none⟩) n c) n xs) (i : Nat) (u : Value) : (w.setCell ⟨g, i, none⟩ u).ownsRow B e k (.slice (some ⟨g, 0, none⟩) n c) n (xs.set i u) := by
  rcases h.2 with ⟨hv, _⟩ | ⟨g', cap, cur, hv, r2, r3, r4, r5, r6, r7⟩
  · cases hv
  · cases hv
    refine ⟨by rw [List.length_set]; exact h.1, .inr ⟨g, c, cur.setIfInBounds i u, rfl, r2, (show Blk g cur e w from r3).set i u, r4, r5, by rw [Array.size_setIfInBounds]; exact r6, ?_⟩⟩
    rw [← r7, Array.toList_setIfInBounds, List.take_set]
theorem row_blk {w : World} {B k n c g : Nat} {e : TypeId} {xs : List Value} (h : w.ownsRow B e k (.slice (some ⟨g, 0, none⟩) n c) n xs) : ∃ cur, Blk g cur e w ∧ B ≤ g ∧ g < w.heap.size := by
  rcases h.2 with ⟨hv, _⟩ | ⟨g', cap, cur, hv, r2, r3, r4⟩
  · cases hv
  · cases hv
    exact ⟨cur, r3, r2, (show Blk g cur e w from r3).lt⟩
/-- The numbers of some shifts. -/
def zInts (sh : List (Int × Int)) : List Int := sh.flatMap fun t => [t.1, t.2]
theorem zCells_ints : ∀ sh : List (Int × Int), zCells sh = (zInts sh).map (Value.int .i64)
  | [] => rfl
  | t :: r => by
    show [Value.int .i64 t.1, .int .i64 t.2] ++ zCells r = ([t.1, t.2] ++ zInts r).map (Value.int .i64)
    rw [zCells_ints r, List.map_append]; rfl
theorem zInts_of : ∀ (n : Nat) (ys : List Int), ys.length = n * 2 → ∃ sh : List (Int × Int), sh.length = n ∧ zInts sh = ys
  | 0, [], _ => ⟨[], rfl, rfl⟩
  | 0, _ :: _, h => by simp at h
  | n + 1, [], h => by simp at h
  | n + 1, [_], h => by simp at h; omega
  | n + 1, a :: o :: r, h => by
    obtain ⟨sh, h1, h2⟩ := zInts_of n r (by simp at h; omega)
    refine ⟨(a, o) :: sh, by simp [h1], ?_⟩
    show [a, o] ++ zInts sh = _
    rw [h2]; rfl
/-- One number of one shift written. -/
theorem RowZ.put {w : World} {lo n c g : Nat} {sh : List (Int × Int)} (h : RowZ lo w (.slice (some ⟨g, 0, none⟩) n c) sh) (hn : sh.length = n) (i : Nat) (a : Int) : ∃ sh2 : List (Int × Int), sh2.length = n ∧ RowZ lo (w.setCell ⟨g, i, none⟩ (.int .i64 a)) (.slice (some ⟨g, 0, none⟩) n c) sh2 := by
  subst hn; have h1 := row_put h i (.int .i64 a)
  rw [zCells_ints, ← List.map_set] at h1
  obtain ⟨sh2, e1, e2⟩ := zInts_of sh.length ((zInts sh).set i a) (by
    rw [List.length_set]
    have := zCells_len sh
    rw [zCells_ints, List.length_map] at this
    exact this)
  refine ⟨sh2, e1, ?_⟩
  unfold RowZ
  rw [e1, zCells_ints, e2]
  exact h1
theorem RowZ.cell {w : World} {lo n c g : Nat} {sh : List (Int × Int)} (h : RowZ lo w (.slice (some ⟨g, 0, none⟩) n c) sh) (i : Nat) (hi : i < sh.length * 2) : ∃ a : Int, w.cell? ⟨g, i, none⟩ = some (.int .i64 a) := by
  have h2 : i < (zInts sh).length := by
    have := zCells_len sh
    rw [zCells_ints, List.length_map] at this
    omega
  have h1 := World.ownsRow.cells h (g := g) rfl i (.int .i64 (zInts sh)[i]) (by rw [zCells_ints]; simp [h2])
  rw [Addr.add_lit] at h1
  exact ⟨_, by simpa using h1⟩
theorem RowZ.frozen {w : World} {lo n c g : Nat} {sh : List (Int × Int)} (h : RowZ lo w (.slice (some ⟨g, 0, none⟩) n c) sh) (i : Nat) : w.frozen? ⟨g, i, none⟩ = false := by
  rcases h.2 with ⟨hv, _⟩ | ⟨g', cap, cur, hv, r2, r3, r4⟩
  · cases hv
  · cases hv
    exact (show Blk g cur 137 w from r3).frozen i

/-- A block of three cells filled anew. -/
theorem fill3 {g : Nat} {ty : TypeId} {w : World} {x0 x1 x2 : Value} (h : Blk g #[x0, x1, x2] ty w) (v0 v1 v2 : Value) :
    ∃ W, W = ((w.setCell ⟨g, 0, none⟩ v0).setCell ⟨g, 1, none⟩ v1).setCell ⟨g, 2, none⟩ v2 ∧ Blk g #[v0, v1, v2] ty W ∧
      (∀ lo k e v n xs, ty ≠ e → w.ownsRow lo e k v n xs → W.ownsRow lo e k v n xs) ∧ (∀ b, b < g → Dice b w → Dice b W) ∧ (∀ b B w0, B ≤ g → But b B w0 w → But b B w0 W) := by
  refine ⟨_, rfl, ((h.set 0 v0).set 1 v1).set 2 v2, fun lo k e v n xs hty hx => ?_, fun b hb hd => ?_, fun b B w0 hB hk => ?_⟩
  · have h1 := h.set 0 v0; have h2 := h1.set 1 v1
    exact row_set (row_set (row_set hx h hty 0 v0) h1 hty 1 v1) h2 hty 2 v2
  · exact dice_set (i := 2) (dice_set (i := 1) (dice_set (i := 0) hd hb) hb) hb
  · exact but_set (i := 2) (but_set (i := 1) (but_set (i := 0) hk hB) hB) hB
end Go.Proofs.YtageielcdebjlaaGreatDoor
namespace Go.Proofs.YtageielcdebjlaaGreatDoor
open Go.RowKit

theorem tCells_set : ∀ (ts : List (Ev × Value × Value)) (k o : Nat) (t t' : Ev × Value × Value) (u : Value), ts[k]? = some t → o < 13 → (evCells t'.1 t'.2.1 t'.2.2).toList = (evCells t.1 t.2.1 t.2.2).toList.set o u →
    tCells (ts.set k t') = (tCells ts).set (k * 13 + o) u
  | [], _, _, _, _, _, h, _, _ => by simp at h
  | t0 :: r, 0, o, t, t', u, h, ho, hc => by
    simp at h; subst h
    show (evCells t'.1 t'.2.1 t'.2.2).toList ++ tCells r = ((evCells t0.1 t0.2.1 t0.2.2).toList ++ tCells r).set (0 * 13 + o) u
    rw [hc, show 0 * 13 + o = o by omega, List.set_append_left _ _ (show o < 13 from ho)]
  | t0 :: r, k + 1, o, t, t', u, h, ho, hc => by
    have ih := tCells_set r k o t t' u (by simpa using h) ho hc
    show (evCells t0.1 t0.2.1 t0.2.2).toList ++ tCells (r.set k t') = ((evCells t0.1 t0.2.1 t0.2.2).toList ++ tCells r).set ((k + 1) * 13 + o) u
    rw [ih, List.set_append_right _ _ (show 13 ≤ (k + 1) * 13 + o by omega), show (k + 1) * 13 + o - (evCells t0.1 t0.2.1 t0.2.2).toList.length = k * 13 + o by show _ - 13 = _; omega]

/-- One cell of one event written. -/
theorem RowE.put {w : World} {lo n c g : Nat} {ts : List (Ev × Value × Value)} (h : RowE lo w (.slice (some ⟨g, 0, none⟩) n c) ts) (k o : Nat) (t t' : Ev × Value × Value) (u : Value) (ht : ts[k]? = some t) (ho : o < 13)
    (hn : ts.length = n) (hc : (evCells t'.1 t'.2.1 t'.2.2).toList = (evCells t.1 t.2.1 t.2.2).toList.set o u) (hr : RefG lo w t') : RowE lo (w.setCell ⟨g, k * 13 + o, none⟩ u) (.slice (some ⟨g, 0, none⟩) n c) (ts.set k t') := by
  subst hn; have h1 := row_put h.row (k * 13 + o) u
  obtain ⟨cur, hb, -⟩ := row_blk h.row
  refine ⟨by rw [List.length_set, tCells_set ts k o t t' u ht ho hc]; exact h1, fun t2 h2 => ?_⟩
  rcases List.mem_or_eq_of_mem_set h2 with h3 | h3
  · exact (h.ref t2 h3).set hb (by decide) _ _
  · subst h3; exact hr.set hb (by decide) _ _
theorem RowE.cell {w : World} {lo n c g : Nat} {ts : List (Ev × Value × Value)} (h : RowE lo w (.slice (some ⟨g, 0, none⟩) n c) ts) (hn : ts.length = n) (k o : Nat) (t : Ev × Value × Value) (u : Value) (ht : ts[k]? = some t) (ho : o < 13) (hu : (evCells t.1 t.2.1 t.2.2).toList[o]? = some u) : w.cell? ⟨g, k * 13 + o, none⟩ = some u := by
  subst hn; have := h.row.cells (g := g) rfl (k * 13 + o) u (by rw [tCells_get ts k o t ht ho]; exact hu)
  rw [Addr.add_lit] at this
  simpa using this
theorem RowE.map {w W : World} {lo : Nat} {v : Value} {ts : List (Ev × Value × Value)} {ty : TypeId} (h : RowE lo w v ts) (h1 : ty ≠ 82) (h2 : ty ≠ 3) (f2 : ∀ lo k e v n xs, ty ≠ e → w.ownsRow lo e k v n xs → W.ownsRow lo e k v n xs) : RowE lo W v ts :=
  ⟨f2 _ _ _ _ _ _ h1 h.row, fun t ht => ⟨(h.ref t ht).1, f2 _ _ _ _ _ _ h2 (h.ref t ht).2.1, f2 _ _ _ _ _ _ h2 (h.ref t ht).2.2⟩⟩
theorem RowE.only {b lo : Nat} {w w' : World} {v : Value} {ts : List (Ev × Value × Value)} (h : RowE lo w v ts) (hb : b < lo) (ho : Only b w w') : RowE lo w' v ts := h.but hb ho.but
theorem tCells_one (ts : List (Ev × Value × Value)) (h : ∀ t ∈ ts, ∃ p n c p' n' c', t.2.1 = .slice p n c ∧ t.2.2 = .slice p' n' c') : ∀ u ∈ tCells ts, u.oneCell' = true := by
  intro u hu; obtain ⟨t, ht, h2⟩ := List.mem_flatMap.1 hu
  obtain ⟨p, n, c, p', n', c', h3, h4⟩ := h t ht
  rw [h3, h4] at h2
  exact evCells_one _ _ _ _ _ _ _ u h2
theorem RowE.one {lo : Nat} {w : World} {v : Value} {ts : List (Ev × Value × Value)} (h : RowE lo w v ts) : ∀ u ∈ tCells ts, u.oneCell' = true := by
  refine tCells_one ts fun t ht => ?_
  obtain ⟨p, c, h1⟩ := (h.ref t ht).2.1.slice
  obtain ⟨p', c', h2⟩ := (h.ref t ht).2.2.slice
  exact ⟨_, _, _, _, _, _, h1, h2⟩
theorem tCells_days (ts : List (Ev × Value × Value)) (k : Nat) (ev : Ev) (va vb v1 v2 : Value) (s : Tt.Ser) (ht : ts[k]? = some (ev, va, vb)) :
    tCells (ts.set k ({ ev with days := s }, v1, v2)) = ((((((tCells ts).set (k * 13 + 3) (.int .i64 s.first)).set (k * 13 + 4) (.int .i64 s.last)).set (k * 13 + 5) (.int .i64 s.every)).set (k * 13 + 6) (.int .i64 s.wd)).set (k * 13 + 7) v1).set (k * 13 + 8) v2 := by
  have hk : k < ts.length := (List.getElem?_eq_some_iff.1 ht).1
  have hg : ∀ t : Ev × Value × Value, (ts.set k t)[k]? = some t := fun t => List.getElem?_set_self hk
  have e1 := tCells_set ts k 3 _ ({ ev with days := { ev.days with first := s.first } }, va, vb) (.int .i64 s.first) ht (by decide) rfl
  have e2 := tCells_set _ k 4 _ ({ ev with days := { ev.days with first := s.first, last := s.last } }, va, vb) (.int .i64 s.last) (hg ({ ev with days := { ev.days with first := s.first } }, va, vb)) (by decide) rfl
  have e3 := tCells_set _ k 5 _ ({ ev with days := { ev.days with first := s.first, last := s.last, every := s.every } }, va, vb) (.int .i64 s.every) (hg ({ ev with days := { ev.days with first := s.first, last := s.last } }, va, vb)) (by decide) rfl
  have e4 := tCells_set _ k 6 _ ({ ev with days := { ev.days with first := s.first, last := s.last, every := s.every, wd := s.wd } }, va, vb) (.int .i64 s.wd) (hg ({ ev with days := { ev.days with first := s.first, last := s.last, every := s.every } }, va, vb)) (by decide) rfl
  have e5 := tCells_set _ k 7 _ ({ ev with days := { ev.days with first := s.first, last := s.last, every := s.every, wd := s.wd } }, v1, vb) v1 (hg ({ ev with days := { ev.days with first := s.first, last := s.last, every := s.every, wd := s.wd } }, va, vb)) (by decide) rfl
  have e6 := tCells_set _ k 8 _ ({ ev with days := s }, v1, v2) v2 (hg ({ ev with days := { ev.days with first := s.first, last := s.last, every := s.every, wd := s.wd } }, v1, vb)) (by decide) rfl
  rw [List.set_set] at e2 e3 e4 e5 e6
  rw [e6, e5, e4, e3, e2, e1]

/-- The series of one event written. -/
theorem RowE.days {w : World} {lo n c g : Nat} {ts : List (Ev × Value × Value)} (h : RowE lo w (.slice (some ⟨g, 0, none⟩) n c) ts) (k : Nat) (ev : Ev) (va vb v1 v2 : Value) (s : Tt.Ser) (ht : ts[k]? = some (ev, va, vb)) (hn : ts.length = n)
    (hg : EvG { ev with days := s }) (h1 : RowI lo w v1 s.ex) (h2 : RowI lo w v2 s.xt) :
    RowE lo ((((((w.setCell ⟨g, k * 13 + 3, none⟩ (.int .i64 s.first)).setCell ⟨g, k * 13 + 4, none⟩ (.int .i64 s.last)).setCell ⟨g, k * 13 + 5, none⟩ (.int .i64 s.every)).setCell ⟨g, k * 13 + 6, none⟩ (.int .i64 s.wd)).setCell ⟨g, k * 13 + 7, none⟩ v1).setCell ⟨g, k * 13 + 8, none⟩ v2)
      (.slice (some ⟨g, 0, none⟩) n c) (ts.set k ({ ev with days := s }, v1, v2)) := by
  subst hn; have r6 := row_put (row_put (row_put (row_put (row_put (row_put h.row (k * 13 + 3) (.int .i64 s.first)) (k * 13 + 4) (.int .i64 s.last)) (k * 13 + 5) (.int .i64 s.every)) (k * 13 + 6) (.int .i64 s.wd)) (k * 13 + 7) v1) (k * 13 + 8) v2
  obtain ⟨cur, b0, -⟩ := row_blk h.row
  have b1 := b0.set (k * 13 + 3) (.int .i64 s.first)
  have b2 := b1.set (k * 13 + 4) (.int .i64 s.last)
  have b3 := b2.set (k * 13 + 5) (.int .i64 s.every)
  have b4 := b3.set (k * 13 + 6) (.int .i64 s.wd)
  have b5 := b4.set (k * 13 + 7) v1
  have fR : ∀ v xs, RowI lo w v xs → RowI lo ((((((w.setCell ⟨g, k * 13 + 3, none⟩ (.int .i64 s.first)).setCell ⟨g, k * 13 + 4, none⟩ (.int .i64 s.last)).setCell ⟨g, k * 13 + 5, none⟩ (.int .i64 s.every)).setCell ⟨g, k * 13 + 6, none⟩ (.int .i64 s.wd)).setCell ⟨g, k * 13 + 7, none⟩ v1).setCell ⟨g, k * 13 + 8, none⟩ v2) v xs :=
    fun v xs hx => row_set (row_set (row_set (row_set (row_set (row_set hx b0 (by decide) _ _) b1 (by decide) _ _) b2 (by decide) _ _) b3 (by decide) _ _) b4 (by decide) _ _) b5 (by decide) _ _
  refine ⟨by rw [List.length_set, tCells_days ts k ev va vb v1 v2 s ht]; exact r6, fun t2 ht2 => ?_⟩
  rcases List.mem_or_eq_of_mem_set ht2 with h3 | h3
  · exact ⟨(h.ref t2 h3).1, fR _ _ (h.ref t2 h3).2.1, fR _ _ (h.ref t2 h3).2.2⟩
  · subst h3; exact ⟨hg, fR _ _ h1, fR _ _ h2⟩
end Go.Proofs.YtageielcdebjlaaGreatDoor
-- Short
namespace Go.Proofs.YtageielcdebjlaaGreatDoor
open Go.RowKit

end Go.Proofs.YtageielcdebjlaaGreatDoor

-- Law10a
namespace Go.Proofs.YtageielcdebjlaaGreatDoor
open Go.RowKit

theorem RowI.few {lo : Nat} {w : World} {v : Value} {xs : List Int} (h : RowI lo w v xs) : xs.length ≤ 9223372036854775807 := by
  rcases h.2 with ⟨_, h0⟩ | ⟨g, cap, cur, _, _, _, r4, r5, _⟩
  · omega
  · unfold maxLen at r5; omega
end Go.Proofs.YtageielcdebjlaaGreatDoor

-- Awake
namespace Go.Proofs.YtageielcdebjlaaGreatDoor
open Go.RowKit

end Go.Proofs.YtageielcdebjlaaGreatDoor

-- Law7
namespace Go.Proofs.YtageielcdebjlaaGreatDoor
open Go.RowKit

/-- The whole numbers of a slice. -/
def Nums (w : World) (ao : Option Addr) (len : Nat) : Prop := ∀ i, i < len → ∃ a n, ao = some a ∧ a.block < w.heap.size ∧ w.cell? (a.add i) = some (.int .i64 n) ∧ -9223372036854775808 ≤ n ∧ n ≤ 9223372036854775807

theorem Nums.below {w w' : World} {ao : Option Addr} {len : Nat} (h : Nums w ao len) (hw : Below w.heap.size w w') : Nums w' ao len := fun i hi => by
  obtain ⟨a, n, ha, hlt, hc, hn⟩ := h i hi
  exact ⟨a, n, ha, Nat.lt_of_lt_of_le hlt hw.size, (hw.cell (p := a.add i) (by rw [addr_add_block]; omega)).trans hc, hn⟩

set_option maxRecDepth 100000 in
theorem light_any (ao : Option Addr) (len cap : Nat) (w : World) :
    Calls Tryz.prog 15 #[.slice ao len cap] w fun e w' => e = .returned (.bool (decide ((len : Int) ≤ 400))) ∧ w' = w := by
  go_enter Tryz.func15, Tryz.ntmps15
  go_wp2_with fail
  go_ret; exact ⟨rfl, rfl⟩

set_option maxRecDepth 100000 in
theorem roll_any (ao : Option Addr) (len cap : Nat) (w : World) (hl : len ≤ 400) (hn : Nums w ao len) :
    Calls Tryz.prog 18 #[.slice ao len cap] w fun e w' => e = .returned (.pointer (some ⟨w.heap.size, 0, none⟩)) ∧ Dice w.heap.size w' ∧ Below w.heap.size w w' ∧ w.heap.size + 1 ≤ w'.heap.size := by
  go_enter Tryz.func18, Tryz.ntmps18
  go_wp2_with fail
  go_ret; have hb : Below w.heap.size w (w.alloc (.cells #[.slice ao len cap, .int .i64 0] 124)) := (Below.refl _ w).alloc (Nat.le_refl _) _
  refine ⟨rfl, ⟨ao, len, cap, 0, ⟨heap_alloc_new w _, Nat.zero_le _, hl, fun i hi => ?_⟩⟩, hb, by simp⟩
  obtain ⟨a, n, ha, hlt, hc, hn⟩ := hn i hi
  exact ⟨a, n, ha, hlt, (hb.cell (p := a.add i) (by rw [addr_add_block]; omega)).trans hc, hn⟩

end Go.Proofs.YtageielcdebjlaaGreatDoor
