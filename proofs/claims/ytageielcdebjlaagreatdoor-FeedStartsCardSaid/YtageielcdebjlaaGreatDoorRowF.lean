/- Events in a row of the call's own: one cell of one event written; one event more. No function of the program in sight. Condition: none. -/
import Derived.Test.YtageielcdebjlaaGreatDoorGenF
import Derived.Test.YtageielcdebjlaaGreatDoorGenO
import Derived.Test.YtageielcdebjlaaGreatDoorRowZ
namespace Go.Proofs.YtageielcdebjlaaGreatDoor
open Go.RowKit

theorem tCells_set : ∀ (ts : List (Ev × Value × Value)) (k o : Nat) (t t' : Ev × Value × Value) (u : Value), ts[k]? = some t → o < 13 → (evCells t'.1 t'.2.1 t'.2.2).toList = (evCells t.1 t.2.1 t.2.2).toList.set o u →
    tCells (ts.set k t') = (tCells ts).set (k * 13 + o) u
  | [], _, _, _, _, _, h, _, _ => by simp at h
  | t0 :: r, 0, o, t, t', u, h, ho, hc => by
    simp at h; subst h
    show (evCells t'.1 t'.2.1 t'.2.2).toList ++ tCells r = ((evCells t0.1 t0.2.1 t0.2.2).toList ++ tCells r).set (0 * 13 + o) u
    rw [hc, show 0 * 13 + o = o by omega, List.set_append_left _ _ (show o < 13 from ho)]
  | t0 :: r, k + 1, o, t, t', u, h, ho, hc => by
    have ih := tCells_set r k o t t' u (by simpa using h) ho hc
    show (evCells t0.1 t0.2.1 t0.2.2).toList ++ tCells (r.set k t') = ((evCells t0.1 t0.2.1 t0.2.2).toList ++ tCells r).set ((k + 1) * 13 + o) u
    rw [ih, List.set_append_right _ _ (show 13 ≤ (k + 1) * 13 + o by omega), show (k + 1) * 13 + o - (evCells t0.1 t0.2.1 t0.2.2).toList.length = k * 13 + o by show _ - 13 = _; omega]

/-- One cell of one event written. -/
theorem RowE.put {w : World} {lo n c g : Nat} {ts : List (Ev × Value × Value)} (h : RowE lo w (.slice (some ⟨g, 0, none⟩) n c) ts) (k o : Nat) (t t' : Ev × Value × Value) (u : Value) (ht : ts[k]? = some t) (ho : o < 13)
    (hn : ts.length = n) (hc : (evCells t'.1 t'.2.1 t'.2.2).toList = (evCells t.1 t.2.1 t.2.2).toList.set o u) (hr : RefG lo w t') : RowE lo (w.setCell ⟨g, k * 13 + o, none⟩ u) (.slice (some ⟨g, 0, none⟩) n c) (ts.set k t') := by
  subst hn
  have h1 := row_put h.row (k * 13 + o) u
  obtain ⟨cur, hb, -⟩ := row_blk h.row
  refine ⟨by rw [List.length_set, tCells_set ts k o t t' u ht ho hc]; exact h1, fun t2 h2 => ?_⟩
  rcases List.mem_or_eq_of_mem_set h2 with h3 | h3
  · exact (h.ref t2 h3).set hb (by decide) _ _
  · subst h3; exact hr.set hb (by decide) _ _
theorem RowE.cell {w : World} {lo n c g : Nat} {ts : List (Ev × Value × Value)} (h : RowE lo w (.slice (some ⟨g, 0, none⟩) n c) ts) (hn : ts.length = n) (k o : Nat) (t : Ev × Value × Value) (u : Value) (ht : ts[k]? = some t) (ho : o < 13) (hu : (evCells t.1 t.2.1 t.2.2).toList[o]? = some u) : w.cell? ⟨g, k * 13 + o, none⟩ = some u := by
  subst hn
  have := h.row.cells (g := g) rfl (k * 13 + o) u (by rw [tCells_get ts k o t ht ho]; exact hu)
  rw [Addr.add_lit] at this
  simpa using this
theorem RowE.frz {w : World} {lo n c g : Nat} {ts : List (Ev × Value × Value)} (h : RowE lo w (.slice (some ⟨g, 0, none⟩) n c) ts) (hn : ts.length = n) (i : Nat) : w.frozen? ⟨g, i, none⟩ = false := by
  subst hn
  obtain ⟨cur, hb, _⟩ := row_blk h.row
  exact hb.frozen i
theorem RowE.map {w W : World} {lo : Nat} {v : Value} {ts : List (Ev × Value × Value)} {ty : TypeId} (h : RowE lo w v ts) (h1 : ty ≠ 82) (h2 : ty ≠ 3) (f2 : ∀ lo k e v n xs, ty ≠ e → w.ownsRow lo e k v n xs → W.ownsRow lo e k v n xs) : RowE lo W v ts :=
  ⟨f2 _ _ _ _ _ _ h1 h.row, fun t ht => ⟨(h.ref t ht).1, f2 _ _ _ _ _ _ h2 (h.ref t ht).2.1, f2 _ _ _ _ _ _ h2 (h.ref t ht).2.2⟩⟩
theorem RowE.only {b lo : Nat} {w w' : World} {v : Value} {ts : List (Ev × Value × Value)} (h : RowE lo w v ts) (hb : b < lo) (ho : Only b w w') : RowE lo w' v ts := h.but hb ho.but
theorem tCells_one (ts : List (Ev × Value × Value)) (h : ∀ t ∈ ts, ∃ p n c p' n' c', t.2.1 = .slice p n c ∧ t.2.2 = .slice p' n' c') : ∀ u ∈ tCells ts, u.oneCell' = true := by
  intro u hu
  obtain ⟨t, ht, h2⟩ := List.mem_flatMap.1 hu
  obtain ⟨p, n, c, p', n', c', h3, h4⟩ := h t ht
  rw [h3, h4] at h2
  exact evCells_one _ _ _ _ _ _ _ u h2
theorem RowE.one {lo : Nat} {w : World} {v : Value} {ts : List (Ev × Value × Value)} (h : RowE lo w v ts) : ∀ u ∈ tCells ts, u.oneCell' = true := by
  refine tCells_one ts fun t ht => ?_
  obtain ⟨p, c, h1⟩ := (h.ref t ht).2.1.slice
  obtain ⟨p', c', h2⟩ := (h.ref t ht).2.2.slice
  exact ⟨_, _, _, _, _, _, h1, h2⟩
/-- Behind a copy of the row: the same events, the row a new one. -/
theorem RowE.copied {lo lo2 : Nat} {w w' : World} {v v' : Value} {ts : List (Ev × Value × Value)} (h : RowE lo w v ts) (hl : lo ≤ lo2) (hg : w.grownBy w' none) (hrow : w'.ownsRow lo2 82 13 v' ts.length (tCells ts)) : RowE lo w' v' ts :=
  ⟨ownsRow_mono hrow hl, fun t ht => ⟨(h.ref t ht).1, World.ownsRow.kept (h.ref t ht).2.1 hg (by cases t.2.1.ownBlock <;> simp), World.ownsRow.kept (h.ref t ht).2.2 hg (by cases t.2.2.ownBlock <;> simp)⟩⟩
theorem tCells_days (ts : List (Ev × Value × Value)) (k : Nat) (ev : Ev) (va vb v1 v2 : Value) (s : Tt.Ser) (ht : ts[k]? = some (ev, va, vb)) :
    tCells (ts.set k ({ ev with days := s }, v1, v2)) = ((((((tCells ts).set (k * 13 + 3) (.int .i64 s.first)).set (k * 13 + 4) (.int .i64 s.last)).set (k * 13 + 5) (.int .i64 s.every)).set (k * 13 + 6) (.int .i64 s.wd)).set (k * 13 + 7) v1).set (k * 13 + 8) v2 := by
  have hk : k < ts.length := (List.getElem?_eq_some_iff.1 ht).1
  have hg : ∀ t : Ev × Value × Value, (ts.set k t)[k]? = some t := fun t => List.getElem?_set_self hk
  have e1 := tCells_set ts k 3 _ ({ ev with days := { ev.days with first := s.first } }, va, vb) (.int .i64 s.first) ht (by decide) rfl
  have e2 := tCells_set _ k 4 _ ({ ev with days := { ev.days with first := s.first, last := s.last } }, va, vb) (.int .i64 s.last) (hg ({ ev with days := { ev.days with first := s.first } }, va, vb)) (by decide) rfl
  have e3 := tCells_set _ k 5 _ ({ ev with days := { ev.days with first := s.first, last := s.last, every := s.every } }, va, vb) (.int .i64 s.every) (hg ({ ev with days := { ev.days with first := s.first, last := s.last } }, va, vb)) (by decide) rfl
  have e4 := tCells_set _ k 6 _ ({ ev with days := { ev.days with first := s.first, last := s.last, every := s.every, wd := s.wd } }, va, vb) (.int .i64 s.wd) (hg ({ ev with days := { ev.days with first := s.first, last := s.last, every := s.every } }, va, vb)) (by decide) rfl
  have e5 := tCells_set _ k 7 _ ({ ev with days := { ev.days with first := s.first, last := s.last, every := s.every, wd := s.wd } }, v1, vb) v1 (hg ({ ev with days := { ev.days with first := s.first, last := s.last, every := s.every, wd := s.wd } }, va, vb)) (by decide) rfl
  have e6 := tCells_set _ k 8 _ ({ ev with days := s }, v1, v2) v2 (hg ({ ev with days := { ev.days with first := s.first, last := s.last, every := s.every, wd := s.wd } }, v1, vb)) (by decide) rfl
  rw [List.set_set] at e2 e3 e4 e5 e6
  rw [e6, e5, e4, e3, e2, e1]

/-- The series of one event written. -/
theorem RowE.days {w : World} {lo n c g : Nat} {ts : List (Ev × Value × Value)} (h : RowE lo w (.slice (some ⟨g, 0, none⟩) n c) ts) (k : Nat) (ev : Ev) (va vb v1 v2 : Value) (s : Tt.Ser) (ht : ts[k]? = some (ev, va, vb)) (hn : ts.length = n)
    (hg : EvG { ev with days := s }) (h1 : RowI lo w v1 s.ex) (h2 : RowI lo w v2 s.xt) :
    RowE lo ((((((w.setCell ⟨g, k * 13 + 3, none⟩ (.int .i64 s.first)).setCell ⟨g, k * 13 + 4, none⟩ (.int .i64 s.last)).setCell ⟨g, k * 13 + 5, none⟩ (.int .i64 s.every)).setCell ⟨g, k * 13 + 6, none⟩ (.int .i64 s.wd)).setCell ⟨g, k * 13 + 7, none⟩ v1).setCell ⟨g, k * 13 + 8, none⟩ v2)
      (.slice (some ⟨g, 0, none⟩) n c) (ts.set k ({ ev with days := s }, v1, v2)) := by
  subst hn
  have r6 := row_put (row_put (row_put (row_put (row_put (row_put h.row (k * 13 + 3) (.int .i64 s.first)) (k * 13 + 4) (.int .i64 s.last)) (k * 13 + 5) (.int .i64 s.every)) (k * 13 + 6) (.int .i64 s.wd)) (k * 13 + 7) v1) (k * 13 + 8) v2
  obtain ⟨cur, b0, -⟩ := row_blk h.row
  have b1 := b0.set (k * 13 + 3) (.int .i64 s.first)
  have b2 := b1.set (k * 13 + 4) (.int .i64 s.last)
  have b3 := b2.set (k * 13 + 5) (.int .i64 s.every)
  have b4 := b3.set (k * 13 + 6) (.int .i64 s.wd)
  have b5 := b4.set (k * 13 + 7) v1
  have fR : ∀ v xs, RowI lo w v xs → RowI lo ((((((w.setCell ⟨g, k * 13 + 3, none⟩ (.int .i64 s.first)).setCell ⟨g, k * 13 + 4, none⟩ (.int .i64 s.last)).setCell ⟨g, k * 13 + 5, none⟩ (.int .i64 s.every)).setCell ⟨g, k * 13 + 6, none⟩ (.int .i64 s.wd)).setCell ⟨g, k * 13 + 7, none⟩ v1).setCell ⟨g, k * 13 + 8, none⟩ v2) v xs :=
    fun v xs hx => row_set (row_set (row_set (row_set (row_set (row_set hx b0 (by decide) _ _) b1 (by decide) _ _) b2 (by decide) _ _) b3 (by decide) _ _) b4 (by decide) _ _) b5 (by decide) _ _
  refine ⟨by rw [List.length_set, tCells_days ts k ev va vb v1 v2 s ht]; exact r6, fun t2 ht2 => ?_⟩
  rcases List.mem_or_eq_of_mem_set ht2 with h3 | h3
  · exact ⟨(h.ref t2 h3).1, fR _ _ (h.ref t2 h3).2.1, fR _ _ (h.ref t2 h3).2.2⟩
  · subst h3; exact ⟨hg, fR _ _ h1, fR _ _ h2⟩
end Go.Proofs.YtageielcdebjlaaGreatDoor
