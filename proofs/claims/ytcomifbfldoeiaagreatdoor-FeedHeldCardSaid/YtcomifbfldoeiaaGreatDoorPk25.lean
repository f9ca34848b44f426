/- Toward the law of feed.Make: drawn versions as a list of lists in memory; the feed that Make answers is valid. No function of the program in sight. The theorem of calendars, plain: a reader that sees versions of a timetable in any order. No program in sight. Condition: none. Plain facts: a drawn feed is valid; what merging makes of a valid feed in a reader without events, and of a feed that is not newer. No function of the program in sight. Condition: none. Memory and plain facts for SubscriberOnce: a row of feeds in memory; drawn versions have no error; prefixes of a list of versions. One more version of a timetable, plain: which events are shown behind it. No program in sight. Condition: none. -/
import Derived.Test.YtcomifbfldoeiaaGreatDoorPk20
import Derived.Test.YtcomifbfldoeiaaGreatDoorStates
import Derived.Test.YtcomifbfldoeiaaGreatDoorPk8
import Derived.Test.YtcomifbfldoeiaaGreatDoorPk11
import Derived.Test.YtcomifbfldoeiaaGreatDoorPk10
import Derived.Test.YtcomifbfldoeiaaGreatDoorPk13
namespace Go.Proofs.YtcomifbfldoeiaaGreatDoor
open Go.RowKit

theorem RowS.ses {lo : Nat} {w : World} {v : Value} {xs : List Ses} (h : RowS lo w v xs) : ∃ p c, v = .slice p xs.length c ∧ xs.length ≤ c ∧ c ≤ 9223372036854775807 ∧ SesAt w.heap.size w p xs := by
  rcases h.2 with ⟨hv, h0⟩ | ⟨g, cap, cur, hv, _, hb, h1, h2, _⟩
  · have e : xs = [] := List.eq_nil_of_length_eq_zero h0
    subst e; exact ⟨none, 0, hv, Nat.le_refl _, by decide, .inl rfl⟩
  · refine ⟨some ⟨g, 0, none⟩, cap, hv, h1, by unfold maxLen at h2; omega, .inr ⟨g, 0, rfl, (Array.getElem?_eq_some_iff.1 hb).1, fun j i s u hs hu => ?_⟩⟩
    have hi : i < 6 := by
      have := (List.getElem?_eq_some_iff.1 hu).1
      exact this
    have h3 := h; rw [hv] at h3
    have := RowS.cell h3 j i s u hs hi hu
    rw [Nat.zero_add]; exact this
theorem RowSS.lst {lo n c : Nat} {w : World} {ao : Option Addr} {ls : List (Value × List Ses)} (h : RowSS lo w (.slice ao n c) ls) (hle : ∀ q ∈ ls, q.2.length ≤ 100000) : LstAt w.heap.size w ao (ls.map (·.2)) := by
  rcases h.row.2 with ⟨_, h0⟩ | ⟨g, cap, cur, hv, _, hb, _⟩
  · have e : ls = [] := List.eq_nil_of_length_eq_zero h0
    subst e; exact .inl rfl
  · have ha : ao = some ⟨g, 0, none⟩ := by injection hv
    subst ha; refine .inr ⟨g, 0, rfl, (Array.getElem?_eq_some_iff.1 hb).1, fun j l hl => ?_⟩
    rw [List.getElem?_map] at hl
    cases hq : ls[j]? with
    | none => rw [hq] at hl; cases hl
    | some q =>
      rw [hq] at hl
      have e : q.2 = l := by simpa using hl
      subst e; have hm := List.mem_of_getElem? hq
      obtain ⟨p, c2, e2, k1, k2, k3⟩ := (h.each q hm).ses
      have := World.ownsRow.cells h.row (g := g) rfl j q.1 (by rw [List.getElem?_map, hq]; rfl)
      rw [Addr.add_lit, e2] at this
      exact ⟨p, c2, this, k1, k2, hle q hm, k3⟩
/-- The feed that Make answers is a valid one. -/
theorem makF_valid {g : Tt.Grd} {t : Tt.Trm} {nm : ByteArray} {ls : List (List Ses)} (h : makC g t nm ls = 0) : feedV (makF g t nm ls).1 (makF g t nm ls).2.1 (makF g t nm ls).2.2 = 0 := by
  have hF : makF g t nm ls = (nm, (ls.length : Int), makeE g t 1 ls []) := if_pos h
  rw [hF]
  show feedV nm (ls.length : Int) (makeE g t 1 ls []) = 0
  unfold makC at h
  split at h
  · cases h
  · split at h
    · cases h
    · rename_i h2
      split at h
      · cases h
      · rename_i h3
        split at h
        · rename_i h4; exact absurd h h4
        · split at h
          · cases h
          · rename_i h5
            unfold feedV
            rw [if_neg h2, if_neg (by omega), if_neg h5]
            have := makeE_valid (g := g) (t := t) ls 0 [] (by omega) (show evsV 0 none [] = 0 from rfl)
            rw [Int.zero_add, Int.zero_add] at this
            exact this
end Go.Proofs.YtcomifbfldoeiaaGreatDoor
namespace Go.Proofs.YtcomifbfldoeiaaGreatDoor
open Go.RowKit

theorem putE_self (e : Ev) : ∀ es : List Ev, e ∈ putE e es
  | [] => by rw [putE]; exact List.mem_singleton.2 rfl
  | s :: r => by
    rw [putE]
    split
    · exact List.mem_cons_of_mem _ (putE_self e r)
    · split <;> exact List.mem_cons_self ..
theorem putE_keep {e x : Ev} : ∀ {es : List Ev}, x ∈ es → x.uid ≠ e.uid → x ∈ putE e es
  | [], h, _ => by cases h
  | s :: r, h, hne => by
    rw [putE]
    rcases List.mem_cons.1 h with rfl | h
    · split
      · exact List.mem_cons_self ..
      · simp
    · split
      · exact List.mem_cons_of_mem _ (putE_keep h hne)
      · split
        · exact List.mem_cons_of_mem _ h
        · exact List.mem_cons_of_mem _ (List.mem_cons_of_mem _ h)
theorem advS_mem {k : Int} {es : List Ev} {e x : Ev} (h : x ∈ advS k es e) : x ∈ es ∨ x = e := by
  unfold advS at h
  split at h
  · split at h
    · exact .inl h
    · exact (mem_putE e x es h).symm
  · exact (mem_putE e x es h).symm
theorem putE_uid {e o : Ev} {es : List Ev} (h : o ∈ es) : ∃ x ∈ putE e es, x.uid = o.uid := by
  by_cases hu : o.uid = e.uid
  · exact ⟨e, putE_self e es, hu.symm⟩
  · exact ⟨o, putE_keep h hu, rfl⟩
theorem advS_uid {k : Int} {es : List Ev} {e o : Ev} (h : o ∈ es) : ∃ x ∈ advS k es e, x.uid = o.uid := by
  unfold advS
  split
  · split
    · exact ⟨o, h, rfl⟩
    · exact putE_uid h
  · exact putE_uid h
theorem foldS_mem {k : Int} : ∀ {fs es : List Ev} {x : Ev}, x ∈ fs.foldl (advS k) es → x ∈ es ∨ x ∈ fs
  | [], _, _, h => .inl h
  | e :: r, es, x, h => by
    rcases foldS_mem (fs := r) h with h | h
    · rcases advS_mem h with h | h
      · exact .inl h
      · exact .inr (by rw [h]; exact List.mem_cons_self ..)
    · exact .inr (List.mem_cons_of_mem _ h)
theorem foldS_uid {k : Int} : ∀ {fs es : List Ev} {o : Ev}, o ∈ es → ∃ x ∈ fs.foldl (advS k) es, x.uid = o.uid
  | [], _, o, h => ⟨o, h, rfl⟩
  | e :: r, es, o, h => by
    obtain ⟨y, hy, hu⟩ := advS_uid (k := k) (e := e) h
    obtain ⟨x, hx, hv⟩ := foldS_uid (k := k) (fs := r) hy
    exact ⟨x, hx, hv.trans hu⟩
theorem sesEs_seq {g : Tt.Grd} {t : Tt.Trm} {k : Int} {l : List Ses} {x : Ev} (h : x ∈ sesEs g t k l) : x.seq = k := by
  unfold sesEs at h
  obtain ⟨s, -, rfl⟩ := List.mem_map.1 h
  rfl
theorem adv_new {g : Tt.Grd} {t : Tt.Trm} {k : Int} {l : List Ses} {es : List Ev} {x : Ev} (h : x ∈ advV g t k l es) : x ∈ es ∨ x.seq = k := by
  unfold advV advC at h
  obtain ⟨y, hy, rfl⟩ := List.mem_map.1 h
  unfold goneE
  split
  · rcases foldS_mem hy with h | h
    · exact .inl h
    · exact .inr (sesEs_seq h)
  · exact .inr rfl
theorem adv_keep {g : Tt.Grd} {t : Tt.Trm} {k : Int} {l : List Ses} {es : List Ev} {o : Ev} (h : o ∈ es) : ∃ x ∈ advV g t k l es, x.uid = o.uid := by
  unfold advV advC
  obtain ⟨y, hy, hu⟩ := foldS_uid (k := k) (fs := sesEs g t k l) h
  exact ⟨_, List.mem_map.2 ⟨y, hy, rfl⟩, (goneE_uid _ _ _).trans hu⟩
/-- The events behind the first k versions. -/
def makK (g : Tt.Grd) (t : Tt.Trm) (ls : List (List Ses)) (k : Nat) : List Ev := makeE g t 1 (ls.take k) []
theorem makK_new {g : Tt.Grd} {t : Tt.Trm} {ls : List (List Ses)} {i : Nat} : ∀ {j : Nat} {x : Ev}, i ≤ j → x ∈ makK g t ls j → x ∈ makK g t ls i ∨ (i : Int) < x.seq
  | 0, x, hij, h => by obtain rfl : i = 0 := by omega
                       exact .inl h
  | j + 1, x, hij, h => by
    rcases Nat.lt_or_eq_of_le hij with k | k
    · have hij : i ≤ j := by omega
      rcases hl : ls[j]? with _ | l
      · refine makK_new (j := j) hij ?_
        unfold makK at h ⊢
        rwa [List.take_add_one, hl, Option.toList_none, List.append_nil] at h
      · unfold makK at h
        rw [makeE_take g t ls j l hl] at h
        rcases adv_new h with h | h
        · exact makK_new (j := j) hij h
        · exact .inr (by omega)
    · subst k; exact .inl h
theorem makK_keep {g : Tt.Grd} {t : Tt.Trm} {ls : List (List Ses)} {i : Nat} : ∀ {j : Nat} {o : Ev}, i ≤ j → o ∈ makK g t ls i → ∃ x ∈ makK g t ls j, x.uid = o.uid
  | 0, o, hij, h => by obtain rfl : i = 0 := by omega
                       exact ⟨o, h, rfl⟩
  | j + 1, o, hij, h => by
    rcases Nat.lt_or_eq_of_le hij with k | k
    · have hij : i ≤ j := by omega
      obtain ⟨y, hy, hu⟩ := makK_keep (j := j) hij h
      rcases hl : ls[j]? with _ | l
      · refine ⟨y, ?_, hu⟩
        unfold makK at hy ⊢
        rwa [List.take_add_one, hl, Option.toList_none, List.append_nil]
      · unfold makK at hy ⊢
        rw [makeE_take g t ls j l hl]
        obtain ⟨x, hx, hv⟩ := adv_keep (g := g) (t := t) (k := (j : Int) + 1) (l := l) hy
        exact ⟨x, hx, hv.trans hu⟩
    · subst k; exact ⟨o, h, rfl⟩
theorem makK_valid (g : Tt.Grd) (t : Tt.Trm) (ls : List (List Ses)) (k : Nat) (hk : k ≤ ls.length) : evsV (k : Int) none (makK g t ls k) = 0 := by
  have := makeE_valid (g := g) (t := t) (ls.take k) 0 [] (by decide) rfl
  rw [List.length_take, Nat.min_eq_left hk] at this
  unfold makK
  simpa using this
theorem check_seq {e : Ev} {v : Int} (h : checkV e v = 0) : 1 ≤ e.seq ∧ e.seq ≤ v := by
  unfold checkV at h
  split at h
  · cases h
  · omega
theorem makK_seq {g : Tt.Grd} {t : Tt.Trm} {ls : List (List Ses)} {k : Nat} (hk : k ≤ ls.length) {e : Ev} (h : e ∈ makK g t ls k) : 1 ≤ e.seq ∧ e.seq ≤ k := check_seq (evsV_each _ _ _ (makK_valid g t ls k hk) e h).2

end Go.Proofs.YtcomifbfldoeiaaGreatDoor
namespace Go.Proofs.YtcomifbfldoeiaaGreatDoor
open Go.RowKit

theorem check_ser {e : Ev} {v : Int} (h : checkV e v = 0) : Tt.serV e.days = 0 := by
  unfold checkV at h
  split at h
  · cases h
  · split at h
    · contradiction
    · rename_i h2
      simpa using h2
theorem rd_lists {v : Int} {es : List Ev} (h : rdOk v es = true) : ∀ e ∈ es, e.days.ex.length ≤ 1000000 ∧ e.days.xt.length ≤ 1000000 := by
  intro e he; have hh := ((Tt.serV_zero _).1 (check_ser (evsV_each v es none ((rdOk_iff v es).1 h).2.2.2 e he).2)).1.n
  omega
end Go.Proofs.YtcomifbfldoeiaaGreatDoor
namespace Go.Proofs.YtcomifbfldoeiaaGreatDoor
open Go.RowKit

theorem RowT.apart {lo B n k : Nat} {ty : TypeId} {w w' : World} {u v : Value} {ts : List (Ev × Value × Value)} {xs : List Value} (h : RowT lo w u ts) (hown : w.ownsRow B ty k v n xs) (h3 : 3 ≠ ty) (h82 : 104 ≠ ty) (hg : w.grownBy w' v.ownBlock) : RowT lo w' u ts :=
  ⟨World.ownsRow.kept h.row hg (row_apart_ty h.row hown h82), fun t ht => ⟨(h.ref t ht).1, World.ownsRow.kept (h.ref t ht).2.1 hg (row_apart_ty (h.ref t ht).2.1 hown h3), World.ownsRow.kept (h.ref t ht).2.2 hg (row_apart_ty (h.ref t ht).2.2 hown h3)⟩⟩
/-- A feed: its version, its events' slice, its events in memory. -/
abbrev Fd := Int × Value × List (Ev × Value × Value)
def fdCells (nm : ByteArray) (fs : List Fd) : List Value := fs.flatMap fun f => [.string nm, .int .i64 f.1, f.2.1]
theorem fdCells_get (nm : ByteArray) : ∀ (fs : List Fd) (j i : Nat) (f : Fd), fs[j]? = some f → i < 3 → (fdCells nm fs)[j * 3 + i]? = [Value.string nm, .int .i64 f.1, f.2.1][i]?
  | [], _, _, _, h, _ => by simp at h
  | n0 :: r, 0, i, n, h, hi => by
    simp at h; subst h
    show ([Value.string nm, .int .i64 n0.1, n0.2.1] ++ fdCells nm r)[0 * 3 + i]? = _
    rw [show 0 * 3 + i = i by omega, List.getElem?_append_left (by show i < 3; exact hi)]
  | n0 :: r, j + 1, i, n, h, hi => by
    show ([Value.string nm, .int .i64 n0.1, n0.2.1] ++ fdCells nm r)[(j + 1) * 3 + i]? = _
    rw [List.getElem?_append_right (by show 3 ≤ _; omega), show (j + 1) * 3 + i - [Value.string nm, .int .i64 n0.1, n0.2.1].length = j * 3 + i by show _ - 3 = _; omega]
    exact fdCells_get nm r j i n (by simpa using h) hi
theorem fdCells_snoc (nm : ByteArray) (fs : List Fd) (f : Fd) : fdCells nm (fs ++ [f]) = fdCells nm fs ++ [.string nm, .int .i64 f.1, f.2.1] := by
  unfold fdCells; simp
/-- A row of feeds of one's own. -/
structure RowFd (lo : Nat) (w : World) (v : Value) (nm : ByteArray) (fs : List Fd) : Prop where
  row : w.ownsRow lo 49 3 v fs.length (fdCells nm fs)
  each : ∀ f ∈ fs, RowT lo w f.2.1 f.2.2
theorem RowFd.snoc {lo : Nat} {w w' : World} {v v' : Value} {nm : ByteArray} {fs : List Fd} {f : Fd} (h : RowFd lo w v nm fs) (hf : RowT lo w f.2.1 f.2.2) (hg : w.grownBy w' v.ownBlock) (hown : w'.ownsRow lo 49 3 v' (fs.length + 1) (fdCells nm fs ++ [.string nm, .int .i64 f.1, f.2.1])) : RowFd lo w' v' nm (fs ++ [f]) := by
  refine ⟨by rw [List.length_append, fdCells_snoc]; exact hown, fun q hq => ?_⟩
  rcases List.mem_append.1 hq with hq | hq
  · exact (h.each q hq).apart h.row (by decide) (by decide) hg
  · rw [List.mem_singleton.1 hq]; exact hf.apart h.row (by decide) (by decide) hg
theorem RowFd.at_ {lo n c g : Nat} {w : World} {nm : ByteArray} {fs : List Fd} (h : RowFd lo w (.slice (some ⟨g, 0, none⟩) n c) nm fs) {j : Nat} {f : Fd} (hf : fs[j]? = some f) : w.cell? ⟨g, j * 3, none⟩ = some (.string nm) ∧ w.cell? ⟨g, j * 3 + 1, none⟩ = some (.int .i64 f.1) ∧ w.cell? ⟨g, j * 3 + 2, none⟩ = some f.2.1 := by
  have hc : ∀ (i : Nat) (u : Value), i < 3 → [Value.string nm, .int .i64 f.1, f.2.1][i]? = some u → w.cell? ⟨g, j * 3 + i, none⟩ = some u := fun i u hi hu => by
    have := World.ownsRow.cells h.row (g := g) rfl (j * 3 + i) u (by rw [fdCells_get nm fs j i f hf hi]; exact hu)
    rw [Addr.add_lit] at this
    rw [← this, Nat.zero_add]
  exact ⟨hc 0 _ (by omega) rfl, hc 1 _ (by omega) rfl, hc 2 _ (by omega) rfl⟩
/-- The row of the versions up to k. -/
structure Feeds (lo : Nat) (w : World) (v : Value) (nm : ByteArray) (g : Tt.Grd) (t : Tt.Trm) (ls : List (List Ses)) (fs : List Fd) : Prop where
  row : RowFd lo w v nm fs
  ver : ∀ (j : Nat) (f : Fd), fs[j]? = some f → f.1 = (j : Int) ∧ f.2.2.map (·.1) = makK g t ls j
theorem Feeds.snoc {lo : Nat} {w w' : World} {v v' : Value} {nm : ByteArray} {g : Tt.Grd} {t : Tt.Trm} {ls : List (List Ses)} {fs : List Fd} {u : Value} {ts : List (Ev × Value × Value)} (h : Feeds lo w v nm g t ls fs) (hf : RowT lo w u ts) (he : ts.map (·.1) = makK g t ls fs.length) (hg : w.grownBy w' v.ownBlock) (hown : w'.ownsRow lo 49 3 v' (fs.length + 1) (fdCells nm fs ++ [.string nm, .int .i64 (fs.length : Int), u])) : Feeds lo w' v' nm g t ls (fs ++ [((fs.length : Int), u, ts)]) := by
  refine ⟨h.row.snoc (f := ((fs.length : Int), u, ts)) hf hg hown, fun j f hj => ?_⟩
  rcases Nat.lt_or_ge j fs.length with hl | hl
  · rw [List.getElem?_append_left hl] at hj; exact h.ver j f hj
  · rw [List.getElem?_append_right hl] at hj
    have hj0 : j - fs.length = 0 := by
      rcases Nat.eq_zero_or_pos (j - fs.length) with q | q
      · exact q
      · rw [List.getElem?_eq_none (by simp; omega)] at hj; cases hj
    rw [hj0] at hj
    simp at hj
    subst hj; obtain rfl : j = fs.length := by omega
    exact ⟨rfl, he⟩
/-- The version j in the row. -/
theorem Feeds.get {lo n c g0 j : Nat} {w : World} {nm : ByteArray} {g : Tt.Grd} {t : Tt.Trm} {ls : List (List Ses)} {fs : List Fd} (h : Feeds lo w (.slice (some ⟨g0, 0, none⟩) n c) nm g t ls fs) (hj : j < fs.length) :
    ∃ (p : Option Addr) (q : Nat) (ts : List (Ev × Value × Value)), w.cell? ⟨g0, j * 3, none⟩ = some (.string nm) ∧ w.cell? ⟨g0, j * 3 + 1, none⟩ = some (.int .i64 (j : Int)) ∧ w.cell? ⟨g0, j * 3 + 2, none⟩ = some (.slice p ts.length q) ∧ RowT lo w (.slice p ts.length q) ts ∧ ts.map (·.1) = makK g t ls j := by
  have hf : fs[j]? = some fs[j] := List.getElem?_eq_getElem hj
  obtain ⟨f, hfe⟩ : ∃ f, f = fs[j] := ⟨_, rfl⟩
  rw [← hfe] at hf
  obtain ⟨v1, v2⟩ := h.ver j f hf
  obtain ⟨c0, c1, c2⟩ := h.row.at_ hf
  have hr := h.row.each f (List.mem_of_getElem? hf)
  obtain ⟨p, q, hq, -, -⟩ := hr.seg
  rw [hq] at c2 hr
  rw [v1] at c1
  exact ⟨p, q, f.2.2, c0, c1, c2, hr, v2⟩
/-- Drawn versions have no error. -/
theorem ses_ok {g : Tt.Grd} {n : Int} {s : Ses} (h : SesOk g n s) (hg : Tt.gridV g = 0) (hn0 : 1 ≤ n) (hn1 : n ≤ 20) : sesE s n = 0 := by
  obtain ⟨⟨c, hc, c0, c1⟩, ht, hr⟩ := h
  have hf := ht.fits hg hn0 hn1; unfold Tt.fitsV at hf
  rw [if_pos ⟨hg, hn0, hn1⟩] at hf
  have hs : Tt.soundB s.tim = true ∧ Tt.weeksB s.tim.weeks n = true := by
    split at hf
    · rename_i q; exact ⟨q.1, q.2.1⟩
    · cases hf
  refine sesE_ok ?_ (by rw [hs.1, hs.2]; rfl) ?_
  · rw [hc]
    have hcc : c = 49 ∨ c = 50 ∨ c = 51 ∨ c = 52 := by
      have : c.toNat = 49 ∨ c.toNat = 50 ∨ c.toNat = 51 ∨ c.toNat = 52 := by omega
      rcases this with q | q | q | q
      · exact .inl (UInt8.toNat_inj.1 q)
      · exact .inr (.inl (UInt8.toNat_inj.1 q))
      · exact .inr (.inr (.inl (UInt8.toNat_inj.1 q)))
      · exact .inr (.inr (.inr (UInt8.toNat_inj.1 q)))
    rcases hcc with rfl | rfl | rfl | rfl <;> decide
  · rcases hr with h | h | h <;> rw [h] <;> decide
theorem sesL_zero {n : Int} : ∀ {l : List Ses}, (∀ s ∈ l, sesE s n = 0) → sesL n l = 0
  | [], _ => rfl
  | s :: r, h => by
    rw [sesL, if_neg (by rw [h s (by simp)]; decide)]
    exact sesL_zero (fun x hx => h x (by simp [hx]))
theorem ordB_true : ∀ {l : List Ses}, l.Pairwise (fun a b => lessU a.cls b.cls = true) → ordB l = true
  | [], _ => rfl
  | [_], _ => rfl
  | a :: b :: r, h => by
    obtain ⟨h1, h2⟩ := List.pairwise_cons.1 h
    rw [ordB, ordB_true h2, Bool.and_true]
    unfold befB
    rw [h1 b (by simp)]; rfl
theorem dupB_false : ∀ {l pre : List Ses}, (pre ++ l).Pairwise (fun a b => lessU a.cls b.cls = true) → dupB pre l = false
  | [], _, _ => by unfold dupB; rfl
  | s :: r, pre, h => by
    have hh : (pre ++ [s]) ++ r = pre ++ s :: r := by simp
    rw [dupB, dupB_false (by rw [hh]; exact h), Bool.or_false]
    rw [List.any_eq_false]
    intro x hx; have hl := (List.pairwise_append.1 h).2.2 x hx s (by simp)
    have hne : decide (s.cls = x.cls) = false := by
      rw [decide_eq_false_iff_not]
      intro q; rw [q, lessU_irrefl] at hl; cases hl
    unfold twiceB meetB likeB
    rw [hne]; simp
theorem ver_chg {g : Tt.Grd} {n : Int} {l : List Ses} (h : VerOk g n l) (hg : Tt.gridV g = 0) (hn0 : 1 ≤ n) (hn1 : n ≤ 20) (hl : l.length ≤ 12) : chgV l n = 0 := by
  unfold chgV
  rw [if_neg (by omega), if_neg (by omega), if_neg (by rw [sesL_zero (fun s hs => ses_ok (h.each s hs) hg hn0 hn1)]; decide), if_neg (by rw [ordB_true h.asc]; decide), if_neg (by rw [dupB_false (pre := []) (by simpa using h.asc)]; decide)]
theorem chgsV_zero {n : Int} : ∀ {ls : List (List Ses)}, (∀ l ∈ ls, chgV l n = 0) → chgsV n ls = 0
  | [], _ => rfl
  | l :: r, h => by
    rw [chgsV, if_neg (by rw [h l (by simp)]; decide)]
    exact chgsV_zero (fun x hx => h x (by simp [hx]))
theorem advS_len {k : Int} {es : List Ev} {e : Ev} : (advS k es e).length ≤ es.length + 1 := by
  unfold advS
  split
  · split
    · omega
    · exact putE_len e es
  · exact putE_len e es
theorem foldS_len {k : Int} : ∀ {fs es : List Ev}, (fs.foldl (advS k) es).length ≤ es.length + fs.length
  | [], _ => Nat.le_refl _
  | e :: r, es => by
    have h1 := foldS_len (k := k) (fs := r) (es := advS k es e)
    have h2 := advS_len (k := k) (es := es) (e := e)
    rw [List.foldl_cons, List.length_cons]
    omega
theorem advV_len {g : Tt.Grd} {t : Tt.Trm} {k : Int} {l : List Ses} {es : List Ev} : (advV g t k l es).length ≤ es.length + l.length := by
  unfold advV advC
  rw [List.length_map]
  have h1 := foldS_len (k := k) (fs := sesEs g t k l) (es := es)
  have h2 : (sesEs g t k l).length ≤ l.length := by unfold sesEs; rw [List.length_map]; exact List.length_filter_le _ _
  omega
theorem makE_len {g : Tt.Grd} {t : Tt.Trm} {b : Nat} : ∀ {ls : List (List Ses)} {k : Int} {es : List Ev}, (∀ l ∈ ls, l.length ≤ b) → (makeE g t k ls es).length ≤ es.length + ls.length * b
  | [], _, es, _ => by rw [makeE]; simp
  | l :: r, k, es, h => by
    rw [makeE]
    have h1 := makE_len (g := g) (t := t) (b := b) (ls := r) (k := k + 1) (es := advV g t k l es) (fun x hx => h x (by simp [hx]))
    have h2 := advV_len (g := g) (t := t) (k := k) (l := l) (es := es)
    have h3 := h l (by simp)
    rw [List.length_cons, Nat.succ_mul]
    omega
/-- Of drawn versions each prefix has a feed. -/
structure VersOk (g : Tt.Grd) (t : Tt.Trm) (ls : List (List Ses)) : Prop where
  grid : Tt.gridV g = 0
  term : Tt.trmV t = 0
  len : ls.length ≤ 4
  each : ∀ l ∈ ls, l.length ≤ 12 ∧ VerOk g t.weeks l
theorem VersOk.code {g : Tt.Grd} {t : Tt.Trm} {ls : List (List Ses)} (h : VersOk g t ls) (k : Nat) : makC g t ⟨#[120]⟩ (ls.take k) = 0 := by
  have hw := Tt.trmV_ok h.term
  have hle : (ls.take k).length ≤ 4 := by rw [List.length_take]; have := h.len; omega
  refine makC_0 h.grid h.term (by decide) (by omega) (chgsV_zero (fun l hl => ?_)) ?_
  · have hm := h.each l (List.mem_of_mem_take hl)
    exact ver_chg hm.2 h.grid hw.2.2.1 hw.2.2.2.1 hm.1
  · have := makE_len (g := g) (t := t) (b := 12) (ls := ls.take k) (k := 1) (es := []) (fun l hl => (h.each l (List.mem_of_mem_take hl)).1)
    have h2 : (ls.take k).length * 12 ≤ 4 * 12 := Nat.mul_le_mul_right _ hle
    rw [List.length_nil] at this
    omega
theorem VersOk.small {g : Tt.Grd} {t : Tt.Trm} {ls : List (List Ses)} (h : VersOk g t ls) (k : Nat) : (makK g t ls k).length ≤ 48 := by
  have hle : (ls.take k).length ≤ 4 := by rw [List.length_take]; have := h.len; omega
  have := makE_len (g := g) (t := t) (b := 12) (ls := ls.take k) (k := 1) (es := []) (fun l hl => (h.each l (List.mem_of_mem_take hl)).1)
  have h2 : (ls.take k).length * 12 ≤ 4 * 12 := Nat.mul_le_mul_right _ hle
  rw [List.length_nil] at this
  unfold makK
  omega
theorem VersOk.feed {g : Tt.Grd} {t : Tt.Trm} {ls : List (List Ses)} (h : VersOk g t ls) {k : Nat} (hk : k ≤ ls.length) : makF g t ⟨#[120]⟩ (ls.take k) = (⟨#[120]⟩, (k : Int), makK g t ls k) := by
  unfold makF
  rw [if_pos (h.code k), List.length_take, Nat.min_eq_left hk]; rfl
theorem VersOk.valid {g : Tt.Grd} {t : Tt.Trm} {ls : List (List Ses)} (h : VersOk g t ls) {k : Nat} (hk : k ≤ ls.length) : feedV ⟨#[120]⟩ (k : Int) (makK g t ls k) = 0 := by
  have := makF_valid (h.code k)
  rwa [h.feed hk] at this
theorem VersOk.rd {g : Tt.Grd} {t : Tt.Trm} {ls : List (List Ses)} (h : VersOk g t ls) {k : Nat} (hk : k ≤ ls.length) : rdOk (k : Int) (makK g t ls k) = true :=
  (rdOk_iff _ _).2 ⟨by omega, by have := h.len; omega, by have := h.small k; omega, makK_valid g t ls k hk⟩
theorem VersOk.lists {g : Tt.Grd} {t : Tt.Trm} {ls : List (List Ses)} (h : VersOk g t ls) {k : Nat} (hk : k ≤ ls.length) {ts : List (Ev × Value × Value)} (he : ts.map (·.1) = makK g t ls k) : ts.length ≤ 48 ∧ ∀ q ∈ ts, q.1.days.ex.length ≤ 1000000 ∧ q.1.days.xt.length ≤ 1000000 := by
  refine ⟨by have := h.small k; rw [← he, List.length_map] at this; exact this, fun q hq => rd_lists (h.rd hk) q.1 ?_⟩
  rw [← he]; exact List.mem_map.2 ⟨q, hq, rfl⟩
theorem RowT.sg {lo n c : Nat} {w : World} {p : Option Addr} {ts : List (Ev × Value × Value)} (h : RowT lo w (.slice p n c) ts) : Seg w.heap.size w p ts := by
  obtain ⟨qa, qc, hq, -, hs⟩ := h.seg
  simp only [Value.slice.injEq] at hq
  rw [hq.1]; exact hs
theorem LstAt.take {B : Nat} {w : World} {ao : Option Addr} {ls : List (List Ses)} (h : LstAt B w ao ls) (k : Nat) : LstAt B w ao (ls.take k) := by
  rcases h with h | ⟨b, o, h1, h2, h3⟩
  · exact .inl (by rw [h]; exact List.take_nil)
  · refine .inr ⟨b, o, h1, h2, fun j l hl => h3 j l ?_⟩
    have hj : j < k := by have := (List.getElem?_eq_some_iff.1 hl).1; rw [List.length_take] at this; omega
    rwa [List.getElem?_take_of_lt hj] at hl
end Go.Proofs.YtcomifbfldoeiaaGreatDoor
namespace Go.Proofs.YtcomifbfldoeiaaGreatDoor
open Go.RowKit

theorem foldS_keep {k : Int} : ∀ {fs es : List Ev} {a : Ev}, a ∈ es → (∀ f ∈ fs, f.uid ≠ a.uid) → a ∈ fs.foldl (advS k) es
  | [], _, _, h, _ => h
  | e :: r, es, a, h, hn => by
    rw [List.foldl_cons]
    refine foldS_keep (fs := r) ?_ (fun f hf => hn f (by simp [hf]))
    unfold advS
    split
    · split
      · exact h
      · exact putE_keep h (fun q => hn e (by simp) q.symm)
    · exact putE_keep h (fun q => hn e (by simp) q.symm)
theorem foldS_has {k : Int} : ∀ {fs es : List Ev}, fs.Pairwise (fun a b => a.uid ≠ b.uid) → (∀ e ∈ fs, e.seq = k) → ∀ e ∈ fs, ∃ a ∈ fs.foldl (advS k) es, { a with seq := k } = e
  | [], _, _, _, e, he => by cases he
  | f :: r, es, hp, hs, e, he => by
    obtain ⟨p1, p2⟩ := List.pairwise_cons.1 hp
    rw [List.foldl_cons]
    rcases List.mem_cons.1 he with rfl | he
    · have hself : ∃ a ∈ advS k es e, { a with seq := k } = e := by
        have hput : ∃ a ∈ putE e es, { a with seq := k } = e := ⟨e, putE_self e es, by have := hs e (by simp); cases e; simp at this; subst this; rfl⟩
        unfold advS
        split
        · rename_i o ho
          split
          · rename_i q
            exact ⟨o, (getE_some ho).1, q⟩
          · exact hput
        · exact hput
      obtain ⟨a, ha, hq⟩ := hself; refine ⟨a, foldS_keep ha (fun x hx q => ?_), hq⟩
      have hu : a.uid = e.uid := by rw [← hq]
      exact p1 x hx (hu.symm.trans q.symm)
    · exact foldS_has (fs := r) p2 (fun x hx => hs x (by simp [hx])) e he
theorem AscU_foldS {k : Int} : ∀ (fs : List Ev) {es : List Ev}, AscU es → AscU (fs.foldl (advS k) es)
  | [], _, h => h
  | _ :: r, _, h => AscU_foldS r h.adv
/-- Who is shown behind one more version: the events of its sessions. -/
theorem adv_shown {g : Tt.Grd} {t : Tt.Trm} {k : Int} {l : List Ses} {es : List Ev} (hes : AscU es) (hp : (sesEs g t k l).Pairwise (fun a b => a.uid ≠ b.uid)) {x : Ev} (hx : x ∈ advV g t k l es) (hc : x.canc = false) : ∃ e ∈ sesEs g t k l, { x with seq := k } = e := by
  unfold advV advC at hx
  obtain ⟨y, hy, rfl⟩ := List.mem_map.1 hx
  unfold goneE at hc ⊢
  split at hc
  · rename_i g1
    have hyc : y.canc = false := hc
    rw [hyc, Bool.false_or, List.any_eq_true] at g1
    obtain ⟨u, hu, hue⟩ := g1; obtain ⟨e, he, rfl⟩ := List.mem_map.1 hu
    have hue : e.uid = y.uid := by simpa using hue
    obtain ⟨a, ha, hq⟩ := foldS_has (k := k) (es := es) hp (fun e he => sesEs_seq he) e he
    have hay : a = y := (AscU_foldS _ hes).one ha hy (by rw [← hue, ← hq])
    subst hay; refine ⟨e, he, ?_⟩
    split
    · exact hq
    · rename_i g2; exact absurd (by rw [Bool.or_eq_true]; exact .inr (List.any_eq_true.2 ⟨e.uid, hu, by simpa using hue⟩)) g2
  · cases hc
/-- And each of them is shown. -/
theorem adv_has {g : Tt.Grd} {t : Tt.Trm} {k : Int} {l : List Ses} {es : List Ev} (hp : (sesEs g t k l).Pairwise (fun a b => a.uid ≠ b.uid)) {e : Ev} (he : e ∈ sesEs g t k l) : ∃ x ∈ advV g t k l es, { x with seq := k } = e := by
  obtain ⟨a, ha, hq⟩ := foldS_has (k := k) (es := es) hp (fun e he => sesEs_seq he) e he
  have hu : a.uid = e.uid := by rw [← hq]
  refine ⟨a, ?_, hq⟩
  unfold advV advC
  refine List.mem_map.2 ⟨a, ha, ?_⟩
  unfold goneE
  rw [if_pos]
  rw [Bool.or_eq_true]
  exact .inr (List.any_eq_true.2 ⟨e.uid, List.mem_map.2 ⟨e, he, rfl⟩, by simpa using hu.symm⟩)
theorem cls_uid {a b : Ses} (ha : ClsOk a.cls) (hb : ClsOk b.cls) (h : uidOf a = uidOf b) : a.cls = b.cls := by
  obtain ⟨c, h1, -⟩ := ha; obtain ⟨d, h2, -⟩ := hb; unfold uidOf at h
  rw [h1, h2] at h
  have h3 := congrArg (fun s : ByteArray => s.data.toList[1]?) h
  simp [ByteArray.data_append] at h3
  rw [h1, h2, h3]
theorem ver_pair {g : Tt.Grd} {t : Tt.Trm} {n k : Int} {l : List Ses} (h : VerOk g n l) : (sesEs g t k l).Pairwise (fun a b => a.uid ≠ b.uid) := by
  unfold sesEs
  refine List.pairwise_map.2 (List.Pairwise.filter _ ?_)
  refine List.Pairwise.imp_of_mem (R := fun a b => lessU a.cls b.cls = true) (fun {a b} ha hb hl q => ?_) h.asc
  have := cls_uid (h.each a ha).cls (h.each b hb).cls q
  rw [this, lessU_irrefl] at hl; cases hl
/-- As many events are shown as sessions have days. -/
theorem shown_many {g : Tt.Grd} {t : Tt.Trm} {n k : Int} {l : List Ses} {es : List Ev} (h : VerOk g n l) (hes : AscU es) : ((advV g t k l es).filter (fun e => !e.canc)).length = (l.filter (evB g t)).length := by
  have hp := ver_pair (t := t) (k := k) h
  have hasc : AscU (advV g t k l es) := by unfold advV; exact (AscU_foldS _ hes).gone
  have hl : (l.filter (evB g t)).length = ((sesEs g t k l).map (·.uid)).length := by unfold sesEs; rw [List.length_map, List.length_map]
  have hl2 : ((advV g t k l es).filter (fun e => !e.canc)).length = (((advV g t k l es).filter (fun e => !e.canc)).map (·.uid)).length := by rw [List.length_map]
  rw [hl, hl2]
  refine List.Perm.length_eq ((List.perm_ext_iff_of_nodup ?_ ?_).2 fun u => ?_)
  · exact List.pairwise_map.2 ((hasc.filter _).imp (fun {a b} hab q => by rw [q, lessU_irrefl] at hab; cases hab))
  · exact List.pairwise_map.2 hp
  · simp only [List.mem_map, List.mem_filter]
    constructor
    · rintro ⟨x, ⟨hx, hc⟩, rfl⟩
      obtain ⟨e, he, hq⟩ := adv_shown hes hp hx (by simpa using hc)
      exact ⟨e, he, by rw [← hq]⟩
    · rintro ⟨e, he, rfl⟩; obtain ⟨x, hx, hq⟩ := adv_has (es := es) hp he
      refine ⟨x, ⟨hx, ?_⟩, by rw [← hq]⟩
      have hec : e.canc = false := by
        unfold sesEs at he
        obtain ⟨s, -, rfl⟩ := List.mem_map.1 he
        rfl
      have : x.canc = e.canc := by rw [← hq]
      simp [this, hec]
/-- The events behind the last version. -/
theorem makK_last (g : Tt.Grd) (t : Tt.Trm) (ls : List (List Ses)) (k : Nat) (l : List Ses) (h : ls[k]? = some l) : makK g t ls (k + 1) = advV g t ((k : Int) + 1) l (makK g t ls k) := makeE_take g t ls k l h
/-- A session that has days is an event, and is shown. -/
theorem ses_event {g : Tt.Grd} {t : Tt.Trm} {ls : List (List Ses)} (h : VersOk g t ls) {l : List Ses} (hl : l ∈ ls) {s : Ses} (hs : s ∈ l) : evB g t s = !decide (Tt.daysK t s.tim 20 = []) := by
  have hv := (h.each l hl).2.each s hs
  have hw := Tt.trmV_ok h.term
  have hf := hv.tim.fits h.grid hw.2.2.1 hw.2.2.2.1
  have he := ses_ok hv h.grid hw.2.2.1 hw.2.2.2.1
  have hcr : Tt.code s.cls.data.toList = true ∧ roomB s.room = true := by
    unfold sesE at he
    split at he
    · cases he
    · rename_i g1
      split at he
      · cases he
      · split at he
        · cases he
        · rename_i g3; exact ⟨by simpa using g1, by simpa using g3⟩
  unfold evB
  rw [h.grid, h.term, hcr.1, hcr.2, hf]; simp
end Go.Proofs.YtcomifbfldoeiaaGreatDoor
