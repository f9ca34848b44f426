/- FeedSequences, plain: what is found of one more version. No program in sight. -/
import Derived.Test.YtcomifbfldoeiaaGreatDoorXtra
namespace Go.Proofs.YtcomifbfldoeiaaGreatDoor
open Go.RowKit

theorem find_cases (u : ByteArray) (es : List Ev) : findFrom u es 0 = -1 ∧ (∀ e ∈ es, e.uid ≠ u) ∨ ∃ (j : Nat) (o : Ev), findFrom u es 0 = j ∧ es[j]? = some o ∧ o.uid = u := by
  rcases findFrom_get u es 0 (Int.le_refl _) with ⟨h1, h2⟩ | ⟨j, o, h1, h2, h3⟩
  · exact .inl ⟨h2, getE_none h1⟩
  · exact .inr ⟨j, o, by omega, h3, (getE_some h1).2⟩
theorem find_has {u : ByteArray} {es : List Ev} (h : ∃ x ∈ es, x.uid = u) : ∃ (j : Nat) (o : Ev), findFrom u es 0 = j ∧ es[j]? = some o ∧ o.uid = u := by
  rcases find_cases u es with ⟨-, h2⟩ | h2
  · obtain ⟨x, hx, hu⟩ := h; exact absurd hu (h2 x hx)
  · exact h2
theorem find_at {es : List Ev} (ha : AscU es) {x : Ev} (hx : x ∈ es) : ∃ j : Nat, findFrom x.uid es 0 = j ∧ es[j]? = some x := by
  obtain ⟨j, o, h1, h2, h3⟩ := find_has ⟨x, hx, rfl⟩
  have : o = x := ha.one (List.mem_of_getElem? h2) hx h3
  rw [this] at h2
  exact ⟨j, h1, h2⟩
theorem filt_take {α : Type} (p : α → Bool) (es : List α) (i : Nat) (e : α) (h : es[i]? = some e) : ((es.take (i + 1)).filter p).length = ((es.take i).filter p).length + (if p e = true then 1 else 0) := by
  rw [List.take_add_one, h, Option.toList_some, List.filter_append, List.length_append]
  congr 1
  by_cases hp : p e = true
  · rw [if_pos hp]; simp [hp]
  · rw [if_neg hp]; simp [hp]
theorem filt_le {α : Type} (p : α → Bool) (es : List α) (i : Nat) : ((es.take i).filter p).length ≤ i := by
  refine Nat.le_trans (List.length_filter_le _ _) ?_
  rw [List.length_take]; omega
/-- An event of version M + 1 that has not that number was there before. -/
theorem seq_old {g : Tt.Grd} {t : Tt.Trm} {ls : List (List Ses)} {M : Nat} (hM : M + 1 ≤ ls.length) {x : Ev} (hx : x ∈ makK g t ls (M + 1)) (hs : x.seq ≠ (M : Int) + 1) : x ∈ makK g t ls M := by
  rcases makK_new (i := M) (by omega) hx with h | h
  · exact h
  · have := (makK_seq hM hx).2; omega
/-- As many are shown as sessions have days. -/
theorem seq_count {g : Tt.Grd} {t : Tt.Trm} {ls : List (List Ses)} (h : VersOk g t ls) {M : Nat} {l : List Ses} (hl : ls[M]? = some l) : ((makK g t ls (M + 1)).filter (fun e => !e.canc)).length = (l.filter (fun s => !decide (Tt.daysK t s.tim 20 = []))).length := by
  have hm := List.mem_of_getElem? hl
  rw [makK_last g t ls M l hl, shown_many (h.each l hm).2 (makK_asc ..)]
  congr 1
  exact List.filter_congr fun s hs => ses_event h hm hs
/-- A session that has days: its event stands there. -/
theorem seq_event {g : Tt.Grd} {t : Tt.Trm} {ls : List (List Ses)} (h : VersOk g t ls) {M : Nat} {l : List Ses} (hl : ls[M]? = some l) {s : Ses} (hs : s ∈ l) (hd : Tt.daysK t s.tim 20 ≠ []) : evB g t s = true ∧ ∃ (j : Nat) (o : Ev), findFrom (evOf g t s 1).uid (makK g t ls (M + 1)) 0 = j ∧ (makK g t ls (M + 1))[j]? = some o ∧ o.canc = false ∧ o.start = (evOf g t s 1).start ∧ o.loc = (evOf g t s 1).loc := by
  have hm := List.mem_of_getElem? hl
  have hb : evB g t s = true := by rw [ses_event h hm hs, decide_eq_false hd]; rfl
  refine ⟨hb, ?_⟩
  have he : evIs g t s ((M : Int) + 1) ∈ sesEs g t ((M : Int) + 1) l := by
    unfold sesEs
    exact List.mem_map.2 ⟨s, List.mem_filter.2 ⟨hs, hb⟩, rfl⟩
  obtain ⟨x, hx, hq⟩ := adv_has (es := makK g t ls M) (ver_pair (h.each l hm).2) he
  rw [← makK_last g t ls M l hl] at hx
  obtain ⟨j, h1, h2⟩ := find_at (makK_asc ..) hx
  have hu : x.uid = (evOf g t s 1).uid := by unfold evOf; rw [if_pos hb, show x.uid = (evIs g t s ((M : Int) + 1)).uid from by rw [← hq]]; rfl
  have hc : x.canc = false := by rw [show x.canc = (evIs g t s ((M : Int) + 1)).canc from by rw [← hq]]; rfl
  have hst : x.start = (evOf g t s 1).start := by unfold evOf; rw [if_pos hb, show x.start = (evIs g t s ((M : Int) + 1)).start from by rw [← hq]]; rfl
  have hlo : x.loc = (evOf g t s 1).loc := by unfold evOf; rw [if_pos hb, show x.loc = (evIs g t s ((M : Int) + 1)).loc from by rw [← hq]]; rfl
  exact ⟨j, x, by rw [← hu]; exact h1, h2, hc, hst, hlo⟩
end Go.Proofs.YtcomifbfldoeiaaGreatDoor
