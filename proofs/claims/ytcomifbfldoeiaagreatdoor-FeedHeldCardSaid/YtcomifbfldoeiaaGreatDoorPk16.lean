/- The event of a session fits a feed: its identifier is right, its series is valid, its days are those of the session. No program in sight. The events of a timetable from one version to the next: plain functions on ascending lists of events. No program in sight. changes.Valid and the reference's: sessions by themselves and in pairs: plain functions and contracts. -/
import Derived.Test.YtcomifbfldoeiaaGreatDoorPk15
import Derived.Test.YtcomifbfldoeiaaGreatDoorPk11
import Derived.Laws.StructEq
namespace Tt
theorem lowB_lt (w : Int) : ∀ (n k : Nat), (∃ i : Nat, k ≤ i ∧ i < k + n ∧ bit w (i : Nat) = true) → lowB w n k < k + n
  | 0, k, ⟨i, h1, h2, _⟩ => by omega
  | n + 1, k, ⟨i, h1, h2, h3⟩ => by
    rw [lowB]
    split
    · omega
    · rename_i hb
      have hik : i ≠ k := fun e => hb (by rw [← e]; exact h3)
      have := lowB_lt w n (k + 1) ⟨i, by omega, by omega, h3⟩
      omega
theorem low_week {w : Int} (h : weeksB w 20 = true) : lowB w 20 0 < 20 := by
  have hs := weeks_some h; have hx : ∃ i : Nat, 0 ≤ i ∧ i < 0 + 20 ∧ bit w (i : Nat) = true := by
    apply Classical.byContradiction
    intro hc; apply hs
    intro i hi; cases hb : bit w (i : Nat) with
    | false => rfl
    | true => exact absurd ⟨i, Nat.zero_le _, by omega, hb⟩ hc
  have := lowB_lt w 20 0 hx
  omega
theorem daysK_span (t : Trm) (x : Tim) (h : daysK t x 20 ≠ []) : spanN (daysK t x 20) ≤ 140 := by
  have ho := daysK_ok t x h; have h1 := daysK_bd t x (List.mem_of_getElem? ho.first)
  have h2 := daysK_bd t x (List.mem_of_getElem? ho.last)
  have h3 := ho.span.1; omega
theorem of_days (t : Trm) (x : Tim) (h : daysK t x 20 ≠ []) : serV (ofV (daysK t x 20)) = 0 ∧ serDays (ofV (daysK t x 20)) = daysK t x 20 :=
  ofV_ok (daysK_ok t x h) (daysK_pair t x 20) (daysK_span t x h)
theorem alnum_lab (c : UInt8) (h : (alnum c || sign c) = true) : 32 ≤ c.toNat ∧ c.toNat ≤ 126 := by
  unfold alnum sign at h
  simp only [Bool.or_eq_true, Bool.and_eq_true, decide_eq_true_eq, beq_iff_eq, UInt8.le_iff_toNat_le] at h
  have e1 : (48 : UInt8).toNat = 48 := rfl
  have e2 : (57 : UInt8).toNat = 57 := rfl
  have e3 : (65 : UInt8).toNat = 65 := rfl
  have e4 : (90 : UInt8).toNat = 90 := rfl
  have e5 : (97 : UInt8).toNat = 97 := rfl
  have e6 : (122 : UInt8).toNat = 122 := rfl
  rcases h with ((h | h) | h) | h | h
  · omega
  · omega
  · omega
  · subst h; decide
  · subst h; decide
theorem code_lab {l : List UInt8} (h : code l = true) : labB l = true ∧ 0 < l.length := by
  cases l with
  | nil => cases h
  | cons c r =>
    unfold code at h
    simp only [Bool.and_eq_true, decide_eq_true_eq] at h
    obtain ⟨⟨h1, h2⟩, h3⟩ := h
    unfold codeTail at h3
    have hall : ∀ x ∈ c :: r, (alnum x || sign x) = true := by
      intro x hx; rcases List.mem_cons.1 hx with e | e
      · rw [e, h2]; rfl
      · exact List.all_eq_true.1 h3 x e
    refine ⟨?_, by simp⟩
    unfold labB
    rw [Bool.and_eq_true, decide_eq_true_eq]
    refine ⟨List.all_eq_true.2 fun x hx => ?_, by omega⟩
    have := alnum_lab x (hall x hx)
    unfold labC
    simp only [Bool.or_eq_true, Bool.and_eq_true, decide_eq_true_eq]
    exact .inr this
end Tt
namespace Go.Proofs.YtcomifbfldoeiaaGreatDoor
open Go.RowKit

structure EvParts (g : Tt.Grd) (t : Tt.Trm) (s : Ses) : Prop where
  hg : Tt.gridV g = 0
  ht : Tt.trmV t = 0
  hc : Tt.code s.cls.data.toList = true
  hr : roomB s.room = true
  hf : Tt.fitsV g t.weeks s.tim = 0
  hd : Tt.daysK t s.tim 20 ≠ []
theorem evB_iff (g : Tt.Grd) (t : Tt.Trm) (s : Ses) : evB g t s = true ↔ EvParts g t s := by
  unfold evB
  simp only [Bool.and_eq_true, decide_eq_true_eq, Bool.not_eq_true', decide_eq_false_iff_not]
  exact ⟨fun ⟨a, b, c, d, e, f⟩ => ⟨a, b, c, d, e, f⟩, fun ⟨a, b, c, d, e, f⟩ => ⟨a, b, c, d, e, f⟩⟩
theorem uid_list (s : Ses) : (uidOf s).data.toList = s.cls.data.toList ++ 64 :: Lib.decDigits (Tt.lowB s.tim.weeks 20 0 + 1) := by
  unfold uidOf; simp
theorem uid_right {g : Tt.Grd} {t : Tt.Trm} {s : Ses} (h : EvParts g t s) : rightB (uidOf s).data.toList = true := by
  have hw := (Tt.soundB_iff _).1 (Tt.fits_parts h.hf).1
  have hl := Tt.low_week hw.1
  unfold rightB
  rw [uid_list, Tt.rightP_last _ code_no_at, h.hc]
  show Tt.numFrom _ 1 = true
  unfold Tt.numFrom
  rw [decide_eq_true_iff]
  exact ⟨_, by omega, by omega, rfl⟩
theorem evIs_days {g : Tt.Grd} {t : Tt.Trm} {s : Ses} (h : EvParts g t s) (q : Int) : Tt.serV (evIs g t s q).days = 0 ∧ Tt.serDays (evIs g t s q).days = Tt.daysK t s.tim 20 := by
  have := Tt.of_days t s.tim h.hd
  exact this
theorem evIs_check {g : Tt.Grd} {t : Tt.Trm} {s : Ses} (h : EvParts g t s) (q v : Int) (h1 : 1 ≤ q) (h2 : q ≤ v) : checkV (evIs g t s q) v = 0 := by
  obtain ⟨d1, d2⟩ := evIs_days h q
  obtain ⟨f1, f2⟩ := Tt.fits_parts h.hf
  obtain ⟨-, -, -, s1, s2, s3, s4⟩ := (Tt.soundB_iff _).1 f1
  have hg := h.hg; have hp := Tt.grid_parts hg; have hday : 1440 ≥ g.begin_ + g.slots * g.mins := by
    unfold Tt.gridV at hg
    split at hg
    · cases hg
    · omega
  have m1 : (s.tim.start + s.tim.len) * g.mins ≤ g.slots * g.mins := Int.mul_le_mul_of_nonneg_right f2 (by omega)
  have m2 : 1 * g.mins ≤ s.tim.len * g.mins := Int.mul_le_mul_of_nonneg_right s3 (by omega)
  have m3 : 0 ≤ s.tim.start * g.mins := Int.mul_nonneg s1 (by omega)
  rw [Int.add_mul] at m1
  obtain ⟨c1, c2⟩ := Tt.code_lab h.hc
  unfold checkV
  rw [if_neg (by show ¬ (q < 1 ∨ v < q); omega), if_neg (by rw [d1]; simp), if_neg (by rw [d2]; exact h.hd), if_neg, if_neg]
  · have hs : (evIs g t s q).summ = s.cls := rfl
    have hl : (evIs g t s q).loc = s.room := rfl
    rw [hs, hl, c1]
    have hsz : s.cls.data.toList.length = s.cls.size := by rw [Array.length_toList]; rfl
    have hr : Tt.labB s.room.data.toList = true := by
      have := h.hr
      unfold roomB at this
      rw [Bool.or_eq_true] at this
      rcases this with e | e
      · rw [List.isEmpty_iff.1 e]; rfl
      · exact (Tt.code_lab e).1
    rw [hr]
    rintro (e | e | e)
    · omega
    · cases e
    · cases e
  · show ¬ (g.begin_ + s.tim.start * g.mins < 0 ∨ 1440 ≤ g.begin_ + s.tim.start * g.mins ∨ s.tim.len * g.mins < 1 ∨ 1440 < s.tim.len * g.mins)
    omega
end Go.Proofs.YtcomifbfldoeiaaGreatDoor
namespace Go.Proofs.YtcomifbfldoeiaaGreatDoor
open Go.RowKit

/-- The event with an identifier. -/
def getE (u : ByteArray) (es : List Ev) : Option Ev := es.find? (fun e => decide (e.uid = u))
theorem getE_some {u : ByteArray} {es : List Ev} {e : Ev} (h : getE u es = some e) : e ∈ es ∧ e.uid = u := by
  unfold getE at h
  exact ⟨List.mem_of_find?_eq_some h, by have := List.find?_some h; simpa using this⟩
theorem getE_none {u : ByteArray} {es : List Ev} (h : getE u es = none) : ∀ e ∈ es, e.uid ≠ u := by
  unfold getE at h
  rw [List.find?_eq_none] at h
  intro e he hu; exact h e he (by simpa using hu)
/-- One session's event brought in: version k. -/
def advS (k : Int) (es : List Ev) (e : Ev) : List Ev :=
  match getE e.uid es with
  | some o => if { o with seq := k } = e then es else putE e es
  | none => putE e es
/-- What is gone is cancelled. -/
def goneE (k : Int) (here : List ByteArray) (e : Ev) : Ev := if (e.canc || here.any (fun u => decide (u = e.uid))) = true then e else { e with canc := true, seq := k }
def advC (k : Int) (here : List ByteArray) (es : List Ev) : List Ev := es.map (goneE k here)
/-- The events of the sessions that have one. -/
def sesEs (g : Tt.Grd) (t : Tt.Trm) (k : Int) (l : List Ses) : List Ev := (l.filter (evB g t)).map (fun s => evIs g t s k)
theorem sesEs_snoc (g : Tt.Grd) (t : Tt.Trm) (k : Int) (l : List Ses) (s : Ses) : sesEs g t k (l ++ [s]) = sesEs g t k l ++ (if evB g t s = true then [evIs g t s k] else []) := by
  unfold sesEs
  rw [List.filter_append, List.map_append]
  congr 1
  by_cases h : evB g t s = true
  · rw [if_pos h]; simp [h]
  · rw [if_neg h]; simp [h]
def advV (g : Tt.Grd) (t : Tt.Trm) (k : Int) (l : List Ses) (es : List Ev) : List Ev :=
  advC k ((sesEs g t k l).map (·.uid)) ((sesEs g t k l).foldl (advS k) es)
/-- The events behind some versions. -/
def makeE (g : Tt.Grd) (t : Tt.Trm) : Int → List (List Ses) → List Ev → List Ev
  | _, [], es => es
  | k, l :: r, es => makeE g t (k + 1) r (advV g t k l es)
theorem makeE_snoc (g : Tt.Grd) (t : Tt.Trm) : ∀ (ls : List (List Ses)) (l : List Ses) (k : Int) (es : List Ev), makeE g t k (ls ++ [l]) es = advV g t (k + ls.length) l (makeE g t k ls es)
  | [], l, k, es => by simp [makeE]
  | a :: r, l, k, es => by
    rw [List.cons_append, makeE, makeE_snoc g t r l (k + 1), makeE]
    congr 1
    rw [List.length_cons]
    push_cast
    omega
theorem goneE_uid (k : Int) (here : List ByteArray) (e : Ev) : (goneE k here e).uid = e.uid := by
  unfold goneE; split <;> rfl
/-- Valid events stay valid ones, with one more version. -/
theorem advS_valid {k : Int} {es : List Ev} {e : Ev} (hr : rightB e.uid.data.toList = true) (hc : checkV e k = 0) (h : evsV k none es = 0) : evsV k none (advS k es e) = 0 := by
  have hp := evsV_put k e hr hc es none rfl h; unfold advS
  split
  · split
    · exact h
    · exact hp
  · exact hp
theorem foldS_valid {k : Int} : ∀ (fs es : List Ev), (∀ e ∈ fs, rightB e.uid.data.toList = true ∧ checkV e k = 0) → evsV k none es = 0 → evsV k none (fs.foldl (advS k) es) = 0
  | [], _, _, h => h
  | e :: r, es, hf, h => foldS_valid r _ (fun x hx => hf x (by simp [hx])) (advS_valid (hf e (by simp)).1 (hf e (by simp)).2 h)
theorem check_canc {e : Ev} {k : Int} (h1 : 1 ≤ k) (h : checkV e k = 0) : checkV { e with canc := true, seq := k } k = 0 := by
  unfold checkV at h ⊢
  split at h
  · cases h
  · rename_i g1
    rw [if_neg (by show ¬ (k < 1 ∨ k < k); omega)]
    exact h
theorem evsV_gone {k : Int} (h1 : 1 ≤ k) (here : List ByteArray) : ∀ (es : List Ev) (p : Option ByteArray), evsV k p es = 0 → evsV k p (advC k here es) = 0
  | [], _, h => h
  | e :: r, p, h => by
    rw [evsV_cons] at h
    show evsV k p (goneE k here e :: advC k here r) = 0
    rw [evsV_cons, goneE_uid]
    refine ⟨h.1, h.2.1, ?_, evsV_gone h1 here r _ h.2.2.2⟩
    unfold goneE
    split
    · exact h.2.2.1
    · exact check_canc h1 h.2.2.1
theorem advV_valid {g : Tt.Grd} {t : Tt.Trm} {k : Int} {l : List Ses} {es : List Ev} (h1 : 1 ≤ k) (h : evsV (k - 1) none es = 0) : evsV k none (advV g t k l es) = 0 := by
  unfold advV
  refine evsV_gone h1 _ _ _ (foldS_valid _ _ (fun e he => ?_) (evsV_mono (by omega) _ _ h))
  unfold sesEs at he
  obtain ⟨s, hs, rfl⟩ := List.mem_map.1 he
  have hp := (evB_iff g t s).1 (by simpa using (List.mem_filter.1 hs).2)
  exact ⟨uid_right hp, evIs_check hp k k h1 (Int.le_refl _)⟩
theorem makeE_valid {g : Tt.Grd} {t : Tt.Trm} : ∀ (ls : List (List Ses)) (k : Int) (es : List Ev), 0 ≤ k → evsV k none es = 0 → evsV (k + ls.length) none (makeE g t (k + 1) ls es) = 0
  | [], k, es, _, h => by simpa [makeE] using h
  | l :: r, k, es, h0, h => by
    rw [makeE]
    have := makeE_valid (g := g) (t := t) r (k + 1) _ (by omega) (advV_valid (g := g) (t := t) (l := l) (k := k + 1) (by omega) (by rw [show k + 1 - 1 = k by omega]; exact h))
    rw [List.length_cons]
    have e : k + ((r.length + 1 : Nat) : Int) = k + 1 + r.length := by omega
    rw [e]; exact this
/-- Events in ascending order of their identifiers. -/
def AscU (es : List Ev) : Prop := es.Pairwise (fun a b => lessU a.uid b.uid = true)
theorem AscU.one {es : List Ev} (h : AscU es) {a b : Ev} (ha : a ∈ es) (hb : b ∈ es) (he : a.uid = b.uid) : a = b := by
  induction es with
  | nil => cases ha
  | cons x r ih =>
    obtain ⟨h1, h2⟩ := List.pairwise_cons.1 h
    rcases List.mem_cons.1 ha with e1 | ha1
    · rcases List.mem_cons.1 hb with e2 | hb1
      · rw [e1, e2]
      · have := h1 b hb1
        rw [← e1, he, lessU_irrefl] at this; cases this
    · rcases List.mem_cons.1 hb with e2 | hb1
      · have := h1 a ha1
        rw [← e2, he, lessU_irrefl] at this; cases this
      · exact ih h2 ha1 hb1
theorem mem_putE (e x : Ev) : ∀ es : List Ev, x ∈ putE e es → x = e ∨ x ∈ es
  | [], h => by rw [putE] at h; exact .inl (List.mem_singleton.1 h)
  | s :: r, h => by
    rw [putE] at h
    split at h
    · rcases List.mem_cons.1 h with h | h
      · exact .inr (by simp [h])
      · rcases mem_putE e x r h with h | h
        · exact .inl h
        · exact .inr (by simp [h])
    · split at h
      · rcases List.mem_cons.1 h with h | h
        · exact .inl h
        · exact .inr (by simp [h])
      · rcases List.mem_cons.1 h with h | h
        · exact .inl h
        · exact .inr h
theorem less_total {a b : ByteArray} (h : ¬ lessU a b = true) (hne : ¬ a = b) : lessU b a = true := late_less (not_less_late (by simpa using h) hne)
theorem AscU.put {e : Ev} : ∀ {es : List Ev}, AscU es → AscU (putE e es)
  | [], _ => List.pairwise_singleton _ _
  | s :: r, h => by
    obtain ⟨h1, h2⟩ := List.pairwise_cons.1 h
    rw [putE]
    split
    · rename_i g
      refine List.pairwise_cons.2 ⟨fun x hx => ?_, AscU.put h2⟩
      rcases mem_putE e x r hx with rfl | hx
      · exact g
      · exact h1 x hx
    · rename_i g
      split
      · rename_i g2
        exact List.pairwise_cons.2 ⟨fun x hx => by rw [← g2]; exact h1 x hx, h2⟩
      · rename_i g2
        have hl := less_total g g2; refine List.pairwise_cons.2 ⟨fun x hx => ?_, h⟩
        rcases List.mem_cons.1 hx with rfl | hx
        · exact hl
        · exact lessU_trans hl (h1 x hx)
theorem filter_id {p : Ev → Bool} {l : List Ev} (h : ∀ x ∈ l, p x = true) : l.filter p = l := List.filter_eq_self.2 h
/-- An event laid into ascending ones: those with other identifiers, and it. -/
theorem putE_perm {e : Ev} : ∀ {es : List Ev}, AscU es → (putE e es).Perm (e :: es.filter (fun u => !decide (u.uid = e.uid)))
  | [], _ => List.Perm.refl _
  | s :: r, h => by
    obtain ⟨h1, h2⟩ := List.pairwise_cons.1 h
    rw [putE]
    split
    · rename_i g
      have hs : ¬ s.uid = e.uid := fun q => by rw [q, lessU_irrefl] at g; cases g
      rw [List.filter_cons, if_pos (by simp [hs])]
      exact ((putE_perm h2).cons s).trans (List.Perm.swap _ _ _)
    · rename_i g
      split
      · rename_i g2
        rw [List.filter_cons, if_neg (by simp [g2]), filter_id]
        intro x hx; have := h1 x hx
        have hne : ¬ x.uid = e.uid := fun q => by rw [q, ← g2, lessU_irrefl] at this; cases this
        simp [hne]
      · rename_i g2
        rw [filter_id]
        intro x hx; rcases List.mem_cons.1 hx with rfl | hx
        · simp [g2]
        · have := h1 x hx
          have hne : ¬ x.uid = e.uid := fun q => by rw [q] at this; exact g this
          simp [hne]
theorem AscU.adv {k : Int} {es : List Ev} {e : Ev} (h : AscU es) : AscU (advS k es e) := by
  unfold advS
  split
  · split
    · exact h
    · exact h.put
  · exact h.put
theorem AscU.gone {k : Int} {here : List ByteArray} {es : List Ev} (h : AscU es) : AscU (advC k here es) := by
  unfold AscU advC
  rw [List.pairwise_map]
  exact h.imp (fun hab => by rw [goneE_uid, goneE_uid]; exact hab)
theorem getE_yes {es : List Ev} {o : Ev} (h : AscU es) (ho : o ∈ es) : getE o.uid es = some o := by
  cases hg : getE o.uid es with
  | none => exact absurd rfl (getE_none hg o ho)
  | some x =>
    obtain ⟨h1, h2⟩ := getE_some hg
    rw [h.one h1 ho h2]
theorem getE_no {es : List Ev} {u : ByteArray} (h : ∀ e ∈ es, e.uid ≠ u) : getE u es = none := by
  cases hg : getE u es with
  | none => rfl
  | some x => obtain ⟨h1, h2⟩ := getE_some hg; exact absurd h2 (h x h1)
end Go.Proofs.YtcomifbfldoeiaaGreatDoor
namespace Go.Proofs.YtcomifbfldoeiaaGreatDoor
open Go.RowKit

/-- The error of a session by itself. -/
def sesE (s : Ses) (n : Int) : Int := if Tt.code s.cls.data.toList = false then 10 else if (Tt.soundB s.tim && Tt.weeksB s.tim.weeks n) = false then 14 else if roomB s.room = false then 10 else 0
theorem sesE_code {s : Ses} {n : Int} (h : Tt.code s.cls.data.toList = false) : sesE s n = 10 := if_pos h
theorem sesE_time {s : Ses} {n : Int} (h : Tt.code s.cls.data.toList = true) (h2 : (Tt.soundB s.tim && Tt.weeksB s.tim.weeks n) = false) : sesE s n = 14 := (if_neg (by rw [h]; decide)).trans (if_pos h2)
theorem sesE_room {s : Ses} {n : Int} (h : Tt.code s.cls.data.toList = true) (h2 : (Tt.soundB s.tim && Tt.weeksB s.tim.weeks n) = true) (h3 : roomB s.room = false) : sesE s n = 10 := (if_neg (by rw [h]; decide)).trans ((if_neg (by rw [h2]; decide)).trans (if_pos h3))
theorem sesE_ok {s : Ses} {n : Int} (h : Tt.code s.cls.data.toList = true) (h2 : (Tt.soundB s.tim && Tt.weeksB s.tim.weeks n) = true) (h3 : roomB s.room = true) : sesE s n = 0 := (if_neg (by rw [h]; decide)).trans ((if_neg (by rw [h2]; decide)).trans (if_neg (by rw [h3]; decide)))
/-- Have two sessions a common week? -/
def wk2 (a b : Ses) : Bool := bits .and .i64 a.tim.weeks b.tim.weeks != 0
def meetB (a b : Ses) : Bool := decide (a.cls = b.cls) && wk2 a b
/-- Do two sessions agree in everything but their weeks? -/
def likeB (a b : Ses) : Bool := decide (a.cls = b.cls) && (decide (a.tim.day = b.tim.day) && (decide (a.tim.start = b.tim.start) && (decide (a.tim.len = b.tim.len) && decide (a.room = b.room))))
theorem ne_bytes {a b : ByteArray} (h : ¬ a = b) : (a.toList == b.toList) = false := by
  rw [beq_eq_false_iff_ne]; intro e; rw [Lib.toList_data, Lib.toList_data] at e; exact h (ByteArray.ext (Array.toList_inj.mp e))
theorem dec_bytes (a b : ByteArray) : (a.toList == b.toList) = decide (a = b) := by
  by_cases h : a = b
  · rw [h]; simp
  · rw [ne_bytes h, decide_eq_false h]
set_option maxHeartbeats 4000000 in
set_option maxRecDepth 100000 in
theorem check194 (s : Ses) (n : Int) (w : World) : Calls Tryz.prog 138 #[sesVal s, .int .i64 n] w fun e w' => e = .returned (.int .i64 (sesE s n)) ∧ Below w.heap.size w w' := by
  obtain ⟨X, hX⟩ : ∃ x, x = w.heap.size := ⟨_, rfl⟩
  obtain ⟨w0, hw0⟩ : ∃ x, x = w.alloc (.cells #[.string s.cls, .int .i64 s.tim.weeks, .int .i64 s.tim.day, .int .i64 s.tim.start, .int .i64 s.tim.len, .string s.room] 110) := ⟨_, rfl⟩
  have HB0 := Lib.hid (show Blk X #[.string s.cls, .int .i64 s.tim.weeks, .int .i64 s.tim.day, .int .i64 s.tim.start, .int .i64 s.tim.len, .string s.room] 110 w0 from by rw [hw0, hX]; exact Blk.new w _ _)
  have HL0 := Lib.hid (show Below w.heap.size w w0 from by rw [hw0]; exact below_box w _)
  obtain ⟨A, hA⟩ : ∃ A, Tt.code s.cls.data.toList = A := ⟨_, rfl⟩
  obtain ⟨S, hS⟩ : ∃ S, Tt.soundB s.tim = S := ⟨_, rfl⟩
  obtain ⟨W, hW⟩ : ∃ W, Tt.weeksB s.tim.weeks n = W := ⟨_, rfl⟩
  obtain ⟨R, hR⟩ : ∃ R, Tt.code s.room.data.toList = R := ⟨_, rfl⟩
  have HA := Lib.hid hA; have HS := Lib.hid hS; have HW := Lib.hid hW; have HR := Lib.hid hR; clear hA hS hW hR; have H1 := Lib.hid (code_any s.cls w0)
  rw [HA.out] at H1
  have H2 := Lib.hid (sound204 s.tim w0)
  rw [HS.out] at H2
  unfold timVal at H2
  unfold sesVal sesCells
  have x0 : w0.cell? ⟨X, 0, none⟩ = some (.string s.cls) := HB0.out.cell 0
  have x1 : w0.cell? ⟨X, 1, none⟩ = some (.int .i64 s.tim.weeks) := HB0.out.cell 1
  have x2 : w0.cell? ⟨X, 2, none⟩ = some (.int .i64 s.tim.day) := HB0.out.cell 2
  have x3 : w0.cell? ⟨X, 3, none⟩ = some (.int .i64 s.tim.start) := HB0.out.cell 3
  have x4 : w0.cell? ⟨X, 4, none⟩ = some (.int .i64 s.tim.len) := HB0.out.cell 4
  have x5 : w0.cell? ⟨X, 5, none⟩ = some (.string s.room) := HB0.out.cell 5
  go_enter Tryz.func138, Tryz.ntmps138
  go_upto_region 1 with (fail)
  rw [← hw0, ← hX]; clear hw0 hX; go_wp2_with fail
  refine H1.out.mono ?_
  clear H1; rintro e w1 ⟨rfl, hx⟩; rw [hx]
  clear hx w1; cases A
  · go_wp2_with fail
    go_ret; exact ⟨ret_int (sesE_code HA.out).symm, HL0.out⟩
  go_wp2_with fail
  refine H2.out.mono ?_
  clear H2; rintro e w2 ⟨rfl, hb⟩; have HL2 := Lib.hid (HL0.out.trans (hb.mono HL0.out.size))
  have HB2 := Lib.hid (HB0.out.below hb HB0.out.lt)
  clear hb x0 x1 x2 x3 x4 x5 HB0 HL0; cases S
  · go_wp2_with fail
    go_ret; exact ⟨ret_int (sesE_time HA.out (by rw [HS.out]; rfl)).symm, HL2.out⟩
  have x0 : w2.cell? ⟨X, 0, none⟩ = some (.string s.cls) := HB2.out.cell 0
  have x1 : w2.cell? ⟨X, 1, none⟩ = some (.int .i64 s.tim.weeks) := HB2.out.cell 1
  have x2 : w2.cell? ⟨X, 2, none⟩ = some (.int .i64 s.tim.day) := HB2.out.cell 2
  have x3 : w2.cell? ⟨X, 3, none⟩ = some (.int .i64 s.tim.start) := HB2.out.cell 3
  have x4 : w2.cell? ⟨X, 4, none⟩ = some (.int .i64 s.tim.len) := HB2.out.cell 4
  have x5 : w2.cell? ⟨X, 5, none⟩ = some (.string s.room) := HB2.out.cell 5
  have H3 := Lib.hid (weeks205 s.tim.weeks n w2)
  rw [HW.out] at H3
  go_wp2_with fail
  refine H3.out.mono ?_
  clear H3; rintro e w3 ⟨rfl, hx⟩; rw [hx]
  clear hx w3; cases W
  · go_wp2_with fail
    go_ret; exact ⟨ret_int (sesE_time HA.out (by rw [HS.out, HW.out]; rfl)).symm, HL2.out⟩
  have HT := Lib.hid (show (Tt.soundB s.tim && Tt.weeksB s.tim.weeks n) = true from by rw [HS.out, HW.out]; rfl)
  by_cases hr : s.room = ⟨#[]⟩
  · have HRB := Lib.hid (show roomB s.room = true from by rw [hr]; rfl)
    have hr0 : s.room.toList = [] := by rw [Lib.toList_data, hr]
    have hr1 : (!s.room.toList.isEmpty) = false := by rw [hr0]; rfl
    clear hr; go_wp2_with fail
    go_ret; exact ⟨ret_int (sesE_ok HA.out HT.out HRB.out).symm, HL2.out⟩
  have hl : s.room.data.toList ≠ [] := fun h => hr (by cases hs : s.room with | mk d => rw [hs] at h; simp at h; rw [h])
  have HRB := Lib.hid (show roomB s.room = R from by unfold roomB; rw [HR.out, List.isEmpty_eq_false_iff.2 hl]; rfl)
  have hr0 : (!s.room.toList.isEmpty) = true := by rw [Lib.toList_data, List.isEmpty_eq_false_iff.2 hl]; rfl
  have hr2 : s.room.toList.isEmpty = false := by rw [Lib.toList_data, List.isEmpty_eq_false_iff.2 hl]
  clear hr hl; have H4 := Lib.hid (code_any s.room w2)
  rw [HR.out] at H4
  go_wp2_with fail
  refine H4.out.mono ?_
  clear H4; rintro e w3 ⟨rfl, hx⟩; rw [hx]
  clear hx w3; cases R
  · go_wp2_with fail
    go_ret; exact ⟨ret_int (sesE_room HA.out HT.out HRB.out).symm, HL2.out⟩
  · go_wp2_with fail
    go_ret; exact ⟨ret_int (sesE_ok HA.out HT.out HRB.out).symm, HL2.out⟩
set_option maxHeartbeats 4000000 in
set_option maxRecDepth 100000 in
theorem check225 (s : Ses) (n : Int) (w : World) : Calls Tryz.prog 90 #[sesVal s, .int .i64 n] w fun e w' => e = .returned (.int .i64 (sesE s n)) ∧ Below w.heap.size w w' := by
  obtain ⟨X, hX⟩ : ∃ x, x = w.heap.size := ⟨_, rfl⟩
  obtain ⟨w0, hw0⟩ : ∃ x, x = w.alloc (.cells #[.string s.cls, .int .i64 s.tim.weeks, .int .i64 s.tim.day, .int .i64 s.tim.start, .int .i64 s.tim.len, .string s.room] 110) := ⟨_, rfl⟩
  have HB0 := Lib.hid (show Blk X #[.string s.cls, .int .i64 s.tim.weeks, .int .i64 s.tim.day, .int .i64 s.tim.start, .int .i64 s.tim.len, .string s.room] 110 w0 from by rw [hw0, hX]; exact Blk.new w _ _)
  have HL0 := Lib.hid (show Below w.heap.size w w0 from by rw [hw0]; exact below_box w _)
  obtain ⟨A, hA⟩ : ∃ A, Tt.code s.cls.data.toList = A := ⟨_, rfl⟩
  obtain ⟨S, hS⟩ : ∃ S, Tt.soundB s.tim = S := ⟨_, rfl⟩
  obtain ⟨W, hW⟩ : ∃ W, Tt.weeksB s.tim.weeks n = W := ⟨_, rfl⟩
  obtain ⟨R, hR⟩ : ∃ R, Tt.code s.room.data.toList = R := ⟨_, rfl⟩
  have HA := Lib.hid hA; have HS := Lib.hid hS; have HW := Lib.hid hW; have HR := Lib.hid hR; clear hA hS hW hR; have H1 := Lib.hid (code97 s.cls w0)
  rw [HA.out] at H1
  have H2 := Lib.hid (sound212 s.tim w0)
  rw [HS.out] at H2
  unfold timVal at H2
  unfold sesVal sesCells
  have x0 : w0.cell? ⟨X, 0, none⟩ = some (.string s.cls) := HB0.out.cell 0
  have x1 : w0.cell? ⟨X, 1, none⟩ = some (.int .i64 s.tim.weeks) := HB0.out.cell 1
  have x2 : w0.cell? ⟨X, 2, none⟩ = some (.int .i64 s.tim.day) := HB0.out.cell 2
  have x3 : w0.cell? ⟨X, 3, none⟩ = some (.int .i64 s.tim.start) := HB0.out.cell 3
  have x4 : w0.cell? ⟨X, 4, none⟩ = some (.int .i64 s.tim.len) := HB0.out.cell 4
  have x5 : w0.cell? ⟨X, 5, none⟩ = some (.string s.room) := HB0.out.cell 5
  go_enter Tryz.func90, Tryz.ntmps90
  go_upto_region 1 with (fail)
  rw [← hw0, ← hX]; clear hw0 hX; go_wp2_with fail
  refine H1.out.mono ?_
  clear H1; rintro e w1 ⟨rfl, hx⟩; rw [hx]
  clear hx w1; cases A
  · go_wp2_with fail
    go_ret; exact ⟨ret_int (sesE_code HA.out).symm, HL0.out⟩
  go_wp2_with fail
  refine H2.out.mono ?_
  clear H2; rintro e w2 ⟨rfl, hb⟩; have HL2 := Lib.hid (HL0.out.trans (hb.mono HL0.out.size))
  have HB2 := Lib.hid (HB0.out.below hb HB0.out.lt)
  clear hb x0 x1 x2 x3 x4 x5 HB0 HL0; cases S
  · go_wp2_with fail
    go_ret; exact ⟨ret_int (sesE_time HA.out (by rw [HS.out]; rfl)).symm, HL2.out⟩
  have x0 : w2.cell? ⟨X, 0, none⟩ = some (.string s.cls) := HB2.out.cell 0
  have x1 : w2.cell? ⟨X, 1, none⟩ = some (.int .i64 s.tim.weeks) := HB2.out.cell 1
  have x2 : w2.cell? ⟨X, 2, none⟩ = some (.int .i64 s.tim.day) := HB2.out.cell 2
  have x3 : w2.cell? ⟨X, 3, none⟩ = some (.int .i64 s.tim.start) := HB2.out.cell 3
  have x4 : w2.cell? ⟨X, 4, none⟩ = some (.int .i64 s.tim.len) := HB2.out.cell 4
  have x5 : w2.cell? ⟨X, 5, none⟩ = some (.string s.room) := HB2.out.cell 5
  have H3 := Lib.hid (weeks213 s.tim.weeks n w2)
  rw [HW.out] at H3
  go_wp2_with fail
  refine H3.out.mono ?_
  clear H3; rintro e w3 ⟨rfl, hx⟩; rw [hx]
  clear hx w3; cases W
  · go_wp2_with fail
    go_ret; exact ⟨ret_int (sesE_time HA.out (by rw [HS.out, HW.out]; rfl)).symm, HL2.out⟩
  have HT := Lib.hid (show (Tt.soundB s.tim && Tt.weeksB s.tim.weeks n) = true from by rw [HS.out, HW.out]; rfl)
  by_cases hr : s.room = ⟨#[]⟩
  · have HRB := Lib.hid (show roomB s.room = true from by rw [hr]; rfl)
    have hr0 : s.room.toList = [] := by rw [Lib.toList_data, hr]
    have hr1 : (!s.room.toList.isEmpty) = false := by rw [hr0]; rfl
    clear hr; go_wp2_with fail
    go_ret; exact ⟨ret_int (sesE_ok HA.out HT.out HRB.out).symm, HL2.out⟩
  have hl : s.room.data.toList ≠ [] := fun h => hr (by cases hs : s.room with | mk d => rw [hs] at h; simp at h; rw [h])
  have HRB := Lib.hid (show roomB s.room = R from by unfold roomB; rw [HR.out, List.isEmpty_eq_false_iff.2 hl]; rfl)
  have hr0 : (!s.room.toList.isEmpty) = true := by rw [Lib.toList_data, List.isEmpty_eq_false_iff.2 hl]; rfl
  have hr2 : s.room.toList.isEmpty = false := by rw [Lib.toList_data, List.isEmpty_eq_false_iff.2 hl]
  clear hr hl; have H4 := Lib.hid (code97 s.room w2)
  rw [HR.out] at H4
  go_wp2_with fail
  refine H4.out.mono ?_
  clear H4; rintro e w3 ⟨rfl, hx⟩; rw [hx]
  clear hx w3; cases R
  · go_wp2_with fail
    go_ret; exact ⟨ret_int (sesE_room HA.out HT.out HRB.out).symm, HL2.out⟩
  · go_wp2_with fail
    go_ret; exact ⟨ret_int (sesE_ok HA.out HT.out HRB.out).symm, HL2.out⟩
set_option maxHeartbeats 4000000 in
set_option maxRecDepth 100000 in
theorem meet197 (a b : Ses) (w : World) : Calls Tryz.prog 141 #[sesVal a, sesVal b] w fun e w' => e = .returned (.bool (meetB a b)) ∧ Below w.heap.size w w' := by
  obtain ⟨X, hX⟩ : ∃ x, x = w.heap.size := ⟨_, rfl⟩
  obtain ⟨Y, hY⟩ : ∃ x, x = w.heap.size + 1 := ⟨_, rfl⟩
  obtain ⟨w0, hw0⟩ : ∃ x, x = (w.alloc (.cells #[.string a.cls, .int .i64 a.tim.weeks, .int .i64 a.tim.day, .int .i64 a.tim.start, .int .i64 a.tim.len, .string a.room] 110)).alloc (.cells #[.string b.cls, .int .i64 b.tim.weeks, .int .i64 b.tim.day, .int .i64 b.tim.start, .int .i64 b.tim.len, .string b.room] 110) := ⟨_, rfl⟩
  have HA0 := Lib.hid (show Blk X #[.string a.cls, .int .i64 a.tim.weeks, .int .i64 a.tim.day, .int .i64 a.tim.start, .int .i64 a.tim.len, .string a.room] 110 w0 from by rw [hw0, hX]; exact (Blk.new w _ _).alloc _)
  have HB0 := Lib.hid (show Blk Y #[.string b.cls, .int .i64 b.tim.weeks, .int .i64 b.tim.day, .int .i64 b.tim.start, .int .i64 b.tim.len, .string b.room] 110 w0 from by rw [hw0, hY]; exact Blk.new' _ _ _ (by simp))
  have HL0 := Lib.hid (show Below w.heap.size w w0 from by rw [hw0]; exact (below_box w _).trans ((below_box _ _).mono (by simp)))
  have hXl : w.heap.size ≤ X := by omega
  have hYl : w.heap.size ≤ Y := by omega
  have hXY : X ≠ Y := by omega
  unfold sesVal sesCells
  have x0 : w0.cell? ⟨X, 0, none⟩ = some (.string a.cls) := HA0.out.cell 0
  have x1 : w0.cell? ⟨X, 1, none⟩ = some (.int .i64 a.tim.weeks) := HA0.out.cell 1
  have x2 : w0.cell? ⟨X, 2, none⟩ = some (.int .i64 a.tim.day) := HA0.out.cell 2
  have x3 : w0.cell? ⟨X, 3, none⟩ = some (.int .i64 a.tim.start) := HA0.out.cell 3
  have x4 : w0.cell? ⟨X, 4, none⟩ = some (.int .i64 a.tim.len) := HA0.out.cell 4
  have x5 : w0.cell? ⟨X, 5, none⟩ = some (.string a.room) := HA0.out.cell 5
  have y0 : w0.cell? ⟨Y, 0, none⟩ = some (.string b.cls) := HB0.out.cell 0
  have y1 : w0.cell? ⟨Y, 1, none⟩ = some (.int .i64 b.tim.weeks) := HB0.out.cell 1
  have y2 : w0.cell? ⟨Y, 2, none⟩ = some (.int .i64 b.tim.day) := HB0.out.cell 2
  have y3 : w0.cell? ⟨Y, 3, none⟩ = some (.int .i64 b.tim.start) := HB0.out.cell 3
  have y4 : w0.cell? ⟨Y, 4, none⟩ = some (.int .i64 b.tim.len) := HB0.out.cell 4
  have y5 : w0.cell? ⟨Y, 5, none⟩ = some (.string b.room) := HB0.out.cell 5
  go_enter Tryz.func141, Tryz.ntmps141
  go_upto_region 1 with (fail)
  rw [← hw0, ← hY, ← hX]; clear hw0; clear hX hY; by_cases hc : a.cls = b.cls
  · have HM := Lib.hid (show meetB a b = wk2 a b from by unfold meetB; rw [decide_eq_true hc]; rfl)
    have hc1 : (a.cls.toList == b.cls.toList) = true := by rw [hc]; simp
    clear hc; go_wp2_with fail
    go_ret; exact ⟨ret_bool (by rw [HM.out]; rfl), HL0.out⟩
  · have HM := Lib.hid (show meetB a b = false from by unfold meetB; rw [decide_eq_false hc]; rfl)
    have hc1 := ne_bytes hc; clear hc; go_wp2_with fail
    go_ret; exact ⟨ret_bool (by rw [HM.out]), HL0.out⟩
set_option maxHeartbeats 4000000 in
set_option maxRecDepth 100000 in
theorem alike198 (a b : Ses) (w : World) : Calls Tryz.prog 142 #[sesVal a, sesVal b] w fun e w' => e = .returned (.bool (likeB a b)) ∧ Below w.heap.size w w' := by
  obtain ⟨X, hX⟩ : ∃ x, x = w.heap.size := ⟨_, rfl⟩
  obtain ⟨Y, hY⟩ : ∃ x, x = w.heap.size + 1 := ⟨_, rfl⟩
  obtain ⟨w0, hw0⟩ : ∃ x, x = (w.alloc (.cells #[.string a.cls, .int .i64 a.tim.weeks, .int .i64 a.tim.day, .int .i64 a.tim.start, .int .i64 a.tim.len, .string a.room] 110)).alloc (.cells #[.string b.cls, .int .i64 b.tim.weeks, .int .i64 b.tim.day, .int .i64 b.tim.start, .int .i64 b.tim.len, .string b.room] 110) := ⟨_, rfl⟩
  have HA0 := Lib.hid (show Blk X #[.string a.cls, .int .i64 a.tim.weeks, .int .i64 a.tim.day, .int .i64 a.tim.start, .int .i64 a.tim.len, .string a.room] 110 w0 from by rw [hw0, hX]; exact (Blk.new w _ _).alloc _)
  have HB0 := Lib.hid (show Blk Y #[.string b.cls, .int .i64 b.tim.weeks, .int .i64 b.tim.day, .int .i64 b.tim.start, .int .i64 b.tim.len, .string b.room] 110 w0 from by rw [hw0, hY]; exact Blk.new' _ _ _ (by simp))
  have HL0 := Lib.hid (show Below w.heap.size w w0 from by rw [hw0]; exact (below_box w _).trans ((below_box _ _).mono (by simp)))
  have hXl : w.heap.size ≤ X := by omega
  have hYl : w.heap.size ≤ Y := by omega
  have hXY : X ≠ Y := by omega
  unfold sesVal sesCells
  have x0 : w0.cell? ⟨X, 0, none⟩ = some (.string a.cls) := HA0.out.cell 0
  have x1 : w0.cell? ⟨X, 1, none⟩ = some (.int .i64 a.tim.weeks) := HA0.out.cell 1
  have x2 : w0.cell? ⟨X, 2, none⟩ = some (.int .i64 a.tim.day) := HA0.out.cell 2
  have x3 : w0.cell? ⟨X, 3, none⟩ = some (.int .i64 a.tim.start) := HA0.out.cell 3
  have x4 : w0.cell? ⟨X, 4, none⟩ = some (.int .i64 a.tim.len) := HA0.out.cell 4
  have x5 : w0.cell? ⟨X, 5, none⟩ = some (.string a.room) := HA0.out.cell 5
  have y0 : w0.cell? ⟨Y, 0, none⟩ = some (.string b.cls) := HB0.out.cell 0
  have y1 : w0.cell? ⟨Y, 1, none⟩ = some (.int .i64 b.tim.weeks) := HB0.out.cell 1
  have y2 : w0.cell? ⟨Y, 2, none⟩ = some (.int .i64 b.tim.day) := HB0.out.cell 2
  have y3 : w0.cell? ⟨Y, 3, none⟩ = some (.int .i64 b.tim.start) := HB0.out.cell 3
  have y4 : w0.cell? ⟨Y, 4, none⟩ = some (.int .i64 b.tim.len) := HB0.out.cell 4
  have y5 : w0.cell? ⟨Y, 5, none⟩ = some (.string b.room) := HB0.out.cell 5
  go_enter Tryz.func142, Tryz.ntmps142
  go_upto_region 1 with (fail)
  rw [← hw0, ← hY, ← hX]; clear hw0; clear hX hY; have f1 := HA0.out.frozen 1; have g1 := HB0.out.frozen 1; skip
  obtain ⟨w1, hw1⟩ : ∃ x, x = w0.setCell ⟨X, 1, none⟩ (.int .i64 b.tim.weeks) := ⟨_, rfl⟩
  go_upto_region 2 with (fail)
  rw [← hw1]; have HA1 := Lib.hid (show Blk X #[.string a.cls, .int .i64 b.tim.weeks, .int .i64 a.tim.day, .int .i64 a.tim.start, .int .i64 a.tim.len, .string a.room] 110 w1 from by rw [hw1]; exact HA0.out.set 1 _)
  have HB1 := Lib.hid (show Blk Y #[.string b.cls, .int .i64 b.tim.weeks, .int .i64 b.tim.day, .int .i64 b.tim.start, .int .i64 b.tim.len, .string b.room] 110 w1 from by rw [hw1]; exact HB0.out.set_other (Ne.symm hXY) 1 _)
  have HL1 := Lib.hid (show Below w.heap.size w w1 from by rw [hw1]; exact HL0.out.setCell hXl _)
  clear hw1 f1 g1 x0 y0 x1 y1 x2 y2 x3 y3 x4 y4 x5 y5; have x0 : w1.cell? ⟨X, 0, none⟩ = some (.string a.cls) := HA1.out.cell 0
  have x1 : w1.cell? ⟨X, 1, none⟩ = some (.int .i64 b.tim.weeks) := HA1.out.cell 1
  have x2 : w1.cell? ⟨X, 2, none⟩ = some (.int .i64 a.tim.day) := HA1.out.cell 2
  have x3 : w1.cell? ⟨X, 3, none⟩ = some (.int .i64 a.tim.start) := HA1.out.cell 3
  have x4 : w1.cell? ⟨X, 4, none⟩ = some (.int .i64 a.tim.len) := HA1.out.cell 4
  have x5 : w1.cell? ⟨X, 5, none⟩ = some (.string a.room) := HA1.out.cell 5
  have y0 : w1.cell? ⟨Y, 0, none⟩ = some (.string b.cls) := HB1.out.cell 0
  have y1 : w1.cell? ⟨Y, 1, none⟩ = some (.int .i64 b.tim.weeks) := HB1.out.cell 1
  have y2 : w1.cell? ⟨Y, 2, none⟩ = some (.int .i64 b.tim.day) := HB1.out.cell 2
  have y3 : w1.cell? ⟨Y, 3, none⟩ = some (.int .i64 b.tim.start) := HB1.out.cell 3
  have y4 : w1.cell? ⟨Y, 4, none⟩ = some (.int .i64 b.tim.len) := HB1.out.cell 4
  have y5 : w1.cell? ⟨Y, 5, none⟩ = some (.string b.room) := HB1.out.cell 5
  go_wp2_with fail
  all_goals go_ret
  all_goals refine ⟨ret_bool ?_, HL1.out⟩
  all_goals unfold likeB
  all_goals rw [← dec_bytes, ← dec_bytes]
  all_goals simp [*]
set_option maxHeartbeats 4000000 in
set_option maxRecDepth 100000 in
theorem alike227 (a b : Ses) (w : World) : Calls Tryz.prog 92 #[sesVal a, sesVal b] w fun e w' => e = .returned (.bool (likeB a b)) ∧ Below w.heap.size w w' := by
  obtain ⟨X, hX⟩ : ∃ x, x = w.heap.size := ⟨_, rfl⟩
  obtain ⟨Y, hY⟩ : ∃ x, x = w.heap.size + 1 := ⟨_, rfl⟩
  obtain ⟨w0, hw0⟩ : ∃ x, x = (w.alloc (.cells #[.string a.cls, .int .i64 a.tim.weeks, .int .i64 a.tim.day, .int .i64 a.tim.start, .int .i64 a.tim.len, .string a.room] 110)).alloc (.cells #[.string b.cls, .int .i64 b.tim.weeks, .int .i64 b.tim.day, .int .i64 b.tim.start, .int .i64 b.tim.len, .string b.room] 110) := ⟨_, rfl⟩
  have HA0 := Lib.hid (show Blk X #[.string a.cls, .int .i64 a.tim.weeks, .int .i64 a.tim.day, .int .i64 a.tim.start, .int .i64 a.tim.len, .string a.room] 110 w0 from by rw [hw0, hX]; exact (Blk.new w _ _).alloc _)
  have HB0 := Lib.hid (show Blk Y #[.string b.cls, .int .i64 b.tim.weeks, .int .i64 b.tim.day, .int .i64 b.tim.start, .int .i64 b.tim.len, .string b.room] 110 w0 from by rw [hw0, hY]; exact Blk.new' _ _ _ (by simp))
  have HL0 := Lib.hid (show Below w.heap.size w w0 from by rw [hw0]; exact (below_box w _).trans ((below_box _ _).mono (by simp)))
  have hXl : w.heap.size ≤ X := by omega
  have hYl : w.heap.size ≤ Y := by omega
  have hXY : X ≠ Y := by omega
  unfold sesVal sesCells
  have x0 : w0.cell? ⟨X, 0, none⟩ = some (.string a.cls) := HA0.out.cell 0
  have x1 : w0.cell? ⟨X, 1, none⟩ = some (.int .i64 a.tim.weeks) := HA0.out.cell 1
  have x2 : w0.cell? ⟨X, 2, none⟩ = some (.int .i64 a.tim.day) := HA0.out.cell 2
  have x3 : w0.cell? ⟨X, 3, none⟩ = some (.int .i64 a.tim.start) := HA0.out.cell 3
  have x4 : w0.cell? ⟨X, 4, none⟩ = some (.int .i64 a.tim.len) := HA0.out.cell 4
  have x5 : w0.cell? ⟨X, 5, none⟩ = some (.string a.room) := HA0.out.cell 5
  have y0 : w0.cell? ⟨Y, 0, none⟩ = some (.string b.cls) := HB0.out.cell 0
  have y1 : w0.cell? ⟨Y, 1, none⟩ = some (.int .i64 b.tim.weeks) := HB0.out.cell 1
  have y2 : w0.cell? ⟨Y, 2, none⟩ = some (.int .i64 b.tim.day) := HB0.out.cell 2
  have y3 : w0.cell? ⟨Y, 3, none⟩ = some (.int .i64 b.tim.start) := HB0.out.cell 3
  have y4 : w0.cell? ⟨Y, 4, none⟩ = some (.int .i64 b.tim.len) := HB0.out.cell 4
  have y5 : w0.cell? ⟨Y, 5, none⟩ = some (.string b.room) := HB0.out.cell 5
  go_enter Tryz.func92, Tryz.ntmps92
  go_upto_region 1 with (fail)
  rw [← hw0, ← hY, ← hX]; clear hw0; clear hX hY; have f1 := HA0.out.frozen 1; have g1 := HB0.out.frozen 1; skip
  obtain ⟨w1, hw1⟩ : ∃ x, x = (w0.setCell ⟨X, 1, none⟩ (.int .i64 0)).setCell ⟨Y, 1, none⟩ (.int .i64 0) := ⟨_, rfl⟩
  go_upto_region 2 with (fail)
  rw [← hw1]; have HA1 := Lib.hid (show Blk X #[.string a.cls, .int .i64 0, .int .i64 a.tim.day, .int .i64 a.tim.start, .int .i64 a.tim.len, .string a.room] 110 w1 from by rw [hw1]; exact (HA0.out.set 1 _).set_other hXY 1 _)
  have HB1 := Lib.hid (show Blk Y #[.string b.cls, .int .i64 0, .int .i64 b.tim.day, .int .i64 b.tim.start, .int .i64 b.tim.len, .string b.room] 110 w1 from by rw [hw1]; exact (HB0.out.set_other (Ne.symm hXY) 1 _).set 1 _)
  have HL1 := Lib.hid (show Below w.heap.size w w1 from by rw [hw1]; exact (HL0.out.setCell hXl _).setCell hYl _)
  clear hw1 f1 g1 x0 y0 x1 y1 x2 y2 x3 y3 x4 y4 x5 y5; have x0 : w1.cell? ⟨X, 0, none⟩ = some (.string a.cls) := HA1.out.cell 0
  have x1 : w1.cell? ⟨X, 1, none⟩ = some (.int .i64 0) := HA1.out.cell 1
  have x2 : w1.cell? ⟨X, 2, none⟩ = some (.int .i64 a.tim.day) := HA1.out.cell 2
  have x3 : w1.cell? ⟨X, 3, none⟩ = some (.int .i64 a.tim.start) := HA1.out.cell 3
  have x4 : w1.cell? ⟨X, 4, none⟩ = some (.int .i64 a.tim.len) := HA1.out.cell 4
  have x5 : w1.cell? ⟨X, 5, none⟩ = some (.string a.room) := HA1.out.cell 5
  have y0 : w1.cell? ⟨Y, 0, none⟩ = some (.string b.cls) := HB1.out.cell 0
  have y1 : w1.cell? ⟨Y, 1, none⟩ = some (.int .i64 0) := HB1.out.cell 1
  have y2 : w1.cell? ⟨Y, 2, none⟩ = some (.int .i64 b.tim.day) := HB1.out.cell 2
  have y3 : w1.cell? ⟨Y, 3, none⟩ = some (.int .i64 b.tim.start) := HB1.out.cell 3
  have y4 : w1.cell? ⟨Y, 4, none⟩ = some (.int .i64 b.tim.len) := HB1.out.cell 4
  have y5 : w1.cell? ⟨Y, 5, none⟩ = some (.string b.room) := HB1.out.cell 5
  go_wp2_with fail
  all_goals go_ret
  all_goals refine ⟨ret_bool ?_, HL1.out⟩
  all_goals unfold likeB
  all_goals rw [← dec_bytes, ← dec_bytes]
  all_goals simp [*]
end Go.Proofs.YtcomifbfldoeiaaGreatDoor
