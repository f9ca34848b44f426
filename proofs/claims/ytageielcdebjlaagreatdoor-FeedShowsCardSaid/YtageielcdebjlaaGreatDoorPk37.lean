/- The series of ascending days is valid, and its days are those days. No program in sight. The event of a session fits a feed: its identifier is right, its series is valid, its days are those of the session. No program in sight. What a local time within the bounds means in a valid zone: an instant, at which clocks show it unless they skip it. No program in sight. What the instants of a session's event are, in a valid zone: one a day, at which clocks show the time of the slot unless they skip it. No program in sight. -/
import Derived.Test.YtageielcdebjlaaGreatDoorOfR2
import Derived.Test.YtageielcdebjlaaGreatDoorPk20
import Derived.Test.YtageielcdebjlaaGreatDoorPk23
import Derived.Test.YtageielcdebjlaaGreatDoorPk24
import Derived.Test.YtageielcdebjlaaGreatDoorEvO
namespace Tt
theorem lists_len (ds : List Int) (s : Ser) : ∀ k, (exK ds s k).length + (xtK ds s k).length ≤ k
  | 0 => Nat.le_refl _
  | k + 1 => by
    have ih := lists_len ds s k; rw [exK, xtK]
    cases hr : regB s (s.first + k) with
    | true =>
      rw [if_neg (show ¬ (true = false ∧ _) from fun h => by cases h.1)]
      split
      · rw [List.length_append]; simp; omega
      · omega
    | false =>
      rw [if_neg (show ¬ (false = true ∧ _) from fun h => by cases h.1)]
      split
      · rw [List.length_append]; simp; omega
      · omega
theorem mem_exK (ds : List Int) (s : Ser) (d : Int) : ∀ k, d ∈ exK ds s k ↔ s.first ≤ d ∧ d < s.first + k ∧ regB s d = true ∧ ¬ d ∈ ds
  | 0 => by simp [exK]; intro h1 h2; omega
  | k + 1 => by
    have ih := mem_exK ds s d k; rw [exK]
    split
    · rename_i h
      rw [List.mem_append, ih, List.mem_singleton]
      constructor
      · rintro (⟨h1, h2, h3⟩ | rfl)
        · exact ⟨h1, by omega, h3⟩
        · exact ⟨by omega, by omega, h⟩
      · rintro ⟨h1, h2, h3⟩; by_cases hd : d = s.first + k
        · exact .inr hd
        · exact .inl ⟨h1, by omega, h3⟩
    · rename_i h
      rw [ih]
      constructor
      · rintro ⟨h1, h2, h3⟩; exact ⟨h1, by omega, h3⟩
      · rintro ⟨h1, h2, h3⟩; refine ⟨h1, ?_, h3⟩
        by_cases hd : d = s.first + k
        · subst hd; exact absurd h3 h
        · omega
theorem mem_xtK (ds : List Int) (s : Ser) (d : Int) : ∀ k, d ∈ xtK ds s k ↔ s.first ≤ d ∧ d < s.first + k ∧ regB s d = false ∧ d ∈ ds
  | 0 => by simp [xtK]; intro h1 h2; omega
  | k + 1 => by
    have ih := mem_xtK ds s d k; rw [xtK]
    split
    · rename_i h
      rw [List.mem_append, ih, List.mem_singleton]
      constructor
      · rintro (⟨h1, h2, h3⟩ | rfl)
        · exact ⟨h1, by omega, h3⟩
        · exact ⟨by omega, by omega, h⟩
      · rintro ⟨h1, h2, h3⟩; by_cases hd : d = s.first + k
        · exact .inr hd
        · exact .inl ⟨h1, by omega, h3⟩
    · rename_i h
      rw [ih]
      constructor
      · rintro ⟨h1, h2, h3⟩; exact ⟨h1, by omega, h3⟩
      · rintro ⟨h1, h2, h3⟩; refine ⟨h1, ?_, h3⟩
        by_cases hd : d = s.first + k
        · subst hd; exact absurd h3 h
        · omega
theorem exK_sorted (ds : List Int) (s : Ser) : ∀ k, (exK ds s k).Pairwise (· < ·)
  | 0 => List.Pairwise.nil
  | k + 1 => by
    rw [exK]
    split
    · rw [List.pairwise_append]
      refine ⟨exK_sorted ds s k, List.pairwise_singleton _ _, fun a ha b hb => ?_⟩
      have := ((mem_exK ds s a k).1 ha).2.1
      rw [List.mem_singleton] at hb
      omega
    · exact exK_sorted ds s k
theorem xtK_sorted (ds : List Int) (s : Ser) : ∀ k, (xtK ds s k).Pairwise (· < ·)
  | 0 => List.Pairwise.nil
  | k + 1 => by
    rw [xtK]
    split
    · rw [List.pairwise_append]
      refine ⟨xtK_sorted ds s k, List.pairwise_singleton _ _, fun a ha b hb => ?_⟩
      have := ((mem_xtK ds s a k).1 ha).2.1
      rw [List.mem_singleton] at hb
      omega
    · exact xtK_sorted ds s k
/-- A list that ascends behind a day, and whose days fit, has no fault. -/
theorem listV_zero_of (bad : Int) (ok : Int → Bool) : ∀ (l : List Int) (p : Option Int), l.Pairwise (· < ·) → (∀ d ∈ l, ok d = true) → (∀ q, p = some q → ∀ d ∈ l, q < d) → listV bad ok p l = 0
  | [], _, _, _, _ => by unfold listV; rfl
  | d :: r, p, hs, ho, hp => by
    rw [listV, if_neg, if_pos (ho d (by simp))]
    · rw [List.pairwise_cons] at hs
      exact listV_zero_of bad ok r (some d) hs.2 (fun x hx => ho x (by simp [hx])) (fun q hq x hx => by cases hq; exact hs.1 x hx)
    · cases p with
      | none => simp [late]
      | some q => have := hp q rfl d (by simp); simp [late]; omega
theorem in_span {ds : List Int} (hs : ds.Pairwise (· < ·)) {d : Int} (h : d ∈ ds) : fstD ds ≤ d ∧ d ≤ lstD ds := by
  constructor
  · cases ds with
    | nil => cases h
    | cons a r =>
      show a ≤ d
      rw [List.pairwise_cons] at hs
      rcases List.mem_cons.1 h with e | e
      · omega
      · have := hs.1 d e; omega
  · unfold lstD
    rw [List.getLastD_eq_getLast?]
    cases hl : ds.getLast? with
    | none => rw [List.getLast?_eq_none_iff] at hl; subst hl; cases h
    | some z =>
      show d ≤ z
      obtain ⟨ys, rfl⟩ := List.getLast?_eq_some_iff.1 hl
      rw [List.pairwise_append] at hs
      rcases List.mem_append.1 h with e | e
      · have := hs.2.2 d e z (by simp); omega
      · rw [List.mem_singleton] at e; omega
/-- A series of ascending days is valid, and has those days. -/
theorem serK_ok {ds : List Int} (h : DsOk ds) (hs : ds.Pairwise (· < ·)) (hsp : spanN ds ≤ 140) (e m : Int) (he0 : 1 ≤ e) (he1 : e ≤ 4) (hm0 : 0 ≤ m) (hm1 : m ≤ 127) : serV (serK ds e m (spanN ds)) = 0 ∧ serDays (serK ds e m (spanN ds)) = ds := by
  obtain ⟨b1, b2, b3, b4⟩ := h.bd
  have hle := h.le; have hl := h.sp; have hspn := h.span.1; have hlen := lists_len ds (headS ds e m) (spanN ds)
  have hz : serV (serK ds e m (spanN ds)) = 0 := by
    rw [serV_zero]
    refine ⟨⟨b1, b2, b3, b4, hle, hl, he0, he1, hm0, hm1, ?_⟩, ?_, ?_⟩
    · show ((exK ds (headS ds e m) (spanN ds)).length : Int) + (xtK ds (headS ds e m) (spanN ds)).length ≤ 140
      omega
    · refine listV_zero_of 12 _ _ none (exK_sorted ds _ _) (fun d hd => ?_) (fun q hq => by cases hq)
      exact ((mem_exK ds _ d _).1 hd).2.2.1
    · refine listV_zero_of 11 _ _ none (xtK_sorted ds _ _) (fun d hd => ?_) (fun q hq => by cases hq)
      obtain ⟨h1, h2, h3, h4⟩ := (mem_xtK ds _ d _).1 hd
      have h5 := in_span hs h4; unfold extB
      have h3 : regB (serK ds e m (spanN ds)) d = false := h3
      rw [h3]
      simp
      exact h5
  refine ⟨hz, ?_⟩
  refine sorted_ext _ _ (serDays_sorted _) hs (fun d => ?_)
  unfold serDays
  rw [if_neg (by simp [hz]), List.mem_filter]
  unfold span inB
  rw [mem_daysFrom]
  have hreg : regB (serK ds e m (spanN ds)) d = regB (headS ds e m) d := rfl
  have hx := mem_exK ds (headS ds e m) d (spanN ds)
  have hy := mem_xtK ds (headS ds e m) d (spanN ds)
  rw [hreg]
  have e1 : (serK ds e m (spanN ds)).ex = exK ds (headS ds e m) (spanN ds) := rfl
  have e2 : (serK ds e m (spanN ds)).xt = xtK ds (headS ds e m) (spanN ds) := rfl
  have e3 : (serK ds e m (spanN ds)).first = fstD ds := rfl
  have e4 : (serK ds e m (spanN ds)).last = lstD ds := rfl
  have e5 : (headS ds e m).first = fstD ds := rfl
  rw [e1, e2, e3, e4]
  rw [e5] at hx hy
  simp only [Bool.or_eq_true, Bool.and_eq_true, Bool.not_eq_true', decide_eq_true_eq, decide_eq_false_iff_not]
  rw [hx, hy]
  constructor
  · rintro ⟨⟨h1, h2⟩, ⟨h3, h4⟩ | ⟨_, _, _, h4⟩⟩
    · apply Decidable.byContradiction
      intro hc; exact h4 ⟨h1, by omega, h3, hc⟩
    · exact h4
  · intro hd; have h5 := in_span hs hd
    refine ⟨⟨h5.1, by omega⟩, ?_⟩
    cases hr : regB (headS ds e m) d with
    | true => exact .inl ⟨rfl, fun hc => hc.2.2.2 hd⟩
    | false => exact .inr ⟨h5.1, by omega, rfl, hd⟩
theorem best_with (ds : List Int) : ∀ k : Nat, ∃ e : Int, 1 ≤ e ∧ e ≤ (k : Int) + 1 ∧ bestK ds k = withV ds e
  | 0 => ⟨1, by omega, by omega, rfl⟩
  | k + 1 => by
    rw [bestK]
    split
    · exact ⟨(k : Int) + 2, by omega, by omega, rfl⟩
    · obtain ⟨e, h1, h2, h3⟩ := best_with ds k
      exact ⟨e, h1, by omega, h3⟩
/-- The series of ascending days is valid, and has those days. -/
theorem ofV_ok {ds : List Int} (h : DsOk ds) (hs : ds.Pairwise (· < ·)) (hsp : spanN ds ≤ 140) : serV (ofV ds) = 0 ∧ serDays (ofV ds) = ds := by
  obtain ⟨e, h1, h2, h3⟩ := best_with ds 3
  unfold ofV
  rw [h3]
  have := wdK_lt ds e 7 (by omega)
  exact serK_ok h hs hsp e _ h1 (by omega) (by omega) (by omega)
end Tt
namespace Tt
theorem lowB_lt (w : Int) : ∀ (n k : Nat), (∃ i : Nat, k ≤ i ∧ i < k + n ∧ bit w (i : Nat) = true) → lowB w n k < k + n
  | 0, k, ⟨i, h1, h2, _⟩ => by omega
  | n + 1, k, ⟨i, h1, h2, h3⟩ => by
    rw [lowB]
    split
    · omega
    · rename_i hb
      have hik : i ≠ k := fun e => hb (by rw [← e]; exact h3)
      have := lowB_lt w n (k + 1) ⟨i, by omega, by omega, h3⟩
      omega
theorem low_week {w : Int} (h : weeksB w 20 = true) : lowB w 20 0 < 20 := by
  have hs := weeks_some h; have hx : ∃ i : Nat, 0 ≤ i ∧ i < 0 + 20 ∧ bit w (i : Nat) = true := by
    apply Classical.byContradiction
    intro hc; apply hs
    intro i hi; cases hb : bit w (i : Nat) with
    | false => rfl
    | true => exact absurd ⟨i, Nat.zero_le _, by omega, hb⟩ hc
  have := lowB_lt w 20 0 hx
  omega
theorem daysK_span (t : Trm) (x : Tim) (h : daysK t x 20 ≠ []) : spanN (daysK t x 20) ≤ 140 := by
  have ho := daysK_ok t x h; have h1 := daysK_bd t x (List.mem_of_getElem? ho.first)
  have h2 := daysK_bd t x (List.mem_of_getElem? ho.last)
  have h3 := ho.span.1; omega
theorem of_days (t : Trm) (x : Tim) (h : daysK t x 20 ≠ []) : serV (ofV (daysK t x 20)) = 0 ∧ serDays (ofV (daysK t x 20)) = daysK t x 20 :=
  ofV_ok (daysK_ok t x h) (daysK_pair t x 20) (daysK_span t x h)
theorem alnum_lab (c : UInt8) (h : (alnum c || sign c) = true) : 32 ≤ c.toNat ∧ c.toNat ≤ 126 := by
  unfold alnum sign at h
  simp only [Bool.or_eq_true, Bool.and_eq_true, decide_eq_true_eq, beq_iff_eq, UInt8.le_iff_toNat_le] at h
  have e1 : (48 : UInt8).toNat = 48 := rfl
  have e2 : (57 : UInt8).toNat = 57 := rfl
  have e3 : (65 : UInt8).toNat = 65 := rfl
  have e4 : (90 : UInt8).toNat = 90 := rfl
  have e5 : (97 : UInt8).toNat = 97 := rfl
  have e6 : (122 : UInt8).toNat = 122 := rfl
  rcases h with ((h | h) | h) | h | h
  · omega
  · omega
  · omega
  · subst h; decide
  · subst h; decide
theorem code_lab {l : List UInt8} (h : code l = true) : labB l = true ∧ 0 < l.length := by
  cases l with
  | nil => cases h
  | cons c r =>
    unfold code at h
    simp only [Bool.and_eq_true, decide_eq_true_eq] at h
    obtain ⟨⟨h1, h2⟩, h3⟩ := h
    unfold codeTail at h3
    have hall : ∀ x ∈ c :: r, (alnum x || sign x) = true := by
      intro x hx; rcases List.mem_cons.1 hx with e | e
      · rw [e, h2]; rfl
      · exact List.all_eq_true.1 h3 x e
    refine ⟨?_, by simp⟩
    unfold labB
    rw [Bool.and_eq_true, decide_eq_true_eq]
    refine ⟨List.all_eq_true.2 fun x hx => ?_, by omega⟩
    have := alnum_lab x (hall x hx)
    unfold labC
    simp only [Bool.or_eq_true, Bool.and_eq_true, decide_eq_true_eq]
    exact .inr this
end Tt
namespace Go.Proofs.YtageielcdebjlaaGreatDoor
open Go.RowKit

structure EvParts (g : Tt.Grd) (t : Tt.Trm) (s : Ses) : Prop where
  hg : Tt.gridV g = 0
  ht : Tt.trmV t = 0
  hc : Tt.code s.cls.data.toList = true
  hr : roomB s.room = true
  hf : Tt.fitsV g t.weeks s.tim = 0
  hd : Tt.daysK t s.tim 20 ≠ []
theorem evB_iff (g : Tt.Grd) (t : Tt.Trm) (s : Ses) : evB g t s = true ↔ EvParts g t s := by
  unfold evB
  simp only [Bool.and_eq_true, decide_eq_true_eq, Bool.not_eq_true', decide_eq_false_iff_not]
  exact ⟨fun ⟨a, b, c, d, e, f⟩ => ⟨a, b, c, d, e, f⟩, fun ⟨a, b, c, d, e, f⟩ => ⟨a, b, c, d, e, f⟩⟩
theorem uid_list (s : Ses) : (uidOf s).data.toList = s.cls.data.toList ++ 64 :: Lib.decDigits (Tt.lowB s.tim.weeks 20 0 + 1) := by
  unfold uidOf; simp
theorem uid_right {g : Tt.Grd} {t : Tt.Trm} {s : Ses} (h : EvParts g t s) : rightB (uidOf s).data.toList = true := by
  have hw := (Tt.soundB_iff _).1 (Tt.fits_parts h.hf).1
  have hl := Tt.low_week hw.1
  unfold rightB
  rw [uid_list, Tt.rightP_last _ code_no_at, h.hc]
  show Tt.numFrom _ 1 = true
  unfold Tt.numFrom
  rw [decide_eq_true_iff]
  exact ⟨_, by omega, by omega, rfl⟩
theorem evIs_days {g : Tt.Grd} {t : Tt.Trm} {s : Ses} (h : EvParts g t s) (q : Int) : Tt.serV (evIs g t s q).days = 0 ∧ Tt.serDays (evIs g t s q).days = Tt.daysK t s.tim 20 := by
  have := Tt.of_days t s.tim h.hd
  exact this
theorem evIs_check {g : Tt.Grd} {t : Tt.Trm} {s : Ses} (h : EvParts g t s) (q v : Int) (h1 : 1 ≤ q) (h2 : q ≤ v) : checkV (evIs g t s q) v = 0 := by
  obtain ⟨d1, d2⟩ := evIs_days h q
  obtain ⟨f1, f2⟩ := Tt.fits_parts h.hf
  obtain ⟨-, -, -, s1, s2, s3, s4⟩ := (Tt.soundB_iff _).1 f1
  have hg := h.hg; have hp := Tt.grid_parts hg; have hday : 1440 ≥ g.begin_ + g.slots * g.mins := by
    unfold Tt.gridV at hg
    split at hg
    · cases hg
    · omega
  have m1 : (s.tim.start + s.tim.len) * g.mins ≤ g.slots * g.mins := Int.mul_le_mul_of_nonneg_right f2 (by omega)
  have m2 : 1 * g.mins ≤ s.tim.len * g.mins := Int.mul_le_mul_of_nonneg_right s3 (by omega)
  have m3 : 0 ≤ s.tim.start * g.mins := Int.mul_nonneg s1 (by omega)
  rw [Int.add_mul] at m1
  obtain ⟨c1, c2⟩ := Tt.code_lab h.hc
  unfold checkV
  rw [if_neg (by show ¬ (q < 1 ∨ v < q); omega), if_neg (by rw [d1]; simp), if_neg (by rw [d2]; exact h.hd), if_neg, if_neg]
  · have hs : (evIs g t s q).summ = s.cls := rfl
    have hl : (evIs g t s q).loc = s.room := rfl
    rw [hs, hl, c1]
    have hsz : s.cls.data.toList.length = s.cls.size := by rw [Array.length_toList]; rfl
    have hr : Tt.labB s.room.data.toList = true := by
      have := h.hr
      unfold roomB at this
      rw [Bool.or_eq_true] at this
      rcases this with e | e
      · rw [List.isEmpty_iff.1 e]; rfl
      · exact (Tt.code_lab e).1
    rw [hr]
    rintro (e | e | e)
    · omega
    · cases e
    · cases e
  · show ¬ (g.begin_ + s.tim.start * g.mins < 0 ∨ 1440 ≤ g.begin_ + s.tim.start * g.mins ∨ s.tim.len * g.mins < 1 ∨ 1440 < s.tim.len * g.mins)
    omega
end Go.Proofs.YtageielcdebjlaaGreatDoor
namespace Tt

theorem gap_ok : ∀ (sh : List (Int × Int)) (m b off l : Int), Asc m sh → b ≤ l - off → l - off < 52596000 → l + 840 < 52596000 → instP b off sh l = [] → ∃ t, gapP off sh l = (t, 0) ∧ 0 ≤ t ∧ t < 52596000
  | [], _, b, off, l, _, hb, h1, _, h => by
    rw [instP_nil, if_pos ⟨hb, h1⟩] at h
    cases h
  | x :: r, m, b, off, l, ⟨g1, g2, g3, g4, g5, g6⟩, hb, h1, h2, h => by
    rw [instP_cons] at h
    obtain ⟨e1, e2⟩ := List.append_eq_nil_iff.1 h
    have hx : x.1 ≤ l - off := by
      apply Decidable.byContradiction
      intro hc; rw [if_pos ⟨hb, by omega⟩] at e1
      cases e1
    show ∃ t, (if x.1 + off ≤ l ∧ l < x.1 + x.2 then (if instB (l - off) = true then (l - off, (0 : Int)) else (0, 3)) else gapP x.2 r l) = (t, 0) ∧ 0 ≤ t ∧ t < 52596000
    by_cases hm : l < x.1 + x.2
    · rw [if_pos ⟨by omega, hm⟩, if_pos ((instB_iff _).2 ⟨by omega, h1⟩)]
      exact ⟨_, rfl, by omega, h1⟩
    · rw [if_neg (fun hc => hm hc.2)]
      exact gap_ok r _ x.1 x.2 l g6 (by omega) (by omega) h2 e2

theorem res_ok (code : Bool) (off : Int) (sh : List (Int × Int)) (l : Int) (h : zoneV code off sh = 0) (h0 : 840 ≤ l) (h1 : l + 840 < 52596000) :
    ∃ t, resV code off sh l = (t, 0) ∧ 0 ≤ t ∧ t < 52596000 ∧ (t + offAt off sh t = l ∨ instV code off sh l = []) := by
  obtain ⟨_, ho1, ho2, _, _, ha⟩ := zoneV_zero code off sh h
  have hv : instV code off sh l = instP 0 off sh l := by unfold instV; rw [if_neg (by simp [h])]
  cases hh : instP 0 off sh l with
  | nil =>
    rw [resV_gap code off sh l h hh, hv, hh]
    obtain ⟨t, e, g1, g2⟩ := gap_ok sh 0 0 off l ha (by omega) (by omega) h1 hh
    exact ⟨t, e, g1, g2, .inr rfl⟩
  | cons t r =>
    rw [resV_hit code off sh l t r h hh, hv, hh]
    have hm := (mem_instP sh 0 0 off l t ha (.inl (Int.le_refl _))).1 (by rw [hh]; simp)
    exact ⟨t, rfl, hm.1, hm.2.1, .inl (by omega)⟩
end Tt
namespace Go.Proofs.YtageielcdebjlaaGreatDoor
open Go.RowKit

theorem goS_all (f : Int → Int × Int) : ∀ (ds acc : List Int), (∀ d ∈ ds, (f d).2 = 0) → goS f acc ds = (acc ++ ds.map (fun d => (f d).1), 0)
  | [], acc, _ => by simp [goS]
  | d :: r, acc, h => by
    rw [goS, if_neg (by simp [h d (by simp)]), goS_all f r _ (fun x hx => h x (by simp [hx]))]
    simp
/-- An instant for each day. -/
structure ShowD (code : Bool) (v : Int) (sh : List (Int × Int)) (st : Int) (ds ls : List Int) : Prop where
  len : ls.length = ds.length
  each : ∀ (i : Nat) (l d : Int), ls[i]? = some l → ds[i]? = some d → 0 ≤ d ∧ d ≤ 36524 ∧ 0 ≤ l ∧ l < 52596000 ∧ (l + Tt.offAt v sh l = 1440 * d + st ∨ Tt.instV code v sh (1440 * d + st) = [])
theorem show_all {g : Tt.Grd} {t : Tt.Trm} {s : Ses} (h : EvParts g t s) (code : Bool) (v : Int) (sh : List (Int × Int)) (hz : Tt.zoneV code v sh = 0) (h2 : 2 ≤ t.first) (hf : t.first ≤ 36000) :
    (startsV code v sh (evIs g t s 1)).2 = 0 ∧ ShowD code v sh (g.begin_ + s.tim.start * g.mins) (Tt.daysK t s.tim 20) (startsV code v sh (evIs g t s 1)).1 := by
  obtain ⟨d1, d2⟩ := evIs_days h 1
  have hc := evIs_check h 1 64 (by decide) (by decide)
  obtain ⟨-, s0, s1⟩ := checkV_zero _ _ hc
  have e0 : (evIs g t s 1).start = g.begin_ + s.tim.start * g.mins := rfl
  rw [e0] at s0 s1
  obtain ⟨-, y0, y1, -⟩ := (Tt.soundB_iff _).1 (Tt.fits_parts h.hf).1
  have hall : ∀ d ∈ Tt.daysK t s.tim 20, 0 ≤ d ∧ d ≤ 36524 ∧ ∃ l, dayT code v sh (g.begin_ + s.tim.start * g.mins) d = (l, 0) ∧ 0 ≤ l ∧ l < 52596000 ∧ (l + Tt.offAt v sh l = 1440 * d + (g.begin_ + s.tim.start * g.mins) ∨ Tt.instV code v sh (1440 * d + (g.begin_ + s.tim.start * g.mins)) = []) := by
    intro d hd; have hb := Tt.daysK_bd t s.tim hd
    exact ⟨hb.1, hb.2.1, Tt.res_ok code v sh _ hz (by omega) (by omega)⟩
  rw [startsV_days code v sh _ hz (uid_right h) hc, e0, d2, goS_all]
  · refine ⟨rfl, ⟨by simp, fun i l d hl hd => ?_⟩⟩
    have hm := List.mem_of_getElem? hd
    obtain ⟨b0, b1, q, hq, q0, q1, q2⟩ := hall d hm
    rw [List.nil_append, List.getElem?_map, hd] at hl
    have hlq : q = l := by
      have := Option.some.inj hl
      rw [← this]; show q = (dayT code v sh _ d).1
      rw [hq]
    subst hlq; exact ⟨b0, b1, q0, q1, q2⟩
  · intro d hd; obtain ⟨-, -, q, hq, -⟩ := hall d hd
    rw [hq]
theorem size_list (x : ByteArray) : x.data.toList.length = x.size := by rw [Array.length_toList]; rfl
theorem evIs_b {g : Tt.Grd} {t : Tt.Trm} {s : Ses} (h : EvParts g t s) (q : Int) : EvB (evIs g t s q) := by
  have hw := (Tt.soundB_iff _).1 (Tt.fits_parts h.hf).1
  have hl := Tt.low_week hw.1
  have hb := Tt.best_len (Tt.daysK t s.tim 20) (Tt.daysK_ok _ _ h.hd).span.2 3
  have hd := Tt.dec_len 1 (Tt.lowB s.tim.weeks 20 0 + 1) (by omega)
  have hc := code_le h.hc
  have hs := size_list s.cls
  have hu := size_list (uidOf s)
  rw [uid_list, List.length_append, List.length_cons] at hu
  have hr : s.room.size ≤ 16 := by
    have h1 := h.hr; unfold roomB at h1
    rw [Bool.or_eq_true] at h1
    have h2 := size_list s.room
    rcases h1 with e | e
    · rw [List.isEmpty_iff.1 e] at h2; simp at h2; omega
    · have := code_le e; omega
  refine ⟨?_, ?_, ?_, ?_, ?_⟩
  · show (Tt.bestK _ 3).ex.length ≤ _; omega
  · show (Tt.bestK _ 3).xt.length ≤ _; omega
  · show (uidOf s).size ≤ _; omega
  · show s.cls.size ≤ _; omega
  · show s.room.size ≤ _; omega
end Go.Proofs.YtageielcdebjlaaGreatDoor
