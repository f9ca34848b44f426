/- FeedHeld, plain: in each week a class that is shown is that of its session. No program in sight. Condition: none. -/
import Derived.Test.YtcomifbfldoeiaaGreatDoorSeqQ
namespace Go.Proofs.YtcomifbfldoeiaaGreatDoor
open Go.RowKit

/-- The session of a class in a week. -/
def atS (l : List Ses) (c : ByteArray) (k : Int) : Option Ses := l.find? (fun s => decide (s.cls = c) && Tt.bit s.tim.weeks (k - 1))
def heldB (t : Tt.Trm) (l : List Ses) (c : ByteArray) (k d : Int) : Bool := match atS l c k with
  | none => false
  | some s => !decide (d ∈ t.hols) && decide (s.tim.day = Tt.wkdV d)
theorem days_has (t : Tt.Trm) (x : Tt.Tim) (j : Nat) (hb : Tt.bit x.weeks j = true) (ha : Tt.atB t ((j : Int) + 1) x.day = true) : ∀ k : Nat, j < k → Tt.atD t ((j : Int) + 1) x.day ∈ Tt.daysK t x k
  | 0, h => by omega
  | k + 1, h => by
    rw [Tt.daysK]
    by_cases hjk : j = k
    · subst hjk
      rw [if_pos ⟨hb, ha⟩]
      exact List.mem_append.2 (.inr (List.mem_singleton.2 rfl))
    · have ih := days_has t x j hb ha k (by omega)
      split
      · exact List.mem_append.2 (.inl ih)
      · exact ih
theorem days_from (t : Tt.Trm) (x : Tt.Tim) : ∀ (k : Nat) (d : Int), d ∈ Tt.daysK t x k → ∃ j : Nat, j < k ∧ d = Tt.atD t ((j : Int) + 1) x.day ∧ Tt.atB t ((j : Int) + 1) x.day = true ∧ Tt.bit x.weeks j = true
  | 0, d, h => by cases h
  | k + 1, d, h => by
    rw [Tt.daysK] at h
    split at h
    · rename_i hb
      rcases List.mem_append.1 h with h | h
      · obtain ⟨j, h1, h2⟩ := days_from t x k d h
        exact ⟨j, by omega, h2⟩
      · rw [List.mem_singleton] at h
        exact ⟨k, by omega, h, hb.2, hb.1⟩
    · obtain ⟨j, h1, h2⟩ := days_from t x k d h
      exact ⟨j, by omega, h2⟩
theorem cls_one {l : List Ses} (h : l.Pairwise (fun a b => lessU a.cls b.cls = true)) {a b : Ses} (ha : a ∈ l) (hb : b ∈ l) (he : a.cls = b.cls) : a = b := by
  induction l with
  | nil => cases ha
  | cons x r ih =>
    obtain ⟨h1, h2⟩ := List.pairwise_cons.1 h
    rcases List.mem_cons.1 ha with e1 | ha1
    · rcases List.mem_cons.1 hb with e2 | hb1
      · rw [e1, e2]
      · have := h1 b hb1
        rw [← e1, he, lessU_irrefl] at this; cases this
    · rcases List.mem_cons.1 hb with e2 | hb1
      · have := h1 a ha1
        rw [← e2, he, lessU_irrefl] at this; cases this
      · exact ih h2 ha1 hb1
theorem atS_one {l : List Ses} (h : l.Pairwise (fun a b => lessU a.cls b.cls = true)) {s : Ses} (hs : s ∈ l) (k : Int) : atS l s.cls k = if Tt.bit s.tim.weeks (k - 1) = true then some s else none := by
  unfold atS
  split
  · rename_i hb
    cases hf : l.find? (fun q => decide (q.cls = s.cls) && Tt.bit q.tim.weeks (k - 1)) with
    | none =>
      have := List.find?_eq_none.1 hf s hs
      simp [hb] at this
    | some y =>
      have h1 := List.find?_some hf
      have h2 := List.mem_of_find?_eq_some hf
      simp only [Bool.and_eq_true, decide_eq_true_eq] at h1
      rw [cls_one h h2 hs h1.1]
  · rename_i hb
    refine List.find?_eq_none.2 (fun y hy hq => hb ?_)
    simp only [Bool.and_eq_true, decide_eq_true_eq] at hq
    rw [← cls_one h hy hs hq.1]; exact hq.2
theorem held_plain {g : Tt.Grd} {t : Tt.Trm} {ls : List (List Ses)} (h : VersOk g t ls) {M : Nat} {l : List Ses} (hl : ls[M]? = some l) {x : Ev} (hx : x ∈ makK g t ls (M + 1)) (hc : x.canc = false) {k d : Int} (hk0 : 1 ≤ k) (hk1 : k ≤ t.weeks) (hd0 : t.first + 7 * (k - 1) ≤ d) (hd1 : d < t.first + 7 * k) : decide (d ∈ Tt.serDays x.days) = heldB t l x.summ k d := by
  have hm := List.mem_of_getElem? hl
  rw [makK_last g t ls M l hl] at hx
  obtain ⟨e, he, hxe⟩ := adv_shown (makK_asc g t ls M) (ver_pair (h.each l hm).2) hx hc
  unfold sesEs at he
  obtain ⟨s, hs, hse⟩ := List.mem_map.1 he
  obtain ⟨hsl, hsb⟩ := List.mem_filter.1 hs
  have hp := (evB_iff g t s).1 hsb
  have hdy : Tt.serDays x.days = Tt.daysK t s.tim 20 := by
    rw [← (evIs_days hp ((M : Int) + 1)).2, show x.days = (evIs g t s ((M : Int) + 1)).days from by rw [hse, ← hxe]]
  have hsm : x.summ = s.cls := by rw [show x.summ = (evIs g t s ((M : Int) + 1)).summ from by rw [hse, ← hxe]]; rfl
  obtain ⟨f0, f1, f2, f3, f4, f5⟩ := Tt.trmV_ok h.term
  have hwd : Tt.wkdV d = d - t.first - 7 * (k - 1) := by
    have hl4 : Tt.lastT t = t.first + 7 * t.weeks - 1 := rfl
    unfold Tt.wkdV
    rw [if_pos ((Tt.isD_iff d).2 ⟨by omega, by omega⟩)]
    unfold Tt.wk at f5 ⊢
    omega
  rw [hdy, hsm]
  unfold heldB
  rw [atS_one (h.each l hm).2.asc hsl k]
  by_cases hb : Tt.bit s.tim.weeks (k - 1) = true
  · rw [if_pos hb]
    simp only
    by_cases hin : d ∈ Tt.daysK t s.tim 20
    · rw [decide_eq_true hin]
      obtain ⟨j, h1, h2, h3, h4⟩ := days_from t s.tim 20 d hin
      obtain ⟨q1, q2, q3, q4, q5⟩ := Tt.atB_parts h3
      have hjk : (j : Int) = k - 1 := by unfold Tt.atD at h2; omega
      have hdd : s.tim.day = Tt.wkdV d := by rw [hwd]; unfold Tt.atD at h2; omega
      have hno : d ∉ t.hols := by
        unfold Tt.atB at h3
        rw [Bool.and_eq_true] at h3
        rw [h2]
        simpa using h3.2
      rw [decide_eq_false hno, decide_eq_true hdd]; rfl
    · rw [decide_eq_false hin]
      symm
      by_cases hno : d ∈ t.hols
      · rw [decide_eq_true hno]; rfl
      · by_cases hdd : s.tim.day = Tt.wkdV d
        · exfalso
          apply hin
          have hj : (((k - 1).toNat : Nat) : Int) = k - 1 := Int.toNat_of_nonneg (by omega)
          have hat : d = Tt.atD t (((k - 1).toNat : Int) + 1) s.tim.day := by unfold Tt.atD; rw [hj]; omega
          have hab : Tt.atB t (((k - 1).toNat : Int) + 1) s.tim.day = true := by
            unfold Tt.atB
            rw [Bool.and_eq_true]
            refine ⟨decide_eq_true ⟨h.term, by omega, by omega, by omega, by omega⟩, ?_⟩
            rw [← hat]; simpa using hno
          rw [hat]
          exact days_has t s.tim _ (by rw [hj]; exact hb) hab 20 (by omega)
        · rw [decide_eq_false hdd, Bool.and_false]
  · rw [if_neg hb]
    simp only
    refine decide_eq_false (fun hin => hb ?_)
    obtain ⟨j, h1, h2, h3, h4⟩ := days_from t s.tim 20 d hin
    obtain ⟨q1, q2, q3, q4, q5⟩ := Tt.atB_parts h3
    have hjk : (j : Int) = k - 1 := by unfold Tt.atD at h2; omega
    rw [← hjk]; exact h4
theorem held_len {g : Tt.Grd} {t : Tt.Trm} {ls : List (List Ses)} (h : VersOk g t ls) {M : Nat} {l : List Ses} (hl : ls[M]? = some l) {x : Ev} (hx : x ∈ makK g t ls (M + 1)) (hc : x.canc = false) : (Tt.serDays x.days).length ≤ 20 := by
  have hm := List.mem_of_getElem? hl
  rw [makK_last g t ls M l hl] at hx
  obtain ⟨e, he, hxe⟩ := adv_shown (makK_asc g t ls M) (ver_pair (h.each l hm).2) hx hc
  unfold sesEs at he
  obtain ⟨s, hs, hse⟩ := List.mem_map.1 he
  have hp := (evB_iff g t s).1 (List.mem_filter.1 hs).2
  rw [show Tt.serDays x.days = Tt.daysK t s.tim 20 from by rw [← (evIs_days hp ((M : Int) + 1)).2, show x.days = (evIs g t s ((M : Int) + 1)).days from by rw [hse, ← hxe]]]
  exact Tt.daysK_len t s.tim 20
end Go.Proofs.YtcomifbfldoeiaaGreatDoor
