/- Plain facts on zones: which are valid, the instants at which clocks show a local time, and what a local time means. No program in sight. Condition: none. -/
import Derived.Test.YtageielcdebjlaaGreatDoorSer
namespace Tt

def maxI : Int := 52596000
def nearB (o : Int) : Bool := decide (-840 ≤ o) && decide (o ≤ 840)
def instB (t : Int) : Bool := decide (0 ≤ t) && decide (t < 52596000)
theorem nearB_iff (o : Int) : nearB o = true ↔ -840 ≤ o ∧ o ≤ 840 := by unfold nearB; simp
theorem nearB_not (o : Int) : nearB o = false ↔ o < -840 ∨ 840 < o := by rw [← Bool.not_eq_true, nearB_iff]; omega
theorem instB_iff (t : Int) : instB t = true ↔ 0 ≤ t ∧ t < 52596000 := by unfold instB; simp
theorem instB_not (t : Int) : instB t = false ↔ t < 0 ∨ 52596000 ≤ t := by rw [← Bool.not_eq_true, instB_iff]; omega

def lateA : Option Int → Int → Bool
  | none, _ => false
  | some q, a => decide (a < q + 2880)

/-- The first fault of the shifts, behind an instant and an offset. -/
def shV : Option Int → Int → List (Int × Int) → Int
  | _, _, [] => 0
  | p, off, x :: r => if (instB x.1 && nearB x.2) = false then 3 else if lateA p x.1 = true then 63 else if x.2 = off ∨ off + 180 < x.2 ∨ x.2 < off - 180 then 1 else shV (some x.1) x.2 r

/-- The error of a zone: is its name a code; its offset; its shifts. -/
def zoneV (code : Bool) (off : Int) (sh : List (Int × Int)) : Int :=
  if code = false then 10 else if nearB off = false then 3 else if 64 < (sh.length : Int) then 2 else shV none off sh

def prevA (sh : List (Int × Int)) (k : Nat) : Option Int := if k = 0 then none else sh[k - 1]?.map (·.1)
def offs (off : Int) (sh : List (Int × Int)) (k : Nat) : Int := if k = 0 then off else (sh[k - 1]?.map (·.2)).getD off
theorem prevA_succ (sh : List (Int × Int)) (k : Nat) (x : Int × Int) (h : sh[k]? = some x) : prevA sh (k + 1) = some x.1 := by unfold prevA; simp [h]
theorem offs_succ (off : Int) (sh : List (Int × Int)) (k : Nat) (x : Int × Int) (h : sh[k]? = some x) : offs off sh (k + 1) = x.2 := by unfold offs; simp [h]
def shF (off : Int) (sh : List (Int × Int)) (k : Nat) : Int := shV (prevA sh k) (offs off sh k) (sh.drop k)
theorem shF_zero (off : Int) (sh : List (Int × Int)) : shF off sh 0 = shV none off sh := rfl
theorem shF_cons (off : Int) (sh : List (Int × Int)) (k : Nat) (x : Int × Int) (h : sh[k]? = some x) :
    shF off sh k = if (instB x.1 && nearB x.2) = false then 3 else if lateA (prevA sh k) x.1 = true then 63 else if x.2 = offs off sh k ∨ offs off sh k + 180 < x.2 ∨ x.2 < offs off sh k - 180 then 1 else shF off sh (k + 1) := by
  obtain ⟨g1, g2⟩ := List.getElem?_eq_some_iff.1 h
  unfold shF
  rw [List.drop_eq_getElem_cons g1, g2, shV, prevA_succ sh k x h, offs_succ off sh k x h]
theorem shF_end (off : Int) (sh : List (Int × Int)) (k : Nat) (h : sh.length ≤ k) : shF off sh k = 0 := by
  unfold shF; rw [List.drop_eq_nil_of_le h]; unfold shV; rfl

/-- Shifts that ascend from m on, each within the bounds. -/
def Asc : Int → List (Int × Int) → Prop
  | _, [] => True
  | m, x :: r => m ≤ x.1 ∧ 0 ≤ x.1 ∧ x.1 < 52596000 ∧ -840 ≤ x.2 ∧ x.2 ≤ 840 ∧ Asc (x.1 + 2880) r

theorem asc_of : ∀ (sh : List (Int × Int)) (p : Option Int) (off m : Int), shV p off sh = 0 → (∀ q, p = some q → m ≤ q + 2880) → (p = none → m ≤ 0) → Asc m sh
  | [], _, _, _, _, _, _ => trivial
  | x :: r, p, off, m, h, h1, h2 => by
    rw [shV] at h
    split at h
    · cases h
    · rename_i g1
      simp only [Bool.not_eq_false, Bool.and_eq_true, instB_iff, nearB_iff] at g1
      split at h
      · cases h
      · rename_i g2
        split at h
        · cases h
        · refine ⟨?_, g1.1.1, g1.1.2, g1.2.1, g1.2.2, asc_of r (some x.1) x.2 _ h (fun q hq => by cases hq; omega) (fun e => by cases e)⟩
          cases p with
          | none => have := h2 rfl; omega
          | some q => have := h1 q rfl; simp [lateA] at g2; omega

theorem Asc.mono : ∀ {sh : List (Int × Int)} {m m' : Int}, Asc m sh → m' ≤ m → Asc m' sh
  | [], _, _, _, _ => trivial
  | _ :: _, _, _, ⟨h1, h2⟩, h => ⟨by omega, h2⟩

/-- The offset at an instant. -/
def offAt (off : Int) : List (Int × Int) → Int → Int
  | [], _ => off
  | x :: r, t => offAt (if x.1 ≤ t then x.2 else off) r t
theorem offAt_cons (off : Int) (x : Int × Int) (r : List (Int × Int)) (t : Int) : offAt off (x :: r) t = offAt (if x.1 ≤ t then x.2 else off) r t := rfl

theorem offAt_before : ∀ (sh : List (Int × Int)) (m off t : Int), Asc m sh → t < m → offAt off sh t = off
  | [], _, _, _, _, _ => rfl
  | x :: r, m, off, t, ⟨h1, _, _, _, _, h2⟩, ht => by
    rw [offAt_cons, if_neg (by omega)]
    exact offAt_before r (x.1 + 2880) off t h2 (by omega)

theorem offAt_near : ∀ (sh : List (Int × Int)) (m off t : Int), Asc m sh → -840 ≤ off → off ≤ 840 → -840 ≤ offAt off sh t ∧ offAt off sh t ≤ 840
  | [], _, _, _, _, h1, h2 => ⟨h1, h2⟩
  | x :: r, m, off, t, ⟨_, _, _, g1, g2, g3⟩, h1, h2 => by
    rw [offAt_cons]
    split
    · exact offAt_near r _ _ t g3 g1 g2
    · exact offAt_near r _ _ t g3 h1 h2

/-- The instants with a local time, interval by interval. -/
def instP : Int → Int → List (Int × Int) → Int → List Int
  | b, off, [], l => if b ≤ l - off ∧ l - off < 52596000 then [l - off] else []
  | b, off, x :: r, l => (if b ≤ l - off ∧ l - off < x.1 then [l - off] else []) ++ instP x.1 x.2 r l
theorem instP_nil (b off l : Int) : instP b off [] l = if b ≤ l - off ∧ l - off < 52596000 then [l - off] else [] := rfl
theorem instP_cons (b off : Int) (x : Int × Int) (r : List (Int × Int)) (l : Int) : instP b off (x :: r) l = (if b ≤ l - off ∧ l - off < x.1 then [l - off] else []) ++ instP x.1 x.2 r l := rfl

theorem mem_instP : ∀ (sh : List (Int × Int)) (m b off l t : Int), Asc m sh → b ≤ m ∨ sh = [] → (t ∈ instP b off sh l ↔ b ≤ t ∧ t < 52596000 ∧ offAt off sh t = l - t)
  | [], _, b, off, l, t, _, _ => by
    rw [instP_nil]
    show _ ↔ b ≤ t ∧ t < 52596000 ∧ off = l - t
    split
    · rw [List.mem_singleton]; omega
    · constructor
      · intro h; cases h
      · omega
  | x :: r, m, b, off, l, t, ⟨h1, h0, h3, _, _, h2⟩, hb => by
    have hb : b ≤ m := by rcases hb with h | h; exact h; cases h
    rw [instP_cons, List.mem_append, mem_instP r (x.1 + 2880) x.1 x.2 l t h2 (.inl (by omega)), offAt_cons]
    by_cases ht : x.1 ≤ t
    · rw [if_pos ht]
      constructor
      · rintro (h | h)
        · split at h
          · rw [List.mem_singleton] at h; omega
          · cases h
        · exact ⟨by omega, h.2⟩
      · intro h; exact .inr ⟨ht, h.2⟩
    · rw [if_neg ht, offAt_before r _ off t h2 (by omega)]
      constructor
      · rintro (h | h)
        · split at h
          · rw [List.mem_singleton] at h; omega
          · cases h
        · omega
      · rintro ⟨g1, g2, g3⟩
        left
        rw [if_pos (by omega), List.mem_singleton]; omega

theorem instP_sorted : ∀ (sh : List (Int × Int)) (m b off l : Int), Asc m sh → b ≤ m ∨ sh = [] → (instP b off sh l).Pairwise (· < ·)
  | [], _, b, off, l, _, _ => by
    rw [instP_nil]; split
    · exact List.pairwise_singleton _ _
    · exact List.Pairwise.nil
  | x :: r, m, b, off, l, ⟨h1, h0, h3, _, _, h2⟩, hb => by
    rw [instP_cons, List.pairwise_append]
    refine ⟨?_, instP_sorted r _ _ _ l h2 (.inl (by omega)), ?_⟩
    · split
      · exact List.pairwise_singleton _ _
      · exact List.Pairwise.nil
    · intro a ha c hc
      rw [mem_instP r (x.1 + 2880) x.1 x.2 l c h2 (.inl (by omega))] at hc
      split at ha
      · rw [List.mem_singleton] at ha; omega
      · cases ha

/-- The instants with a local time, offset by offset. -/
def instR (off : Int) (sh : List (Int × Int)) (l : Int) (k : Nat) : List Int := (daysFrom (l - 840) k).filter fun t => instB t && decide (offAt off sh t = l - t)

theorem inst_eq (off : Int) (sh : List (Int × Int)) (l : Int) (h : Asc 0 sh) (h1 : -840 ≤ off) (h2 : off ≤ 840) : instR off sh l 1681 = instP 0 off sh l := by
  refine sorted_ext _ _ ((daysFrom_sorted _ _).filter _) (instP_sorted sh 0 0 off l h (.inl (Int.le_refl _))) (fun t => ?_)
  rw [mem_instP sh 0 0 off l t h (.inl (Int.le_refl _))]
  unfold instR
  rw [List.mem_filter, mem_daysFrom, Bool.and_eq_true, instB_iff, decide_eq_true_iff]
  have := offAt_near sh 0 off t h h1 h2
  constructor
  · rintro ⟨_, h3, h4⟩; exact ⟨h3.1, h3.2, h4⟩
  · rintro ⟨h3, h4, h5⟩; exact ⟨by omega, ⟨h3, h4⟩, h5⟩

theorem inst_far (off : Int) (sh : List (Int × Int)) (l : Int) (h : Asc 0 sh) (h1 : -840 ≤ off) (h2 : off ≤ 840) (hl : l < -840 ∨ 52596840 ≤ l) : instP 0 off sh l = [] := by
  cases hh : instP 0 off sh l with
  | nil => rfl
  | cons t r =>
    have : t ∈ instP 0 off sh l := by rw [hh]; simp
    rw [mem_instP sh 0 0 off l t h (.inl (Int.le_refl _))] at this
    have := offAt_near sh 0 off t h h1 h2
    omega

/-- What a local time in a gap means: the instant, and the error. -/
def gapP : Int → List (Int × Int) → Int → Int × Int
  | _, [], _ => (0, 3)
  | off, x :: r, l => if x.1 + off ≤ l ∧ l < x.1 + x.2 then (if instB (l - off) = true then (l - off, 0) else (0, 3)) else gapP x.2 r l
def gapR : Int → List (Int × Int) → Int → Int × Int
  | _, [], _ => (0, 3)
  | off, x :: r, l => if (x.1 + off ≤ l ∧ l < x.1 + x.2) ∧ instB (l - off) = true then (l - off, 0) else gapR x.2 r l

theorem gapR_none : ∀ (sh : List (Int × Int)) (m off l : Int), Asc m sh → -840 ≤ off → l < m - 840 → gapR off sh l = (0, 3)
  | [], _, _, _, _, _, _ => rfl
  | x :: r, m, off, l, ⟨h1, _, _, h2, _, h3⟩, ho, hl => by
    show (if (x.1 + off ≤ l ∧ l < x.1 + x.2) ∧ instB (l - off) = true then (l - off, (0 : Int)) else gapR x.2 r l) = _
    rw [if_neg (by omega)]
    exact gapR_none r _ x.2 l h3 h2 (by omega)
theorem gap_eq : ∀ (sh : List (Int × Int)) (m off l : Int), Asc m sh → -840 ≤ off → gapP off sh l = gapR off sh l
  | [], _, _, _, _, _ => rfl
  | x :: r, m, off, l, ⟨h1, _, _, h2, h4, h3⟩, ho => by
    show (if x.1 + off ≤ l ∧ l < x.1 + x.2 then (if instB (l - off) = true then (l - off, (0 : Int)) else (0, 3)) else gapP x.2 r l) = (if (x.1 + off ≤ l ∧ l < x.1 + x.2) ∧ instB (l - off) = true then (l - off, (0 : Int)) else gapR x.2 r l)
    by_cases hm : x.1 + off ≤ l ∧ l < x.1 + x.2
    · rw [if_pos hm]
      by_cases hi : instB (l - off) = true
      · rw [if_pos hi, if_pos ⟨hm, hi⟩]
      · rw [if_neg hi, if_neg (fun h => hi h.2)]
        exact (gapR_none r _ x.2 l h3 h2 (by omega)).symm
    · rw [if_neg hm, if_neg (fun h => hm h.1)]
      exact gap_eq r _ x.2 l h3 h2

/-- What a local time means: the instant, and the error. -/
def resV (code : Bool) (off : Int) (sh : List (Int × Int)) (l : Int) : Int × Int :=
  if zoneV code off sh ≠ 0 then (0, zoneV code off sh) else match instP 0 off sh l with
    | t :: _ => (t, 0)
    | [] => gapP off sh l

theorem zoneV_zero (code : Bool) (off : Int) (sh : List (Int × Int)) (h : zoneV code off sh = 0) : code = true ∧ -840 ≤ off ∧ off ≤ 840 ∧ (sh.length : Int) ≤ 64 ∧ shV none off sh = 0 ∧ Asc 0 sh := by
  unfold zoneV at h
  split at h
  · cases h
  · rename_i g1
    split at h
    · cases h
    · rename_i g2
      split at h
      · cases h
      · rename_i g3
        simp only [Bool.not_eq_false, nearB_iff] at g2
        exact ⟨by simpa using g1, g2.1, g2.2, by omega, h, asc_of sh none off 0 h (fun q hq => by cases hq) (fun _ => Int.le_refl _)⟩

theorem asc_get : ∀ (sh : List (Int × Int)) (m : Int) (k : Nat) (x : Int × Int), Asc m sh → sh[k]? = some x → 0 ≤ x.1 ∧ x.1 < 52596000 ∧ -840 ≤ x.2 ∧ x.2 ≤ 840
  | [], _, _, _, _, h => by simp at h
  | y :: r, _, 0, x, ⟨_, h2, h3, h4, h5, _⟩, h => by simp at h; subst h; exact ⟨h2, h3, h4, h5⟩
  | y :: r, _, k + 1, x, ⟨_, _, _, _, _, h6⟩, h => asc_get r _ k x h6 (by simpa using h)
/-- The instants of a local time: none in a zone that is not valid. -/
def instV (code : Bool) (off : Int) (sh : List (Int × Int)) (l : Int) : List Int := if zoneV code off sh ≠ 0 then [] else instP 0 off sh l
theorem instR_succ (off : Int) (sh : List (Int × Int)) (l : Int) (k : Nat) : instR off sh l (k + 1) = instR off sh l k ++ (if (instB (l - (840 - k)) && decide (offAt off sh (l - (840 - k)) = 840 - k)) = true then [l - (840 - k)] else []) := by
  have h : l - 840 + (k : Int) = l - (840 - k) := by omega
  have h2 : l - (l - (840 - (k : Int))) = 840 - k := by omega
  unfold instR
  rw [daysFrom_snoc, List.filter_append, h]
  congr 1
  rw [List.filter_cons, h2]
  rfl
theorem resV_bad (code : Bool) (off : Int) (sh : List (Int × Int)) (l : Int) (h : zoneV code off sh ≠ 0) : resV code off sh l = (0, zoneV code off sh) := if_pos h
theorem resV_hit (code : Bool) (off : Int) (sh : List (Int × Int)) (l t : Int) (r : List Int) (h : zoneV code off sh = 0) (h2 : instP 0 off sh l = t :: r) : resV code off sh l = (t, 0) := by
  unfold resV; rw [if_neg (by simp [h]), h2]
theorem resV_gap (code : Bool) (off : Int) (sh : List (Int × Int)) (l : Int) (h : zoneV code off sh = 0) (h2 : instP 0 off sh l = []) : resV code off sh l = gapP off sh l := by
  unfold resV; rw [if_neg (by simp [h]), h2]
theorem gapP_at (v : Int) (sh : List (Int × Int)) (l of : Int) (k : Nat) (x : Int × Int) (hx : sh[k]? = some x) (h : gapP v sh l = gapP of (sh.drop k) l) :
    gapP v sh l = if x.1 + of ≤ l ∧ l < x.1 + x.2 then (if instB (l - of) = true then (l - of, 0) else (0, 3)) else gapP x.2 (sh.drop (k + 1)) l := by
  obtain ⟨g1, g2⟩ := List.getElem?_eq_some_iff.1 hx
  rw [h, List.drop_eq_getElem_cons g1, g2]; rfl
theorem gapR_at (v : Int) (sh : List (Int × Int)) (l of : Int) (k : Nat) (x : Int × Int) (hx : sh[k]? = some x) (h : gapR v sh l = gapR of (sh.drop k) l) :
    gapR v sh l = if (x.1 + of ≤ l ∧ l < x.1 + x.2) ∧ instB (l - of) = true then (l - of, 0) else gapR x.2 (sh.drop (k + 1)) l := by
  obtain ⟨g1, g2⟩ := List.getElem?_eq_some_iff.1 hx
  rw [h, List.drop_eq_getElem_cons g1, g2]; rfl
end Tt
