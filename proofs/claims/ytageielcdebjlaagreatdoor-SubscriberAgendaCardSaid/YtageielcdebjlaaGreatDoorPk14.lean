/- Plain facts on zones: which are valid, the instants at which clocks show a local time, and what a local time means. No program in sight. Condition: none. Plain facts on agendas: in a valid zone later days start later; entries in the order of their times and names; a sorted list of distinct entries is its only sorted form. No program in sight. -/
import Derived.Test.YtageielcdebjlaaGreatDoorPk1
import Derived.Sort.LotA
import Derived.Sort.Walk0
namespace Tt

def nearB (o : Int) : Bool := decide (-840 ≤ o) && decide (o ≤ 840)
def instB (t : Int) : Bool := decide (0 ≤ t) && decide (t < 52596000)
theorem nearB_iff (o : Int) : nearB o = true ↔ -840 ≤ o ∧ o ≤ 840 := by unfold nearB; simp
theorem instB_iff (t : Int) : instB t = true ↔ 0 ≤ t ∧ t < 52596000 := by unfold instB; simp
def lateA : Option Int → Int → Bool
  | none, _ => false
  | some q, a => decide (a < q + 2880)

/-- The first fault of the shifts, behind an instant and an offset. -/
def shV : Option Int → Int → List (Int × Int) → Int
  | _, _, [] => 0
  | p, off, x :: r => if (instB x.1 && nearB x.2) = false then 3 else if lateA p x.1 = true then 63 else if x.2 = off ∨ off + 180 < x.2 ∨ x.2 < off - 180 then 1 else shV (some x.1) x.2 r

/-- The error of a zone: is its name a code; its offset; its shifts. -/
def zoneV (code : Bool) (off : Int) (sh : List (Int × Int)) : Int :=
  if code = false then 10 else if nearB off = false then 3 else if 64 < (sh.length : Int) then 2 else shV none off sh

def prevA (sh : List (Int × Int)) (k : Nat) : Option Int := if k = 0 then none else sh[k - 1]?.map (·.1)
def offs (off : Int) (sh : List (Int × Int)) (k : Nat) : Int := if k = 0 then off else (sh[k - 1]?.map (·.2)).getD off
theorem prevA_succ (sh : List (Int × Int)) (k : Nat) (x : Int × Int) (h : sh[k]? = some x) : prevA sh (k + 1) = some x.1 := by unfold prevA; simp [h]
theorem offs_succ (off : Int) (sh : List (Int × Int)) (k : Nat) (x : Int × Int) (h : sh[k]? = some x) : offs off sh (k + 1) = x.2 := by unfold offs; simp [h]
def shF (off : Int) (sh : List (Int × Int)) (k : Nat) : Int := shV (prevA sh k) (offs off sh k) (sh.drop k)
theorem shF_cons (off : Int) (sh : List (Int × Int)) (k : Nat) (x : Int × Int) (h : sh[k]? = some x) :
    shF off sh k = if (instB x.1 && nearB x.2) = false then 3 else if lateA (prevA sh k) x.1 = true then 63 else if x.2 = offs off sh k ∨ offs off sh k + 180 < x.2 ∨ x.2 < offs off sh k - 180 then 1 else shF off sh (k + 1) := by
  obtain ⟨g1, g2⟩ := List.getElem?_eq_some_iff.1 h
  unfold shF
  rw [List.drop_eq_getElem_cons g1, g2, shV, prevA_succ sh k x h, offs_succ off sh k x h]
theorem shF_end (off : Int) (sh : List (Int × Int)) (k : Nat) (h : sh.length ≤ k) : shF off sh k = 0 := by
  unfold shF; rw [List.drop_eq_nil_of_le h]; unfold shV; rfl

/-- Shifts that ascend from m on, each within the bounds. -/
def Asc : Int → List (Int × Int) → Prop
  | _, [] => True
  | m, x :: r => m ≤ x.1 ∧ 0 ≤ x.1 ∧ x.1 < 52596000 ∧ -840 ≤ x.2 ∧ x.2 ≤ 840 ∧ Asc (x.1 + 2880) r

theorem asc_of : ∀ (sh : List (Int × Int)) (p : Option Int) (off m : Int), shV p off sh = 0 → (∀ q, p = some q → m ≤ q + 2880) → (p = none → m ≤ 0) → Asc m sh
  | [], _, _, _, _, _, _ => trivial
  | x :: r, p, off, m, h, h1, h2 => by
    rw [shV] at h
    split at h
    · cases h
    · rename_i g1
      simp only [Bool.not_eq_false, Bool.and_eq_true, instB_iff, nearB_iff] at g1
      split at h
      · cases h
      · rename_i g2
        split at h
        · cases h
        · refine ⟨?_, g1.1.1, g1.1.2, g1.2.1, g1.2.2, asc_of r (some x.1) x.2 _ h (fun q hq => by cases hq; omega) (fun e => by cases e)⟩
          cases p with
          | none => have := h2 rfl; omega
          | some q => have := h1 q rfl; simp [lateA] at g2; omega

theorem Asc.mono : ∀ {sh : List (Int × Int)} {m m' : Int}, Asc m sh → m' ≤ m → Asc m' sh
  | [], _, _, _, _ => trivial
  | _ :: _, _, _, ⟨h1, h2⟩, h => ⟨by omega, h2⟩

/-- The offset at an instant. -/
def offAt (off : Int) : List (Int × Int) → Int → Int
  | [], _ => off
  | x :: r, t => offAt (if x.1 ≤ t then x.2 else off) r t
theorem offAt_cons (off : Int) (x : Int × Int) (r : List (Int × Int)) (t : Int) : offAt off (x :: r) t = offAt (if x.1 ≤ t then x.2 else off) r t := rfl

theorem offAt_before : ∀ (sh : List (Int × Int)) (m off t : Int), Asc m sh → t < m → offAt off sh t = off
  | [], _, _, _, _, _ => rfl
  | x :: r, m, off, t, ⟨h1, _, _, _, _, h2⟩, ht => by
    rw [offAt_cons, if_neg (by omega)]
    exact offAt_before r (x.1 + 2880) off t h2 (by omega)

theorem offAt_near : ∀ (sh : List (Int × Int)) (m off t : Int), Asc m sh → -840 ≤ off → off ≤ 840 → -840 ≤ offAt off sh t ∧ offAt off sh t ≤ 840
  | [], _, _, _, _, h1, h2 => ⟨h1, h2⟩
  | x :: r, m, off, t, ⟨_, _, _, g1, g2, g3⟩, h1, h2 => by
    rw [offAt_cons]
    split
    · exact offAt_near r _ _ t g3 g1 g2
    · exact offAt_near r _ _ t g3 h1 h2

/-- The instants with a local time, interval by interval. -/
def instP : Int → Int → List (Int × Int) → Int → List Int
  | b, off, [], l => if b ≤ l - off ∧ l - off < 52596000 then [l - off] else []
  | b, off, x :: r, l => (if b ≤ l - off ∧ l - off < x.1 then [l - off] else []) ++ instP x.1 x.2 r l
theorem instP_nil (b off l : Int) : instP b off [] l = if b ≤ l - off ∧ l - off < 52596000 then [l - off] else [] := rfl
theorem instP_cons (b off : Int) (x : Int × Int) (r : List (Int × Int)) (l : Int) : instP b off (x :: r) l = (if b ≤ l - off ∧ l - off < x.1 then [l - off] else []) ++ instP x.1 x.2 r l := rfl

theorem mem_instP : ∀ (sh : List (Int × Int)) (m b off l t : Int), Asc m sh → b ≤ m ∨ sh = [] → (t ∈ instP b off sh l ↔ b ≤ t ∧ t < 52596000 ∧ offAt off sh t = l - t)
  | [], _, b, off, l, t, _, _ => by
    rw [instP_nil]
    show _ ↔ b ≤ t ∧ t < 52596000 ∧ off = l - t
    split
    · rw [List.mem_singleton]; omega
    · constructor
      · intro h; cases h
      · omega
  | x :: r, m, b, off, l, t, ⟨h1, h0, h3, _, _, h2⟩, hb => by
    have hb : b ≤ m := by rcases hb with h | h; exact h; cases h
    rw [instP_cons, List.mem_append, mem_instP r (x.1 + 2880) x.1 x.2 l t h2 (.inl (by omega)), offAt_cons]
    by_cases ht : x.1 ≤ t
    · rw [if_pos ht]
      constructor
      · rintro (h | h)
        · split at h
          · rw [List.mem_singleton] at h; omega
          · cases h
        · exact ⟨by omega, h.2⟩
      · intro h; exact .inr ⟨ht, h.2⟩
    · rw [if_neg ht, offAt_before r _ off t h2 (by omega)]
      constructor
      · rintro (h | h)
        · split at h
          · rw [List.mem_singleton] at h; omega
          · cases h
        · omega
      · rintro ⟨g1, g2, g3⟩; left
        rw [if_pos (by omega), List.mem_singleton]; omega

theorem inst_far (off : Int) (sh : List (Int × Int)) (l : Int) (h : Asc 0 sh) (h1 : -840 ≤ off) (h2 : off ≤ 840) (hl : l < -840 ∨ 52596840 ≤ l) : instP 0 off sh l = [] := by
  cases hh : instP 0 off sh l with
  | nil => rfl
  | cons t r =>
    have : t ∈ instP 0 off sh l := by rw [hh]; simp
    rw [mem_instP sh 0 0 off l t h (.inl (Int.le_refl _))] at this
    have := offAt_near sh 0 off t h h1 h2
    omega

/-- What a local time in a gap means: the instant, and the error. -/
def gapP : Int → List (Int × Int) → Int → Int × Int
  | _, [], _ => (0, 3)
  | off, x :: r, l => if x.1 + off ≤ l ∧ l < x.1 + x.2 then (if instB (l - off) = true then (l - off, 0) else (0, 3)) else gapP x.2 r l
/-- What a local time means: the instant, and the error. -/
def resV (code : Bool) (off : Int) (sh : List (Int × Int)) (l : Int) : Int × Int :=
  if zoneV code off sh ≠ 0 then (0, zoneV code off sh) else match instP 0 off sh l with
    | t :: _ => (t, 0)
    | [] => gapP off sh l

theorem zoneV_zero (code : Bool) (off : Int) (sh : List (Int × Int)) (h : zoneV code off sh = 0) : code = true ∧ -840 ≤ off ∧ off ≤ 840 ∧ (sh.length : Int) ≤ 64 ∧ shV none off sh = 0 ∧ Asc 0 sh := by
  unfold zoneV at h
  split at h
  · cases h
  · rename_i g1
    split at h
    · cases h
    · rename_i g2
      split at h
      · cases h
      · rename_i g3
        simp only [Bool.not_eq_false, nearB_iff] at g2
        exact ⟨by simpa using g1, g2.1, g2.2, by omega, h, asc_of sh none off 0 h (fun q hq => by cases hq) (fun _ => Int.le_refl _)⟩

theorem asc_get : ∀ (sh : List (Int × Int)) (m : Int) (k : Nat) (x : Int × Int), Asc m sh → sh[k]? = some x → 0 ≤ x.1 ∧ x.1 < 52596000 ∧ -840 ≤ x.2 ∧ x.2 ≤ 840
  | [], _, _, _, _, h => by simp at h
  | y :: r, _, 0, x, ⟨_, h2, h3, h4, h5, _⟩, h => by simp at h; subst h; exact ⟨h2, h3, h4, h5⟩
  | y :: r, _, k + 1, x, ⟨_, _, _, _, _, h6⟩, h => asc_get r _ k x h6 (by simpa using h)
/-- The instants of a local time: none in a zone that is not valid. -/
def instV (code : Bool) (off : Int) (sh : List (Int × Int)) (l : Int) : List Int := if zoneV code off sh ≠ 0 then [] else instP 0 off sh l
theorem resV_bad (code : Bool) (off : Int) (sh : List (Int × Int)) (l : Int) (h : zoneV code off sh ≠ 0) : resV code off sh l = (0, zoneV code off sh) := if_pos h
theorem resV_hit (code : Bool) (off : Int) (sh : List (Int × Int)) (l t : Int) (r : List Int) (h : zoneV code off sh = 0) (h2 : instP 0 off sh l = t :: r) : resV code off sh l = (t, 0) := by
  unfold resV; rw [if_neg (by simp [h]), h2]
theorem resV_gap (code : Bool) (off : Int) (sh : List (Int × Int)) (l : Int) (h : zoneV code off sh = 0) (h2 : instP 0 off sh l = []) : resV code off sh l = gapP off sh l := by
  unfold resV; rw [if_neg (by simp [h]), h2]
theorem gapP_at (v : Int) (sh : List (Int × Int)) (l of : Int) (k : Nat) (x : Int × Int) (hx : sh[k]? = some x) (h : gapP v sh l = gapP of (sh.drop k) l) :
    gapP v sh l = if x.1 + of ≤ l ∧ l < x.1 + x.2 then (if instB (l - of) = true then (l - of, 0) else (0, 3)) else gapP x.2 (sh.drop (k + 1)) l := by
  obtain ⟨g1, g2⟩ := List.getElem?_eq_some_iff.1 hx
  rw [h, List.drop_eq_getElem_cons g1, g2]; rfl
end Tt
namespace Tt
open Go.Sort

/-- Shifts that change the offset by three hours at most. -/
def StepB : Int → List (Int × Int) → Prop
  | _, [] => True
  | off, x :: r => x.2 ≤ off + 180 ∧ off - 180 ≤ x.2 ∧ StepB x.2 r
theorem step_of : ∀ (sh : List (Int × Int)) (p : Option Int) (off : Int), shV p off sh = 0 → StepB off sh
  | [], _, _, _ => trivial
  | x :: r, p, off, h => by
    rw [shV] at h
    split at h
    · cases h
    · split at h
      · cases h
      · split at h
        · cases h
        · rename_i g
          exact ⟨by omega, by omega, step_of r _ _ h⟩
theorem off_slow : ∀ (sh : List (Int × Int)) (m off t : Int), Asc m sh → StepB off sh → m - 2880 ≤ t → 16 * (off - offAt off sh t) ≤ t - (m - 2880)
  | [], _, off, _, _, _, h => by show 16 * (off - off) ≤ _; omega
  | x :: r, m, off, t, ⟨h1, _, _, _, _, h2⟩, ⟨s1, s2, s3⟩, h => by
    rw [offAt_cons]
    by_cases hx : x.1 ≤ t
    · rw [if_pos hx]
      have := off_slow r (x.1 + 2880) x.2 t h2 s3 (by omega)
      omega
    · rw [if_neg hx, offAt_before r _ off t h2 (by omega)]
      omega
theorem off_two : ∀ (sh : List (Int × Int)) (m off t1 t2 : Int), Asc m sh → StepB off sh → t2 ≤ t1 → 16 * (offAt off sh t2 - offAt off sh t1) ≤ 2880 + (t1 - t2)
  | [], _, off, _, _, _, _, h => by show 16 * (off - off) ≤ _; omega
  | x :: r, m, off, t1, t2, ⟨_, _, _, _, _, h2⟩, ⟨s1, s2, s3⟩, h => by
    rw [offAt_cons, offAt_cons]
    by_cases k2 : x.1 ≤ t2
    · rw [if_pos k2, if_pos (by omega)]
      exact off_two r _ x.2 t1 t2 h2 s3 h
    · rw [if_neg k2, offAt_before r _ off t2 h2 (by omega)]
      by_cases k1 : x.1 ≤ t1
      · rw [if_pos k1]
        have := off_slow r (x.1 + 2880) x.2 t1 h2 s3 (by omega)
        omega
      · rw [if_neg k1, offAt_before r _ off t1 h2 (by omega)]
        omega
theorem gap_local : ∀ (sh : List (Int × Int)) (m off l t : Int), Asc m sh → StepB off sh → gapP off sh l = (t, 0) → m ≤ t ∧ l ≤ t + offAt off sh t ∧ t + offAt off sh t ≤ l + 180
  | [], _, _, _, _, _, _, h => by simp [gapP] at h
  | x :: r, m, off, l, t, ⟨h1, _, _, _, _, h2⟩, ⟨s1, s2, s3⟩, h => by
    rw [offAt_cons]
    change (if x.1 + off ≤ l ∧ l < x.1 + x.2 then (if instB (l - off) = true then (l - off, (0 : Int)) else (0, 3)) else gapP x.2 r l) = _ at h
    by_cases hm : x.1 + off ≤ l ∧ l < x.1 + x.2
    · rw [if_pos hm] at h
      split at h
      · have h : l - off = t := by simpa using h
        rw [if_pos (by omega), offAt_before r _ x.2 t h2 (by omega)]
        omega
      · simp at h
    · rw [if_neg hm] at h
      have := gap_local r (x.1 + 2880) x.2 l t h2 s3 h
      rw [if_pos (by omega)]
      omega
/-- What a resolved local time shows. -/
theorem res_local (code : Bool) (off : Int) (sh : List (Int × Int)) (l t : Int) (h : zoneV code off sh = 0) (hr : resV code off sh l = (t, 0)) : l ≤ t + offAt off sh t ∧ t + offAt off sh t ≤ l + 180 := by
  obtain ⟨_, _, _, _, hs, ha⟩ := zoneV_zero code off sh h
  cases hh : instP 0 off sh l with
  | nil =>
    rw [resV_gap code off sh l h hh] at hr
    exact (gap_local sh 0 off l t ha (step_of sh none off hs) hr).2
  | cons u r =>
    rw [resV_hit code off sh l u r h hh] at hr
    have hu : u = t := by simpa using hr
    have hm := (mem_instP sh 0 0 off l t ha (.inl (Int.le_refl _))).1 (by rw [hh, hu]; simp)
    omega
/-- A day later begins later. -/
theorem res_mono (code : Bool) (off : Int) (sh : List (Int × Int)) (l1 l2 t1 t2 : Int) (h : zoneV code off sh = 0) (h1 : resV code off sh l1 = (t1, 0)) (h2 : resV code off sh l2 = (t2, 0)) (hl : l1 + 1440 ≤ l2) : t1 < t2 := by
  obtain ⟨_, _, _, _, hs, ha⟩ := zoneV_zero code off sh h
  have a1 := res_local code off sh l1 t1 h h1; have a2 := res_local code off sh l2 t2 h h2; apply Decidable.byContradiction
  intro hc; have := off_two sh 0 off t1 t2 ha (step_of sh none off hs) (by omega)
  omega

/-- An entry of an agenda: the instant, the minutes, the name. -/
structure Ent where
  inst : Int
  mins : Int
  uid : ByteArray
  deriving DecidableEq
instance : Inhabited Ent := ⟨⟨0, 0, ⟨#[]⟩⟩⟩
/-- The order of entries: by instant, then by name. -/
def entLt (a b : Ent) : Bool := if a.inst = b.inst then Go.Op.bytesLess a.uid.toList b.uid.toList else decide (a.inst < b.inst)
theorem entLt_iff (a b : Ent) : entLt a b = true ↔ a.inst < b.inst ∨ (a.inst = b.inst ∧ a.uid.toList < b.uid.toList) := by
  unfold entLt
  split
  · rename_i h; rw [Go.Proofs.bytesLess_eq, decide_eq_true_iff]; simp [h]
  · rename_i h; rw [decide_eq_true_iff]; simp [h]
theorem entLt_not (a b : Ent) : entLt a b = false ↔ b.inst < a.inst ∨ (a.inst = b.inst ∧ b.uid.toList ≤ a.uid.toList) := by
  rw [← Bool.not_eq_true, entLt_iff]; constructor
  · intro h; by_cases e : a.inst = b.inst
    · exact .inr ⟨e, List.not_lt.1 (fun k => h (.inr ⟨e, k⟩))⟩
    · exact .inl (by
        have : ¬ a.inst < b.inst := fun k => h (.inl k)
        omega)
  · rintro (h | ⟨h, k⟩) (h2 | ⟨h2, k2⟩)
    · omega
    · omega
    · omega
    · exact List.not_lt.2 k k2
theorem swo_ent : SWO entLt where
  irrefl := fun x => by rw [entLt_not]; exact .inr ⟨rfl, List.le_refl _⟩
  trans := fun x y z h1 h2 => by
    rw [entLt_iff] at h1 h2 ⊢
    rcases h1 with h1 | ⟨h1, k1⟩ <;> rcases h2 with h2 | ⟨h2, k2⟩
    · left; omega
    · left; omega
    · left; omega
    · right; exact ⟨by omega, List.lt_trans k1 k2⟩
  ntrans := fun x y z h1 h2 => by
    rw [entLt_not] at h1 h2 ⊢
    rcases h1 with h1 | ⟨h1, k1⟩ <;> rcases h2 with h2 | ⟨h2, k2⟩
    · left; omega
    · left; omega
    · left; omega
    · right; exact ⟨by omega, List.le_trans k2 k1⟩
/-- Two entries that differ in their time or their name. -/
def Apart (a b : Ent) : Prop := ¬ (a.inst = b.inst ∧ a.uid = b.uid)
theorem Apart.symm {a b : Ent} (h : Apart a b) : Apart b a := fun k => h ⟨k.1.symm, k.2.symm⟩
theorem lt_of_apart {a b : Ent} (h : Apart a b) (h2 : entLt b a = false) : entLt a b = true := by
  rw [entLt_not] at h2
  rw [entLt_iff]
  rcases h2 with h2 | ⟨h2, k⟩
  · exact .inl h2
  · right
    refine ⟨h2.symm, ?_⟩
    apply Decidable.byContradiction
    intro hc; have e : a.uid.toList = b.uid.toList := List.le_antisymm k (List.not_lt.1 hc)
    exact h ⟨h2.symm, by
      rw [Go.Lib.toList_data, Go.Lib.toList_data] at e
      exact ByteArray.ext (Array.toList_inj.mp e)⟩
/-- Strictly ascending. -/
def AscE (l : List Ent) : Prop := l.Pairwise (fun a b => entLt a b = true)
theorem asc_unique : ∀ {l m : List Ent}, AscE l → AscE m → l.Perm m → l = m
  | [], m, _, _, h => (List.nil_perm.1 h).symm
  | a :: l, [], _, _, h => by have := h.length_eq; simp at this
  | a :: l, b :: m, h1, h2, h => by
    obtain ⟨a1, a2⟩ := List.pairwise_cons.1 h1
    obtain ⟨b1, b2⟩ := List.pairwise_cons.1 h2
    have e : a = b := by
      have m1 : a ∈ b :: m := h.mem_iff.1 (by simp)
      have m2 : b ∈ a :: l := h.mem_iff.2 (by simp)
      rcases List.mem_cons.1 m1 with e | e
      · exact e
      · rcases List.mem_cons.1 m2 with e2 | e2
        · exact e2.symm
        · have x := swo_ent.trans _ _ _ (a1 b e2) (b1 a e)
          rw [swo_ent.irrefl] at x; cases x
    subst e; rw [asc_unique a2 b2 ((List.perm_cons a).1 h)]
/-- What sorting gives: strictly ascending where the entries are apart. -/
theorem sorted_asc (d : Array Ent) (hs : SortedIn entLt 0 d.size d) (ha : d.toList.Pairwise Apart) : AscE d.toList := by
  unfold AscE
  rw [List.pairwise_iff_getElem] at ha ⊢
  intro i j hi hj hij; have h := hs i j (Nat.zero_le _) hij (by simpa using hj)
  have hi' : i < d.size := by simpa using hi
  have hj' : j < d.size := by simpa using hj
  rw [getElem!_pos d j hj', getElem!_pos d i hi'] at h
  exact lt_of_apart (by simpa using ha i j hi hj hij) (by simpa using h)
/-- The entries of an event (its minutes, its name, its instants) in a time. -/
def pick (lo hi m : Int) (u : ByteArray) (l : List Int) : List Ent := (l.filter (fun t => decide (lo ≤ t) && decide (t < hi))).map (fun t => ⟨t, m, u⟩)
/-- Those of events. -/
def picks (lo hi : Int) (es : List (Int × ByteArray × List Int)) : List Ent := es.flatMap fun e => pick lo hi e.1 e.2.1 e.2.2
theorem pick_mem {lo hi m : Int} {u : ByteArray} {l : List Int} {x : Ent} (h : x ∈ pick lo hi m u l) : lo ≤ x.inst ∧ x.inst < hi ∧ x.uid = u ∧ x.inst ∈ l := by
  unfold pick at h
  obtain ⟨t, ht, rfl⟩ := List.mem_map.1 h
  obtain ⟨h1, h2⟩ := List.mem_filter.1 ht
  simp only [Bool.and_eq_true, decide_eq_true_iff] at h2
  exact ⟨h2.1, h2.2, rfl, h1⟩
theorem picks_mem {lo hi : Int} {es : List (Int × ByteArray × List Int)} {x : Ent} (h : x ∈ picks lo hi es) : lo ≤ x.inst ∧ x.inst < hi ∧ ∃ e ∈ es, x.uid = e.2.1 := by
  obtain ⟨e, he, hx⟩ := List.mem_flatMap.1 h
  have := pick_mem hx
  exact ⟨this.1, this.2.1, e, he, this.2.2.1⟩
theorem pick_parts (lo mid hi m : Int) (u : ByteArray) (h1 : lo ≤ mid) (h2 : mid ≤ hi) : ∀ l : List Int, (pick lo hi m u l).Perm (pick lo mid m u l ++ pick mid hi m u l)
  | [] => by simp [pick]
  | t :: l => by
    have ih := pick_parts lo mid hi m u h1 h2 l; have e : ∀ a b, pick a b m u (t :: l) = (if a ≤ t ∧ t < b then [⟨t, m, u⟩] else []) ++ pick a b m u l := fun a b => by
      unfold pick
      by_cases k : a ≤ t ∧ t < b
      · rw [if_pos k, List.filter_cons_of_pos (by simp [k])]; rfl
      · rw [if_neg k, List.filter_cons_of_neg (by simpa using k)]; rfl
    rw [e, e, e]
    by_cases ka : lo ≤ t ∧ t < mid
    · rw [if_pos ka, if_pos (show lo ≤ t ∧ t < hi by omega), if_neg (show ¬ (mid ≤ t ∧ t < hi) by omega)]
      simpa using ih
    · rw [if_neg ka]
      by_cases kb : mid ≤ t ∧ t < hi
      · rw [if_pos kb, if_pos (show lo ≤ t ∧ t < hi by omega)]
        simp only [List.nil_append, List.singleton_append]
        exact (List.Perm.cons _ ih).trans List.perm_middle.symm
      · rw [if_neg kb, if_neg (show ¬ (lo ≤ t ∧ t < hi) by omega)]
        simpa using ih
theorem picks_parts (lo mid hi : Int) (h1 : lo ≤ mid) (h2 : mid ≤ hi) : ∀ es : List (Int × ByteArray × List Int), (picks lo hi es).Perm (picks lo mid es ++ picks mid hi es)
  | [] => by simp [picks]
  | e :: es => by
    have ih := picks_parts lo mid hi h1 h2 es; have c : ∀ a b, picks a b (e :: es) = pick a b e.1 e.2.1 e.2.2 ++ picks a b es := fun a b => List.flatMap_cons
    rw [c, c, c]
    refine ((pick_parts lo mid hi e.1 e.2.1 h1 h2 e.2.2).append ih).trans ?_
    rw [List.append_assoc, List.append_assoc]
    refine List.Perm.append_left _ ?_
    rw [← List.append_assoc, ← List.append_assoc]; exact List.Perm.append_right _ List.perm_append_comm
theorem picks_apart (lo hi : Int) : ∀ es : List (Int × ByteArray × List Int), (∀ e ∈ es, e.2.2.Pairwise (· < ·)) → es.Pairwise (fun a b => a.2.1 ≠ b.2.1) → (picks lo hi es).Pairwise Apart
  | [], _, _ => List.Pairwise.nil
  | e :: es, ha, hu => by
    obtain ⟨u1, u2⟩ := List.pairwise_cons.1 hu
    rw [show picks lo hi (e :: es) = pick lo hi e.1 e.2.1 e.2.2 ++ picks lo hi es from List.flatMap_cons, List.pairwise_append]
    refine ⟨?_, picks_apart lo hi es (fun x hx => ha x (List.mem_cons_of_mem _ hx)) u2, ?_⟩
    · unfold pick
      rw [List.pairwise_map]
      exact ((ha e (by simp)).filter _).imp (fun h k => by have := k.1; simp only at this; omega)
    · intro a h1 b h2 k; obtain ⟨_, _, y, hy, hb⟩ := picks_mem h2
      exact u1 y hy (by rw [← hb, ← (pick_mem h1).2.2.1, k.2])
/-- The law of agendas: an interval that is divided has the entries of its parts. -/
theorem agenda_parts (lo mid hi : Int) (es : List (Int × ByteArray × List Int)) (h1 : lo ≤ mid) (h2 : mid ≤ hi) (ha : ∀ e ∈ es, e.2.2.Pairwise (· < ·)) (hu : es.Pairwise (fun a b => a.2.1 ≠ b.2.1))
    (A B C : List Ent) (pa : (picks lo hi es).Perm A) (pb : (picks lo mid es).Perm B) (pc : (picks mid hi es).Perm C) (sa : SortedIn entLt 0 A.length A.toArray) (sb : SortedIn entLt 0 B.length B.toArray) (sc : SortedIn entLt 0 C.length C.toArray) :
    A = B ++ C ∧ AscE A := by
  have ap : ∀ {l m : List Ent}, l.Perm m → l.Pairwise Apart → m.Pairwise Apart := fun h k => h.pairwise k (fun h => Apart.symm h)
  have aA : AscE A := sorted_asc A.toArray sa (ap pa (picks_apart lo hi es ha hu))
  have aB : AscE B := sorted_asc B.toArray sb (ap pb (picks_apart lo mid es ha hu))
  have aC : AscE C := sorted_asc C.toArray sc (ap pc (picks_apart mid hi es ha hu))
  refine ⟨asc_unique aA ?_ (pa.symm.trans ((picks_parts lo mid hi h1 h2 es).trans (pb.append pc))), aA⟩
  refine List.pairwise_append.2 ⟨aB, aC, fun b hb c hc => ?_⟩
  have k1 := picks_mem (pb.mem_iff.2 hb)
  have k2 := picks_mem (pc.mem_iff.2 hc)
  rw [entLt_iff]
  left; omega
end Tt
