/- The generators' dice: contracts of Mod, Next, One: an oracle that keeps the dice in memory. Plain facts on series of days: which are valid, and what their days are. No program in sight. Condition: none. -/
import Derived.Test.YtageielcdebjlaaGreatDoorProg
import Derived.WalkKit
import Derived.Lib.Hide
import Derived.Deep.QuietTactic
import Derived.BigQuiet
import Derived.Lib.Split
namespace Go.Proofs.YtageielcdebjlaaGreatDoor
open Go.RowKit

/-- Go's made.Mod. -/
def modI (n m : Int) : Int := if m < 1 then 0 else n % m

theorem tmod_neg_lt (n m : Int) (hm : 1 ≤ m) : -m < n.tmod m ∧ n.tmod m < m := by
  have h1 := Int.lt_tmod_of_pos n (show 0 < m by omega)
  have h2 := Int.tmod_lt_of_pos n (show 0 < m by omega)
  exact ⟨h1, h2⟩

theorem modI_of_tmod (n m : Int) (hm : 1 ≤ m) : modI n m = if n.tmod m < 0 then n.tmod m + m else n.tmod m := by
  unfold modI
  rw [if_neg (by omega)]
  have h := tmod_neg_lt n m hm; have e : n % m = (n.tmod m) % m := by
    have := Int.tmod_add_mul_tdiv n m
    conv => lhs; rw [← this]
    rw [Int.add_mul_emod_self_left]
  rw [e]
  split
  · rw [← Int.add_emod_right]; exact Int.emod_eq_of_lt (by omega) (by omega)
  · exact Int.emod_eq_of_lt (by omega) (by omega)

theorem ret_int {k : IntKind} {a b : Int} (h : a = b) : Ending.returned (.int k a) = .returned (.int k b) := by rw [h]

theorem addr_add_block (a : Addr) (i : Nat) : (a.add i).block = a.block := by unfold Addr.add; split <;> rfl

set_option maxHeartbeats 400000 in
theorem mod_any (n m : Int) (w : World) (hm : m ≤ 9223372036854775807) :
    Calls Tryz.prog 31 #[.int .i64 n, .int .i64 m] w fun e w' => e = .returned (.int .i64 (modI n m)) ∧ w' = w := by
  by_cases h : m < 1
  · go_enter Tryz.func31, Tryz.ntmps31
    go_wp2
    go_ret; exact ⟨by simp [modI, h], rfl⟩
  · have hb := tmod_neg_lt n m (by omega)
    have H := Lib.hid (modI_of_tmod n m (by omega))
    by_cases h2 : n.tmod m < 0
    · go_enter Tryz.func31, Tryz.ntmps31
      go_wp2
      go_ret; exact ⟨ret_int (by rw [H.out, if_pos h2]), rfl⟩
    · go_enter Tryz.func31, Tryz.ntmps31
      go_wp2
      go_ret; exact ⟨ret_int (by rw [H.out, if_neg (by omega)]), rfl⟩

theorem modI_lo (n m : Int) : 0 ≤ modI n m := by
  unfold modI; split
  · omega
  · exact Int.emod_nonneg _ (by omega)
theorem modI_hi (n m : Int) (h : 1 ≤ m) : modI n m < m := by
  unfold modI; rw [if_neg (by omega)]; exact Int.emod_lt_of_pos _ (by omega)
theorem modI_le (n m k : Int) (h : m ≤ k) (hk : 0 ≤ k) : modI n m ≤ k := by
  by_cases h1 : 1 ≤ m
  · have := modI_hi n m h1; omega
  · unfold modI; rw [if_pos (by omega)]; exact hk

/-- The dice in block b: the list of numbers, and how many are used. -/
structure DiceAt (b : Nat) (w : World) (ao : Option Addr) (len cap k : Nat) : Prop where
  heap : w.heap[b]? = some (.cells #[.slice ao len cap, .int .i64 k] 124 (0, 0))
  used : k ≤ len
  few : len ≤ 400
  cell : ∀ i, i < len → ∃ a n, ao = some a ∧ a.block < b ∧ w.cell? (a.add i) = some (.int .i64 n) ∧ -9223372036854775808 ≤ n ∧ n ≤ 9223372036854775807

def Dice (b : Nat) (w : World) : Prop := ∃ ao len cap k, DiceAt b w ao len cap k

theorem Dice.lt {b : Nat} {w : World} (h : Dice b w) : b < w.heap.size := by
  obtain ⟨ao, len, cap, k, h⟩ := h; exact (Array.getElem?_eq_some_iff.1 h.heap).1

/-- What is behind a call that may have written block b alone, and made new blocks. -/
theorem Dice.kept {b : Nat} {w w' : World} {B : Nat} (h : Dice b w) (hb : b < B) (hw : Below B w w') : Dice b w' := by
  obtain ⟨ao, len, cap, k, h⟩ := h; refine ⟨ao, len, cap, k, ⟨(hw.block b hb).trans h.heap, h.used, h.few, fun i hi => ?_⟩⟩
  obtain ⟨a, n, ha, hlt, hc, hn⟩ := h.cell i hi
  exact ⟨a, n, ha, hlt, (hw.cell (p := a.add i) (by rw [addr_add_block]; omega)).trans hc, hn⟩

/-- The world behind a call of the dice: block b alone is another. -/
def Only (b : Nat) (w w' : World) : Prop := w'.os = w.os ∧ w'.tape = w.tape ∧ w'.output = w.output ∧ w'.heap.size = w.heap.size ∧ ∀ k, k ≠ b → w'.heap[k]? = w.heap[k]?

theorem Only.refl (b : Nat) (w : World) : Only b w w := ⟨rfl, rfl, rfl, rfl, fun _ _ => rfl⟩
theorem Only.trans {b : Nat} {w1 w2 w3 : World} (h : Only b w1 w2) (k : Only b w2 w3) : Only b w1 w3 :=
  ⟨k.1.trans h.1, k.2.1.trans h.2.1, k.2.2.1.trans h.2.2.1, k.2.2.2.1.trans h.2.2.2.1, fun i hi => (k.2.2.2.2 i hi).trans (h.2.2.2.2 i hi)⟩
theorem Only.below {b B : Nat} {w w' : World} (h : Only b w w') (hB : B ≤ b) : Below B w w' :=
  ⟨h.1, h.2.1, h.2.2.1, by rw [h.2.2.2.1]; exact Nat.le_refl _, fun k hk => h.2.2.2.2 k (by omega)⟩

set_option maxHeartbeats 1000000 in
theorem next_any (b : Nat) (n : Int) (w : World) (hd : Dice b w) (hn : -9223372036854775808 ≤ n) (hn2 : n ≤ 9223372036854775807) :
    Calls Tryz.prog 21 #[.pointer (some ⟨b, 0, none⟩), .int .i64 n] w fun e w' => ∃ v : Int, e = .returned (.int .i64 v) ∧ 0 ≤ v ∧ (1 ≤ n → v < n) ∧ v ≤ 9223372036854775807 ∧ Dice b w' ∧ Only b w w' := by
  obtain ⟨ao, len, cap, k, h⟩ := hd; have c0 : w.cell? ⟨b, 0, none⟩ = some (.slice ao len cap) := by simp [World.cell?, h.heap]
  have c1 : w.cell? ⟨b, 1, none⟩ = some (.int .i64 (k : Int)) := by simp [World.cell?, h.heap]
  have f1 : w.frozen? ⟨b, 1, none⟩ = false := by simp [World.frozen?, h.heap]
  have hu := h.used; have hf := h.few; by_cases hk : len ≤ k
  · go_enter Tryz.func21, Tryz.ntmps21
    go_wp2_with fail
    go_quiet (fail)
    go_wp2_with fail
    go_ret; exact ⟨0, rfl, by omega, fun h => by omega, by omega, ⟨ao, len, cap, k, ⟨by simpa using h.heap, h.used, h.few, h.cell⟩⟩, ⟨rfl, rfl, rfl, rfl, fun _ _ => rfl⟩⟩
  · obtain ⟨a, x, rfl, hlt, hc, hx⟩ := h.cell k (by omega)
    have hb0 : ¬ a.block = b := by omega
    have hne : ∀ i, (⟨b, 1, none⟩ : Addr) ≠ a.add i := fun i e => hb0 (by rw [← addr_add_block a i, ← e])
    have hc' : (w.setCell ⟨b, 1, none⟩ (.int .i64 (k + 1))).cell? (a.add k) = some (.int .i64 x) := by
      rw [World.cell?_setCell_other _ _ _ _ (hne k)]; exact hc
    go_enter Tryz.func21, Tryz.ntmps21
    go_wp2_with fail
    go_quiet (fail)
    go_wp2_with fail
    go_quiet ((go_at_call 31; exact Calls.quiet_of_same (mod_any _ _ _ (by omega))))
    go_wp2_with fail
    go_ret; refine ⟨modI x n, rfl, modI_lo _ _, modI_hi _ _, ?_, ?_, ?_⟩
    · exact modI_le x n _ (by omega) (by omega)
    · refine ⟨some a, len, cap, k + 1, ⟨?_, by omega, hf, ?_⟩⟩
      · simp [World.setCell, Array.getElem?_modify, h.heap]
      · intro i hi; obtain ⟨a', n', e, h1, h2, h3⟩ := h.cell i hi
        cases e
        refine ⟨a, n', rfl, h1, ?_, h3⟩
        simp only [World.cell?_drewN]
        rw [World.cell?_setCell_other _ _ _ _ (hne i)]; exact h2
    · refine ⟨rfl, rfl, rfl, by simp [World.setCell], fun j hj => ?_⟩
      simp [World.setCell, Array.getElem?_modify, Ne.symm hj]

set_option maxHeartbeats 400000 in
theorem one_any (b : Nat) (n : Int) (w : World) (hd : Dice b w) (hn : -9223372036854775807 ≤ n) (hn2 : n ≤ 9223372036854775807) :
    Calls Tryz.prog 22 #[.pointer (some ⟨b, 0, none⟩), .int .i64 n] w fun e w' => ∃ v : Bool, e = .returned (.bool v) ∧ Dice b w' ∧ Only b w w' := by
  go_enter Tryz.func22, Tryz.ntmps22
  go_wp2_with fail
  refine (next_any b n _ hd (by omega) hn2).mono ?_
  rintro e w1 ⟨v, rfl, h0, h1, h2, h3, h4⟩; go_wp2_with fail
  go_ret; exact ⟨_, rfl, h3, h4⟩

#print axioms one_any
end Go.Proofs.YtageielcdebjlaaGreatDoor
namespace Tt

/-- A series: what api.Series holds. -/
structure Ser where
  first : Int
  last : Int
  every : Int
  wd : Int
  ex : List Int
  xt : List Int
  deriving DecidableEq

def isD (n : Int) : Bool := decide (0 ≤ n) && decide (n ≤ 36524)
def wk (d : Int) : Int := (d + 5) % 7
theorem wk_bd (d : Int) : 0 ≤ wk d ∧ wk d ≤ 6 := by unfold wk; omega
theorem isD_iff (n : Int) : isD n = true ↔ 0 ≤ n ∧ n ≤ 36524 := by unfold isD; simp
/-- Does the week of a day count? -/
def cnt (first every d : Int) : Bool := decide (((d - wk d) - (first - wk first)) / 7 % every = 0)
def bit (m k : Int) : Bool := decide (m / 2 ^ k.toNat % 2 = 1)
theorem monday_le (a b : Int) (h : a ≤ b) : a - wk a ≤ b - wk b := by unfold wk; omega

/-- A regular day of a series. -/
def regB (s : Ser) (d : Int) : Bool := decide (s.first ≤ d) && decide (d ≤ s.last) && bit s.wd (wk d) && cnt s.first s.every d

/-- Does a day not come behind the day before it? -/
def late : Option Int → Int → Bool
  | none, _ => false
  | some q, d => decide (d ≤ q)

/-- The first fault of an ascending list of days, behind the day p. -/
def listV (bad : Int) (ok : Int → Bool) : Option Int → List Int → Int
  | _, [] => 0
  | p, d :: r => if late p d = true then 63 else if ok d = true then listV bad ok (some d) r else bad

/-- A day that may stand among the extra ones. -/
def extB (s : Ser) (d : Int) : Bool := decide (s.first ≤ d) && decide (d ≤ s.last) && !regB s d

/-- The head of a series: its numbers. -/
def headV (s : Ser) : Int :=
  if (isD s.first && isD s.last) = false then 13
  else if s.last < s.first ∨ s.first + 140 < s.last then 3
  else if s.every < 1 ∨ 4 < s.every ∨ s.wd < 0 ∨ 127 < s.wd then 3
  else if 140 < (s.ex.length : Int) + s.xt.length then 2
  else 0

/-- The error of a series. -/
def serV (s : Ser) : Int :=
  if headV s ≠ 0 then headV s
  else if listV 12 (regB s) none s.ex ≠ 0 then listV 12 (regB s) none s.ex
  else listV 11 (extB s) none s.xt

structure Head (s : Ser) : Prop where
  f0 : 0 ≤ s.first
  f1 : s.first ≤ 36524
  l0 : 0 ≤ s.last
  l1 : s.last ≤ 36524
  fl : s.first ≤ s.last
  lf : s.last ≤ s.first + 140
  e0 : 1 ≤ s.every
  e1 : s.every ≤ 4
  w0 : 0 ≤ s.wd
  w1 : s.wd ≤ 127
  n : (s.ex.length : Int) + s.xt.length ≤ 140

theorem headV_zero (s : Ser) : headV s = 0 ↔ Head s := by
  unfold headV
  constructor
  · intro h; split at h
    · cases h
    · rename_i h1
      simp only [Bool.not_eq_false, Bool.and_eq_true, isD_iff] at h1
      split at h
      · cases h
      · split at h
        · cases h
        · split at h
          · cases h
          · exact ⟨by omega, by omega, by omega, by omega, by omega, by omega, by omega, by omega, by omega, by omega, by omega⟩
  · intro h; obtain ⟨a1, a2, a3, a4, a5, a6, a7, a8, a9, a10, a11⟩ := h
    rw [if_neg, if_neg (by omega), if_neg (by omega), if_neg (by omega)]
    simp only [Bool.not_eq_false, Bool.and_eq_true, isD_iff]; omega

/-- What stands ahead of place k. -/
def prevO (l : List Int) (k : Nat) : Option Int := if k = 0 then none else l[k - 1]?

theorem prevO_succ (l : List Int) (k : Nat) (d : Int) (h : l[k]? = some d) : prevO l (k + 1) = some d := by unfold prevO; simpa using h

/-- The faults from place k on. -/
def listF (bad : Int) (ok : Int → Bool) (l : List Int) (k : Nat) : Int := listV bad ok (prevO l k) (l.drop k)

theorem listF_end (bad : Int) (ok : Int → Bool) (l : List Int) (k : Nat) (h : l.length ≤ k) : listF bad ok l k = 0 := by
  unfold listF; rw [List.drop_eq_nil_of_le h]; unfold listV; rfl
theorem listF_order (bad : Int) (ok : Int → Bool) (l : List Int) (k : Nat) (d q : Int) (hd : l[k + 1]? = some d) (hq : l[k]? = some q) (h : d ≤ q) : listF bad ok l (k + 1) = 63 := by
  unfold listF
  obtain ⟨g1, g2⟩ := List.getElem?_eq_some_iff.1 hd
  rw [List.drop_eq_getElem_cons g1, g2, prevO_succ l k q hq, listV, if_pos (by simpa [late] using h)]
theorem listF_bad (bad : Int) (ok : Int → Bool) (l : List Int) (k : Nat) (d : Int) (hd : l[k]? = some d) (h : ∀ j q, k = j + 1 → l[j]? = some q → q < d) (ho : ok d = false) : listF bad ok l k = bad := by
  unfold listF
  obtain ⟨g1, g2⟩ := List.getElem?_eq_some_iff.1 hd
  rw [List.drop_eq_getElem_cons g1, g2, listV, if_neg, if_neg (by simp [ho])]
  cases k with
  | zero => simp [prevO, late]
  | succ j =>
    have hj : j < l.length := by omega
    rw [prevO_succ l j l[j] (List.getElem?_eq_getElem hj)]
    have := h j l[j] rfl (List.getElem?_eq_getElem hj)
    simp [late]; omega
theorem listF_step (bad : Int) (ok : Int → Bool) (l : List Int) (k : Nat) (d : Int) (hd : l[k]? = some d) (h : ∀ j q, k = j + 1 → l[j]? = some q → q < d) (ho : ok d = true) : listF bad ok l k = listF bad ok l (k + 1) := by
  unfold listF
  rw [prevO_succ l k d hd]
  obtain ⟨g1, g2⟩ := List.getElem?_eq_some_iff.1 hd
  rw [List.drop_eq_getElem_cons g1, g2, listV, if_neg, if_pos ho]
  cases k with
  | zero => simp [prevO, late]
  | succ j =>
    have hj : j < l.length := by omega
    rw [prevO_succ l j l[j] (List.getElem?_eq_getElem hj)]
    have := h j l[j] rfl (List.getElem?_eq_getElem hj)
    simp [late]; omega

/-- A list without fault ascends, and its days fit. -/
theorem listV_ok (bad : Int) (ok : Int → Bool) (hb : bad ≠ 0) : ∀ (l : List Int) (p : Option Int), listV bad ok p l = 0 → (∀ d ∈ l, ok d = true ∧ ∀ q, p = some q → q < d) ∧ l.Pairwise (· < ·)
  | [], _, _ => ⟨by simp, List.Pairwise.nil⟩
  | d :: r, p, h => by
    rw [listV] at h
    split at h
    · cases h
    · rename_i h1
      split at h
      · rename_i h2
        obtain ⟨a, b⟩ := listV_ok bad ok hb r (some d) h
        have hp : ∀ q, p = some q → q < d := by
          intro q hq; subst hq; simp [late] at h1; exact h1
        refine ⟨?_, List.pairwise_cons.2 ⟨fun x hx => (a x hx).2 d rfl, b⟩⟩
        intro x hx; rcases List.mem_cons.1 hx with rfl | hx
        · exact ⟨h2, hp⟩
        · refine ⟨(a x hx).1, fun q hq => ?_⟩
          have := hp q hq
          have := (a x hx).2 d rfl
          omega
      · exact absurd h hb

/-- The days from a on, n of them. -/
def daysFrom (a : Int) : Nat → List Int
  | 0 => []
  | n + 1 => a :: daysFrom (a + 1) n

def span (s : Ser) : List Int := daysFrom s.first (s.last - s.first + 1).toNat
def inB (s : Ser) (d : Int) : Bool := (regB s d && !decide (d ∈ s.ex)) || decide (d ∈ s.xt)
/-- The days of a series; none where it is not valid. -/
def serDays (s : Ser) : List Int := if serV s ≠ 0 then [] else (span s).filter (inB s)

theorem mem_daysFrom : ∀ (n : Nat) (a d : Int), d ∈ daysFrom a n ↔ a ≤ d ∧ d < a + n
  | 0, a, d => by simp [daysFrom]
  | n + 1, a, d => by rw [daysFrom, List.mem_cons, mem_daysFrom n]; omega
theorem daysFrom_sorted : ∀ (n : Nat) (a : Int), (daysFrom a n).Pairwise (· < ·)
  | 0, _ => List.Pairwise.nil
  | n + 1, a => by
    rw [daysFrom, List.pairwise_cons]
    exact ⟨fun d hd => by rw [mem_daysFrom] at hd; omega, daysFrom_sorted n _⟩
theorem daysFrom_length : ∀ (n : Nat) (a : Int), (daysFrom a n).length = n
  | 0, _ => rfl
  | n + 1, a => by rw [daysFrom, List.length_cons, daysFrom_length n]
theorem daysFrom_snoc : ∀ (n : Nat) (a : Int), daysFrom a (n + 1) = daysFrom a n ++ [a + n]
  | 0, a => by simp [daysFrom]
  | n + 1, a => by
    rw [daysFrom, daysFrom_snoc n (a + 1), daysFrom, List.cons_append]
    congr 3; omega

/-- Two ascending lists with the same members are one. -/
theorem sorted_ext : ∀ (a b : List Int), a.Pairwise (· < ·) → b.Pairwise (· < ·) → (∀ x, x ∈ a ↔ x ∈ b) → a = b
  | [], [], _, _, _ => rfl
  | [], y :: b, _, _, h => by have := (h y).2 (by simp); cases this
  | x :: a, [], _, _, h => by have := (h x).1 (by simp); cases this
  | x :: a, y :: b, ha, hb, h => by
    rw [List.pairwise_cons] at ha hb
    have hxy : x = y := by
      rcases List.mem_cons.1 ((h x).1 (by simp)) with e | e
      · exact e
      · rcases List.mem_cons.1 ((h y).2 (by simp)) with e2 | e2
        · exact e2.symm
        · have := hb.1 x e; have := ha.1 y e2; omega
    subst hxy; congr 1
    refine sorted_ext a b ha.2 hb.2 (fun z => ?_)
    constructor
    · intro hz; rcases List.mem_cons.1 ((h z).1 (by simp [hz])) with e | e
      · subst e; have := ha.1 z hz; omega
      · exact e
    · intro hz; rcases List.mem_cons.1 ((h z).2 (by simp [hz])) with e | e
      · subst e; have := hb.1 z hz; omega
      · exact e

theorem serV_zero (s : Ser) : serV s = 0 ↔ Head s ∧ listV 12 (regB s) none s.ex = 0 ∧ listV 11 (extB s) none s.xt = 0 := by
  unfold serV
  rw [← headV_zero]; constructor
  · intro h; split at h
    · contradiction
    · rename_i h1
      split at h
      · contradiction
      · rename_i h2
        exact ⟨by simpa using h1, by simpa using h2, h⟩
  · rintro ⟨h1, h2, h3⟩; rw [if_neg (by simp [h1]), if_neg (by simp [h2]), h3]

theorem serDays_sorted (s : Ser) : (serDays s).Pairwise (· < ·) := by
  unfold serDays
  split
  · exact List.Pairwise.nil
  · exact (daysFrom_sorted _ _).filter _

/-- What the program does: the extra days and the regular ones that are not excepted, sorted. -/
theorem serDays_of (s : Ser) (h : serV s = 0) (l : List Int) (hs : l.Pairwise (· ≤ ·)) (hp : l.Perm (s.xt ++ (span s).filter fun d => regB s d && !decide (d ∈ s.ex))) : l = serDays s := by
  obtain ⟨hh, h2, h3⟩ := (serV_zero s).1 h
  obtain ⟨e1, e2⟩ := listV_ok 11 (extB s) (by decide) s.xt none h3
  have hsp : (span s).Pairwise (· < ·) := daysFrom_sorted _ _
  have hnd : (s.xt ++ (span s).filter fun d => regB s d && !decide (d ∈ s.ex)).Nodup := by
    rw [List.nodup_append]
    refine ⟨e2.imp (fun h => by omega), (hsp.filter _).imp (fun h => by omega), ?_⟩
    intro a ha b hb e; subst e; have h4 := (e1 a ha).1
    have h5 := (List.mem_filter.1 hb).2
    unfold extB at h4
    simp at h4 h5
    rw [h4.2] at h5
    exact absurd h5.1 (by decide)
  have hnd2 : l.Nodup := hp.nodup_iff.2 hnd
  have hlt : l.Pairwise (· < ·) := by
    have := hs.and hnd2
    exact this.imp (fun h => by omega)
  have hm : ∀ x, x ∈ l ↔ x ∈ serDays s := by
    intro x; rw [hp.mem_iff, List.mem_append, List.mem_filter]
    unfold serDays
    rw [if_neg (by simp [h]), List.mem_filter]
    unfold inB
    constructor
    · rintro (h6 | ⟨h6, h7⟩)
      · refine ⟨?_, by simp [h6]⟩
        have h4 := (e1 x h6).1
        unfold extB at h4
        simp at h4
        unfold span
        rw [mem_daysFrom]; omega
      · exact ⟨h6, by rw [h7]; rfl⟩
    · rintro ⟨h6, h7⟩; rw [Bool.or_eq_true] at h7
      rcases h7 with h7 | h7
      · exact .inr ⟨h6, h7⟩
      · exact .inl (by simpa using h7)
  exact sorted_ext _ _ hlt (serDays_sorted s) hm
end Tt
namespace Tt
theorem serV_head (s : Ser) (h : headV s ≠ 0) : serV s = headV s := by unfold serV; rw [if_pos h]
theorem serV_ex (s : Ser) (h : Head s) (k : Nat) (x : Int) (h2 : listV 12 (regB s) none s.ex = listF 12 (regB s) s.ex k) (h3 : listF 12 (regB s) s.ex k = x) (hx : x ≠ 0) : serV s = x := by
  unfold serV
  rw [if_neg (by simp [(headV_zero s).2 h]), if_pos (by rw [h2, h3]; exact hx), h2, h3]
theorem serV_xt (s : Ser) (h : Head s) (k : Nat) (h1 : listV 12 (regB s) none s.ex = 0) (h2 : listV 11 (extB s) none s.xt = listF 11 (extB s) s.xt k) : serV s = listF 11 (extB s) s.xt k := by
  unfold serV
  rw [if_neg (by simp [(headV_zero s).2 h]), if_neg (by simp [h1]), h2]
end Tt
namespace Tt
theorem extB_out (s : Ser) (d : Int) (h : d < s.first ∨ s.last < d) : extB s d = false := by
  unfold extB
  rcases h with h | h
  · rw [decide_eq_false (by omega)]; rfl
  · rw [decide_eq_false (show ¬ d ≤ s.last by omega)]; simp
theorem extB_in (s : Ser) (d : Int) (h : ¬ (d < s.first ∨ s.last < d)) : extB s d = !regB s d := by
  unfold extB
  rw [decide_eq_true (by omega), decide_eq_true (by omega)]; rfl
end Tt
namespace Tt
/-- An ascending list of days that fit has no fault. -/
theorem listV_of (bad : Int) (ok : Int → Bool) : ∀ (l : List Int) (p : Option Int), (∀ q, p = some q → ∀ d ∈ l, q < d) → l.Pairwise (· < ·) → (∀ d ∈ l, ok d = true) → listV bad ok p l = 0
  | [], _, _, _, _ => by unfold listV; rfl
  | d :: r, p, hp, hs, ho => by
    rw [List.pairwise_cons] at hs
    rw [listV, if_neg, if_pos (ho d (by simp)), listV_of bad ok r (some d) (fun q hq x hx => by cases hq; exact hs.1 x hx) hs.2 (fun x hx => ho x (by simp [hx]))]
    cases p with
    | none => simp [late]
    | some q => have := hp q rfl d (by simp); simp [late]; omega
/-- A part of a series: ascending days behind the first one and ahead of d, all of a kind. -/
def Part (f l ev wd : Int) (z : Bool) (d : Int) (xs : List Int) : Prop := xs.Pairwise (· < ·) ∧ ∀ x ∈ xs, f ≤ x ∧ x ≤ l ∧ x < d ∧ regB ⟨f, l, ev, wd, [], []⟩ x = z
theorem Part.nil (f l ev wd : Int) (z : Bool) (d : Int) : Part f l ev wd z d [] := ⟨List.Pairwise.nil, fun x h => by cases h⟩
theorem Part.up {f l ev wd : Int} {z : Bool} {d d' : Int} {xs : List Int} (h : Part f l ev wd z d xs) (hd : d ≤ d') : Part f l ev wd z d' xs := ⟨h.1, fun x hx => by have := h.2 x hx; exact ⟨this.1, this.2.1, by omega, this.2.2.2⟩⟩
theorem Part.snoc {f l ev wd : Int} {z : Bool} {d : Int} {xs : List Int} (h : Part f l ev wd z d xs) (h0 : f ≤ d) (h1 : d ≤ l) (hr : regB ⟨f, l, ev, wd, [], []⟩ d = z) : Part f l ev wd z (d + 1) (xs ++ [d]) := by
  refine ⟨List.pairwise_append.2 ⟨h.1, List.pairwise_singleton _ _, fun x hx y hy => ?_⟩, fun x hx => ?_⟩
  · simp at hy; subst hy; exact (h.2 x hx).2.2.1
  · rcases List.mem_append.1 hx with hx | hx
    · have := h.2 x hx; exact ⟨this.1, this.2.1, by omega, this.2.2.2⟩
    · simp at hx; subst hx; exact ⟨h0, h1, by omega, hr⟩
theorem reg_of {s : Ser} {d : Int} (h0 : s.first ≤ d) (h1 : d ≤ s.last) : regB s d = (bit s.wd (wk d) && cnt s.first s.every d) := by
  unfold regB
  rw [decide_eq_true h0, decide_eq_true h1]; rfl
theorem cnt_of {f ev d M : Int} (hM : M = f - (f + 5) % 7) (_h : f ≤ d) : cnt f ev d = ((d - M) / 7 % ev == 0) := by
  unfold cnt wk
  rw [show ((d - (d + 5) % 7) - (f - (f + 5) % 7)) / 7 = (d - M) / 7 by omega]
  rfl
theorem parts_valid {s : Ser} (h0 : 0 ≤ s.first) (h1 : s.first ≤ 36000) (hl : s.first ≤ s.last) (hl2 : s.last ≤ s.first + 80) (e0 : 1 ≤ s.every) (e1 : s.every ≤ 4) (w0 : 0 ≤ s.wd) (w1 : s.wd ≤ 127) (hn : (s.ex.length : Int) + s.xt.length ≤ 140) {d : Int}
    (hx : Part s.first s.last s.every s.wd true d s.ex) (ht : Part s.first s.last s.every s.wd false d s.xt) : serV s = 0 := by
  refine (serV_zero s).2 ⟨⟨by omega, by omega, by omega, by omega, hl, by omega, e0, e1, w0, w1, hn⟩, listV_of _ _ _ _ (fun q hq => by cases hq) hx.1 (fun x h => (hx.2 x h).2.2.2), listV_of _ _ _ _ (fun q hq => by cases hq) ht.1 (fun x h => ?_)⟩
  have := ht.2 x h
  rw [extB_in s x (by omega), show regB s x = false from this.2.2.2]; rfl
/-- The regular days from the first one on, ahead of d: how many. -/
def upto (s : Ser) (d : Int) : Nat := ((daysFrom s.first (d - s.first).toNat).filter (regB s)).length
theorem upto_start (s : Ser) : upto s s.first = 0 := by unfold upto; rw [show (s.first - s.first).toNat = 0 by omega]; rfl
theorem upto_step (s : Ser) (d : Int) (h : s.first ≤ d) : upto s (d + 1) = upto s d + if regB s d = true then 1 else 0 := by
  unfold upto
  rw [show (d + 1 - s.first).toNat = (d - s.first).toNat + 1 by omega, daysFrom_snoc, List.filter_append, List.length_append, show s.first + (((d - s.first).toNat : Nat) : Int) = d by omega]
  by_cases hr : regB s d = true
  · rw [if_pos hr, List.filter_cons_of_pos hr]; rfl
  · rw [if_neg hr, List.filter_cons_of_neg hr]; rfl
theorem upto_le (s : Ser) (d : Int) : upto s d ≤ (d - s.first).toNat := by
  unfold upto
  exact Nat.le_trans (List.length_filter_le _ _) (by rw [daysFrom_length]; exact Nat.le_refl _)
/-- How many days a valid series has. -/
def manyV (s : Ser) : Int := (s.xt.length : Int) - s.ex.length + ((span s).filter (regB s)).length
theorem many_upto (s : Ser) (d : Int) (h : d = s.last + 1 ∨ d = s.first ∧ s.last < d) : manyV s = (s.xt.length : Int) - s.ex.length + upto s d := by
  unfold manyV upto span
  rw [show (s.last - s.first + 1).toNat = (d - s.first).toNat by omega]
theorem mem_span {s : Ser} {d : Int} (h0 : s.first ≤ d) (h1 : d ≤ s.last) : d ∈ span s := by unfold span; rw [mem_daysFrom]; omega
theorem reg_range {s : Ser} {d : Int} (h : regB s d = true) : s.first ≤ d ∧ d ≤ s.last := by
  unfold regB at h
  simp only [Bool.and_eq_true, decide_eq_true_eq] at h
  exact ⟨h.1.1.1, h.1.1.2⟩
theorem many_zero {s : Ser} (h : serV s = 0) (h0 : serDays s = []) : manyV s = 0 := by
  obtain ⟨hh, h2, h3⟩ := (serV_zero s).1 h
  unfold serDays at h0
  rw [if_neg (by simp [h])] at h0
  have hno : ∀ d ∈ span s, inB s d = false := by
    intro d hd; cases hi : inB s d with
    | false => rfl
    | true => have := List.mem_filter.2 ⟨hd, hi⟩; rw [h0] at this; cases this
  have hxt : s.xt = [] := by
    rcases hx : s.xt with _ | ⟨x, r⟩
    · rfl
    · exfalso
      have hm : x ∈ s.xt := by rw [hx]; simp
      have hk := ((listV_ok 11 (extB s) (by decide) s.xt none h3).1 x hm).1
      have hr : s.first ≤ x ∧ x ≤ s.last := by
        rcases Int.lt_or_le x s.first with hc | hc
        · rw [extB_out s x (.inl hc)] at hk; cases hk
        · rcases Int.lt_or_le s.last x with hc2 | hc2
          · rw [extB_out s x (.inr hc2)] at hk; cases hk
          · exact ⟨hc, hc2⟩
      have := hno x (mem_span hr.1 hr.2)
      unfold inB at this
      rw [decide_eq_true hm, Bool.or_true] at this
      cases this
  obtain ⟨e1, e2⟩ := listV_ok 12 (regB s) (by decide) s.ex none h2
  have he : s.ex = (span s).filter (regB s) := by
    refine sorted_ext _ _ e2 ((daysFrom_sorted _ _).filter _) (fun x => ?_)
    rw [List.mem_filter]
    constructor
    · intro hx; have hr := (e1 x hx).1
      exact ⟨mem_span (reg_range hr).1 (reg_range hr).2, hr⟩
    · rintro ⟨hx, hr⟩; have := hno x hx
      unfold inB at this
      rw [hr] at this
      simp only [Bool.true_and, Bool.or_eq_false_iff, Bool.not_eq_false', decide_eq_true_eq] at this
      exact this.1
  unfold manyV
  rw [hxt, ← he]
  simp only [List.length_nil]
  omega
/-- A series of one day beyond the rule. -/
theorem one_valid {s : Ser} (h : Head s) : serV ⟨s.first, s.last, 1, 0, [], [s.first]⟩ = 0 ∧ serDays ⟨s.first, s.last, 1, 0, [], [s.first]⟩ ≠ [] := by
  obtain ⟨a1, a2, a3, a4, hl, a6, -, -, -, -, -⟩ := h; generalize s.first = f at *
  generalize s.last = l at *
  have hr : regB ⟨f, l, 1, 0, [], [f]⟩ f = false := by
    rw [reg_of (s := ⟨f, l, 1, 0, [], [f]⟩) (Int.le_refl _) hl]
    have : bit 0 (wk f) = false := by unfold bit; simp
    show (bit 0 (wk f) && _) = false
    rw [this]; rfl
  have hv : serV ⟨f, l, 1, 0, [], [f]⟩ = 0 := by
    refine (serV_zero _).2 ⟨⟨a1, a2, a3, a4, hl, a6, by simp, by simp, by simp, by simp, by simp⟩, by simp [listV], ?_⟩
    refine listV_of _ _ _ _ (fun q hq => by cases hq) (List.pairwise_singleton _ _) (fun x hx => ?_)
    simp at hx
    subst hx; rw [extB_in _ _ (by simp; omega), hr]; rfl
  refine ⟨hv, fun h => ?_⟩
  unfold serDays at h
  rw [if_neg (by simp [hv])] at h
  have hm : f ∈ (span ⟨f, l, 1, 0, [], [f]⟩).filter (inB ⟨f, l, 1, 0, [], [f]⟩) := List.mem_filter.2 ⟨mem_span (s := ⟨f, l, 1, 0, [], [f]⟩) (Int.le_refl _) hl, by unfold inB; simp⟩
  rw [h] at hm
  cases hm
end Tt
