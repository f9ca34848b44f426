/- Plain facts on identifiers of events, and on decimal numbers. No program in sight. Condition: none. Identifiers of events: contracts of feed.right, timetableref40.right and decimal. Codes and labels: contracts of timetableref03.Valid and of both label functions; of timetableref40.right. Labels and identifiers: contracts of both label functions and of timetableref40.right. Plain facts on events and feeds: what is valid. No program in sight. Condition: none. timetableref40.right: its contract. Events in memory; feed.check and timetableref40.faultBehind: their contracts. Blocks and rows in memory: what a store, an append and a draw of the dice leave as it was. No function of the program in sight. Condition: none. -/
import Derived.Lib.ItoaNum
import Derived.Lib.IndexMore
import Derived.Lib.IndexLaws
import Derived.Lib.IndexBytes
import Derived.Test.YtcomifbfldoeiaaGreatDoorPk5
import Derived.Test.YtcomifbfldoeiaaGreatDoorEscAll
import Derived.Test.YtcomifbfldoeiaaGreatDoorPk1
import Derived.Deep.RegionHeld3
import Derived.Test.YtcomifbfldoeiaaGreatDoorDaysAll
import Derived.Maps.AppendAt
-- Uid
namespace Tt
open Go.Lib (decDigits cut index indexByte)

theorem decDigits_digit : ∀ (k n : Nat), n ≤ k → ∀ c ∈ decDigits n, 48 ≤ c.toNat ∧ c.toNat ≤ 57
  | 0, n, h, c, hc => by
    rw [Go.Lib.decDigits_one (by omega), List.mem_singleton] at hc
    subst hc; rw [show n = 0 by omega]; decide
  | k + 1, n, h, c, hc => by
    rw [decDigits.eq_def] at hc
    split at hc
    · rename_i h2
      rw [List.mem_singleton] at hc
      subst hc; rw [UInt8.toNat_ofNat_of_lt' (show 48 + n < UInt8.size by show 48 + n < 256; omega)]
      omega
    · rename_i h2
      rcases List.mem_append.1 hc with h3 | h3
      · exact decDigits_digit k (n / 10) (by omega) c h3
      · rw [List.mem_singleton] at h3
        subst h3; have : n % 10 < 10 := Nat.mod_lt _ (by decide)
        rw [UInt8.toNat_ofNat_of_lt' (show 48 + n % 10 < UInt8.size by show 48 + n % 10 < 256; omega)]
        omega

/-- Is a text the number of a week, from w on? -/
def numFrom (n : List UInt8) (w : Nat) : Bool := decide (∃ j : Nat, j < 21 ∧ w ≤ j ∧ n = decDigits j)
theorem numFrom_no (n : List UInt8) (w : Nat) (h : numFrom n w = true) : (64 : UInt8) ∉ n := by
  unfold numFrom at h
  rw [decide_eq_true_iff] at h
  obtain ⟨j, _, _, rfl⟩ := h; intro h64; have := decDigits_digit j j (Nat.le_refl _) _ h64
  have h2 : (64 : UInt8).toNat = 64 := rfl
  omega

theorem cut_first (a b : List UInt8) (h : (64 : UInt8) ∉ a) : cut (a ++ 64 :: b) [64] = (a, b, true) := by
  unfold Go.Lib.cut
  rw [Go.Lib.index_one]
  have hg : (a ++ 64 :: b)[a.length]? = some 64 := by simp
  by_cases h0 : 0 ≤ indexByte (a ++ 64 :: b) 64
  · obtain ⟨o, ho⟩ : ∃ o : Nat, indexByte (a ++ 64 :: b) 64 = o := ⟨(indexByte (a ++ 64 :: b) 64).toNat, by omega⟩
    obtain ⟨h1, h2⟩ := Go.Lib.indexByte_some ho
    have : o = a.length := by
      rcases Nat.lt_trichotomy o a.length with h3 | h3 | h3
      · rw [List.getElem?_append_left h3] at h1
        exact absurd (List.mem_of_getElem? h1) h
      · exact h3
      · exact absurd hg (h2 _ h3)
    rw [if_pos h0, ho, this]
    simp
  · exact absurd hg (Go.Lib.indexByte_none (by have := Go.Lib.indexByte_ge (a ++ 64 :: b) 64; omega) _)

/-- Is a text an identifier: a code, an at sign, a number? The code is asked by p. -/
def rightP (p : List UInt8 → Bool) (l : List UInt8) : Bool := (cut l [64]).2.2 && p (cut l [64]).1 && numFrom (cut l [64]).2.1 1

theorem first_split : ∀ (a : List UInt8), (64 : UInt8) ∈ a → ∃ a1 a2, a = a1 ++ 64 :: a2 ∧ (64 : UInt8) ∉ a1
  | [], h => by cases h
  | c :: t, h => by
    by_cases hc : c = 64
    · subst hc; exact ⟨[], t, rfl, by simp⟩
    · rcases List.mem_cons.1 h with e | e
      · exact absurd e.symm hc
      · obtain ⟨a1, a2, h1, h2⟩ := first_split t e
        exact ⟨c :: a1, a2, by rw [h1]; rfl, by simp [Ne.symm hc, h2]⟩

/-- The last at sign serves as well as the first one. -/
theorem rightP_last (p : List UInt8 → Bool) (hp : ∀ a, p a = true → (64 : UInt8) ∉ a) (a b : List UInt8) : rightP p (a ++ 64 :: b) = (p a && numFrom b 1) := by
  by_cases ha : (64 : UInt8) ∈ a
  · obtain ⟨a1, a2, rfl, h1⟩ := first_split a ha
    have h2 : p (a1 ++ 64 :: a2) = false := by
      cases h : p (a1 ++ 64 :: a2) with
      | false => rfl
      | true => exact absurd (by simp) (hp _ h)
    have h3 : numFrom (a2 ++ 64 :: b) 1 = false := by
      cases h : numFrom (a2 ++ 64 :: b) 1 with
      | false => rfl
      | true => exact absurd (by simp) (numFrom_no _ _ h)
    unfold rightP
    rw [List.append_assoc, List.cons_append, cut_first _ _ h1, h2]
    simp [h3]
  · unfold rightP
    rw [cut_first _ _ ha]
    simp
end Tt

-- UidW
namespace Go.Proofs.YtcomifbfldoeiaaGreatDoor
open Go.RowKit

theorem code_no_at (a : List UInt8) (h : Tt.code a = true) : (64 : UInt8) ∉ a := by
  intro hm; cases a with
  | nil => cases hm
  | cons c t =>
    unfold Tt.code at h
    simp only [Bool.and_eq_true] at h
    obtain ⟨⟨_, h1⟩, h2⟩ := h
    rcases List.mem_cons.1 hm with e | e
    · subst e; exact absurd h1 (by decide)
    · unfold Tt.codeTail at h2
      have := List.all_eq_true.1 h2 64 e
      exact absurd this (by decide)

def rightB (l : List UInt8) : Bool := Tt.rightP Tt.code l

theorem size_mk (l : List UInt8) : (⟨l.toArray⟩ : ByteArray).size = l.length := by rw [Lib.size_eq]

end Go.Proofs.YtcomifbfldoeiaaGreatDoor

-- UidW2
namespace Tt
/-- A byte of a label. -/
def labC (c : UInt8) : Bool := c == 10 || (decide (32 ≤ c.toNat) && decide (c.toNat ≤ 126))
def labB (l : List UInt8) : Bool := l.all labC && decide (l.length ≤ 64)
theorem all_step (p : UInt8 → Bool) (l : List UInt8) (k : Nat) (c : UInt8) (h : l[k]? = some c) : (l.drop k).all p = (p c && (l.drop (k + 1)).all p) := by
  obtain ⟨g1, g2⟩ := List.getElem?_eq_some_iff.1 h
  rw [List.drop_eq_getElem_cons g1, g2, List.all_cons]
theorem all_end (p : UInt8 → Bool) (l : List UInt8) (k : Nat) (h : l.length ≤ k) : (l.drop k).all p = true := by rw [List.drop_eq_nil_of_le h]; rfl

theorem sign_alnum (c : UInt8) (h : sign c = true) : alnum c = false := by
  unfold sign at h
  rw [Bool.or_eq_true, beq_iff_eq, beq_iff_eq] at h
  rcases h with rfl | rfl <;> rfl
theorem code_ref (c : UInt8) (r : List UInt8) : code (c :: r) = (decide ((c :: r).length ≤ 16) && !sign c && codeTail (c :: r)) := by
  show (decide ((c :: r).length ≤ 16) && alnum c && codeTail r) = _
  unfold codeTail
  rw [List.all_cons]
  cases hs : sign c
  · cases alnum c <;> simp
  · rw [sign_alnum c hs]; simp
end Tt
namespace Go.Proofs.YtcomifbfldoeiaaGreatDoor
open Go.RowKit

set_option maxHeartbeats 400000 in
theorem digit168 (n : Int) (c : UInt8) (hn : n = c.toNat) (w : World) : Calls Tryz.prog 100 #[.int .u8 n] w fun e w' => e = .returned (.bool (digitB c)) ∧ w' = w := by
  have HD := Lib.hid (show digitB c = (decide ((48 : Int) ≤ n) && decide (n ≤ (57 : Int))) by
    have h1 := u8_le c 48 (by omega)
    have h2 := u8_ge c 57 (by omega)
    rw [hn, show (48 : Int) = ((48 : Nat) : Int) from rfl, show (57 : Int) = ((57 : Nat) : Int) from rfl, h1, h2]; rfl)
  clear hn; go_enter Tryz.func100, Tryz.ntmps100
  go_wp2_with fail
  all_goals
    go_ret; exact ⟨ret_bool (by rw [HD.out]; simp; omega), rfl⟩

set_option maxHeartbeats 400000 in
theorem letter169 (n : Int) (c : UInt8) (hn : n = c.toNat) (w : World) : Calls Tryz.prog 101 #[.int .u8 n] w fun e w' => e = .returned (.bool (letterB c)) ∧ w' = w := by
  have HD := Lib.hid (show letterB c = ((decide ((65 : Int) ≤ n) && decide (n ≤ (90 : Int))) || (decide ((97 : Int) ≤ n) && decide (n ≤ (122 : Int)))) by
    have h1 := u8_le c 65 (by omega)
    have h2 := u8_ge c 90 (by omega)
    have h3 := u8_le c 97 (by omega)
    have h4 := u8_ge c 122 (by omega)
    rw [hn, show (65 : Int) = ((65 : Nat) : Int) from rfl, show (90 : Int) = ((90 : Nat) : Int) from rfl, show (97 : Int) = ((97 : Nat) : Int) from rfl, show (122 : Int) = ((122 : Nat) : Int) from rfl, h1, h2, h3, h4]; rfl)
  clear hn; go_enter Tryz.func101, Tryz.ntmps101
  go_wp2_with fail
  all_goals
    go_ret; exact ⟨ret_bool (by rw [HD.out, Bool.eq_iff_iff]; first | (simp; omega) | (simp only [Bool.or_eq_true, Bool.and_eq_true, decide_eq_true_iff]; omega)), rfl⟩

theorem code_long (l : List UInt8) (h : ¬ (1 ≤ l.length ∧ l.length ≤ 16)) : Tt.code l = false := by
  cases l with
  | nil => rfl
  | cons c r =>
    show (decide ((c :: r).length ≤ 16) && Tt.alnum c && Tt.codeTail r) = false
    rw [decide_eq_false (by simp only [List.length_cons] at h ⊢; omega)]; rfl

set_option maxHeartbeats 4000000 in
set_option maxRecDepth 100000 in
theorem code97 (s : ByteArray) (w : World) : Calls Tryz.prog 49 #[.string s] w fun e w' => e = .returned (.bool (Tt.code s.data.toList)) ∧ w' = w := by
  have HL := Lib.hid (Lib.size_eq s)
  by_cases h1 : 1 ≤ s.size ∧ s.size ≤ 16
  · obtain ⟨h1, h2⟩ := h1; have q1 : decide ((s.size : Int) < 1) = false := decide_eq_false (by omega)
    have q2 : decide ((16 : Int) < (s.size : Int)) = false := decide_eq_false (by omega)
    have q3 : 0 < s.size := h1
    obtain ⟨c, hx⟩ : ∃ c : UInt8, s[0]'q3 = c := ⟨_, rfl⟩
    have hcl : s.data.toList[0]? = some c := by rw [← hx]; exact Lib.data_getElem? s 0 q3
    have HC := Lib.hid (show Tt.code s.data.toList = (!Tt.sign c && Tt.codeTail (s.data.toList.drop 0)) by
      have hl := HL.out; cases hh : s.data.toList with
      | nil => rw [hh] at hcl; cases hcl
      | cons c' r =>
        rw [hh] at hcl hl
        obtain rfl : c' = c := by simpa using hcl
        rw [Tt.code_ref, decide_eq_true (by rw [← hl]; exact h2)]; rfl)
    clear hcl; by_cases s1 : c = 95
    · have t1 := byte_eq c 95 95 rfl s1; have HE := Lib.hid (show Tt.code s.data.toList = false by rw [HC.out, s1]; rfl)
      clear s1; go_enter Tryz.func49, Tryz.ntmps49
      go_wp2_with fail
      go_ret; exact ⟨ret_bool HE.out.symm, rfl⟩
    · have t1 := byte_ne c 95 95 rfl s1; by_cases s2 : c = 45
      · have t2 := byte_eq c 45 45 rfl s2; have HE := Lib.hid (show Tt.code s.data.toList = false by rw [HC.out, s2]; rfl)
        clear s1 s2; go_enter Tryz.func49, Tryz.ntmps49
        go_wp2_with fail
        go_ret; exact ⟨ret_bool HE.out.symm, rfl⟩
      · have t2 := byte_ne c 45 45 rfl s2; have HE := Lib.hid (show Tt.code s.data.toList = (s.data.toList.drop 0).all (fun c => Tt.alnum c || Tt.sign c) by
          rw [HC.out, show Tt.sign c = false by unfold Tt.sign; rw [beq_eq_false_iff_ne.2 s1, beq_eq_false_iff_ne.2 s2]; rfl]; rfl)
        clear s1 s2; go_enter Tryz.func49, Tryz.ntmps49
        go_wp2_with fail
        clear t1 t2 hx; go_loop [3] (fun i => ∃ k : Nat, k ≤ s.size ∧ i = .int .i64 k ∧ Hid (Tt.code s.data.toList = (s.data.toList.drop k).all (fun c => Tt.alnum c || Tt.sign c))) (fun i => s.size - (intOf i).toNat)
        case atStart => exact ⟨0, Nat.zero_le _, rfl, HE.out⟩
        case round =>
          obtain ⟨k, hk, rfl, HK⟩ := hrel; by_cases hlt : k < s.size
          · obtain ⟨c, hx⟩ : ∃ c : UInt8, s[k]'hlt = c := ⟨_, rfl⟩
            have hcl := Lib.data_getElem? s k hlt
            rw [hx] at hcl
            have HS := Lib.hid (HK.out.trans (Tt.all_step _ _ _ _ hcl))
            have HA := Lib.hid (alnum_eq c)
            clear hcl; have hkinds : (digitB c = true ∧ Hid ((Tt.alnum c || Tt.sign c) = true)) ∨ (digitB c = false ∧ letterB c = true ∧ Hid ((Tt.alnum c || Tt.sign c) = true)) ∨
                (digitB c = false ∧ letterB c = false ∧ ((c.toNat : Int) != 95) = false ∧ Hid ((Tt.alnum c || Tt.sign c) = true)) ∨
                (digitB c = false ∧ letterB c = false ∧ ((c.toNat : Int) != 95) = true ∧ ((c.toNat : Int) != 45) = false ∧ Hid ((Tt.alnum c || Tt.sign c) = true)) ∨
                (digitB c = false ∧ letterB c = false ∧ ((c.toNat : Int) != 95) = true ∧ ((c.toNat : Int) != 45) = true ∧ Hid ((Tt.alnum c || Tt.sign c) = false)) := by
              cases e1 : digitB c
              · cases e2 : letterB c
                · by_cases e3 : c = 95
                  · exact .inr (.inr (.inl ⟨rfl, rfl, by simp [e3], by show _ = _; rw [e3]; rfl⟩))
                  · have b1 : ((c.toNat : Int) != 95) = true := by have := byte_ne c 95 95 rfl e3; simp only [bne, this]; rfl
                    by_cases e4 : c = 45
                    · exact .inr (.inr (.inr (.inl ⟨rfl, rfl, b1, by simp [e4], by show _ = _; rw [e4]; rfl⟩)))
                    · have b2 : ((c.toNat : Int) != 45) = true := by have := byte_ne c 45 45 rfl e4; simp only [bne, this]; rfl
                      refine .inr (.inr (.inr (.inr ⟨rfl, rfl, b1, b2, ?_⟩)))
                      show _ = _
                      rw [HA.out, e1, e2]
                      unfold Tt.sign
                      rw [beq_eq_false_iff_ne.2 e3, beq_eq_false_iff_ne.2 e4]; rfl
                · exact .inr (.inl ⟨rfl, rfl, by show _ = _; rw [HA.out, e1, e2]; rfl⟩)
              · exact .inl ⟨rfl, by show _ = _; rw [HA.out, e1]; rfl⟩
            clear HA; rcases hkinds with ⟨d1, DS⟩ | ⟨d1, d2, DS⟩ | ⟨d1, d2, d3, DS⟩ | ⟨d1, d2, d3, d4, DS⟩ | ⟨d1, d2, d3, d4, DS⟩
            all_goals
              go_wp2_with (first | (go_at_call 100; refine (digit168 _ c rfl _).mono ?_; rintro e w' ⟨rfl, rfl⟩) | (go_at_call 101; refine (letter169 _ c rfl _).mono ?_; rintro e w' ⟨rfl, rfl⟩))
              first
                | (go_ret
                   exact ⟨ret_bool (by rw [HS.out, DS.out]; rfl), rfl⟩)
                | (go_round
                   case rel => exact ⟨k + 1, by omega, by go_num, by show _ = _; rw [HS.out, DS.out]; rfl⟩
                   case measure => simp [intOf]; omega)
          · go_wp2_with fail
            go_ret; exact ⟨ret_bool (by rw [HK.out, Tt.all_end _ _ _ (by rw [← HL.out]; omega)]), rfl⟩
  · have HC := Lib.hid (code_long s.data.toList (by rw [← HL.out]; exact h1))
    by_cases e : 1 ≤ s.size
    · have q1 : decide ((s.size : Int) < 1) = false := decide_eq_false (by omega)
      have q2 : decide ((16 : Int) < (s.size : Int)) = true := decide_eq_true (by omega)
      clear h1; go_enter Tryz.func49, Tryz.ntmps49
      go_wp2_with fail
      go_ret; exact ⟨ret_bool (by rw [HC.out]), rfl⟩
    · have q1 : decide ((s.size : Int) < 1) = true := decide_eq_true (by omega)
      clear h1; go_enter Tryz.func49, Tryz.ntmps49
      go_wp2_with fail
      go_ret; exact ⟨ret_bool (by rw [HC.out]), rfl⟩
end Go.Proofs.YtcomifbfldoeiaaGreatDoor

-- UidW3
namespace Go.Proofs.YtcomifbfldoeiaaGreatDoor
open Go.RowKit

end Go.Proofs.YtcomifbfldoeiaaGreatDoor

-- Ev
namespace Go.Proofs.YtcomifbfldoeiaaGreatDoor

/-- An event: what api.Event holds. -/
structure Ev where
  uid : ByteArray
  seq : Int
  canc : Bool
  days : Tt.Ser
  start : Int
  mins : Int
  summ : ByteArray
  loc : ByteArray

/-- The error of an event behind its identifier. -/
def checkV (e : Ev) (v : Int) : Int :=
  if e.seq < 1 ∨ v < e.seq then 3
  else if Tt.serV e.days ≠ 0 then Tt.serV e.days
  else if Tt.serDays e.days = [] then 16
  else if e.start < 0 ∨ 1440 ≤ e.start ∨ e.mins < 1 ∨ 1440 < e.mins then 14
  else if e.summ.size = 0 ∨ Tt.labB e.summ.data.toList = false ∨ Tt.labB e.loc.data.toList = false then 4
  else 0

/-- Does an identifier not come behind the one before it? -/
def lateU : Option ByteArray → ByteArray → Bool
  | none, _ => false
  | some p, u => Op.bytesLess u.toList p.toList || u.toList == p.toList

/-- The error of the events of a feed, behind an identifier. -/
def evsV (v : Int) : Option ByteArray → List Ev → Int
  | _, [] => 0
  | p, e :: r => if rightB e.uid.data.toList = false then 4 else if lateU p e.uid = true then 63 else if checkV e v ≠ 0 then checkV e v else evsV v (some e.uid) r

/-- The error of a feed. -/
def feedV (n : ByteArray) (v : Int) (es : List Ev) : Int :=
  if Tt.code n.data.toList = false then 10
  else if v < 0 ∨ 64 < v then 3
  else if 256 < (es.length : Int) then 2
  else evsV v none es

end Go.Proofs.YtcomifbfldoeiaaGreatDoor

-- UidW4
namespace Go.Proofs.YtcomifbfldoeiaaGreatDoor
open Go.RowKit

end Go.Proofs.YtcomifbfldoeiaaGreatDoor
namespace Go.Proofs.YtcomifbfldoeiaaGreatDoor
open Go.RowKit

def evCells (e : Ev) (v v' : Value) : Array Value := #[.string e.uid, .int .i64 e.seq, .bool e.canc, .int .i64 e.days.first, .int .i64 e.days.last, .int .i64 e.days.every, .int .i64 e.days.wd, v, v', .int .i64 e.start, .int .i64 e.mins, .string e.summ, .string e.loc]
def evVal (e : Ev) (v v' : Value) : Value := .agg (evCells e v v')

/-- An event in a block of its own. -/
def EvBox (b : Nat) (e : Ev) (v v' : Value) (w : World) : Prop := w.heap[b]? = some (.cells (evCells e v v') 104 (0, 0))
theorem EvBox.block {b : Nat} {e : Ev} {v v' : Value} {w w' : World} (h : EvBox b e v v' w) (hw : w'.heap[b]? = w.heap[b]?) : EvBox b e v v' w' := hw.trans h
/-- The cells of an event from place p of block b on. -/
structure EvC (b p : Nat) (e : Ev) (v v' : Value) (w : World) : Prop where
  c0 : w.cell? ⟨b, p, none⟩ = some (.string e.uid)
  c1 : w.cell? ⟨b, p + 1, none⟩ = some (.int .i64 e.seq)
  c2 : w.cell? ⟨b, p + 2, none⟩ = some (.bool e.canc)
  c3 : w.cell? ⟨b, p + 3, none⟩ = some (.int .i64 e.days.first)
  c4 : w.cell? ⟨b, p + 4, none⟩ = some (.int .i64 e.days.last)
  c5 : w.cell? ⟨b, p + 5, none⟩ = some (.int .i64 e.days.every)
  c6 : w.cell? ⟨b, p + 6, none⟩ = some (.int .i64 e.days.wd)
  c7 : w.cell? ⟨b, p + 7, none⟩ = some v
  c8 : w.cell? ⟨b, p + 8, none⟩ = some v'
  c9 : w.cell? ⟨b, p + 9, none⟩ = some (.int .i64 e.start)
  c10 : w.cell? ⟨b, p + 10, none⟩ = some (.int .i64 e.mins)
  c11 : w.cell? ⟨b, p + 11, none⟩ = some (.string e.summ)
  c12 : w.cell? ⟨b, p + 12, none⟩ = some (.string e.loc)
theorem EvBox.c {b : Nat} {e : Ev} {v v' : Value} {w : World} (h : EvBox b e v v' w) : EvC b 0 e v v' w := by
  constructor <;> (rw [Lib.cell_of_heap h]; rfl)

theorem ownsRow_len {w : World} {B : Nat} {e : TypeId} {k : Nat} {v : Value} {n : Nat} {xs : List Value} (h : w.ownsRow B e k v n xs) : ∃ p c, v = .slice p n c := by
  rcases h.2 with ⟨rfl, h0⟩ | ⟨g, cap, cur, rfl, _⟩
  · subst h0; exact ⟨_, _, rfl⟩
  · exact ⟨_, _, rfl⟩

end Go.Proofs.YtcomifbfldoeiaaGreatDoor
namespace Go.Proofs.YtcomifbfldoeiaaGreatDoor
open Go.RowKit

/-- Block g holds these cells. -/
def Blk (g : Nat) (cs : Array Value) (ty : TypeId) (w : World) : Prop := w.heap[g]? = some (.cells cs ty (0, 0))
theorem Blk.lt {g : Nat} {cs : Array Value} {ty : TypeId} {w : World} (h : Blk g cs ty w) : g < w.heap.size := (Array.getElem?_eq_some_iff.1 h).1
theorem Blk.new (w : World) (cs : Array Value) (ty : TypeId) : Blk w.heap.size cs ty (w.alloc (.cells cs ty)) := heap_alloc_new w _
theorem Blk.alloc {g : Nat} {cs : Array Value} {ty : TypeId} {w : World} (h : Blk g cs ty w) (o : Obj) : Blk g cs ty (w.alloc o) := (Lib.alloc_old w o g h.lt).trans h
theorem Blk.cell {g : Nat} {cs : Array Value} {ty : TypeId} {w : World} (h : Blk g cs ty w) (i : Nat) : w.cell? ⟨g, i, none⟩ = cs[i]? := by rw [Lib.cell_of_heap h]
theorem Blk.frozen {g : Nat} {cs : Array Value} {ty : TypeId} {w : World} (h : Blk g cs ty w) (i : Nat) : w.frozen? ⟨g, i, none⟩ = false := by simp [World.frozen?, show w.heap[g]? = _ from h]
theorem Blk.set {g : Nat} {cs : Array Value} {ty : TypeId} {w : World} (h : Blk g cs ty w) (i : Nat) (u : Value) : Blk g (cs.setIfInBounds i u) ty (w.setCell ⟨g, i, none⟩ u) := by
  unfold Blk at h ⊢
  simp [World.setCell, Array.getElem?_modify, h]
theorem Blk.set_other {g g' : Nat} {cs : Array Value} {ty : TypeId} {w : World} (h : Blk g cs ty w) (hne : g ≠ g') (i : Nat) (u : Value) : Blk g cs ty (w.setCell ⟨g', i, none⟩ u) :=
  (Below.heap_setCell _ _ _ _ hne).trans h
theorem Blk.only {b g : Nat} {cs : Array Value} {ty : TypeId} {w w' : World} (h : Blk g cs ty w) (ho : Only b w w') (hne : g ≠ b) : Blk g cs ty w' := (ho.2.2.2.2 g hne).trans h
theorem Blk.but {b g : Nat} {cs : Array Value} {ty : TypeId} {w w' : World} (h : Blk g cs ty w) (ho : But b w.heap.size w w') (hne : g ≠ b) : Blk g cs ty w' := (ho.block g h.lt hne).trans h
theorem Blk.below {B g : Nat} {cs : Array Value} {ty : TypeId} {w w' : World} (h : Blk g cs ty w) (ho : Below B w w') (hB : g < B) : Blk g cs ty w' := (ho.block g hB).trans h
theorem Blk.draw {g : Nat} {cs : Array Value} {ty : TypeId} {w : World} (h : Blk g cs ty w) : Blk g cs ty w.drew := h
theorem Blk.grown {g : Nat} {cs : Array Value} {ty : TypeId} {w w' : World} (h : Blk g cs ty w) {B n k : Nat} {e : TypeId} {v : Value} {xs : List Value} (hown : w.ownsRow B e k v n xs) (hg : w.grownBy w' v.ownBlock) (hte : ty ≠ e) : Blk g cs ty w' := by
  refine (hg.block g h.lt ?_).trans h
  intro e1; rcases hown.2 with ⟨rfl, _⟩ | ⟨g', cap, cur, rfl, _, hgb, _⟩
  · cases e1
  · simp only [Value.ownBlock, Option.some.injEq] at e1
    subst e1; rw [show w.heap[g]? = _ from h] at hgb
    simp only [Option.some.injEq, Obj.cells.injEq] at hgb
    exact hte hgb.2.1
/-- Two blocks of different types are two blocks. -/
theorem Blk.ne {g g' : Nat} {cs cs' : Array Value} {ty ty' : TypeId} {w : World} (h : Blk g cs ty w) (h' : Blk g' cs' ty' w) (hne : ty ≠ ty') : g ≠ g' := by
  intro e; subst e
  have h' : some (Obj.cells cs ty (0, 0)) = some (.cells cs' ty' (0, 0)) := (show w.heap[g]? = _ from h).symm.trans h'
  simp only [Option.some.injEq, Obj.cells.injEq] at h'
  exact hne h'.2.1

theorem row_set {w : World} {B k : Nat} {e : TypeId} {v : Value} {n : Nat} {xs : List Value} (h : w.ownsRow B e k v n xs) {g : Nat} {cs : Array Value} {ty : TypeId} (hg : Blk g cs ty w) (hte : ty ≠ e) (i : Nat) (u : Value) : (w.setCell ⟨g, i, none⟩ u).ownsRow B e k v n xs := by
  refine ⟨h.1, ?_⟩
  rcases h.2 with h1 | ⟨g', cap, cur, r1, r2, r3, r4⟩
  · exact .inl h1
  · exact .inr ⟨g', cap, cur, r1, r2, (Below.heap_setCell _ _ _ _ (Ne.symm (hg.ne (ty' := e) r3 hte))).trans r3, r4⟩
theorem row_apart_ty {w : World} {B B' k k' : Nat} {e e' : TypeId} {v v' : Value} {n n' : Nat} {xs xs' : List Value} (h : w.ownsRow B e k v n xs) (h' : w.ownsRow B' e' k' v' n' xs') (hte : e ≠ e') : v.ownBlock = none ∨ v.ownBlock ≠ v'.ownBlock := by
  rcases h.2 with ⟨rfl, _⟩ | ⟨g, cap, cur, rfl, _, hgb, _⟩
  · exact .inl rfl
  · right
    rcases h'.2 with ⟨rfl, _⟩ | ⟨g', cap', cur', rfl, _, hgb', _⟩
    · simp [Value.ownBlock]
    · simp only [Value.ownBlock, ne_eq, Option.some.injEq]
      exact Blk.ne (w := w) hgb hgb' hte
theorem but_set {b B g i : Nat} {w w1 : World} {u : Value} (h : But b B w w1) (hg : B ≤ g) : But b B w (w1.setCell ⟨g, i, none⟩ u) := h.trans (But.of_below ((Below.refl _ w1).setCell hg _))
theorem but_alloc {b B : Nat} {w w1 : World} (h : But b B w w1) (hB : B ≤ w1.heap.size) (o : Obj) : But b B w (w1.alloc o) := h.trans (But.of_below ((Below.refl _ w1).alloc hB _))
theorem but_only {b B : Nat} {w w1 w2 : World} (h : But b B w w1) (ho : Only b w1 w2) : But b B w w2 := h.trans ho.but
theorem but_then {b B : Nat} {w w1 w2 : World} (h : But b B w w1) (k : But b w1.heap.size w1 w2) (hB : B ≤ w1.heap.size) : But b B w w2 := h.trans ⟨k.os, k.tape, k.output, k.size, fun i hi hne => k.block i (Nat.lt_of_lt_of_le hi hB) hne⟩
theorem but_grown {b B n k : Nat} {w w1 w2 : World} {e : TypeId} {v : Value} {xs : List Value} (h : But b B w w1) (hown : w1.ownsRow B e k v n xs) (hB : B ≤ w1.heap.size) (hg : w1.grownBy w2 v.ownBlock) : But b B w w2 :=
  h.trans (But.of_below ((Below.refl _ w1).grown hg hB (fun k hk => (hown.lt k hk).1)))
theorem dice_set {b g i : Nat} {w : World} {u : Value} (h : Dice b w) (hg : b < g) : Dice b (w.setCell ⟨g, i, none⟩ u) := h.kept (Nat.lt_succ_self b) ((Below.refl _ w).setCell hg _)
theorem dice_alloc {b : Nat} {w : World} (h : Dice b w) (o : Obj) : Dice b (w.alloc o) := h.kept h.lt (below_box _ _)
theorem dice_grown {b B n k : Nat} {w w2 : World} {e : TypeId} {v : Value} {xs : List Value} (h : Dice b w) (hown : w.ownsRow B e k v n xs) (hb : b < B) (hB : B ≤ w.heap.size) (hg : w.grownBy w2 v.ownBlock) : Dice b w2 :=
  h.kept hb ((Below.refl _ w).grown hg hB (fun k hk => (hown.lt k hk).1))
theorem row_but {b B k : Nat} {w w' : World} {e : TypeId} {v : Value} {n : Nat} {xs : List Value} (h : w.ownsRow B e k v n xs) (hb : b < B) (ho : But b w.heap.size w w') : w'.ownsRow B e k v n xs := by
  refine ⟨h.1, ?_⟩
  rcases h.2 with h1 | ⟨g, cap, cur, r1, r2, r3, r4⟩
  · exact .inl h1
  · exact .inr ⟨g, cap, cur, r1, r2, (ho.block g (Array.getElem?_eq_some_iff.1 r3).1 (by omega)).trans r3, r4⟩

/-- Some cells of block g, from place o on, written one after the other. -/
def setAll (w : World) (g : Nat) : Nat → List Value → World
  | _, [] => w
  | o, v :: r => setAll (w.setCell ⟨g, o, none⟩ v) g (o + 1) r
theorem Blk.puts {g : Nat} {ty : TypeId} : ∀ (vs pre mid post : List Value) (w : World), Blk g (pre ++ mid ++ post).toArray ty w → mid.length = vs.length → Blk g (pre ++ vs ++ post).toArray ty (setAll w g pre.length vs)
  | [], pre, mid, post, w, h, hl => by
    rw [List.eq_nil_of_length_eq_zero hl] at h; exact h
  | v :: r, pre, [], post, w, h, hl => by cases hl
  | v :: r, pre, m :: mid, post, w, h, hl => by
    have h1 := h.set pre.length v
    have e : (pre ++ (m :: mid) ++ post).toArray.setIfInBounds pre.length v = ((pre ++ [v]) ++ mid ++ post).toArray := by
      simp
    rw [e] at h1
    have h2 := Blk.puts r (pre ++ [v]) mid post _ h1 (by simpa using hl)
    rw [show (pre ++ [v]).length = pre.length + 1 by simp] at h2
    show Blk g _ ty (setAll (w.setCell ⟨g, pre.length, none⟩ v) g (pre.length + 1) r)
    simpa using h2
theorem row_setAll {B k : Nat} {e : TypeId} {v : Value} {n : Nat} {xs : List Value} {g : Nat} {ty : TypeId} (hte : ty ≠ e) : ∀ (vs : List Value) (o : Nat) (w : World) (cs : Array Value), w.ownsRow B e k v n xs → Blk g cs ty w → (setAll w g o vs).ownsRow B e k v n xs
  | [], _, _, _, h, _ => h
  | u :: r, o, _, _, h, hg => row_setAll hte r (o + 1) _ _ (row_set h hg hte o u) (hg.set o u)
theorem but_setAll {b B g : Nat} (hg : B ≤ g) {w : World} : ∀ (vs : List Value) (o : Nat) (w1 : World), But b B w w1 → But b B w (setAll w1 g o vs)
  | [], _, _, h => h
  | _ :: r, o, _, h => but_setAll hg r (o + 1) _ (but_set h hg)
theorem dice_setAll {b g : Nat} (hg : b < g) : ∀ (vs : List Value) (o : Nat) (w : World), Dice b w → Dice b (setAll w g o vs)
  | [], _, _, h => h
  | _ :: r, o, _, h => dice_setAll hg r (o + 1) _ (dice_set h hg)
theorem below_setAll {B g : Nat} (hg : B ≤ g) {w : World} : ∀ (vs : List Value) (o : Nat) (w1 : World), Below B w w1 → Below B w (setAll w1 g o vs)
  | [], _, _, h => h
  | _ :: r, o, _, h => below_setAll hg r (o + 1) _ (h.setCell hg _)

/-- The numbers of a row that lies in a block from lo on. -/
def RowI (lo : Nat) (w : World) (v : Value) (xs : List Int) : Prop := w.ownsRow lo 3 1 v xs.length (xs.map (Value.int .i64))
theorem RowI.nil (lo : Nat) (w : World) : RowI lo w (.slice none 0 0) [] := World.ownsRow_nil _ _ _ _
theorem RowI.slice {lo : Nat} {w : World} {v : Value} {xs : List Int} (h : RowI lo w v xs) : ∃ ao c, v = .slice ao xs.length c := by
  rcases h.2 with ⟨hv, h0⟩ | ⟨g, cap, cur, hv, _⟩
  · exact ⟨none, 0, by rw [hv, h0]⟩
  · exact ⟨_, _, hv⟩
theorem RowI.ints {lo : Nat} {w : World} {v : Value} {xs : List Int} (h : RowI lo w v xs) : ∃ ao c, v = .slice ao xs.length c ∧ Ints w.heap.size w ao xs := by
  rcases h.2 with ⟨hv, h0⟩ | ⟨g, cap, cur, hv, r2, r3, r4, r5, _⟩
  · refine ⟨none, 0, by rw [hv, h0], fun j x hj => ?_⟩
    rw [List.eq_nil_of_length_eq_zero h0] at hj; simp at hj
  · refine ⟨_, cap, hv, fun j x hj => ⟨_, rfl, (Array.getElem?_eq_some_iff.1 r3).1, ?_⟩⟩
    subst hv; exact h.cells (g := g) rfl j _ (by simp [hj])
theorem RowI.snoc {lo : Nat} {w : World} {v : Value} {xs : List Int} {x : Int} (h : w.ownsRow lo 3 1 v (xs.length + 1) (xs.map (Value.int .i64) ++ [.int .i64 x])) : RowI lo w v (xs ++ [x]) := by
  unfold RowI; simpa using h
end Go.Proofs.YtcomifbfldoeiaaGreatDoor
