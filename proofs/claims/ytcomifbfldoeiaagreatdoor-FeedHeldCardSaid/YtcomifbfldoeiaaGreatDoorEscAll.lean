/- feed.Escape: its contract. feed.Unescape: its contract. codes.Valid: its contract. -/
import Derived.Test.YtcomifbfldoeiaaGreatDoorPk3
import Derived.Laws.IdiomStrings
import Derived.LoopTactic
-- Esc
namespace Go.Proofs.YtcomifbfldoeiaaGreatDoor
open Go.RowKit

/-- '[]byte(s)': a new block that holds the bytes. -/
theorem bytes_of (s : ByteArray) (w : World) : ∃ cap W', (convert 9 145 (.string s)).run Tryz.prog w = .ok (.slice (some ⟨w.heap.size, 0, none⟩) s.size cap) W' ∧ Below w.heap.size w W' ∧ w.heap.size + 1 ≤ W'.heap.size ∧
    ∀ j c, s.data.toList[j]? = some c → W'.cell? ⟨w.heap.size, j, none⟩ = some (.int .u8 (c.toNat : Int)) := by
  refine ⟨_, _, run_bytes_of_string w 9 145 5 s Tryz.underlying9 Tryz.underlying145 Tryz.underlying5, ⟨rfl, rfl, rfl, by simp, fun k hk => ?_⟩, by simp, fun j c hj => ?_⟩
  · exact Below.heap_alloc w.drew _ k hk
  · have hnew : ∀ (w : World) (o : Obj), (w.alloc o).heap[w.heap.size]? = some o := fun w o => heap_alloc_new w o
    have h2 := hnew w.drew (.cells (bytesRow s (grownCap w s.size 0 5)) 5 ((bytesRow s (grownCap w s.size 0 5)).size, (bytesRow s (grownCap w s.size 0 5)).size + 1))
    have h3 : w.drew.heap.size = w.heap.size := rfl
    rw [h3] at h2
    rw [World.cell?]
    simp only [h2]
    have hj' : j < s.data.size := by have := (List.getElem?_eq_some_iff.1 hj).1; simpa using this
    have : s.data[j]? = some c := by rw [← Array.getElem?_toList]; exact hj
    have hj2 : j < s.size := hj'
    have h4 := (Array.getElem?_eq_some_iff.1 this).2
    simp [bytesRow, Array.getElem?_append, hj2]
    rw [h4]

theorem ret_str {a b : List UInt8} (h : a = b) : Ending.returned (.string ⟨a.toArray⟩) = .returned (.string ⟨b.toArray⟩) := by rw [h]

theorem esc_snoc (l : List UInt8) (k : Nat) (c : UInt8) (h : l[k]? = some c) : Tt.esc (l.take (k + 1)) = Tt.esc (l.take k) ++ Tt.escB c := by
  obtain ⟨h1, h2⟩ := List.getElem?_eq_some_iff.1 h
  rw [List.take_succ_eq_append_getElem h1, h2]
  simp [Tt.esc]

set_option maxHeartbeats 2000000 in
set_option maxRecDepth 100000 in
theorem escape_any (s : ByteArray) (w : World) (hs : s.size ≤ 70368744177664) :
    Calls Tryz.prog 75 #[.string s] w fun e w' => e = .returned (.string ⟨(Tt.esc s.data.toList).toArray⟩) ∧ Below w.heap.size w w' := by
  obtain ⟨cap, W, hconv, hb0, hsz, hcell⟩ := bytes_of s (w.alloc (.cells #[.pointer none, .slice none 0 0] 149))
  have hsa : (w.alloc (.cells #[.pointer none, .slice none 0 0] 149)).heap.size = w.heap.size + 1 := by simp
  rw [hsa] at hb0 hsz hcell
  have hconv' : (convert 9 145 (.string s)).run Tryz.prog (w.alloc (.cells #[.pointer none, .slice none 0 0] 149)) = .ok (.slice (some ⟨w.heap.size + 1, 0, none⟩) s.size cap) W := by rw [hconv, hsa]
  clear hconv hsa; have hbl : Bld w.heap.size (w.heap.size + 2) [] W := (Bld.fresh w (w.heap.size + 2) (by omega)).kept (by simpa using hb0)
  have HW : Hid (Below w.heap.size w W) := by
    exact ((Below.refl _ w).alloc (Nat.le_refl _) _).trans (hb0.mono (by omega))
  have hlen : s.size = s.data.toList.length := Lib.size_eq s
  have HL := Lib.hid hlen; clear hlen hb0; go_enter Tryz.func75, Tryz.ntmps75
  go_wp2_with fail
  clear hconv'; go_loopw [9] (fun i wr => ∃ k : Nat, k ≤ s.size ∧ i = .int .i64 k ∧ Bld w.heap.size (w.heap.size + 2) (Tt.esc (s.data.toList.take k)) wr ∧ But w.heap.size (w.heap.size + 2) W wr) (fun i _ => s.size - (intOf i).toNat)
  case atStart => exact ⟨0, Nat.zero_le _, rfl, hbl, But.refl _ _ _⟩
  case round =>
    obtain ⟨k, hk, rfl, hB, hbut⟩ := hrel; by_cases hlt : k < s.size
    · obtain ⟨c, hc⟩ : ∃ c, s.data.toList[k]? = some c := ⟨_, List.getElem?_eq_getElem (by rw [← HL.out]; exact hlt)⟩
      have hcc : wr.cell? ⟨w.heap.size + 1, k, none⟩ = some (.int .u8 (c.toNat : Int)) := (hbut.cell (p := ⟨w.heap.size + 1, k, none⟩) (by simp) (by simp)).trans (hcell k c hc)
      have hll := Tt.esc_length (s.data.toList.take k)
      have htk : (s.data.toList.take k).length ≤ k := List.length_take_le _ _
      have hsz2 := hbut.size; have HC := Lib.hid hc; have HS := Lib.hid (esc_snoc s.data.toList k c hc)
      clear hc; obtain ⟨n, hn⟩ : ∃ n : Int, n = c.toNat := ⟨_, rfl⟩
      rw [← hn] at hcc
      have hdec : ∀ m : Nat, m < 256 → (n == (m : Int)) = decide (c = m.toUInt8) := by
        intro m hm; rw [Bool.eq_iff_iff, beq_iff_eq, decide_eq_true_iff, hn]
        constructor
        · intro e; apply UInt8.toNat_inj.1
          simp; omega
        · intro e; have : c.toNat = (m.toUInt8).toNat := by rw [e]
          simp at this; omega
      have e92 := hdec 92 (by omega)
      have e59 := hdec 59 (by omega)
      have e44 := hdec 44 (by omega)
      have e10 := hdec 10 (by omega)
      clear hdec; have HN := Lib.hid hn; clear hn; simp only [show (Nat.toUInt8 92 : UInt8) = 92 from rfl, show (Nat.toUInt8 59 : UInt8) = 59 from rfl, show (Nat.toUInt8 44 : UInt8) = 44 from rfl, show (Nat.toUInt8 10 : UInt8) = 10 from rfl] at e92 e59 e44 e10
      by_cases h1 : c = 92 ∨ c = 59 ∨ c = 44
      · have hes : Tt.escB c = [92] ++ [c] := by unfold Tt.escB; rw [if_pos h1]; rfl
        have HE := Lib.hid hes; clear hes; have h3 : (n == (92 : Int)) = true ∨ ((n == (92 : Int)) = false ∧ (n == (59 : Int)) = true) ∨ ((n == (92 : Int)) = false ∧ (n == (59 : Int)) = false ∧ (n == (44 : Int)) = true) := by
          rw [show ((92 : Nat) : Int) = 92 from rfl] at e92
          rw [show ((59 : Nat) : Int) = 59 from rfl] at e59
          rw [show ((44 : Nat) : Int) = 44 from rfl] at e44
          rw [e92, e59, e44]
          by_cases a1 : c = 92
          · simp [a1]
          · by_cases a2 : c = 59
            · simp [a2]
            · have a3 : c = 44 := by rcases h1 with h | h | h <;> simp_all
              simp [a3]
        clear e92 e59 e44 e10 h1; rcases h3 with h3 | ⟨h3, h4⟩ | ⟨h3, h4, h5⟩
        all_goals
          go_wp2_with fail
          refine (writeByte_any _ _ _ _ 92 rfl _ hB (by omega) (by omega)).mono ?_
          rintro e w1 ⟨rfl, hB1, hbut1⟩; have hsz3 := hbut1.size; go_wp2_with fail
          refine (writeByte_any _ _ _ _ c HN.out _ hB1 (by simp; omega) (by omega)).mono ?_
          rintro e w2 ⟨rfl, hB2, hbut2⟩; go_wp2_with fail
          go_roundw
          case rel => exact ⟨k + 1, by omega, by go_num, by rw [HS.out, HE.out, ← List.append_assoc]; exact hB2, (hbut.trans hbut1).trans hbut2⟩
          case measure => simp [intOf]; omega
      · have f92 : (n == (92 : Int)) = false := by
          refine e92.trans (decide_eq_false fun h => h1 (.inl h))
        have f59 : (n == (59 : Int)) = false := by
          refine e59.trans (decide_eq_false fun h => h1 (.inr (.inl h)))
        have f44 : (n == (44 : Int)) = false := by
          refine e44.trans (decide_eq_false fun h => h1 (.inr (.inr h)))
        by_cases h2 : c = 10
        · have f10 : (n == (10 : Int)) = true := by
            refine e10.trans (decide_eq_true h2)
          have HE := Lib.hid (show Tt.escB c = [92, 110] by unfold Tt.escB; rw [if_neg h1, if_pos h2])
          clear e92 e59 e44 e10 h1 h2; go_wp2_with fail
          refine (writeString_any _ _ _ _ _ hB (by simp [ByteArray.size]; omega) (by omega)).mono ?_
          rintro e w1 ⟨rfl, hB1, hbut1⟩; go_wp2_with fail
          go_roundw
          case rel => exact ⟨k + 1, by omega, by go_num, by rw [HS.out, HE.out]; exact hB1, hbut.trans hbut1⟩
          case measure => simp [intOf]; omega
        · have f10 : (n == (10 : Int)) = false := by
            refine e10.trans (decide_eq_false h2)
          have HE := Lib.hid (show Tt.escB c = [c] by unfold Tt.escB; rw [if_neg h1, if_neg h2])
          clear e92 e59 e44 e10 h1 h2; go_wp2_with fail
          refine (writeByte_any _ _ _ _ c HN.out _ hB (by omega) (by omega)).mono ?_
          rintro e w1 ⟨rfl, hB1, hbut1⟩; go_wp2_with fail
          go_roundw
          case rel => exact ⟨k + 1, by omega, by go_num, by rw [HS.out, HE.out]; exact hB1, hbut.trans hbut1⟩
          case measure => simp [intOf]; omega
    · go_wp2_with fail
      refine (string_any _ _ _ _ hB).mono ?_
      rintro e w1 ⟨rfl, hb1⟩; go_wp2_with fail
      go_ret; exact ⟨ret_str (by rw [List.take_of_length_le (by rw [← HL.out]; omega)]), HW.out.trans ((hbut.below (Nat.le_refl _) (by omega)).trans hb1)⟩
end Go.Proofs.YtcomifbfldoeiaaGreatDoor

-- Unesc
namespace Go.Proofs.YtcomifbfldoeiaaGreatDoor
open Go.RowKit

theorem byte_eq (c : UInt8) (m : Int) (u : UInt8) (hu : (u.toNat : Int) = m) (h : c = u) : ((c.toNat : Int) == m) = true := by rw [h, hu]; exact beq_self_eq_true _
theorem byte_ne (c : UInt8) (m : Int) (u : UInt8) (hu : (u.toNat : Int) = m) (h : ¬ c = u) : ((c.toNat : Int) == m) = false := by
  rw [beq_eq_false_iff_ne]; intro e; exact h (UInt8.toNat_inj.1 (by omega))

theorem drop_cons (l : List UInt8) (k : Nat) (c : UInt8) (h : l[k]? = some c) : l.drop k = c :: l.drop (k + 1) := by
  obtain ⟨h1, h2⟩ := List.getElem?_eq_some_iff.1 h
  rw [List.drop_eq_getElem_cons h1, h2]

end Go.Proofs.YtcomifbfldoeiaaGreatDoor

-- Codes
namespace Tt

/-- A byte that may stand in a code. -/
def alnum (c : UInt8) : Bool := (48 ≤ c && c ≤ 57) || (65 ≤ c && c ≤ 90) || (97 ≤ c && c ≤ 122)
def sign (c : UInt8) : Bool := c == 95 || c == 45
def codeTail (l : List UInt8) : Bool := l.all fun c => alnum c || sign c
/-- Is a text a code? -/
def code (l : List UInt8) : Bool := match l with
  | [] => false
  | c :: r => decide (l.length ≤ 16) && alnum c && codeTail r
end Tt
namespace Go.Proofs.YtcomifbfldoeiaaGreatDoor
open Go.RowKit

def digitB (c : UInt8) : Bool := 48 ≤ c && c ≤ 57
def letterB (c : UInt8) : Bool := (65 ≤ c && c ≤ 90) || (97 ≤ c && c ≤ 122)

theorem u8_le (c : UInt8) (k : Nat) (hk : k < 256) : decide ((k : Int) ≤ (c.toNat : Int)) = decide (k.toUInt8 ≤ c) := by
  have : (k.toUInt8).toNat = k := by simp; omega
  rw [Bool.eq_iff_iff, decide_eq_true_iff, decide_eq_true_iff, UInt8.le_iff_toNat_le, this]; omega
theorem u8_ge (c : UInt8) (k : Nat) (hk : k < 256) : decide ((c.toNat : Int) ≤ (k : Int)) = decide (c ≤ k.toUInt8) := by
  have : (k.toUInt8).toNat = k := by simp; omega
  rw [Bool.eq_iff_iff, decide_eq_true_iff, decide_eq_true_iff, UInt8.le_iff_toNat_le, this]; omega

set_option maxHeartbeats 1000000 in
theorem digit_any (n : Int) (c : UInt8) (hn : n = c.toNat) (w : World) : Calls Tryz.prog 98 #[.int .u8 n] w fun e w' => e = .returned (.bool (digitB c)) ∧ w' = w := by
  have h1 := u8_le c 48 (by omega)
  have h2 := u8_ge c 57 (by omega)
  rw [← hn] at h1 h2
  have hd : digitB c = (decide ((48 : Int) ≤ n) && decide (n ≤ (57 : Int))) := by
    rw [show (48 : Int) = ((48 : Nat) : Int) from rfl, show (57 : Int) = ((57 : Nat) : Int) from rfl, h1, h2]; rfl
  have HD := Lib.hid hd; clear hd h1 h2 hn; by_cases a : (48 : Int) ≤ n
  · by_cases b : n ≤ (57 : Int)
    · have HE := Lib.hid (show digitB c = true by rw [HD.out]; simp [a, b])
      go_enter Tryz.func98, Tryz.ntmps98
      go_wp2
      go_ret; rw [HE.out]; exact ⟨rfl, rfl⟩
    · have HE := Lib.hid (show digitB c = false by rw [HD.out]; simp; omega)
      go_enter Tryz.func98, Tryz.ntmps98
      go_wp2
      go_ret; rw [HE.out]; exact ⟨rfl, rfl⟩
  · have HE := Lib.hid (show digitB c = false by rw [HD.out]; simp; omega)
    go_enter Tryz.func98, Tryz.ntmps98
    go_wp2
    go_ret; rw [HE.out]; exact ⟨rfl, rfl⟩

set_option maxHeartbeats 1000000 in
theorem letter_any (n : Int) (c : UInt8) (hn : n = c.toNat) (w : World) : Calls Tryz.prog 99 #[.int .u8 n] w fun e w' => e = .returned (.bool (letterB c)) ∧ w' = w := by
  have h1 := u8_le c 65 (by omega)
  have h2 := u8_ge c 90 (by omega)
  have h3 := u8_le c 97 (by omega)
  have h4 := u8_ge c 122 (by omega)
  rw [← hn] at h1 h2 h3 h4
  have hd : letterB c = ((decide ((65 : Int) ≤ n) && decide (n ≤ (90 : Int))) || (decide ((97 : Int) ≤ n) && decide (n ≤ (122 : Int)))) := by
    rw [show (65 : Int) = ((65 : Nat) : Int) from rfl, show (90 : Int) = ((90 : Nat) : Int) from rfl, show (97 : Int) = ((97 : Nat) : Int) from rfl, show (122 : Int) = ((122 : Nat) : Int) from rfl, h1, h2, h3, h4]; rfl
  have HD := Lib.hid hd; clear hd h1 h2 h3 h4 hn; have key : (n < 65) ∨ (65 ≤ n ∧ n ≤ 90) ∨ (90 < n ∧ n < 97) ∨ (97 ≤ n ∧ n ≤ 122) ∨ (122 < n) := by omega
  rcases key with a | ⟨a, b⟩ | ⟨a, b⟩ | ⟨a, b⟩ | a
  · have HE := Lib.hid (show letterB c = false by rw [HD.out]; simp; omega)
    go_enter Tryz.func99, Tryz.ntmps99
    go_wp2
    go_ret; rw [HE.out]; exact ⟨rfl, rfl⟩
  · have HE := Lib.hid (show letterB c = true by rw [HD.out]; simp; omega)
    go_enter Tryz.func99, Tryz.ntmps99
    go_wp2
    go_ret; rw [HE.out]; exact ⟨rfl, rfl⟩
  · have HE := Lib.hid (show letterB c = false by rw [HD.out]; simp; omega)
    have f1 : decide (n ≤ 90) = false := decide_eq_false (by omega)
    go_enter Tryz.func99, Tryz.ntmps99
    go_wp2
    go_ret; rw [HE.out]; exact ⟨rfl, rfl⟩
  · have HE := Lib.hid (show letterB c = true by rw [HD.out]; simp; omega)
    go_enter Tryz.func99, Tryz.ntmps99
    go_wp2
    go_ret; rw [HE.out]; exact ⟨rfl, rfl⟩
  · have HE := Lib.hid (show letterB c = false by rw [HD.out]; simp; omega)
    have f1 : decide (n ≤ 90) = false := decide_eq_false (by omega)
    have f2 : decide (n ≤ 122) = false := decide_eq_false (by omega)
    go_enter Tryz.func99, Tryz.ntmps99
    go_wp2
    go_ret; rw [HE.out]; exact ⟨rfl, rfl⟩

theorem alnum_eq (c : UInt8) : Tt.alnum c = (digitB c || letterB c) := by unfold Tt.alnum digitB letterB; rw [Bool.or_assoc]

/-- The bytes of a text from place k on are fit for a code. -/
def codeFrom (l : List UInt8) (k : Nat) : Bool := if k = 0 then (match l with | [] => true | c :: r => Tt.alnum c && Tt.codeTail r) else Tt.codeTail (l.drop k)

theorem codeFrom_end (l : List UInt8) (k : Nat) (h : l.length ≤ k) : codeFrom l k = true := by
  unfold codeFrom
  split
  · rename_i hk
    subst hk; cases l with
    | nil => rfl
    | cons a t => simp at h
  · rw [List.drop_eq_nil_of_le h]; rfl

theorem codeFrom_step (l : List UInt8) (k : Nat) (c : UInt8) (h : l[k]? = some c) : codeFrom l k = ((Tt.alnum c || (decide (0 < k) && Tt.sign c)) && codeFrom l (k + 1)) := by
  have hd := drop_cons l k c h; unfold codeFrom
  rw [if_neg (show ¬ k + 1 = 0 by omega)]
  by_cases hk : k = 0
  · subst hk; rw [if_pos rfl]
    cases l with
    | nil => simp at h
    | cons a t => simp at h; subst h; simp
  · rw [if_neg hk, hd]
    have : decide (0 < k) = true := decide_eq_true (by omega)
    rw [this]; simp [Tt.codeTail]

theorem code_eq (l : List UInt8) : Tt.code l = (decide (1 ≤ l.length) && decide (l.length ≤ 16) && codeFrom l 0) := by
  cases l with
  | nil => rfl
  | cons c r => simp [Tt.code, codeFrom, Bool.and_assoc]

theorem ret_bool {a b : Bool} (h : a = b) : Ending.returned (.bool a) = .returned (.bool b) := by rw [h]

set_option maxHeartbeats 4000000 in
set_option maxRecDepth 100000 in
theorem code_any (s : ByteArray) (w : World) : Calls Tryz.prog 48 #[.string s] w fun e w' => e = .returned (.bool (Tt.code s.data.toList)) ∧ w' = w := by
  have HL := Lib.hid (Lib.size_eq s)
  by_cases h1 : 1 ≤ s.size ∧ s.size ≤ 16
  · obtain ⟨h1, h2⟩ := h1; have HC := Lib.hid (show Tt.code s.data.toList = codeFrom s.data.toList 0 by
      rw [code_eq, ← HL.out, decide_eq_true h1, decide_eq_true h2]; rfl)
    have q1 : decide ((s.size : Int) < 1) = false := decide_eq_false (by omega)
    have q2 : decide ((16 : Int) < (s.size : Int)) = false := decide_eq_false (by omega)
    go_enter Tryz.func48, Tryz.ntmps48
    go_wp2_with fail
    go_loop [15] (fun i => ∃ k : Nat, k ≤ s.size ∧ i = .int .i64 k ∧ Hid (codeFrom s.data.toList 0 = codeFrom s.data.toList k)) (fun i => s.size - (intOf i).toNat)
    case atStart => exact ⟨0, Nat.zero_le _, rfl, rfl⟩
    case round =>
      obtain ⟨k, hk, rfl, HK⟩ := hrel; by_cases hlt : k < s.size
      · obtain ⟨c, hx⟩ : ∃ c : UInt8, s[k]'hlt = c := ⟨_, rfl⟩
        have hcl := Lib.data_getElem? s k hlt
        rw [hx] at hcl
        have HS := Lib.hid (codeFrom_step _ _ _ hcl)
        have HA := Lib.hid (alnum_eq c)
        have hsg : (¬ ((0 : Int) < (k : Int)) ∧ Hid ((decide (0 < k) && Tt.sign c) = false)) ∨ (((0 : Int) < (k : Int)) ∧ ((c.toNat : Int) == 95) = true ∧ Hid ((decide (0 < k) && Tt.sign c) = true)) ∨
            (((0 : Int) < (k : Int)) ∧ ((c.toNat : Int) == 95) = false ∧ ((c.toNat : Int) == 45) = true ∧ Hid ((decide (0 < k) && Tt.sign c) = true)) ∨
            (((0 : Int) < (k : Int)) ∧ ((c.toNat : Int) == 95) = false ∧ ((c.toNat : Int) == 45) = false ∧ Hid ((decide (0 < k) && Tt.sign c) = false)) := by
          by_cases hk0 : 0 < k
          · have hki : (0 : Int) < (k : Int) := by omega
            by_cases e : c = 95
            · exact .inr (.inl ⟨hki, byte_eq c 95 95 rfl e, by show _ = _; rw [decide_eq_true hk0, e]; rfl⟩)
            · by_cases e2 : c = 45
              · exact .inr (.inr (.inl ⟨hki, byte_ne c 95 95 rfl e, byte_eq c 45 45 rfl e2, by show _ = _; rw [decide_eq_true hk0, e2]; rfl⟩))
              · refine .inr (.inr (.inr ⟨hki, byte_ne c 95 95 rfl e, byte_ne c 45 45 rfl e2, ?_⟩))
                show _ = _
                unfold Tt.sign
                rw [beq_eq_false_iff_ne.2 e, beq_eq_false_iff_ne.2 e2]; simp
          · exact .inl ⟨by omega, by show _ = _; rw [decide_eq_false hk0]; rfl⟩
        have hdl : (digitB c = true ∧ Hid (Tt.alnum c = true)) ∨ (digitB c = false ∧ letterB c = true ∧ Hid (Tt.alnum c = true)) ∨ (digitB c = false ∧ letterB c = false ∧ Hid (Tt.alnum c = false)) := by
          cases e1 : digitB c
          · cases e2 : letterB c
            · exact .inr (.inr ⟨rfl, rfl, by show _ = _; rw [HA.out, e1, e2]; rfl⟩)
            · exact .inr (.inl ⟨rfl, rfl, by show _ = _; rw [HA.out, e1, e2]; rfl⟩)
          · exact .inl ⟨rfl, by show _ = _; rw [HA.out, e1]; rfl⟩
        clear hcl HA; rcases hsg with ⟨g1, GS⟩ | ⟨g1, g2, GS⟩ | ⟨g1, g2, g3, GS⟩ | ⟨g1, g2, g3, GS⟩
        all_goals
          rcases hdl with ⟨d1, DS⟩ | ⟨d1, d2, DS⟩ | ⟨d1, d2, DS⟩
          all_goals
            go_wp2_with (first | (go_at_call 98; refine (digit_any _ c rfl _).mono ?_; rintro e w' ⟨rfl, rfl⟩) | (go_at_call 99; refine (letter_any _ c rfl _).mono ?_; rintro e w' ⟨rfl, rfl⟩))
            first
              | (go_ret
                 exact ⟨ret_bool (by rw [HC.out, HK.out, HS.out, GS.out, DS.out]; rfl), rfl⟩)
              | (go_round
                 case rel => exact ⟨k + 1, by omega, by go_num, by show _ = _; rw [HK.out, HS.out, GS.out, DS.out]; simp⟩
                 case measure => simp [intOf]; omega)
      · go_wp2_with fail
        go_ret; exact ⟨ret_bool (by rw [HC.out, HK.out, codeFrom_end _ _ (by rw [← HL.out]; omega)]), rfl⟩
  · have HC := Lib.hid (show Tt.code s.data.toList = false by
      rw [code_eq, ← HL.out]
      by_cases e : 1 ≤ s.size
      · rw [decide_eq_false (show ¬ s.size ≤ 16 by omega)]; simp
      · rw [decide_eq_false e]; rfl)
    by_cases e : 1 ≤ s.size
    · have q1 : decide ((s.size : Int) < 1) = false := decide_eq_false (by omega)
      have q2 : decide ((16 : Int) < (s.size : Int)) = true := decide_eq_true (by omega)
      clear h1; go_enter Tryz.func48, Tryz.ntmps48
      go_wp2_with fail
      go_ret; exact ⟨ret_bool (by rw [HC.out]), rfl⟩
    · have q1 : decide ((s.size : Int) < 1) = true := decide_eq_true (by omega)
      clear h1; go_enter Tryz.func48, Tryz.ntmps48
      go_wp2_with fail
      go_ret; exact ⟨ret_bool (by rw [HC.out]), rfl⟩
end Go.Proofs.YtcomifbfldoeiaaGreatDoor
