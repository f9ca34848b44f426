/- codes.Valid: its contract. -/
import Derived.Test.YtageielcdebjlaaGreatDoorUnesc
namespace Tt

/-- A byte that may stand in a code. -/
def alnum (c : UInt8) : Bool := (48 ≤ c && c ≤ 57) || (65 ≤ c && c ≤ 90) || (97 ≤ c && c ≤ 122)
def sign (c : UInt8) : Bool := c == 95 || c == 45
def codeTail (l : List UInt8) : Bool := l.all fun c => alnum c || sign c
/-- Is a text a code? -/
def code (l : List UInt8) : Bool := match l with
  | [] => false
  | c :: r => decide (l.length ≤ 16) && alnum c && codeTail r
end Tt
namespace Go.Proofs.YtageielcdebjlaaGreatDoor
open Go.RowKit

def digitB (c : UInt8) : Bool := 48 ≤ c && c ≤ 57
def letterB (c : UInt8) : Bool := (65 ≤ c && c ≤ 90) || (97 ≤ c && c ≤ 122)

theorem u8_le (c : UInt8) (k : Nat) (hk : k < 256) : decide ((k : Int) ≤ (c.toNat : Int)) = decide (k.toUInt8 ≤ c) := by
  have : (k.toUInt8).toNat = k := by simp; omega
  rw [Bool.eq_iff_iff, decide_eq_true_iff, decide_eq_true_iff, UInt8.le_iff_toNat_le, this]; omega
theorem u8_ge (c : UInt8) (k : Nat) (hk : k < 256) : decide ((c.toNat : Int) ≤ (k : Int)) = decide (c ≤ k.toUInt8) := by
  have : (k.toUInt8).toNat = k := by simp; omega
  rw [Bool.eq_iff_iff, decide_eq_true_iff, decide_eq_true_iff, UInt8.le_iff_toNat_le, this]; omega

set_option maxHeartbeats 1000000 in
theorem digit_any (n : Int) (c : UInt8) (hn : n = c.toNat) (w : World) : Calls Tryz.prog 164 #[.int .u8 n] w fun e w' => e = .returned (.bool (digitB c)) ∧ w' = w := by
  have h1 := u8_le c 48 (by omega)
  have h2 := u8_ge c 57 (by omega)
  rw [← hn] at h1 h2
  have hd : digitB c = (decide ((48 : Int) ≤ n) && decide (n ≤ (57 : Int))) := by
    rw [show (48 : Int) = ((48 : Nat) : Int) from rfl, show (57 : Int) = ((57 : Nat) : Int) from rfl, h1, h2]; rfl
  have HD := Lib.hid hd
  clear hd h1 h2 hn
  by_cases a : (48 : Int) ≤ n
  · by_cases b : n ≤ (57 : Int)
    · have HE := Lib.hid (show digitB c = true by rw [HD.out]; simp [a, b])
      go_enter Tryz.func164, Tryz.ntmps164
      go_wp2
      go_ret
      rw [HE.out]; exact ⟨rfl, rfl⟩
    · have HE := Lib.hid (show digitB c = false by rw [HD.out]; simp; omega)
      go_enter Tryz.func164, Tryz.ntmps164
      go_wp2
      go_ret
      rw [HE.out]; exact ⟨rfl, rfl⟩
  · have HE := Lib.hid (show digitB c = false by rw [HD.out]; simp; omega)
    go_enter Tryz.func164, Tryz.ntmps164
    go_wp2
    go_ret
    rw [HE.out]; exact ⟨rfl, rfl⟩

set_option maxHeartbeats 1000000 in
theorem letter_any (n : Int) (c : UInt8) (hn : n = c.toNat) (w : World) : Calls Tryz.prog 165 #[.int .u8 n] w fun e w' => e = .returned (.bool (letterB c)) ∧ w' = w := by
  have h1 := u8_le c 65 (by omega)
  have h2 := u8_ge c 90 (by omega)
  have h3 := u8_le c 97 (by omega)
  have h4 := u8_ge c 122 (by omega)
  rw [← hn] at h1 h2 h3 h4
  have hd : letterB c = ((decide ((65 : Int) ≤ n) && decide (n ≤ (90 : Int))) || (decide ((97 : Int) ≤ n) && decide (n ≤ (122 : Int)))) := by
    rw [show (65 : Int) = ((65 : Nat) : Int) from rfl, show (90 : Int) = ((90 : Nat) : Int) from rfl, show (97 : Int) = ((97 : Nat) : Int) from rfl, show (122 : Int) = ((122 : Nat) : Int) from rfl, h1, h2, h3, h4]; rfl
  have HD := Lib.hid hd
  clear hd h1 h2 h3 h4 hn
  have key : (n < 65) ∨ (65 ≤ n ∧ n ≤ 90) ∨ (90 < n ∧ n < 97) ∨ (97 ≤ n ∧ n ≤ 122) ∨ (122 < n) := by omega
  rcases key with a | ⟨a, b⟩ | ⟨a, b⟩ | ⟨a, b⟩ | a
  · have HE := Lib.hid (show letterB c = false by rw [HD.out]; simp; omega)
    go_enter Tryz.func165, Tryz.ntmps165
    go_wp2
    go_ret
    rw [HE.out]; exact ⟨rfl, rfl⟩
  · have HE := Lib.hid (show letterB c = true by rw [HD.out]; simp; omega)
    go_enter Tryz.func165, Tryz.ntmps165
    go_wp2
    go_ret
    rw [HE.out]; exact ⟨rfl, rfl⟩
  · have HE := Lib.hid (show letterB c = false by rw [HD.out]; simp; omega)
    have f1 : decide (n ≤ 90) = false := decide_eq_false (by omega)
    go_enter Tryz.func165, Tryz.ntmps165
    go_wp2
    go_ret
    rw [HE.out]; exact ⟨rfl, rfl⟩
  · have HE := Lib.hid (show letterB c = true by rw [HD.out]; simp; omega)
    go_enter Tryz.func165, Tryz.ntmps165
    go_wp2
    go_ret
    rw [HE.out]; exact ⟨rfl, rfl⟩
  · have HE := Lib.hid (show letterB c = false by rw [HD.out]; simp; omega)
    have f1 : decide (n ≤ 90) = false := decide_eq_false (by omega)
    have f2 : decide (n ≤ 122) = false := decide_eq_false (by omega)
    go_enter Tryz.func165, Tryz.ntmps165
    go_wp2
    go_ret
    rw [HE.out]; exact ⟨rfl, rfl⟩

theorem alnum_eq (c : UInt8) : Tt.alnum c = (digitB c || letterB c) := by unfold Tt.alnum digitB letterB; rw [Bool.or_assoc]

/-- The bytes of a text from place k on are fit for a code. -/
def codeFrom (l : List UInt8) (k : Nat) : Bool := if k = 0 then (match l with | [] => true | c :: r => Tt.alnum c && Tt.codeTail r) else Tt.codeTail (l.drop k)

theorem codeFrom_end (l : List UInt8) (k : Nat) (h : l.length ≤ k) : codeFrom l k = true := by
  unfold codeFrom
  split
  · rename_i hk
    subst hk
    cases l with
    | nil => rfl
    | cons a t => simp at h
  · rw [List.drop_eq_nil_of_le h]; rfl

theorem codeFrom_step (l : List UInt8) (k : Nat) (c : UInt8) (h : l[k]? = some c) : codeFrom l k = ((Tt.alnum c || (decide (0 < k) && Tt.sign c)) && codeFrom l (k + 1)) := by
  have hd := drop_cons l k c h
  unfold codeFrom
  rw [if_neg (show ¬ k + 1 = 0 by omega)]
  by_cases hk : k = 0
  · subst hk
    rw [if_pos rfl]
    cases l with
    | nil => simp at h
    | cons a t => simp at h; subst h; simp
  · rw [if_neg hk, hd]
    have : decide (0 < k) = true := decide_eq_true (by omega)
    rw [this]; simp [Tt.codeTail]

theorem code_eq (l : List UInt8) : Tt.code l = (decide (1 ≤ l.length) && decide (l.length ≤ 16) && codeFrom l 0) := by
  cases l with
  | nil => rfl
  | cons c r => simp [Tt.code, codeFrom, Bool.and_assoc]

theorem ret_bool {a b : Bool} (h : a = b) : Ending.returned (.bool a) = .returned (.bool b) := by rw [h]

set_option maxHeartbeats 4000000 in
set_option maxRecDepth 100000 in
theorem code_any (s : ByteArray) (w : World) : Calls Tryz.prog 94 #[.string s] w fun e w' => e = .returned (.bool (Tt.code s.data.toList)) ∧ w' = w := by
  have HL := Lib.hid (Lib.size_eq s)
  by_cases h1 : 1 ≤ s.size ∧ s.size ≤ 16
  · obtain ⟨h1, h2⟩ := h1
    have HC := Lib.hid (show Tt.code s.data.toList = codeFrom s.data.toList 0 by
      rw [code_eq, ← HL.out, decide_eq_true h1, decide_eq_true h2]; rfl)
    have q1 : decide ((s.size : Int) < 1) = false := decide_eq_false (by omega)
    have q2 : decide ((16 : Int) < (s.size : Int)) = false := decide_eq_false (by omega)
    go_enter Tryz.func94, Tryz.ntmps94
    go_wp2_with fail
    go_loop [15] (fun i => ∃ k : Nat, k ≤ s.size ∧ i = .int .i64 k ∧ Hid (codeFrom s.data.toList 0 = codeFrom s.data.toList k)) (fun i => s.size - (intOf i).toNat)
    case atStart => exact ⟨0, Nat.zero_le _, rfl, rfl⟩
    case round =>
      obtain ⟨k, hk, rfl, HK⟩ := hrel
      by_cases hlt : k < s.size
      · obtain ⟨c, hx⟩ : ∃ c : UInt8, s[k]'hlt = c := ⟨_, rfl⟩
        have hcl := Lib.data_getElem? s k hlt
        rw [hx] at hcl
        have HS := Lib.hid (codeFrom_step _ _ _ hcl)
        have HA := Lib.hid (alnum_eq c)
        have hsg : (¬ ((0 : Int) < (k : Int)) ∧ Hid ((decide (0 < k) && Tt.sign c) = false)) ∨ (((0 : Int) < (k : Int)) ∧ ((c.toNat : Int) == 95) = true ∧ Hid ((decide (0 < k) && Tt.sign c) = true)) ∨
            (((0 : Int) < (k : Int)) ∧ ((c.toNat : Int) == 95) = false ∧ ((c.toNat : Int) == 45) = true ∧ Hid ((decide (0 < k) && Tt.sign c) = true)) ∨
            (((0 : Int) < (k : Int)) ∧ ((c.toNat : Int) == 95) = false ∧ ((c.toNat : Int) == 45) = false ∧ Hid ((decide (0 < k) && Tt.sign c) = false)) := by
          by_cases hk0 : 0 < k
          · have hki : (0 : Int) < (k : Int) := by omega
            by_cases e : c = 95
            · exact .inr (.inl ⟨hki, byte_eq c 95 95 rfl e, by show _ = _; rw [decide_eq_true hk0, e]; rfl⟩)
            · by_cases e2 : c = 45
              · exact .inr (.inr (.inl ⟨hki, byte_ne c 95 95 rfl e, byte_eq c 45 45 rfl e2, by show _ = _; rw [decide_eq_true hk0, e2]; rfl⟩))
              · refine .inr (.inr (.inr ⟨hki, byte_ne c 95 95 rfl e, byte_ne c 45 45 rfl e2, ?_⟩))
                show _ = _
                unfold Tt.sign
                rw [beq_eq_false_iff_ne.2 e, beq_eq_false_iff_ne.2 e2]; simp
          · exact .inl ⟨by omega, by show _ = _; rw [decide_eq_false hk0]; rfl⟩
        have hdl : (digitB c = true ∧ Hid (Tt.alnum c = true)) ∨ (digitB c = false ∧ letterB c = true ∧ Hid (Tt.alnum c = true)) ∨ (digitB c = false ∧ letterB c = false ∧ Hid (Tt.alnum c = false)) := by
          cases e1 : digitB c
          · cases e2 : letterB c
            · exact .inr (.inr ⟨rfl, rfl, by show _ = _; rw [HA.out, e1, e2]; rfl⟩)
            · exact .inr (.inl ⟨rfl, rfl, by show _ = _; rw [HA.out, e1, e2]; rfl⟩)
          · exact .inl ⟨rfl, by show _ = _; rw [HA.out, e1]; rfl⟩
        clear hcl HA
        rcases hsg with ⟨g1, GS⟩ | ⟨g1, g2, GS⟩ | ⟨g1, g2, g3, GS⟩ | ⟨g1, g2, g3, GS⟩
        all_goals
          rcases hdl with ⟨d1, DS⟩ | ⟨d1, d2, DS⟩ | ⟨d1, d2, DS⟩
          all_goals
            go_wp2_with (first | (go_at_call 164; refine (digit_any _ c rfl _).mono ?_; rintro e w' ⟨rfl, rfl⟩) | (go_at_call 165; refine (letter_any _ c rfl _).mono ?_; rintro e w' ⟨rfl, rfl⟩))
            first
              | (go_ret
                 exact ⟨ret_bool (by rw [HC.out, HK.out, HS.out, GS.out, DS.out]; rfl), rfl⟩)
              | (go_round
                 case rel => exact ⟨k + 1, by omega, by go_num, by show _ = _; rw [HK.out, HS.out, GS.out, DS.out]; simp⟩
                 case measure => simp [intOf]; omega)
      · go_wp2_with fail
        go_ret
        exact ⟨ret_bool (by rw [HC.out, HK.out, codeFrom_end _ _ (by rw [← HL.out]; omega)]), rfl⟩
  · have HC := Lib.hid (show Tt.code s.data.toList = false by
      rw [code_eq, ← HL.out]
      by_cases e : 1 ≤ s.size
      · rw [decide_eq_false (show ¬ s.size ≤ 16 by omega)]; simp
      · rw [decide_eq_false e]; rfl)
    by_cases e : 1 ≤ s.size
    · have q1 : decide ((s.size : Int) < 1) = false := decide_eq_false (by omega)
      have q2 : decide ((16 : Int) < (s.size : Int)) = true := decide_eq_true (by omega)
      clear h1
      go_enter Tryz.func94, Tryz.ntmps94
      go_wp2_with fail
      go_ret
      exact ⟨ret_bool (by rw [HC.out]), rfl⟩
    · have q1 : decide ((s.size : Int) < 1) = true := decide_eq_true (by omega)
      clear h1
      go_enter Tryz.func94, Tryz.ntmps94
      go_wp2_with fail
      go_ret
      exact ⟨ret_bool (by rw [HC.out]), rfl⟩
end Go.Proofs.YtageielcdebjlaaGreatDoor
